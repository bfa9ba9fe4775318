/-
 DERIVED. MADE BY PROGRAM (an AI agent of the authors' house's tools/great-walk3.mjs) off ytihlneenajlhoaagreatdoor.cut.gsa: THE TIE AT math/bits.deBruijn32tab, math/bits.deBruijn64tab, internal/strconv.uint64pow10, unicode/utf8.acceptRanges, strings.asciiSpace, unicode.White_Space: PAID BY A WALK OF 'gosem.cut.vars', the frame a variable; not by the kernel's run. The pattern and its lessons: GREAT.tables/000.READ-ME.md.
-/
import Derived.Test.YtihlneenajlhoaaGreatDoorProg
import Derived.Great.CaseRows
import Derived.Great.LaidInts
import Derived.Great.ByCallsLater
import Derived.Lib.LaidU8
import Derived.Lib.LaidRTabT
import Derived.WalkKit
namespace Go.Proofs.YtihlneenajlhoaaGreatDoor.Great
open Go.Great Go.Lib
set_option linter.unusedVariables false
def z4:List Int:=[0,1,28,2,29,14,24,3,30,22,20,15,25,17,4,8,31,27,13,23,21,19,16,7,26,12,18,6,11,5,10,9]
def z5:List Int:=[0,1,56,2,57,49,28,3,61,58,42,50,38,29,17,4,62,47,59,36,45,43,51,22,53,39,33,30,24,18,12,5,63,55,48,27,60,41,37,16,46,35,44,21,52,32,23,11,54,26,40,15,34,20,31,10,25,14,19,9,13,8,7,6]
def z1:List Int:=[1,10,100,1000,10000,100000,1000000,10000000,100000000,1000000000,10000000000,100000000000,1000000000000,10000000000000,100000000000000,1000000000000000,10000000000000000,100000000000000000,1000000000000000000,10000000000000000000]
def z6:List Int:=[0,0,0,0,0,0,0,0,0,1,1,1,1,1,0,0,0,0,0,0,0,0,0,0,0,0,0,0,0,0,0,0,1,0,0,0,0,0,0,0,0,0,0,0,0,0,0,0,0,0,0,0,0,0,0,0,0,0,0,0,0,0,0,0,0,0,0,0,0,0,0,0,0,0,0,0,0,0,0,0,0,0,0,0,0,0,0,0,0,0,0,0,0,0,0,0,0,0,0,0,0,0,0,0,0,0,0,0,0,0,0,0,0,0,0,0,0,0,0,0,0,0,0,0,0,0,0,0,0,0,0,0,0,0,0,0,0,0,0,0,0,0,0,0,0,0,0,0,0,0,0,0,0,0,0,0,0,0,0,0,0,0,0,0,0,0,0,0,0,0,0,0,0,0,0,0,0,0,0,0,0,0,0,0,0,0,0,0,0,0,0,0,0,0,0,0,0,0,0,0,0,0,0,0,0,0,0,0,0,0,0,0,0,0,0,0,0,0,0,0,0,0,0,0,0,0,0,0,0,0,0,0,0,0,0,0,0,0,0,0,0,0,0,0,0,0,0,0,0,0,0,0,0,0,0,0]
set_option maxHeartbeats 4000000 in
def T10:RTab:={ r16:=#[(9,13,1),(32,133,101),(160,5760,5600),(8192,8202,1),(8232,8233,1),(8239,8287,48),(12288,12288,1)],r32:=#[],off:=2 }
def accCells:Array Value:=#[.int .u8 128,.int .u8 191,.int .u8 160,.int .u8 191,.int .u8 128,.int .u8 159,.int .u8 144,.int .u8 191,.int .u8 128,.int .u8 143,.int .u8 0,.int .u8 0,.int .u8 0,.int .u8 0,.int .u8 0,.int .u8 0,.int .u8 0,.int .u8 0,.int .u8 0,.int .u8 0,.int .u8 0,.int .u8 0,.int .u8 0,.int .u8 0,.int .u8 0,.int .u8 0,.int .u8 0,.int .u8 0,.int .u8 0,.int .u8 0,.int .u8 0,.int .u8 0]
def rowOf (w:World) (g:Nat):Array Value:=match w.heap[g]? with | some (.cells c _ _)=>c | _=>#[]
def cellOf (w:World) (g:Nat):Value:=(rowOf w g).getD 0 undef
abbrev ints (k:IntKind) (zs:List Int):DataW Unit:=.slice (zs.map fun n=>.lit (.int k n)) []
def laidAll:List (String×DataW Unit):=[("internal/strconv.uint64pow10",Lib.tabData .u64 z1),("math/bits.deBruijn32tab",Lib.tabData .u8 z4),("math/bits.deBruijn64tab",Lib.tabData .u8 z5),("strings.asciiSpace",Lib.tabData .u8 z6)]++([("unicode.White_Space",rtabData T10)]++[("unicode/utf8.acceptRanges",Lib.acceptData)])
theorem noHandle (w:World) (h:laidMet Tryz.prog laidAll w):laidMetH Tryz.prog laidAll w:=by
 have e:(laidAll.filter fun x=>x.2.handleName?.isSome) = []:=by kernel_rfl
 unfold laidMetH
 rw [e]
 exact h
theorem fits (k:IntKind) (zs:List Int) (h:(zs.all fun n=>(Lit.int k n).wf)=true):∀n∈zs,(Lit.int k n).wf=true:=fun n hn=>List.all_eq_true.1 h n hn
def rho:Shelf.Ren:=⟨id,fun | 3=>3 | 49=>763 | 51=>236 | 141=>701 | 193=>759 | 194=>760 | 196=>762 | 198=>765 | 201=>768 | x=>x,id⟩
theorem rty:RTypes Tryz.prog rho:=⟨by kernel_rfl,by kernel_rfl,by kernel_rfl,by kernel_rfl,by kernel_rfl,by kernel_rfl,by kernel_rfl,by kernel_rfl,by kernel_rfl⟩
theorem rex:RExtra Tryz.prog rho:=⟨by kernel_rfl,by kernel_rfl,by kernel_rfl,by kernel_rfl,by kernel_rfl,by kernel_rfl,by kernel_rfl,by kernel_rfl⟩
attribute [local irreducible] wpList Code.wp varsStart rowOf cellOf accCells z4 z5 z1 z6
set_option linter.unusedSimpArgs false in
set_option maxRecDepth 1000000 in
set_option maxHeartbeats 4000000 in
theorem tie:Tryz.prog.laidByTextLater laidAll [.data,.data,.data,.data,.listed,.data] true :=
 Program.laidByTextLater_by_calls (by as_aux_lemma=>kernel_rfl) (by as_aux_lemma=>kernel_rfl) (by as_aux_lemma=>kernel_rfl) (by as_aux_lemma=>kernel_rfl) (by as_aux_lemma=>kernel_rfl) (by as_aux_lemma=>kernel_rfl) (by as_aux_lemma=>kernel_rfl) fun os tape=>by
  have e:varsId Tryz.prog=780:=by as_aux_lemma=>kernel_rfl
  rw [e]
  refine calls_of_wp Tryz.func780 rfl ?_
  refine wp_anyFrame 21 (by as_aux_lemma=>kernel_rfl) rfl fun a0 hs0 hd0 => ?_
  apply wp_seq_k;intro K0 hK0
  apply wp_region_lit
  refine wpList_buildFlatArrTo rfl 532 5 32 _ rfl .u8 z4 (some 0) rfl (by as_aux_lemma=>kernel_rfl) (by as_aux_lemma=>kernel_rfl) (by as_aux_lemma=>kernel_rfl) (by as_aux_lemma=>kernel_rfl) ?_
  refine wpList_store_rowTo rfl 532 _ _ rfl rfl 4 (z4.map (Value.int .u8)).toArray rfl (Act.eval_put_same _ 0 _ (by simp only [Act.size_put,hs0];omega)) 532 (rowOf (varsStart Tryz.prog os tape) 4) (by as_aux_lemma=>kernel_rfl) (by as_aux_lemma=>kernel_rfl) (by as_aux_lemma=>kernel_rfl) (by as_aux_lemma=>kernel_rfl) ?_
  apply wpList_nil
  refine hK0 _ _ ?_
  refine wp_anyFrame 21 (by simp only [Act.size_put,hs0]) (by simp only [Act.defers_put',hd0]) fun a1 hs1 hd1 => ?_
  clear hK0 K0
  apply wp_seq_k;intro K1 hK1
  apply wp_region_lit
  refine wpList_buildFlatArrTo rfl 533 5 64 _ rfl .u8 z5 (some 1) rfl (by as_aux_lemma=>kernel_rfl) (by as_aux_lemma=>kernel_rfl) (by as_aux_lemma=>kernel_rfl) (by as_aux_lemma=>kernel_rfl) ?_
  refine wpList_store_rowTo rfl 533 _ _ rfl rfl 5 (z5.map (Value.int .u8)).toArray rfl (Act.eval_put_same _ 1 _ (by simp only [Act.size_put,hs1];omega)) 533 (rowOf (varsStart Tryz.prog os tape) 5) (by as_aux_lemma=>kernel_rfl) (by as_aux_lemma=>kernel_rfl) (by as_aux_lemma=>kernel_rfl) (by as_aux_lemma=>kernel_rfl) ?_
  apply wpList_nil
  refine hK1 _ _ ?_
  refine wp_anyFrame 21 (by simp only [Act.size_put,hs1]) (by simp only [Act.defers_put',hd1]) fun a2 hs2 hd2 => ?_
  clear hK1 K1
  apply wp_seq_k;intro K2 hK2
  apply wp_region_lit
  refine wpList_buildFlatArrTo rfl 311 191 20 _ rfl .u64 z1 (some 2) rfl (by as_aux_lemma=>kernel_rfl) (by as_aux_lemma=>kernel_rfl) (by as_aux_lemma=>kernel_rfl) (by as_aux_lemma=>kernel_rfl) ?_
  refine wpList_store_rowTo rfl 311 _ _ rfl rfl 1 (z1.map (Value.int .u64)).toArray rfl (Act.eval_put_same _ 2 _ (by simp only [Act.size_put,hs2];omega)) 311 (rowOf (varsStart Tryz.prog os tape) 1) (by as_aux_lemma=>kernel_rfl) (by as_aux_lemma=>kernel_rfl) (by as_aux_lemma=>kernel_rfl) (by as_aux_lemma=>kernel_rfl) ?_
  apply wpList_nil
  refine hK2 _ _ ?_
  refine wp_anyFrame 21 (by simp only [Act.size_put,hs2]) (by simp only [Act.defers_put',hd2]) fun a3 hs3 hd3 => ?_
  clear hK2 K2
  apply wp_seq_k;intro K3 hK3
  apply wp_region_lit
  refine wpList_buildTo rfl 316 _ rfl (some 3) rfl #[.int .u8 128,.int .u8 191] (by as_aux_lemma=>kernel_rfl) ?_
  refine wpList_buildTo rfl 316 _ rfl (some 4) rfl #[.int .u8 160,.int .u8 191] (by as_aux_lemma=>kernel_rfl) ?_
  refine wpList_buildTo rfl 316 _ rfl (some 5) rfl #[.int .u8 128,.int .u8 159] (by as_aux_lemma=>kernel_rfl) ?_
  refine wpList_buildTo rfl 316 _ rfl (some 6) rfl #[.int .u8 144,.int .u8 191] (by as_aux_lemma=>kernel_rfl) ?_
  refine wpList_buildTo rfl 316 _ rfl (some 7) rfl #[.int .u8 128,.int .u8 143] (by as_aux_lemma=>kernel_rfl) ?_
  refine wpList_buildTo rfl 317 _ rfl (some 8) rfl accCells ?_ ?_
  ·simp only [List.map_toArray,List.map_cons,List.map_nil]
   rw [Act.eval_put_ne _ _ _ _ (by decide),Act.eval_put_ne _ _ _ _ (by decide),Act.eval_put_ne _ _ _ _ (by decide),Act.eval_put_ne _ _ _ _ (by decide),Act.eval_put_same _ 3 _ (by simp only [Act.size_put,hs3];omega),Act.eval_put_ne _ _ _ _ (by decide),Act.eval_put_ne _ _ _ _ (by decide),Act.eval_put_ne _ _ _ _ (by decide),Act.eval_put_same _ 4 _ (by simp only [Act.size_put,hs3];omega),Act.eval_put_ne _ _ _ _ (by decide),Act.eval_put_ne _ _ _ _ (by decide),Act.eval_put_same _ 5 _ (by simp only [Act.size_put,hs3];omega),Act.eval_put_ne _ _ _ _ (by decide),Act.eval_put_same _ 6 _ (by simp only [Act.size_put,hs3];omega),Act.eval_put_same _ 7 _ (by simp only [Act.size_put,hs3];omega)]
   as_aux_lemma=>kernel_rfl
  refine wpList_store_rowTo rfl 317 _ _ rfl rfl 3 accCells rfl (Act.eval_put_same _ 8 _ (by simp only [Act.size_put,hs3];omega)) 317 (rowOf (varsStart Tryz.prog os tape) 3) (by as_aux_lemma=>kernel_rfl) (by as_aux_lemma=>kernel_rfl) (by as_aux_lemma=>kernel_rfl) (by as_aux_lemma=>kernel_rfl) ?_
  apply wpList_nil
  refine hK3 _ _ ?_
  refine wp_anyFrame 21 (by simp only [Act.size_put,hs3]) (by simp only [Act.defers_put',hd3]) fun a4 hs4 hd4 => ?_
  clear hK3 K3
  apply wp_seq_k;intro K4 hK4
  apply wp_region_lit
  refine wpList_splitAt 7 (rgOps 765 "tables.go:9029" .u16 9 T10.r16.toList) (by as_aux_lemma=>kernel_rfl) ?_
  refine wpList_rgs 765 "tables.go:9029" .u16 (fun _ _ _=>by as_aux_lemma=>kernel_rfl) T10.r16.toList 9 _ (by simp only [Act.size_put,hs4];exact Nat.le_of_ble_eq_true (by as_aux_lemma=>kernel_rfl)) fun b4 hb4 ACC ACD _ => ?_
  refine wpList_buildRgs rfl 759 765 _ .u16 T10.r16 rfl 9 ((varsStart Tryz.prog os tape).heap.size+0) (by as_aux_lemma=>kernel_rfl) (some 16) rfl (by as_aux_lemma=>kernel_rfl) (by as_aux_lemma=>kernel_rfl) (by as_aux_lemma=>kernel_rfl) (by decide) (by decide) (by as_aux_lemma=>kernel_rfl) ACD ?_
  refine wpList_buildTo rfl 762 _ rfl (some 17) rfl #[.slice (some ⟨(varsStart Tryz.prog os tape).heap.size+0,0,none⟩) T10.r16.size T10.r16.size,.slice none 0 0,.int .i64 T10.off] ?_ ?_
  ·simp only [List.map_toArray,List.map_cons,List.map_nil]
   rw [Act.eval_put_same _ 16 _ (by simp only [Act.size_put,hb4,hs4];omega)]
   as_aux_lemma=>kernel_rfl
  refine wpList_boxTo rfl 762 _ rfl (some 18) rfl ((varsStart Tryz.prog os tape).heap.size+1) (by as_aux_lemma=>kernel_rfl) #[.slice (some ⟨(varsStart Tryz.prog os tape).heap.size+0,0,none⟩) T10.r16.size T10.r16.size,.slice none 0 0,.int .i64 T10.off] (by rw [Act.eval_put_same _ 17 _ (by simp only [Act.size_put,hb4,hs4];omega)];rfl) ?_
  refine wpList_store_oneTo rfl 701 _ _ rfl rfl 10 (.pointer (some ⟨(varsStart Tryz.prog os tape).heap.size+1,0,none⟩)) rfl (Act.eval_put_same _ 18 _ (by simp only [Act.size_put,hb4,hs4];omega)) rfl 701 (cellOf (varsStart Tryz.prog os tape) 10) (by as_aux_lemma=>kernel_rfl) (by as_aux_lemma=>kernel_rfl) ?_
  apply wpList_nil
  refine hK4 _ _ ?_
  refine wp_anyFrame 21 (by simp only [Act.size_put,hb4,hs4]) (by simp only [Act.defers_put',ACC,hd4]) fun a5 hs5 hd5 => ?_
  clear hK4 K4
  apply wp_seq_k;intro K5 hK5
  apply wp_region_lit
  refine wpList_readTo rfl (some 19) rfl (.pointer (some ⟨(varsStart Tryz.prog os tape).heap.size+1,0,none⟩)) (by as_aux_lemma=>kernel_rfl) ?_
  refine wpList_store_oneTo rfl 701 _ _ rfl rfl 9 (.pointer (some ⟨(varsStart Tryz.prog os tape).heap.size+1,0,none⟩)) rfl (Act.eval_put_same _ 19 _ (by simp only [Act.size_put,hs5];omega)) rfl 701 (cellOf (varsStart Tryz.prog os tape) 9) (by as_aux_lemma=>kernel_rfl) (by as_aux_lemma=>kernel_rfl) ?_
  apply wpList_nil
  refine hK5 _ _ ?_
  refine wp_anyFrame 21 (by simp only [Act.size_put,hs5]) (by simp only [Act.defers_put',hd5]) fun a6 hs6 hd6 => ?_
  clear hK5 K5
  apply wp_region_lit
  refine wpList_buildTo rfl 314 _ rfl (some 20) rfl (z6.map (Value.int .u8)).toArray (by as_aux_lemma=>kernel_rfl) ?_
  refine wpList_store_rowTo rfl 314 _ _ rfl rfl 6 (z6.map (Value.int .u8)).toArray rfl (Act.eval_put_same _ 20 _ (by simp only [Act.size_put,hs6];omega)) 314 (rowOf (varsStart Tryz.prog os tape) 6) (by as_aux_lemma=>kernel_rfl) (by as_aux_lemma=>kernel_rfl) (by as_aux_lemma=>kernel_rfl) (by as_aux_lemma=>kernel_rfl) ?_
  apply wpList_nil
  refine bodyPost_end0 rfl (by simp only [Act.defers_put',hd6]) ?_
  refine ⟨⟨_,rfl⟩,noHandle _ (laidMet_memory (LaidIn.met (B:=[1,4,5,6]++([9,(varsStart Tryz.prog os tape).heap.size+1,(varsStart Tryz.prog os tape).heap.size+0]++[3])) ?_))⟩
  unfold laidAll
  refine LaidIn.append (B:=[1,4,5,6]) (LaidIn.of_run [1,4,5,6] 10 (by as_aux_lemma=>kernel_rfl) (by as_aux_lemma=>kernel_rfl) (by as_aux_lemma=>kernel_rfl) (by as_aux_lemma=>kernel_rfl)) (LaidIn.append ?_ (LaidIn.of_run [3] 10 (by as_aux_lemma=>kernel_rfl) (by as_aux_lemma=>kernel_rfl) (by as_aux_lemma=>kernel_rfl) (by as_aux_lemma=>kernel_rfl)) (by as_aux_lemma=>kernel_rfl)) (by as_aux_lemma=>kernel_rfl)
  exact (laidIn_rtab16T (ρ:=rho) rty rex (name := "unicode.White_Space") (g:=9) (by as_aux_lemma=>kernel_rfl) (by as_aux_lemma=>kernel_rfl) T10 ((varsStart Tryz.prog os tape).heap.size+1) ((varsStart Tryz.prog os tape).heap.size+0) 765 (by as_aux_lemma=>kernel_rfl) (by as_aux_lemma=>kernel_rfl) (by as_aux_lemma=>kernel_rfl) (by as_aux_lemma=>kernel_rfl) (by decide) (by decide) (of_decide_eq_true (by as_aux_lemma=>kernel_rfl)))
end Go.Proofs.YtihlneenajlhoaaGreatDoor.Great
