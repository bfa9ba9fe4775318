/-
  DERIVED. MADE BY PROGRAM (an AI agent of the authors' house's tools/great-walk3.mjs) off ythbmnacleneflaagreatdoor.cut.gsa: THE TIE AT math/bits.deBruijn64tab, unicode/utf8.acceptRanges, strings.asciiSpace, unicode.White_Space: PAID BY A WALK OF 'gosem.cut.vars', the frame a variable; not by the kernel's run. The pattern and its lessons: GREAT.tables/000.READ-ME.md.
-/
import Derived.Test.YthbmnacleneflaaGreatDoorProg
import Derived.Great.CaseRows
import Derived.Great.LaidInts
import Derived.Great.ByCallsLater
import Derived.Lib.LaidU8
import Derived.Lib.LaidRTabT
import Derived.WalkKit
namespace Go.Proofs.YthbmnacleneflaaGreatDoor.Great
open Go.Great Go.Lib
set_option linter.unusedVariables false

def z5 : List Int := [0, 1, 56, 2, 57, 49, 28, 3, 61, 58, 42, 50, 38, 29, 17, 4, 62, 47, 59, 36, 45, 43, 51, 22, 53, 39, 33, 30, 24, 18, 12, 5, 63, 55, 48, 27, 60, 41, 37, 16, 46, 35, 44, 21, 52, 32, 23, 11, 54, 26, 40, 15, 34, 20, 31, 10, 25, 14, 19, 9, 13, 8, 7, 6]
def z0 : List Int := [0, 0, 0, 0, 0, 0, 0, 0, 0, 1, 1, 1, 1, 1, 0, 0, 0, 0, 0, 0, 0, 0, 0, 0, 0, 0, 0, 0, 0, 0, 0, 0, 1, 0, 0, 0, 0, 0, 0, 0, 0, 0, 0, 0, 0, 0, 0, 0, 0, 0, 0, 0, 0, 0, 0, 0, 0, 0, 0, 0, 0, 0, 0, 0, 0, 0, 0, 0, 0, 0, 0, 0, 0, 0, 0, 0, 0, 0, 0, 0, 0, 0, 0, 0, 0, 0, 0, 0, 0, 0, 0, 0, 0, 0, 0, 0, 0, 0, 0, 0, 0, 0, 0, 0, 0, 0, 0, 0, 0, 0, 0, 0, 0, 0, 0, 0, 0, 0, 0, 0, 0, 0, 0, 0, 0, 0, 0, 0, 0, 0, 0, 0, 0, 0, 0, 0, 0, 0, 0, 0, 0, 0, 0, 0, 0, 0, 0, 0, 0, 0, 0, 0, 0, 0, 0, 0, 0, 0, 0, 0, 0, 0, 0, 0, 0, 0, 0, 0, 0, 0, 0, 0, 0, 0, 0, 0, 0, 0, 0, 0, 0, 0, 0, 0, 0, 0, 0, 0, 0, 0, 0, 0, 0, 0, 0, 0, 0, 0, 0, 0, 0, 0, 0, 0, 0, 0, 0, 0, 0, 0, 0, 0, 0, 0, 0, 0, 0, 0, 0, 0, 0, 0, 0, 0, 0, 0, 0, 0, 0, 0, 0, 0, 0, 0, 0, 0, 0, 0, 0, 0, 0, 0, 0, 0, 0, 0, 0, 0, 0, 0, 0, 0, 0, 0, 0, 0]
set_option maxHeartbeats 4000000 in
def T8 : RTab := { r16 := #[(9, 13, 1), (32, 133, 101), (160, 5760, 5600), (8192, 8202, 1), (8232, 8233, 1), (8239, 8287, 48), (12288, 12288, 1)], r32 := #[], off := 2 }


def accCells : Array Value := #[.int .u8 128, .int .u8 191, .int .u8 160, .int .u8 191, .int .u8 128, .int .u8 159, .int .u8 144, .int .u8 191, .int .u8 128, .int .u8 143, .int .u8 0, .int .u8 0, .int .u8 0, .int .u8 0, .int .u8 0, .int .u8 0, .int .u8 0, .int .u8 0, .int .u8 0, .int .u8 0, .int .u8 0, .int .u8 0, .int .u8 0, .int .u8 0, .int .u8 0, .int .u8 0, .int .u8 0, .int .u8 0, .int .u8 0, .int .u8 0, .int .u8 0, .int .u8 0]
def rowOf (w : World) (g : Nat) : Array Value := match w.heap[g]? with | some (.cells c _ _) => c | _ => #[]
def cellOf (w : World) (g : Nat) : Value := (rowOf w g).getD 0 undef
abbrev ints (k : IntKind) (zs : List Int) : DataW Unit := .slice (zs.map fun n => .lit (.int k n)) []
def laidAll : List (String × DataW Unit) := [("unicode/utf8.acceptRanges", Lib.acceptData), ("strings.asciiSpace", Lib.tabData .u8 z0)] ++ ([("unicode.White_Space", rtabData T8)] ++ [("math/bits.deBruijn64tab", Lib.tabData .u8 z5)])
/-- No handle stands in the list: 'laidMetH' is 'laidMet'. -/
theorem noHandle (w : World) (h : laidMet Tryz.prog laidAll w) : laidMetH Tryz.prog laidAll w := by
  have e : (laidAll.filter fun x => x.2.handleName?.isSome) = [] := by kernel_rfl
  unfold laidMetH
  rw [e]
  exact h
theorem fits (k : IntKind) (zs : List Int) (h : (zs.all fun n => (Lit.int k n).wf) = true) : ∀ n ∈ zs, (Lit.int k n).wf = true := fun n hn => List.all_eq_true.1 h n hn

/-- The guide's nine facts on unicode's types ('RTypes') and eight on cells ('RExtra'), at this dump's numbers. -/
def rho : Shelf.Ren := ⟨id, fun | 3 => 3 | 49 => 601 | 51 => 118 | 141 => 522 | 193 => 597 | 194 => 598 | 196 => 600 | 198 => 603 | 201 => 606 | x => x, id⟩
theorem rty : RTypes Tryz.prog rho := ⟨by kernel_rfl, by kernel_rfl, by kernel_rfl, by kernel_rfl, by kernel_rfl, by kernel_rfl, by kernel_rfl, by kernel_rfl, by kernel_rfl⟩
theorem rex : RExtra Tryz.prog rho := ⟨by kernel_rfl, by kernel_rfl, by kernel_rfl, by kernel_rfl, by kernel_rfl, by kernel_rfl, by kernel_rfl, by kernel_rfl⟩

attribute [local irreducible] wpList Code.wp varsStart rowOf cellOf accCells z5 z0

set_option linter.unusedSimpArgs false in
set_option maxRecDepth 1000000 in
set_option maxHeartbeats 4000000 in
theorem tie : Tryz.prog.laidByTextLater laidAll [.data, .data, .listed, .data] true :=
  Program.laidByTextLater_by_calls (by as_aux_lemma => kernel_rfl) (by as_aux_lemma => kernel_rfl) (by as_aux_lemma => kernel_rfl) (by as_aux_lemma => kernel_rfl) (by as_aux_lemma => kernel_rfl) (by as_aux_lemma => kernel_rfl) (by as_aux_lemma => kernel_rfl) fun os tape => by
    have e : varsId Tryz.prog = 623 := by as_aux_lemma => kernel_rfl
    rw [e]
    refine calls_of_wp Tryz.func623 rfl ?_
    refine wp_anyFrame 19 (by as_aux_lemma => kernel_rfl) rfl fun a0 hs0 hd0 => ?_
    -- bits.go:51: math/bits.deBruijn64tab
    apply wp_seq_k; intro K0 hK0
    apply wp_region_lit
    refine wpList_buildFlatArrTo rfl 715 5 64 _ rfl .u8 z5 (some 0) rfl (by as_aux_lemma => kernel_rfl) (by as_aux_lemma => kernel_rfl) (by as_aux_lemma => kernel_rfl) (by as_aux_lemma => kernel_rfl) ?_
    refine wpList_store_rowTo rfl 715 _ _ rfl rfl 5 (z5.map (Value.int .u8)).toArray rfl (Act.eval_put_same _ 0 _ (by simp only [Act.size_put, hs0]; omega)) 715 (rowOf (varsStart Tryz.prog os tape) 5) (by as_aux_lemma => kernel_rfl) (by as_aux_lemma => kernel_rfl) (by as_aux_lemma => kernel_rfl) (by as_aux_lemma => kernel_rfl) ?_
    apply wpList_nil
    refine hK0 _ _ ?_
    refine wp_anyFrame 19 (by simp only [Act.size_put, hs0]) (by simp only [Act.defers_put', hd0]) fun a1 hs1 hd1 => ?_
    clear hK0 K0
    -- utf8.go:100: unicode/utf8.acceptRanges
    apply wp_seq_k; intro K1 hK1
    apply wp_region_lit
    refine wpList_buildTo rfl 696 _ rfl (some 1) rfl #[.int .u8 128, .int .u8 191] (by as_aux_lemma => kernel_rfl) ?_
    refine wpList_buildTo rfl 696 _ rfl (some 2) rfl #[.int .u8 160, .int .u8 191] (by as_aux_lemma => kernel_rfl) ?_
    refine wpList_buildTo rfl 696 _ rfl (some 3) rfl #[.int .u8 128, .int .u8 159] (by as_aux_lemma => kernel_rfl) ?_
    refine wpList_buildTo rfl 696 _ rfl (some 4) rfl #[.int .u8 144, .int .u8 191] (by as_aux_lemma => kernel_rfl) ?_
    refine wpList_buildTo rfl 696 _ rfl (some 5) rfl #[.int .u8 128, .int .u8 143] (by as_aux_lemma => kernel_rfl) ?_
    refine wpList_buildTo rfl 697 _ rfl (some 6) rfl accCells ?_ ?_
    · simp only [List.map_toArray, List.map_cons, List.map_nil]
      rw [Act.eval_put_ne _ _ _ _ (by decide), Act.eval_put_ne _ _ _ _ (by decide), Act.eval_put_ne _ _ _ _ (by decide), Act.eval_put_ne _ _ _ _ (by decide), Act.eval_put_same _ 1 _ (by simp only [Act.size_put, hs1]; omega), Act.eval_put_ne _ _ _ _ (by decide), Act.eval_put_ne _ _ _ _ (by decide), Act.eval_put_ne _ _ _ _ (by decide), Act.eval_put_same _ 2 _ (by simp only [Act.size_put, hs1]; omega), Act.eval_put_ne _ _ _ _ (by decide), Act.eval_put_ne _ _ _ _ (by decide), Act.eval_put_same _ 3 _ (by simp only [Act.size_put, hs1]; omega), Act.eval_put_ne _ _ _ _ (by decide), Act.eval_put_same _ 4 _ (by simp only [Act.size_put, hs1]; omega), Act.eval_put_same _ 5 _ (by simp only [Act.size_put, hs1]; omega)]
      as_aux_lemma => kernel_rfl
    refine wpList_store_rowTo rfl 697 _ _ rfl rfl 4 accCells rfl (Act.eval_put_same _ 6 _ (by simp only [Act.size_put, hs1]; omega)) 697 (rowOf (varsStart Tryz.prog os tape) 4) (by as_aux_lemma => kernel_rfl) (by as_aux_lemma => kernel_rfl) (by as_aux_lemma => kernel_rfl) (by as_aux_lemma => kernel_rfl) ?_
    apply wpList_nil
    refine hK1 _ _ ?_
    refine wp_anyFrame 19 (by simp only [Act.size_put, hs1]) (by simp only [Act.defers_put', hd1]) fun a2 hs2 hd2 => ?_
    clear hK1 K1
    -- tables.go:9029: unicode._White_Space
    apply wp_seq_k; intro K2 hK2
    apply wp_region_lit
    refine wpList_splitAt 7 (rgOps 603 "tables.go:9029" .u16 7 T8.r16.toList) (by as_aux_lemma => kernel_rfl) ?_
    refine wpList_rgs 603 "tables.go:9029" .u16 (fun _ _ _ => by as_aux_lemma => kernel_rfl) T8.r16.toList 7 _ (by simp only [Act.size_put, hs2]; exact Nat.le_of_ble_eq_true (by as_aux_lemma => kernel_rfl)) fun b2 hb2 hbd2 hev2 _ => ?_
    refine wpList_buildRgs rfl 597 603 _ .u16 T8.r16 rfl 7 ((varsStart Tryz.prog os tape).heap.size + 0) (by as_aux_lemma => kernel_rfl) (some 14) rfl (by as_aux_lemma => kernel_rfl) (by as_aux_lemma => kernel_rfl) (by as_aux_lemma => kernel_rfl) (by decide) (by decide) (by as_aux_lemma => kernel_rfl) hev2 ?_
    refine wpList_buildTo rfl 600 _ rfl (some 15) rfl #[.slice (some ⟨(varsStart Tryz.prog os tape).heap.size + 0, 0, none⟩) T8.r16.size T8.r16.size, .slice none 0 0, .int .i64 T8.off] ?_ ?_
    · simp only [List.map_toArray, List.map_cons, List.map_nil]
      rw [Act.eval_put_same _ 14 _ (by simp only [Act.size_put, hb2, hs2]; omega)]
      as_aux_lemma => kernel_rfl
    refine wpList_boxTo rfl 600 _ rfl (some 16) rfl ((varsStart Tryz.prog os tape).heap.size + 1) (by as_aux_lemma => kernel_rfl) #[.slice (some ⟨(varsStart Tryz.prog os tape).heap.size + 0, 0, none⟩) T8.r16.size T8.r16.size, .slice none 0 0, .int .i64 T8.off] (by rw [Act.eval_put_same _ 15 _ (by simp only [Act.size_put, hb2, hs2]; omega)]; rfl) ?_
    refine wpList_store_oneTo rfl 522 _ _ rfl rfl 8 (.pointer (some ⟨(varsStart Tryz.prog os tape).heap.size + 1, 0, none⟩)) rfl (Act.eval_put_same _ 16 _ (by simp only [Act.size_put, hb2, hs2]; omega)) rfl 522 (cellOf (varsStart Tryz.prog os tape) 8) (by as_aux_lemma => kernel_rfl) (by as_aux_lemma => kernel_rfl) ?_
    apply wpList_nil
    refine hK2 _ _ ?_
    refine wp_anyFrame 19 (by simp only [Act.size_put, hb2, hs2]) (by simp only [Act.defers_put', hbd2, hd2]) fun a3 hs3 hd3 => ?_
    clear hK2 K2
    -- tables.go:9082: unicode.White_Space
    apply wp_seq_k; intro K3 hK3
    apply wp_region_lit
    refine wpList_readTo rfl (some 17) rfl (.pointer (some ⟨(varsStart Tryz.prog os tape).heap.size + 1, 0, none⟩)) (by as_aux_lemma => kernel_rfl) ?_
    refine wpList_store_oneTo rfl 522 _ _ rfl rfl 1 (.pointer (some ⟨(varsStart Tryz.prog os tape).heap.size + 1, 0, none⟩)) rfl (Act.eval_put_same _ 17 _ (by simp only [Act.size_put, hs3]; omega)) rfl 522 (cellOf (varsStart Tryz.prog os tape) 1) (by as_aux_lemma => kernel_rfl) (by as_aux_lemma => kernel_rfl) ?_
    apply wpList_nil
    refine hK3 _ _ ?_
    refine wp_anyFrame 19 (by simp only [Act.size_put, hs3]) (by simp only [Act.defers_put', hd3]) fun a4 hs4 hd4 => ?_
    clear hK3 K3
    -- strings.go:358: strings.asciiSpace
    apply wp_region_lit
    refine wpList_buildTo rfl 446 _ rfl (some 18) rfl (z0.map (Value.int .u8)).toArray (by as_aux_lemma => kernel_rfl) ?_
    refine wpList_store_rowTo rfl 446 _ _ rfl rfl 0 (z0.map (Value.int .u8)).toArray rfl (Act.eval_put_same _ 18 _ (by simp only [Act.size_put, hs4]; omega)) 446 (rowOf (varsStart Tryz.prog os tape) 0) (by as_aux_lemma => kernel_rfl) (by as_aux_lemma => kernel_rfl) (by as_aux_lemma => kernel_rfl) (by as_aux_lemma => kernel_rfl) ?_
    apply wpList_nil
    refine bodyPost_end0 rfl (by simp only [Act.defers_put', hd4]) ?_
    refine ⟨⟨_, rfl⟩, noHandle _ (laidMet_memory (LaidIn.met (B := [4, 0] ++ ([1, (varsStart Tryz.prog os tape).heap.size + 1, (varsStart Tryz.prog os tape).heap.size + 0] ++ [5])) ?_))⟩
    unfold laidAll
    refine LaidIn.append (B := [4, 0]) (LaidIn.of_run [4, 0] 10 (by as_aux_lemma => kernel_rfl) (by as_aux_lemma => kernel_rfl) (by as_aux_lemma => kernel_rfl) (by as_aux_lemma => kernel_rfl)) (LaidIn.append ?_ (LaidIn.of_run [5] 10 (by as_aux_lemma => kernel_rfl) (by as_aux_lemma => kernel_rfl) (by as_aux_lemma => kernel_rfl) (by as_aux_lemma => kernel_rfl)) (by as_aux_lemma => kernel_rfl)) (by as_aux_lemma => kernel_rfl)
    exact (laidIn_rtab16T (ρ := rho) rty rex (name := "unicode.White_Space") (g := 1) (by as_aux_lemma => kernel_rfl) (by as_aux_lemma => kernel_rfl) T8 ((varsStart Tryz.prog os tape).heap.size + 1) ((varsStart Tryz.prog os tape).heap.size + 0) 603 (by as_aux_lemma => kernel_rfl) (by as_aux_lemma => kernel_rfl) (by as_aux_lemma => kernel_rfl) (by as_aux_lemma => kernel_rfl) (by decide) (by decide) (of_decide_eq_true (by as_aux_lemma => kernel_rfl)))

end Go.Proofs.YthbmnacleneflaaGreatDoor.Great
