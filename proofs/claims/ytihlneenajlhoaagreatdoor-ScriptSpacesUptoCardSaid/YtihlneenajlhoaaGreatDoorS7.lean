/-
 Contract, for a run of one goroutine, of jalousieref27.Same at equal operations. Condition: the rows stand; lengths that fit.
-/
import Derived.Test.YtihlneenajlhoaaGreatDoorS5
import Derived.Test.YtihlneenajlhoaaGreatDoorS1
import Derived.Test.YtihlneenajlhoaaGreatDoorS6
import Derived.Test.YtihlneenajlhoaaGreatDoorS4
import Derived.Test.YtihlneenajlhoaaGreatDoorS0
import Derived.Lib.SplitLaws
import Derived.Lib.CountLaws
import Derived.Maps.OwnSet
set_option linter.unusedSimpArgs false
set_option linter.unusedVariables false
namespace Go.Proofs.YtihlneenajlhoaaGreatDoor
open Go Go.RowKit
theorem cell_heap2 {W W':World} {g:Nat} (h:W'.heap[g]?=W.heap[g]?) (k:Nat):W'.cell? ⟨g,k,none⟩=W.cell? ⟨g,k,none⟩:=by unfold World.cell?;rw [h]
def opRow (p:sp.Op×Value):List Value:=(opCells p.1 p.2).toList
theorem opRow_len (p:sp.Op×Value):(opRow p).length=18:=rfl
structure SameRow (w:World) (v:Value) (L:List (sp.Op×Value)):Prop where
 row:RowAt w.heap.size w v L.length (L.flatMap opRow)
 texts:∀p∈L,RowAt w.heap.size w p.2 p.1.text.length (Lib.byteCells p.1.text)
theorem SameRow.on {w w':World} {v:Value} {L:List (sp.Op×Value)} (h:SameRow w v L) (hb:Below w.heap.size w w'):SameRow w' v L :=
 ⟨(h.row.keep hb).mono hb.size,fun p hp=>((h.texts p hp).keep hb).mono hb.size⟩
theorem one_op' {o:sp.Op} {tv:Value} {B n:Nat} {W:World} {cs:List Value} (h:RowAt B W tv n cs):(opCells o tv).all (·.oneCell')=true:=by
 obtain ⟨a,cap,rfl⟩:=h.slice
 simp [opCells,Value.oneCell']
theorem SameRow.el {w wr:World} {a:Option Addr} {c n:Nat} {L:List (sp.Op×Value)} (h:SameRow w (.slice a n c) L) (hb:Below w.heap.size w wr) {k:Nat} (hk:k<L.length):∃b off,a=some ⟨b,off,none⟩∧b<w.heap.size∧(∀j u,(opCells L[k].1 L[k].2).toList[j]?=some u→wr.cell? ⟨b,off+k*18+j,none⟩=some u)∧RowAt w.heap.size wr L[k].2 L[k].1.text.length (Lib.byteCells L[k].1.text):=by
 have hn:n=L.length:=by obtain ⟨_,_,e,_⟩:=h.row;cases e;rfl
 subst hn
 obtain ⟨bx,off,rfl,hbx,hrg⟩:=h.row.place (by omega)
 refine ⟨bx,off,rfl,hbx,fun j u hj => ?_,(h.texts _ (List.getElem_mem hk)).keep hb⟩
 have hj18:j<18:=(List.getElem?_eq_some_iff.1 hj).1
 have:=rangeAt_below hb hbx hrg (k*18+j) u (by rw [flat_at opRow_len L k hk j hj18];exact hj)
 rw [←Nat.add_assoc] at this
 exact this
theorem st_new {wr W:World} {cs:Array Value} (h:W=(wr.alloc (.cells (zeroC 0) 28)).setRow wr.heap.size cs):W.heap[wr.heap.size]?=some (.cells cs 28 (0,0))∧Below wr.heap.size wr W:=by
 subst h
 exact ⟨setRow_at (heap_alloc_at _ _) _,below_setRow (below_new wr _) (Nat.le_refl _) _⟩
section
variable {ops:Array Oper} {rest:List Oper} {op:Oper} {a:Act} {Q:Exit→Act→World→Prop} {W:World}
theorem wpl_st28' (hgd:op.guard=none) (x y:Operand) (hop:op.op=.store 28 x y) (g:Nat) (cells:Array Value) (hx:a.eval x=.pointer (some ⟨g,0,none⟩)) (hy:a.eval y=.agg cells) (old:Array Value) (hg:W.heap[g]?=some (.cells old 28 (0,0))) (ho:old.size=18) (hc:cells.size=18) (h1:cells.all (·.oneCell')=true)
  (h:∀W',W'=W.setRow g cells→wpList Tryz.prog ops Q rest (a.put op.dst undef) W'):wpList Tryz.prog ops Q (op :: rest) a W :=
 wpList_store_row hgd 28 x y hop g cells hx hy 28 old hg (by rw [hc];exact size28') (by rw [ho,hc]) h1 (h _ rfl)
end
set_option maxRecDepth 100000 in
set_option maxHeartbeats 16000000 in
theorem same_any (w:World) (va vb:Value) (A C:List (sp.Op×Value)) (ha:SameRow w va A) (hb:SameRow w vb C) (he:A.map (·.1)=C.map (·.1)) (hn:A.length≤1099511627776):Calls Tryz.prog 15 #[va,vb] w fun e w'=>e=.returned (.bool true)∧Below w.heap.size w w':=by
 have hl:A.length=C.length:=by have:=congrArg List.length he;simpa using this
 obtain ⟨aa,ca,rfl⟩:=ha.row.slice
 obtain ⟨ab,cb,rfl⟩:=hb.row.slice
 have HA:=Lib.hid ha;have HC:=Lib.hid hb;have HE:=Lib.hid he;have HN:=Lib.hid hn
 have HL:=Lib.hid hl
 rw [hl] at HA ⊢
 have HLN:Hid ((C.length:Int)≤1099511627776):=Lib.hid (by omega)
 clear ha hb he hn hl
 go_enter Tryz.func15,Tryz.ntmps15
 go_wp2
 go_loopw [5,15] (fun j i wr=>∃k:Nat,k≤C.length∧i=.int .i64 k∧Below w.heap.size w wr) (fun _ i _=>C.length-(intOf i).toNat)
 case atStart=>exact ⟨0,Nat.zero_le _,rfl,Below.refl _ _⟩
 case round =>
  obtain ⟨k,hk,rfl,hbl⟩:=hrel
  have HB:=Lib.hid hbl
  have hkb:(k:Int)≤1099511627776:=by have:=HLN.out;omega
  clear hbl
  by_cases hlt:k<C.length
  ·have t0:decide ((k:Int)<(C.length:Int))=true:=by simp;omega
   have hltA:k<A.length:=by have:=HL.out;omega
   obtain ⟨b1,o1,rfl,hx1,hc1,hr1⟩:=SameRow.el HA.out HB.out hltA
   obtain ⟨b2,o2,rfl,hx2,hc2,hr2⟩:=HC.out.el HB.out hlt
   have heq:A[k].1=C[k].1:=by
    have h1:(A.map (·.1))[k]?=(C.map (·.1))[k]?:=by rw [HE.out]
    simpa [hltA,hlt] using h1
   obtain ⟨o,ho⟩:∃o,o=C[k].1:=⟨_,rfl⟩
   rw [heq] at hc1 hr1
   rw [←ho] at hc1 hr1 hc2 hr2
   generalize A[k].2=ta at hc1 hr1
   generalize C[k].2=tb at hc2 hr2
   clear heq ho hltA
   have HX2:Hid (b2<wr.heap.size):=Lib.hid (Nat.lt_of_lt_of_le hx2 HB.out.size);clear hx1 hx2
   have HC1:=Lib.hid hc1;have HC2:=Lib.hid hc2;have HR1:=Lib.hid hr1;have HR2:=Lib.hid hr2
   have HO1:=Lib.hid (one_op' (o:=o) hr1);have HO2:=Lib.hid (one_op' (o:=o) hr2)
   clear hc1 hc2 hr1 hr2
   go_wp2_with (first
    | (have hgd:=HC1;clear hgd;refine wpList_load_range rfl 28 _ rfl b1 (o1+k*18) rfl (opCells o ta) _ HC1.out Tryz.underlying28 rfl size28' ?_;clear HC1)
    | (have hgd:=HO1;clear hgd;refine wpl_st28' rfl _ _ rfl wr.heap.size (opCells o ta) rfl rfl _ (heap_alloc_at _ _) rfl rfl HO1.out ?_;intro W1 hW1;obtain ⟨q1,q2⟩:=st_new hW1;have HQ1:=Lib.hid q1;have HB1:=Lib.hid (HB.out.trans (q2.mono HB.out.size));have HC3:=Lib.hid (fun j u hj=>(cell_heap2 (q2.block b2 HX2.out) _).trans (HC2.out j u hj));have HW1:=Lib.hid (q2.mono HB.out.size);clear hW1 q1 q2 HO1 HC2)
    | (have hgd:=HC3;clear hgd;refine wpList_load_range rfl 28 _ rfl b2 (o2+k*18) rfl (opCells o tb) _ HC3.out Tryz.underlying28 rfl size28' ?_;clear HC3)
    | (have hgd:=HO2;clear hgd;refine wpl_st28' rfl _ _ rfl W1.heap.size (opCells o tb) rfl rfl _ (heap_alloc_at _ _) rfl rfl HO2.out ?_;intro W2 hW2;obtain ⟨q1,q2⟩:=st_new hW2;have HB2:=Lib.hid (HB1.out.trans (q2.mono HB1.out.size));have HW2:=HW1.out.trans (q2.mono HB1.out.size);have HQ2:=(q2.block _ (lt_of_block HQ1.out)).trans HQ1.out;have a0:=blk_cell HQ2 0 (.int .i64 o.kind) rfl;have a1:=blk_cell HQ2 1 (.int .i64 o.node) rfl;have a2:=blk_cell HQ2 2 (.int .i64 o.at_) rfl;have a3:=blk_cell HQ2 3 (.int .i64 o.origin) rfl;have a4:=blk_cell HQ2 4 (.string (bstr o.name)) rfl;have a5:=blk_cell HQ2 5 (.string (bstr o.word)) rfl;have a6:=blk_cell HQ2 6 (ta) rfl;have a7:=blk_cell HQ2 7 (.int .i64 o.w.1) rfl;have a8:=blk_cell HQ2 8 (.int .i64 o.w.2) rfl;have a9:=blk_cell HQ2 9 (.int .i64 o.h.1) rfl;have a10:=blk_cell HQ2 10 (.int .i64 o.h.2) rfl;have a11:=blk_cell HQ2 11 (.int .i64 o.bt) rfl;have a12:=blk_cell HQ2 12 (.string (bstr o.bn)) rfl;have a13:=blk_cell HQ2 13 (.int .i64 o.bw.1) rfl;have a14:=blk_cell HQ2 14 (.int .i64 o.bw.2) rfl;have a15:=blk_cell HQ2 15 (.int .i64 o.bh.1) rfl;have a16:=blk_cell HQ2 16 (.int .i64 o.bh.2) rfl;have a17:=blk_cell HQ2 17 (.bool o.on) rfl;have b0:=blk_cell q1 0 (.int .i64 o.kind) rfl;have b1:=blk_cell q1 1 (.int .i64 o.node) rfl;have b2:=blk_cell q1 2 (.int .i64 o.at_) rfl;have b3:=blk_cell q1 3 (.int .i64 o.origin) rfl;have b4:=blk_cell q1 4 (.string (bstr o.name)) rfl;have b5:=blk_cell q1 5 (.string (bstr o.word)) rfl;have b6:=blk_cell q1 6 (tb) rfl;have b7:=blk_cell q1 7 (.int .i64 o.w.1) rfl;have b8:=blk_cell q1 8 (.int .i64 o.w.2) rfl;have b9:=blk_cell q1 9 (.int .i64 o.h.1) rfl;have b10:=blk_cell q1 10 (.int .i64 o.h.2) rfl;have b11:=blk_cell q1 11 (.int .i64 o.bt) rfl;have b12:=blk_cell q1 12 (.string (bstr o.bn)) rfl;have b13:=blk_cell q1 13 (.int .i64 o.bw.1) rfl;have b14:=blk_cell q1 14 (.int .i64 o.bw.2) rfl;have b15:=blk_cell q1 15 (.int .i64 o.bh.1) rfl;have b16:=blk_cell q1 16 (.int .i64 o.bh.2) rfl;have b17:=blk_cell q1 17 (.bool o.on) rfl;have hva:=conv_row (HR1.out.keep HW2);have hvb:=conv_row (HR2.out.keep HW2);clear hW2 q1 q2 HO2 HQ1 HQ2 HW2))
   exact ⟨⟨k+1,by omega,by go_num,HB2.out⟩,by simp [intOf];omega⟩
  ·have t0:decide ((k:Int)<(C.length:Int))=false:=by simp;omega
   go_wp2
   go_ret
   exact ⟨rfl,HB.out⟩
theorem info28':(Tryz.prog.info? 28).map (fun i=>(i.zero,i.size,i.bytes))=some (some (.agg #[.int .i64 0,.int .i64 0,.int .i64 0,.int .i64 0,.string ⟨#[]⟩,.string ⟨#[]⟩,.slice none 0 0,.int .i64 0,.int .i64 0,.int .i64 0,.int .i64 0,.int .i64 0,.string ⟨#[]⟩,.int .i64 0,.int .i64 0,.int .i64 0,.int .i64 0,.bool false]),18,184):=by kernel_rfl
theorem range18:Array.range 18=#[0,1,2,3,4,5,6,7,8,9,10,11,12,13,14,15,16,17]:=by decide
section
variable {ops:Array Oper} {rest:List Oper} {op:Oper} {a:Act} {Q:Exit→Act→World→Prop} {w:World}
theorem wpl_run (hgd:op.guard=none) {v:Value} {w':World} (hr:(execOp a.eval op).run Tryz.prog w=.ok (.value v) w') (h:wpList Tryz.prog ops Q rest (a.put op.dst v) w'):wpList Tryz.prog ops Q (op :: rest) a w :=
 wpList_plain hgd fun _ hK=>by unfold Oper.wp;rw [hr];exact hK _ _ h
theorem wpl_slice28 (hgd:op.guard=none) (x:Operand) (hop:op.op=.buildSlice 35 1 #[(0,x)]) (o:sp.Op) (tv:Value) (hx:a.eval x=.agg (opCells o tv))
  (h:∀w',w'.heap[w.heap.size]?=some (.cells (opCells o tv) 28 (0,0))→Below w.heap.size w w'→wpList Tryz.prog ops Q rest (a.put op.dst (.slice (some ⟨w.heap.size,0,none⟩) 1 1)) w'):wpList Tryz.prog ops Q (op :: rest) a w:=by
 refine wpl_run hgd (w':=w.alloc (.cells (opCells o tv) 28)) ?_ (h _ (heap_alloc_at w _) (below_new w _))
 obtain ⟨i,hi,hz,hs,hb⟩:=info_parts info28'
 unfold execOp
 simp [hop,hx,Instr.buildSlice,run_underlying Tryz.underlying35,sizeOf,zeroValue,typeInfo,hi,hz,hs,Builtin.zeroCells,Instr.fill,Value.cells,newRow,Result.andThen,opCells,range18]
end
theorem idx_none:∀ {b:List UInt8},(10:UInt8)∉b→Lib.index b [10] = -1
 | [],_=>rfl
 | c :: l,h=>by
  have h1:¬(10:UInt8)=c:=fun e=>h (e ▸ List.mem_cons_self)
  have h2:=idx_none (b:=l) fun hm=>h (List.mem_cons_of_mem _ hm)
  unfold Lib.index
  rw [h2]
  simp [h1]
theorem idx_some:∀ {a:List UInt8} (r:List UInt8),(10:UInt8)∉a→Lib.index (a++10 :: r) [10]=(a.length:Int)
 | [],r,_=>by unfold Lib.index;simp
 | c :: l,r,h=>by
  have h1:¬(10:UInt8)=c:=fun e=>h (e ▸ List.mem_cons_self)
  have h2:=idx_some (a:=l) r fun hm=>h (List.mem_cons_of_mem _ hm)
  rw [List.cons_append]
  unfold Lib.index
  rw [h2]
  have h3:((l.length:Int) == -1)=false:=by rw [beq_eq_false_iff_ne];omega
  simp [h1,h3]
abbrev nlB:ByteArray:=⟨#[10]⟩
theorem cut_nl {b:List UInt8} (h:(10:UInt8)∈b):∃a r,b=a++10 :: r∧(10:UInt8)∉a:=by
 induction b with
 | nil=>cases h
 | cons c l ih =>
  by_cases hc:c=10
  ·subst hc;exact ⟨[],l,rfl,by simp⟩
  ·have hl:(10:UInt8)∈l:=(List.mem_cons.1 h).resolve_left fun h=>hc h.symm
   obtain ⟨a,r,e,hn⟩:=ih hl
   exact ⟨c :: a,r,by rw [e];rfl,by simp [hn,Ne.symm hc]⟩
theorem extract_bs (b:List UInt8) (i j:Nat):(bstr b).extract i j=bstr ((b.take j).drop i):=by
 apply ByteArray.ext
 rw [ByteArray.data_extract]
 apply Array.toList_inj.1
 simp [bstr,List.extract_eq_take_drop,List.drop_take]
theorem split_lines:∀(n:Nat) (b:List UInt8),b.length≤n→∃l:List (List UInt8),Lib.splitB nlB 0 (Lib.countB (bstr b) nlB) (bstr b)=l.map bstr∧l.length=Lib.countB (bstr b) nlB+1∧((∃l',l=l'++[[]]∧sp.linesS b=l')∨(∃l' x,l=l'++[x]∧x≠[]∧sp.linesS b=l)):=by
 intro n
 induction n with
 | zero =>
  intro b hb
  obtain rfl:b = []:=List.eq_nil_of_length_eq_zero (by omega)
  have hi:Lib.indexB (bstr []) nlB = -1:=idx_none (b:=[]) (by simp)
  refine ⟨[[]],?_,by rw [Lib.countB_miss _ _ hi];rfl,.inl ⟨[],rfl,sp.lines_nil⟩⟩
  rw [Lib.splitB_miss _ _ _ _ hi]
  rfl
 | succ n ih =>
  intro b hb
  by_cases hm:(10:UInt8)∈b
  ·obtain ⟨a,r,rfl,hn⟩:=cut_nl hm
   have hi:Lib.indexB (bstr (a++10 :: r)) nlB=(a.length:Int):=by
    show Lib.index (bstr (a++10 :: r)).data.toList [10]=_
    rw [bstr_toList]
    exact idx_some r hn
   have hx:(bstr (a++10 :: r)).extract (a.length+nlB.size) (bstr (a++10 :: r)).size=bstr r:=by
    rw [extract_bs,bstr_size,List.take_length]
    congr 1
    show (a++10 :: r).drop (a.length+1)=r
    rw [List.drop_append]
    simp
   have h0:(bstr (a++10 :: r)).extract 0 (a.length+0)=bstr a:=by
    rw [extract_bs]
    simp
   have hc:Lib.countB (bstr (a++10 :: r)) nlB=Lib.countB (bstr r) nlB+1:=by
    rw [Lib.countB_hit _ _ _ (by decide) hi,hx]
    omega
   obtain ⟨l,h1,h2,h3⟩:=ih r (by simp at hb;omega)
   refine ⟨a :: l,?_,by rw [hc];simp [h2],?_⟩
   ·rw [hc,Lib.splitB_hit _ _ _ _ _ hi,hx,h1]
    show (bstr (a++10 :: r)).extract 0 (a.length+0) :: _=_
    rw [h0]
    rfl
   ·rw [sp.lines_cut hn]
    rcases h3 with ⟨l',rfl,e⟩ | ⟨l',x,rfl,hx,e⟩
    ·exact .inl ⟨a :: l',rfl,by rw [e]⟩
    ·exact .inr ⟨a :: l',x,rfl,hx,by rw [e]⟩
  ·have hi:Lib.indexB (bstr b) nlB = -1:=by
    show Lib.index (bstr b).data.toList [10]=_
    rw [bstr_toList]
    exact idx_none hm
   refine ⟨[b],by rw [Lib.splitB_miss _ _ _ _ hi];rfl,by rw [Lib.countB_miss _ _ hi];rfl,?_⟩
   by_cases h0:b = []
   ·subst h0;exact .inl ⟨[],rfl,sp.lines_nil⟩
   ·exact .inr ⟨[],b,rfl,h0,sp.lines_last hm h0⟩
theorem linesS_len (b:List UInt8):(sp.linesS b).length≤b.length+1∧∀s∈sp.linesS b,s.length≤b.length:=by
 suffices h:∀(n:Nat) (b:List UInt8),b.length≤n→(sp.linesS b).length≤b.length+1∧∀s∈sp.linesS b,s.length≤b.length from h _ b (Nat.le_refl _)
 intro n
 induction n with
 | zero =>
  intro b hb
  obtain rfl:b = []:=List.eq_nil_of_length_eq_zero (by omega)
  rw [sp.lines_nil]
  simp
 | succ n ih =>
  intro b hb
  by_cases hm:(10:UInt8)∈b
  ·obtain ⟨a,r,rfl,hn⟩:=cut_nl hm
   rw [sp.lines_cut hn]
   obtain ⟨h1,h2⟩:=ih r (by simp at hb;omega)
   refine ⟨by simp;omega,fun s hs => ?_⟩
   rcases List.mem_cons.1 hs with rfl | hs
   ·simp
   ·have:=h2 s hs
    simp
    omega
  ·by_cases h0:b = []
   ·subst h0;rw [sp.lines_nil];simp
   ·rw [sp.lines_last hm h0]
    simp
theorem LineR.step {w:World} {b:Nat} {s:ByteArray} {c:UInt8} {r:List UInt8} (h:LineR w b s (c :: r)):∃n:Nat,w.cell? ⟨b,1,none⟩=some (.int .i64 n)∧w.frozen? ⟨b,1,none⟩=false∧n<s.size∧LineR (w.setCell ⟨b,1,none⟩ (.int .i64 ((n:Int)+1))) b s r:=by
 obtain ⟨p,h1,h2⟩:=h
 refine ⟨p.length,by rw [Lib.cell_of_heap h2];rfl,blk_free h2 1,by have:=line_size h1;simp at this;omega,p++[c],by rw [h1];simp,?_⟩
 have:=blk_set h2 1 (.int .i64 ((p.length:Int)+1))
 rw [this]
 simp
structure WordsR (w:World) (b:Nat) (s:ByteArray) (u:List UInt8) (l:List (List UInt8×Bool)) (v:Value) (r:List UInt8) (wr:World):Prop where
 line:LineR wr b s r
 own:wr.ownsRow w.heap.size 71 2 v l.length (wdCells l)
 fr:Fr w wr b none
 hb:b<w.heap.size
 eq:sp.words u=(sp.words r).map fun m=>l++m
 len:l.length+r.length≤s.size
section
variable {w wr w':World} {b:Nat} {s:ByteArray} {u r r':List UInt8} {l:List (List UInt8×Bool)} {v:Value}
theorem WordsR.move (h:WordsR w b s u l v r wr) (hl:LineR w' b s r') (hf:Fr wr w' b none) (he:sp.words r=sp.words r') (hn:r'.length≤r.length):WordsR w b s u l v r' w' :=
 ⟨hl,ownsRow_fr h.own hf h.hb,h.fr.trans hf (Own.refl _ _),h.hb,by rw [h.eq,he],by have:=h.len;omega⟩
theorem WordsR.below (h:WordsR w b s u l v r wr) (hb:Below wr.heap.size wr w'):WordsR w b s u l v r w':=h.move (h.line.below hb) (Fr.of_below hb) rfl (Nat.le_refl _)
end
structure WordsM (w:World) (b:Nat) (s:ByteArray) (u:List UInt8) (l:List (List UInt8×Bool)) (v:Value) (p:List UInt8×Bool) (r:List UInt8) (wr:World):Prop where
 line:LineR wr b s r
 own:wr.ownsRow w.heap.size 71 2 v l.length (wdCells l)
 fr:Fr w wr b none
 hb:b<w.heap.size
 eq:sp.words u=if r.head?=none∨r.head?=some 32 then (sp.words r).map fun m=>l++p :: m else none
 len:l.length+1+r.length≤s.size
section
variable {w wr w':World} {b:Nat} {s:ByteArray} {u r r' t:List UInt8} {l:List (List UInt8×Bool)} {v:Value} {p:List UInt8×Bool}
theorem WordsR.quoted {r2:List UInt8} (h:WordsR w b s u l v (34 :: r2) wr) (hq:sp.qread r2=some (t,r')) (hl:LineR w' b s r') (hf:Fr wr w' b none):WordsM w b s u l v (t,true) r' w':=by
 have hn:=sp.qread_shorter _ _ hq
 refine ⟨hl,ownsRow_fr h.own hf h.hb,h.fr.trans hf (Own.refl _ _),h.hb,?_,by have:=h.len;simp only [List.length_cons] at this;simp only at hn;omega⟩
 rw [h.eq,words_q_some hq]
 split
 ·rw [Option.map_map];rfl
 ·rfl
theorem WordsR.plain {c:UInt8} {r2:List UInt8} (h:WordsR w b s u l v (c :: r2) wr) (h1:c≠32) (h2:c≠34) (hl:LineR w' b s ((c :: r2).dropWhile sp.wordB)) (hf:Fr wr w' b none):WordsM w b s u l v ((c :: r2).takeWhile sp.wordB,false) ((c :: r2).dropWhile sp.wordB) w':=by
 have hcw:sp.wordB c=true:=by simp [sp.wordB,h1,h2]
 have hle:((c :: r2).dropWhile sp.wordB).length≤r2.length:=by
  rw [List.dropWhile_cons,if_pos hcw]
  exact (List.dropWhile_sublist sp.wordB).length_le
 refine ⟨hl,ownsRow_fr h.own hf h.hb,h.fr.trans hf (Own.refl _ _),h.hb,?_,by have:=h.len;simp only [List.length_cons] at this;omega⟩
 rw [h.eq,words_p h1 h2]
 have hhd:((c :: r2).dropWhile sp.wordB).head?=none∨((c :: r2).dropWhile sp.wordB).head?=some 32∨((c :: r2).dropWhile sp.wordB).head?=some 34:=by
  have:=List.head?_dropWhile_not sp.wordB (c :: r2)
  cases he:((c :: r2).dropWhile sp.wordB).head? with
  | none=>exact .inl rfl
  | some x =>
   rw [he] at this
   have hx:sp.wordB x=false:=by simpa using this
   right
   by_cases q:x=32
   ·rw [q];exact .inl rfl
   ·right
    have:x=34:=by
     unfold sp.wordB at hx
     simp [q] at hx
     exact hx
    rw [this]
 rcases hhd with e | e | e
 ·rw [e];simp [Function.comp_def]
 ·rw [e];simp [Function.comp_def]
 ·rw [e];simp
theorem WordsM.lay {v':Value} (h:WordsM w b s u l v p r wr) (hown:w'.ownsRow w.heap.size 71 2 v' (l++[p]).length (wdCells (l++[p]))) (hg:(wr.alloc (.cells #[.string (bstr p.1),.bool p.2] 71)).grownBy w' v.ownBlock) (hh:r.head?=none∨r.head?=some 32):WordsR w b s u (l++[p]) v' r w':=by
 have hsz:=h.fr.size
 have old:∀k,k<w.heap.size→w'.heap[k]?=wr.heap[k]?:=fun k hk=>by
  rw [hg.block k (by simp;omega) (fun e=>by have:=h.own.lt k e.symm;omega),Below.heap_alloc _ _ _ (by omega)]
 refine ⟨h.line.keep (old b h.hb),hown,⟨hg.os.trans h.fr.os,hg.tape.trans h.fr.tape,hg.output.trans h.fr.output,?_,fun k hk hb hn=>(old k hk).trans (h.fr.block k hk hb hn)⟩,h.hb,?_,?_⟩
 ·have:=hg.size;simp at this;omega
 ·rw [h.eq,if_pos hh];simp
 ·have:=h.len;rw [List.length_append];simp;omega
theorem WordsM.after (h:WordsM w b s u l v p r wr) (hg:(wr.alloc (.cells #[.string (bstr p.1),.bool p.2] 71)).grownBy w' v.ownBlock):LineR w' b s r∧Fr w w' b none:=by
 have hsz:=h.fr.size
 have old:∀k,k<w.heap.size→w'.heap[k]?=wr.heap[k]?:=fun k hk=>by
  rw [hg.block k (by simp;omega) (fun e=>by have:=h.own.lt k e.symm;omega),Below.heap_alloc _ _ _ (by omega)]
 exact ⟨h.line.keep (old b h.hb),⟨hg.os.trans h.fr.os,hg.tape.trans h.fr.tape,hg.output.trans h.fr.output,by have:=hg.size;simp at this;omega,fun k hk hb hn=>(old k hk).trans (h.fr.block k hk hb hn)⟩⟩
theorem WordsM.bad (h:WordsM w b s u l v p r wr) (hh:¬(r.head?=none∨r.head?=some 32)):sp.words u=none:=by rw [h.eq,if_neg hh]
end
def WordsIs (w w':World) (u:List UInt8) (e:Ending):Prop:=match sp.words u with
 | some l=>∃v,e=.returned v∧w'.ownsRow w.heap.size 71 2 v l.length (wdCells l)
 | none=>e=.panicked bar
set_option maxRecDepth 100000 in
set_option maxHeartbeats 4000000 in
theorem words_any (w:World) (b:Nat) (s:ByteArray) (u:List UInt8) (h:LineR w b s u) (hs:s.size≤1099511627776):Calls Tryz.prog 26 #[.pointer (some ⟨b,0,none⟩)] w fun e w'=>WordsIs w w' u e∧Fr w w' b none:=by
 have HS:=Lib.hid hs
 have HR:Hid (WordsR w b s u [] (.slice none 0 0) u w):=Lib.hid ⟨h,World.ownsRow_nil _ _ _ _,Fr.refl _ _ _,h.lt,by cases sp.words u<;>simp,by have:=h.len;simpa using this⟩
 clear h hs
 go_enter Tryz.func26,Tryz.ntmps26
 go_wp2
 go_loopw [3] (fun v wr=>∃l r,WordsR w b s u l v r wr) (fun _ wr=>leftOf wr b s)
 case atStart=>exact ⟨[],u,HR.out⟩
 case round =>
  obtain ⟨l,r,hr⟩:=hrel
  have HR1:=Lib.hid hr
  clear hr HR
  obtain ⟨c0,o0,hpv,hc0,ho0⟩:=peekV_ex r
  have HPV:=Lib.hid hpv;have HC0:=Lib.hid hc0;have HO0:=Lib.hid ho0
  have HP:=Lib.hid (peek_any wr b s r HR1.out.line)
  clear hpv hc0 ho0
  go_wp2_with (go_at_call 46;refine HP.out.mono ?_;rintro e w1 ⟨rfl,hb1⟩;rw [HPV.out])
  have HR2:=Lib.hid (HR1.out.below hb1)
  have HLF:Hid (leftOf wr b s=r.length):=Lib.hid HR1.out.line.left
  clear HR1 HP hb1
  obtain ⟨wo,hwo⟩:∃wo,wo=wr:=⟨_,rfl⟩
  subst hwo
  go_loopw [4,5] (fun c ok w2=>∃r1,WordsR w b s u l u3 r1 w2∧r1.length≤r.length∧c=.int .u8 (peekC r1)∧ok=.bool (peekB r1)) (fun _ _ w2=>leftOf w2 b s)
  case atStart=>exact ⟨r,HR2.out,Nat.le_refl _,by rw [HC0.out],by rw [HO0.out]⟩
  case round =>
   obtain ⟨r1,hr,hle,rfl,rfl⟩:=hrel
   have HR3:=Lib.hid hr;have HLE:=Lib.hid hle
   have HP:=Lib.hid (peek_any wr b s r1 HR3.out.line)
   clear hr hle HR2 HC0 HO0 HPV
   match r1 with
   | [] =>
    simp only [peekC,peekB]
    have HW:Hid (sp.words u=some l):=Lib.hid (by rw [HR3.out.eq,sp.words_nil];simp)
    go_wp2_with (go_at_call 46;refine HP.out.mono ?_;rintro e w2 ⟨rfl,hb2⟩;simp only [peekV])
    go_ret
    have HR4:=HR3.out.below hb2
    refine ⟨?_,HR4.fr⟩
    unfold WordsIs
    rw [HW.out]
    exact ⟨_,rfl,HR4.own⟩
   | c :: r2 =>
    simp only [peekC,peekB]
    by_cases e32:c=32
    ·subst e32
     obtain ⟨n,d1,z1,hn,hl2⟩:=HR3.out.line.step
     have hn63:(n:Int)≤1099511627776:=by have:=HS.out;omega
     have HR4:=Lib.hid (HR3.out.move hl2 (Fr.set 1 _) (sp.words_space r2) (by simp))
     have HP2:=Lib.hid (peek_any _ b s _ HR4.out.line)
     have HLN:Hid (r2.length≤r.length):=Lib.hid (by have:=HLE.out;simp at this;omega)
     obtain ⟨c1',o1,hpv,hc1,ho1⟩:=peekV_ex r2
     have HPV:=Lib.hid hpv;have HC0:=Lib.hid hc1;have HO0:=Lib.hid ho1
     clear hpv hc1 ho1 hl2 hn HP
     go_wp2_with (go_at_call 46;refine HP2.out.mono ?_;rintro e w2 ⟨rfl,hb2⟩;rw [HPV.out])
     have HR5:=HR4.out.below hb2
     refine ⟨⟨r2,HR5,HLN.out,by rw [HC0.out];rfl,by rw [HO0.out];rfl⟩,?_⟩
     rw [HR5.line.left,HR3.out.line.left]
     simp
    ·have t1':((c.toNat:Int)==32)=false:=u8ne c 32 e32
     by_cases e34:c=34
     ·subst e34
      cases hq:sp.qread r2 with
      | none =>
       have HW:Hid (sp.words u=none):=Lib.hid (by rw [HR3.out.eq,words_q_none hq];rfl)
       have HQ:=Lib.hid hq
       clear hq
       go_wp2_with (first
        | (go_at_call 46;refine HP.out.mono ?_;rintro e w2 ⟨rfl,hb2⟩;simp only [peekV];have HR4:=Lib.hid (HR3.out.below hb2);clear HP hb2)
        | (go_at_call 47;refine (text_word _ b s 34 r2 HR4.out.line HS.out).mono ?_;rintro e w3 ⟨he,hf3⟩;unfold QIs at he;rw [HQ.out] at he;subst he))
       exact ⟨rfl,by unfold WordsIs;rw [HW.out],HR4.out.fr.trans hf3 (Own.refl _ _)⟩
      | some q =>
       obtain ⟨t,r3⟩:=q
       have HQ:=Lib.hid hq
       clear hq
       go_wp2_with (first
        | (go_at_call 46;refine HP.out.mono ?_;rintro e w2 ⟨rfl,hb2⟩;simp only [peekV];have HR4:=Lib.hid (HR3.out.below hb2);clear HP hb2)
        | (go_at_call 47;refine (text_word _ b s 34 r2 HR4.out.line HS.out).mono ?_;rintro e w3 ⟨he,hf3⟩;unfold QIs at he;rw [HQ.out] at he;obtain ⟨rfl,hl3⟩:=he;have HM:=Lib.hid (HR4.out.quoted HQ.out hl3 hf3);clear hl3 hf3)
        | (at_builtin;refine wpl_append_wd wt58 rfl _ _ rfl w.heap.size l _ rfl (HM.out.own.alloc _) w3.heap.size (t,true) (0,0) rfl (heap_alloc_at _ _) (by have:=HM.out.len;have:=HS.out;omega) (by have:=HM.out.fr.size;simp;omega) ?_;intro v' w4 hown hg _))
       have HN:Hid (r3.length≤r2.length):=Lib.hid (by have:=sp.qread_shorter _ _ HQ.out;simp only at this;omega)
       have HO:=Lib.hid hown;have HG:Hid ((w3.alloc (.cells #[.string (bstr (t,true).1),.bool (t,true).2] 71)).grownBy w4 u3.ownBlock):=Lib.hid hg
       have HA:=Lib.hid (HM.out.after HG.out)
       have HP3:=Lib.hid (peek_any _ b s _ HA.out.1)
       clear hown hg
       match r3 with
       | [] =>
        go_wp2_with (go_at_call 46;refine HP3.out.mono ?_;rintro e w5 ⟨rfl,hb5⟩;simp only [peekV])
        have HR6:=(HM.out.lay HO.out HG.out (Or.inl rfl)).below hb5
        refine ⟨⟨_,_,HR6⟩,?_⟩
        rw [HR6.line.left,HLF.out]
        have:=HLE.out
        simp only [List.length_cons,List.length_nil] at this ⊢
        omega
       | c4 :: r4 =>
        by_cases e4:c4=32
        ·subst e4
         go_wp2_with (go_at_call 46;refine HP3.out.mono ?_;rintro e w5 ⟨rfl,hb5⟩;simp only [peekV])
         have HR6:=(HM.out.lay HO.out HG.out (Or.inr rfl)).below hb5
         refine ⟨⟨_,_,HR6⟩,?_⟩
         rw [HR6.line.left,HLF.out]
         have:=HLE.out
         have:=HN.out
         simp only [List.length_cons] at *
         omega
        ·have t4:((c4.toNat:Int)==32)=false:=u8ne c4 32 e4
         have t4n:((c4.toNat:Int) != 32)=true:=by rw [bne,t4];rfl
         have HW:Hid (sp.words u=none):=Lib.hid (HM.out.bad (by simp [e4]))
         clear e4
         go_wp2_with (go_at_call 46;refine HP3.out.mono ?_;rintro e w5 ⟨rfl,hb5⟩;simp only [peekV])
         exact ⟨rfl,by unfold WordsIs;rw [HW.out];exact rfl,HA.out.2.trans (Fr.of_below hb5) (Own.refl _ _)⟩
     ·have t2':((c.toNat:Int)==34)=false:=u8ne c 34 e34
      obtain ⟨t,ht⟩:∃t,t=(c :: r2).takeWhile sp.wordB:=⟨_,rfl⟩
      obtain ⟨r3,hr3⟩:∃r3,r3=(c :: r2).dropWhile sp.wordB:=⟨_,rfl⟩
      have HC:=Lib.hid (And.intro e32 e34)
      have HN:Hid (r3.length≤r2.length):=Lib.hid (by
       have hcw:sp.wordB c=true:=by simp [sp.wordB,e32,e34]
       rw [hr3,List.dropWhile_cons,if_pos hcw]
       exact (List.dropWhile_sublist sp.wordB).length_le)
      have HT:=Lib.hid ht;have HRR:=Lib.hid hr3
      have HPW:Hid (∀W,LineR W b s (c :: r2)→Calls Tryz.prog 48 #[.pointer (some ⟨b,0,none⟩)] W fun e w'=>e=.returned (.string (bstr t))∧LineR w' b s r3∧Fr W w' b none):=Lib.hid (fun W hW=>by rw [ht,hr3];exact plain_word W b s _ hW HS.out)
      clear ht hr3 e32 e34
      go_wp2_with (first
        | (go_at_call 46;refine HP.out.mono ?_;rintro e w2 ⟨rfl,hb2⟩;simp only [peekV];have HR4:=Lib.hid (HR3.out.below hb2);clear HP hb2)
        | (go_at_call 48;refine (HPW.out _ HR4.out.line).mono ?_;rintro e w3 ⟨rfl,hl3,hf3⟩;have HM:Hid (WordsM w b s u l u3 (t,false) r3 w3):=Lib.hid (by rw [HT.out,HRR.out];exact HR4.out.plain HC.out.1 HC.out.2 (by rw [←HRR.out];exact hl3) hf3);clear hl3 hf3)
        | (at_builtin;refine wpl_append_wd wt58 rfl _ _ rfl w.heap.size l _ rfl (HM.out.own.alloc _) w3.heap.size (t,false) (0,0) rfl (heap_alloc_at _ _) (by have:=HM.out.len;have:=HS.out;omega) (by have:=HM.out.fr.size;simp;omega) ?_;intro v' w4 hown hg _))
      have HO:=Lib.hid hown;have HG:Hid ((w3.alloc (.cells #[.string (bstr (t,false).1),.bool (t,false).2] 71)).grownBy w4 u3.ownBlock):=Lib.hid hg
      have HA:=Lib.hid (HM.out.after HG.out)
      have HP3:=Lib.hid (peek_any _ b s _ HA.out.1)
      clear hown hg
      match r3 with
      | [] =>
       go_wp2_with (go_at_call 46;refine HP3.out.mono ?_;rintro e w5 ⟨rfl,hb5⟩;simp only [peekV])
       have HR6:=(HM.out.lay HO.out HG.out (Or.inl rfl)).below hb5
       refine ⟨⟨_,_,HR6⟩,?_⟩
       rw [HR6.line.left,HLF.out]
       have:=HLE.out
       simp only [List.length_cons,List.length_nil] at this ⊢
       omega
      | c4 :: r4 =>
       by_cases e4:c4=32
       ·subst e4
        go_wp2_with (go_at_call 46;refine HP3.out.mono ?_;rintro e w5 ⟨rfl,hb5⟩;simp only [peekV])
        have HR6:=(HM.out.lay HO.out HG.out (Or.inr rfl)).below hb5
        refine ⟨⟨_,_,HR6⟩,?_⟩
        rw [HR6.line.left,HLF.out]
        have:=HLE.out
        have:=HN.out
        simp only [List.length_cons] at *
        omega
       ·have t4:((c4.toNat:Int)==32)=false:=u8ne c4 32 e4
        have t4n:((c4.toNat:Int) != 32)=true:=by rw [bne,t4];rfl
        have HW:Hid (sp.words u=none):=Lib.hid (HM.out.bad (by simp [e4]))
        clear e4
        go_wp2_with (go_at_call 46;refine HP3.out.mono ?_;rintro e w5 ⟨rfl,hb5⟩;simp only [peekV])
        exact ⟨rfl,by unfold WordsIs;rw [HW.out];exact rfl,HA.out.2.trans (Fr.of_below hb5) (Own.refl _ _)⟩
/-! ### The map of the rows, with its second answer -/
theorem MapIs.lookOk_some {w:World} {B:Nat} {f:List (List UInt8×Rw)} (h:MapIs w B f) {x:List UInt8} {b:Rw} (hx:(x,b)∈f):(Instr.lookup 67 (.map (some B)) (.string (bstr x)) true).run Tryz.prog w=.ok (.tuple #[b.v,.bool true]) w:=by
 obtain ⟨D,h1,hr⟩:=h.own
 obtain ⟨v,ps,hrun,hv⟩:=h1.look_ok keyed Tryz.underlying67 (Tryz.zeroValue65 w) (zd:=.nil) (zp:=[]) rfl (keyOf_ok (h.wf _ hx))
 have hh:Maps.has D (KL x)=true:=(hr.has _).2 ⟨(x,b),hx,rfl⟩
 rw [hr.at_ x b hx] at hv
 rw [hrun,rowE_at hv,hh]
theorem MapIs.lookOk_none {w:World} {B:Nat} {f:List (List UInt8×Rw)} (h:MapIs w B f) {x:List UInt8} (hi:x.length≤maxLen) (hx:x∉f.map (·.1)):(Instr.lookup 67 (.map (some B)) (.string (bstr x)) true).run Tryz.prog w=.ok (.tuple #[noRow,.bool false]) w:=by
 obtain ⟨D,h1,hr⟩:=h.own
 obtain ⟨v,ps,hrun,hv⟩:=h1.look_ok keyed Tryz.underlying67 (Tryz.zeroValue65 w) (zd:=.nil) (zp:=[]) rfl (keyOf_ok hi)
 have hno:Maps.has D (KL x)=false:=by
  cases hh:Maps.has D (KL x) with
  | false=>rfl
  | true =>
   obtain ⟨p,hp,e⟩:=(hr.has _).1 hh
   simp only [KL,Lit.string.injEq] at e
   exact absurd (e ▸ List.mem_map_of_mem (f:=(·.1)) hp) hx
 rw [Maps.atKey_of_not_has hno] at hv
 rw [hrun,rowE_nil hv,hno]
/-! ### The rows' functions in one law -/
theorem row_any (name:List UInt8) (r:Rw) (hr:(name,r)∈rowsL) (a:List (List UInt8×Bool)) (hn:(a.length:Int)=r.n) (ad:Option Addr) (c:Nat) (w0 w:World) (B g:Nat) (had:0<a.length→ad=some ⟨g,2,none⟩) (hl:∀p∈a,p.1.length≤1099511627776) (h:RowS w0 B g a (zeroC r.k) w) :
  Calls Tryz.prog r.g #[.pointer (some ⟨B,0,none⟩),.slice ad a.length c] w fun e w'=>RowIs w0 B (sp.opS name a) e w':=by
 simp only [rowsL,List.mem_cons,List.not_mem_nil,or_false,Prod.mk.injEq] at hr
 rcases hr with ⟨rfl,rfl⟩ | ⟨rfl,rfl⟩ | ⟨rfl,rfl⟩ | ⟨rfl,rfl⟩ | ⟨rfl,rfl⟩ | ⟨rfl,rfl⟩ | ⟨rfl,rfl⟩ | ⟨rfl,rfl⟩ | ⟨rfl,rfl⟩ | ⟨rfl,rfl⟩ | ⟨rfl,rfl⟩ | ⟨rfl,rfl⟩ | ⟨rfl,rfl⟩ | ⟨rfl,rfl⟩ | ⟨rfl,rfl⟩
 all_goals simp only at hn h
 ·obtain ⟨x,y,rfl⟩:∃x y,a = [x,y]:=by
   match a,hn with
   | [x,y],_=>exact ⟨x,y,rfl⟩
  obtain rfl:=had (by simp)
  exact row_sheet 1 w0 w B g c x y (hl _ (by simp)) h
 ·obtain ⟨x,y,rfl⟩:∃x y,a = [x,y]:=by
   match a,hn with
   | [x,y],_=>exact ⟨x,y,rfl⟩
  obtain rfl:=had (by simp)
  exact row_view 2 w0 w B g c x y (hl _ (by simp)) (hl _ (by simp)) h
 ·obtain ⟨x,rfl⟩:∃x,a = [x]:=by
   match a,hn with
   | [x],_=>exact ⟨x,rfl⟩
  obtain rfl:=had (by simp)
  exact (row_size 3 w0 w B g c x (hl _ (by simp)) h).mono fun e w' q=>by
   have e2:(sp.wFrac x).map (fun q=>({ kind:=3,w:=q }:sp.Op))=(sp.wFrac x).bind fun p=>some { kind:=3,w:=p }:=by cases sp.wFrac x<;>rfl
   rw [e2] at q
   exact q
 ·obtain ⟨x,rfl⟩:∃x,a = [x]:=by
   match a,hn with
   | [x],_=>exact ⟨x,rfl⟩
  obtain rfl:=had (by simp)
  exact (row_size 13 w0 w B g c x (hl _ (by simp)) h).mono fun e w' q=>by
   have e2:(sp.wFrac x).map (fun q=>({ kind:=13,w:=q }:sp.Op))=(sp.wFrac x).bind fun p=>some { kind:=13,w:=p }:=by cases sp.wFrac x<;>rfl
   rw [e2] at q
   exact q
 ·obtain ⟨x,rfl⟩:∃x,a = [x]:=by
   match a,hn with
   | [x],_=>exact ⟨x,rfl⟩
  obtain rfl:=had (by simp)
  exact row_print 14 w0 w B g c x h
 ·obtain ⟨x,y,rfl⟩:∃x y,a = [x,y]:=by
   match a,hn with
   | [x,y],_=>exact ⟨x,y,rfl⟩
  obtain rfl:=had (by simp)
  exact row_word 4 w0 w B g c x y h
 ·obtain ⟨x,y,z,rfl⟩:∃x y z,a = [x,y,z]:=by
   match a,hn with
   | [x,y,z],_=>exact ⟨x,y,z,rfl⟩
  obtain rfl:=had (by simp)
  exact row_insert 5 w0 w B g c x y z h
 ·obtain ⟨x,rfl⟩:∃x,a = [x]:=by
   match a,hn with
   | [x],_=>exact ⟨x,rfl⟩
  obtain rfl:=had (by simp)
  exact (row_node 6 w0 w B g c x h).mono fun e w' q=>by
   have e2:(sp.wNum x).map (fun n=>({ kind:=6,node:=n }:sp.Op))=(sp.wNum x).bind fun n=>some { kind:=6,node:=n }:=by cases sp.wNum x<;>rfl
   rw [e2] at q
   exact q
 ·obtain ⟨x,y,z,rfl⟩:∃x y z,a = [x,y,z]:=by
   match a,hn with
   | [x,y,z],_=>exact ⟨x,y,z,rfl⟩
  obtain rfl:=had (by simp)
  exact row_set 7 w0 w B g c x y z h
 ·obtain ⟨x,y,rfl⟩:∃x y,a = [x,y]:=by
   match a,hn with
   | [x,y],_=>exact ⟨x,y,rfl⟩
  obtain rfl:=had (by simp)
  exact row_named 8 w0 w B g c x y h
 ·obtain ⟨x,y,z,u,v,rfl⟩:∃x y z u v,a = [x,y,z,u,v]:=by
   match a,hn with
   | [x,y,z,u,v],_=>exact ⟨x,y,z,u,v,rfl⟩
  obtain rfl:=had (by simp)
  exact row_box 9 w0 w B g c x y z u v (hl _ (by simp)) (hl _ (by simp)) h
 ·obtain ⟨x,y,rfl⟩:∃x y,a = [x,y]:=by
   match a,hn with
   | [x,y],_=>exact ⟨x,y,rfl⟩
  obtain rfl:=had (by simp)
  exact row_named 10 w0 w B g c x y h
 ·obtain ⟨x,y,rfl⟩:∃x y,a = [x,y]:=by
   match a,hn with
   | [x,y],_=>exact ⟨x,y,rfl⟩
  obtain rfl:=had (by simp)
  exact row_named 11 w0 w B g c x y h
 ·obtain ⟨x,rfl⟩:∃x,a = [x]:=by
   match a,hn with
   | [x],_=>exact ⟨x,rfl⟩
  obtain rfl:=had (by simp)
  exact (row_node 12 w0 w B g c x h).mono fun e w' q=>by
   have e2:(sp.wNum x).map (fun n=>({ kind:=12,node:=n }:sp.Op))=(sp.wNum x).bind fun n=>some { kind:=12,node:=n }:=by cases sp.wNum x<;>rfl
   rw [e2] at q
   exact q
 ·obtain rfl:a = []:=List.length_eq_zero_iff.1 (by omega)
  exact row_count 15 w0 w B g c ad h
theorem qread_len (n:Nat):∀r:List UInt8,r.length≤n→∀t u,sp.qread r=some (t,u)→t.length+u.length<r.length:=by
 induction n with
 | zero =>
  intro r hr t u h
  obtain rfl:=List.length_eq_zero_iff.1 (Nat.le_zero.1 hr)
  rw [sp.qread_nil] at h
  cases h
 | succ n ih =>
  intro r hr t u h
  match r with
  | []=>rw [sp.qread_nil] at h;cases h
  | c :: r =>
   by_cases h1:c=34
   ·subst h1
    rw [sp.qread_end] at h
    cases h
    simp
   ·by_cases h2:c=92
    ·subst h2
     rw [qread_esc] at h
     cases he:escS r with
     | none=>rw [he] at h;cases h
     | some q =>
      obtain ⟨d,v⟩:=q
      rw [he] at h
      have hl:=escS_len he
      simp only [Option.bind_some,Option.map_eq_some_iff,Prod.mk.injEq] at h
      obtain ⟨⟨t1,u1⟩,h3,rfl,rfl⟩:=h
      have:=ih v (by simp only [List.length_cons] at hr;omega) t1 u1 h3
      simp only [List.length_cons] at *
      omega
    ·rw [sp.qread_plain h1 h2] at h
     simp only [Option.map_eq_some_iff,Prod.mk.injEq] at h
     obtain ⟨⟨t1,u1⟩,h3,rfl,rfl⟩:=h
     have:=ih r (by simp only [List.length_cons] at hr;omega) t1 u1 h3
     simp only [List.length_cons] at *
     omega
theorem words_len (n:Nat):∀s:List UInt8,s.length≤n→∀l,sp.words s=some l→(∀p∈l,p.1.length≤s.length)∧l.length≤s.length:=by
 induction n with
 | zero =>
  intro r hr l h
  obtain rfl:=List.length_eq_zero_iff.1 (Nat.le_zero.1 hr)
  rw [sp.words_nil] at h
  cases h
  exact ⟨fun p hp=>(by cases hp),Nat.le_refl _⟩
 | succ n ih =>
  intro r hr l h
  match r with
  | []=>rw [sp.words_nil] at h;cases h;exact ⟨fun p hp=>(by cases hp),Nat.le_refl _⟩
  | c :: r =>
   have hr':r.length≤n:=by simp only [List.length_cons] at hr;omega
   by_cases h1:c=32
   ·subst h1
    rw [sp.words_space] at h
    obtain ⟨a,b⟩:=ih r hr' l h
    exact ⟨fun p hp=>by have:=a p hp;simp only [List.length_cons];omega,by simp only [List.length_cons];omega⟩
   ·by_cases h2:c=34
    ·subst h2
     cases hq:sp.qread r with
     | none=>rw [words_q_none hq] at h;cases h
     | some q =>
      obtain ⟨t,u⟩:=q
      have hl:=qread_len _ r (Nat.le_refl _) t u hq
      rw [words_q_some hq] at h
      split at h
      ·simp only [Option.map_eq_some_iff] at h
       obtain ⟨m,hm,rfl⟩:=h
       obtain ⟨a,b⟩:=ih u (by omega) m hm
       refine ⟨fun p hp => ?_,by simp only [List.length_cons];omega⟩
       simp only [List.length_cons]
       rcases List.mem_cons.1 hp with rfl | hp
       ·simp only;omega
       ·have:=a p hp;omega
      ·cases h
    ·rw [words_p h1 h2] at h
     split at h
     ·cases h
     ·simp only [Option.map_eq_some_iff] at h
      obtain ⟨m,hm,rfl⟩:=h
      have hcw:sp.wordB c=true:=by simp [sp.wordB,h1,h2]
      have e:=List.takeWhile_append_dropWhile (p:=sp.wordB) (l:=c :: r)
      have e2:=congrArg List.length e
      rw [List.length_append] at e2
      have e3:((c :: r).takeWhile sp.wordB).length=(r.takeWhile sp.wordB).length+1:=by rw [List.takeWhile_cons,if_pos hcw];rfl
      simp only [List.length_cons] at e2
      obtain ⟨a,b⟩:=ih ((c :: r).dropWhile sp.wordB) (by omega) m hm
      refine ⟨fun p hp => ?_,by simp only [List.length_cons];omega⟩
      simp only [List.length_cons]
      rcases List.mem_cons.1 hp with rfl | hp
      ·simp only;omega
      ·have:=a p hp;omega
theorem line_nl {s:List UInt8} (h:10∈s):sp.lineS s=none:=by unfold sp.lineS;rw [if_pos h]
theorem line_silent {s:List UInt8} (h:10∉s) (h2:sp.silentB s=true):sp.lineS s=some none:=by unfold sp.lineS;rw [if_neg h,if_pos h2]
theorem line_words {s:List UInt8} (h:10∉s) (h2:sp.silentB s=false):sp.lineS s=match sp.words s with | some ((w,false) :: a)=>(sp.opS w a).map some | _=>none:=by
 unfold sp.lineS
 rw [if_neg h,if_neg (by rw [h2];decide)]
 rfl
theorem words_some_ne {s:List UInt8} (h2:sp.silentB s=false):sp.words s≠some []:=by
 intro e
 rw [sp.words.eq_def] at e
 split at e
 ·rename_i h
  unfold sp.silentB at h2
  rw [h] at h2
  cases h2
 ·split at e
  ·split at e
   ·cases e
   ·split at e
    ·rw [Option.map_eq_some_iff] at e
     obtain ⟨_,_,h⟩:=e
     cases h
    ·cases e
  ·split at e
   ·cases e
   ·rw [Option.map_eq_some_iff] at e
    obtain ⟨_,_,h⟩:=e
    cases h
theorem op_unknown {name:List UInt8} (h:name∉rowsL.map (·.1)) (a:List (List UInt8×Bool)):sp.opS name a=none:=by
 simp only [rowsL,List.map_cons,List.map_nil,List.mem_cons,List.not_mem_nil,or_false,not_or] at h
 obtain ⟨h1,h2,h3,h4,h5,h6,h7,h8,h9,h10,h11,h12,h13,h14,h15⟩:=h
 unfold sp.opS
 rw [if_neg h1,if_neg h2,if_neg h3,if_neg h4,if_neg h5,if_neg h6,if_neg h7,if_neg h8,if_neg h9,if_neg h10,if_neg h11,if_neg h12,if_neg h13,if_neg h14,if_neg h15]
theorem op_count {name:List UInt8} {r:Rw} (hr:(name,r)∈rowsL) {a:List (List UInt8×Bool)} (hn:(a.length:Int)≠r.n):sp.opS name a=none:=by
 simp only [rowsL,List.mem_cons,List.not_mem_nil,or_false,Prod.mk.injEq] at hr
 rcases hr with ⟨rfl,rfl⟩ | ⟨rfl,rfl⟩ | ⟨rfl,rfl⟩ | ⟨rfl,rfl⟩ | ⟨rfl,rfl⟩ | ⟨rfl,rfl⟩ | ⟨rfl,rfl⟩ | ⟨rfl,rfl⟩ | ⟨rfl,rfl⟩ | ⟨rfl,rfl⟩ | ⟨rfl,rfl⟩ | ⟨rfl,rfl⟩ | ⟨rfl,rfl⟩ | ⟨rfl,rfl⟩ | ⟨rfl,rfl⟩
 all_goals
  match a,hn with
  | [],hn=>first | rfl | exact absurd rfl hn
  | [_],hn=>first | rfl | exact absurd rfl hn
  | [_,_],hn=>first | rfl | exact absurd rfl hn
  | [_,_,_],hn=>first | rfl | exact absurd rfl hn
  | [_,_,_,_],hn=>first | rfl | exact absurd rfl hn
  | [_,_,_,_,_],hn=>first | rfl | exact absurd rfl hn
  | _ :: _ :: _ :: _ :: _ :: _ :: _,hn=>rfl
def capL (n:Nat):Array Value:=#[.pointer (some ⟨n,0,none⟩),.pointer (some ⟨n+1,0,none⟩),.pointer (some ⟨n+2,0,none⟩)]
def LineIs (B:Nat) (s:List UInt8) (w':World) (e:Ending):Prop:=match sp.lineS s with
 | none=>e=.returned (.tuple #[.agg (zeroC 0),.bool false,.int .i64 12])
 | some none=>e=.returned (.tuple #[.agg (zeroC 0),.bool false,.int .i64 0])
 | some (some o)=>∃tv,e=.returned (.tuple #[.agg (opCells o tv),.bool true,.int .i64 0])∧RowAt w'.heap.size w' tv o.text.length (Lib.byteCells o.text)∧∀x,tv.ownBlock=some x→B≤x
theorem und4':Tryz.prog.underlying 4=some .bool:=by kernel_rfl
theorem und29:Tryz.prog.underlying 29=some (.int .i64):=by kernel_rfl
set_option maxRecDepth 100000 in
theorem results_line {n:Nat} {tmps:Array Value} {W:World} {cs:Array Value} {sy:Bool} {er:Int} (hr:Res n (n+1) (n+2) cs sy er W) (hc:cs.size=18) (h2:tmps.getD 2 undef=.pointer (some ⟨n,0,none⟩)) (h3:tmps.getD 3 undef=.pointer (some ⟨n+1,0,none⟩)) (h4:tmps.getD 4 undef=.pointer (some ⟨n+2,0,none⟩)) :
  (results Tryz.f9 tmps).run Tryz.prog W=.ok (.tuple #[.agg cs,.bool sy,.int .i64 er]) W:=by
 have hl:=run_loadVar_row (P:=Tryz.prog) W n 28 28 cs (0,0) _ hr.op Tryz.underlying28 rfl (by rw [hc];exact size28')
 obtain ⟨c3,c4,_,_⟩:=hr.cells
 have e:Tryz.f9.results=#[.cell 2 28,.cell 3 4,.cell 4 29]:=rfl
 have l3:(loadVar 4 ⟨n+1,0,none⟩).run Tryz.prog W=.ok (.bool sy) W:=by
  unfold loadVar
  simp [Sem.run_bind,run_isAgg_plain und4' rfl,go_sem,c3,Result.andThen]
 have l4:(loadVar 29 ⟨n+2,0,none⟩).run Tryz.prog W=.ok (.int .i64 er) W:=by
  unfold loadVar
  simp [Sem.run_bind,run_isAgg_plain und29 rfl,go_sem,c4,Result.andThen]
 have h2':tmps[2]?.getD undef=.pointer (some ⟨n,0,none⟩):=by simpa using h2
 have h3':tmps[3]?.getD undef=.pointer (some ⟨n+1,0,none⟩):=by simpa using h3
 have h4':tmps[4]?.getD undef=.pointer (some ⟨n+2,0,none⟩):=by simpa using h4
 simp only [results,e]
 simp [Sem.run_bind,Result.andThen,h2',h3',h4',asAddr,hl,l3,l4]
structure SlotsL (n:Nat) (tmps:Array Value):Prop where
 s2:tmps.getD 2 undef=.pointer (some ⟨n,0,none⟩)
 s3:tmps.getD 3 undef=.pointer (some ⟨n+1,0,none⟩)
 s4:tmps.getD 4 undef=.pointer (some ⟨n+2,0,none⟩)
def defL (n:Nat):List Deferred:=[{ target:=.fn (.func 22) (capL n),args:=#[] }]
theorem ne12 (n:Nat):n≠n+1∧n≠n+2∧n+1≠n+2:=by omega
theorem leave_ok {n:Nat} {tmps:Array Value} {W:World} {cs:Array Value} {sy:Bool} {er:Int} {R:Ending→World→Prop} (hr:Res n (n+1) (n+2) cs sy er W) (hc:cs.size=18) (hs:SlotsL n tmps) (hR:R (.returned (.tuple #[.agg cs,.bool sy,.int .i64 er])) W) :
  Leaves Tryz.prog Tryz.f9 tmps R (defL n) .returning W:=by
 refine leaves_cons (f:=22) (args:=capL n) (by simp) (by simp [go_sem,capL]) ?_
 refine (line_idle _ _ _ W).mono ?_
 rintro e u' w'' ⟨rfl,rfl,rfl⟩
 exact ⟨_,results_line hr hc hs.s2 hs.s3 hs.s4,hR⟩
theorem leave_bar {n:Nat} {tmps:Array Value} {W:World} {cs:Array Value} {sy:Bool} {er:Int} {R:Ending→World→Prop} (hr:Res n (n+1) (n+2) cs sy er W) (hc:cs.size=18) (hs:SlotsL n tmps) (hR:∀W',Below n W W'→R (.returned (.tuple #[.agg (zeroC 0),.bool false,.int .i64 12])) W') :
  Leaves Tryz.prog Tryz.f9 tmps R (defL n) (.panicking bar) W:=by
 obtain ⟨n1,n2,n3⟩:=ne12 n
 refine leaves_cons (f:=22) (args:=capL n) (by simp) (by simp [go_sem,capL]) ?_
 refine (line_bar n (n+1) (n+2) cs sy er W hr hc n1 n2 n3).mono ?_
 rintro e u' w'' ⟨rfl,rfl,hr2,hb⟩
 exact ⟨_,results_line hr2 rfl hs.s2 hs.s3 hs.s4,hR _ (hb n (Nat.le_refl _) (by omega) (by omega))⟩
structure PanSt (n:Nat) (w:World) (c:List PanicEntry) (a:Act) (W:World):Prop where
 bar:c=bar
 defers:a.defers=defL n
 slots:SlotsL n a.tmps
 res:∃cs sy er,cs.size=18∧Res n (n+1) (n+2) cs sy er W
 bel:Below w.heap.size w W
theorem slot_put (a:Act) (d i:Nat) (v:Value) (h:d≠i):(a.put (some d) v).tmps.getD i undef=a.tmps.getD i undef:=by
 show (a.tmps.setIfInBounds d v).getD i undef=_
 simp [Array.getElem?_setIfInBounds,h]
theorem PanSt.unput {n:Nat} {w:World} {c:List PanicEntry} {a:Act} {W:World} {d:Nat} {v:Value} (h:PanSt n w c (a.put (some d) v) W) (hd:4<d):PanSt n w c a W :=
 ⟨h.bar,h.defers,⟨by rw [←slot_put a d 2 v (by omega)];exact h.slots.s2,by rw [←slot_put a d 3 v (by omega)];exact h.slots.s3,by rw [←slot_put a d 4 v (by omega)];exact h.slots.s4⟩,h.res,h.bel⟩
def PanQ (PS:List PanicEntry→Act→World→Prop) (Q:Exit→Act→World→Prop):Exit→Act→World→Prop
 | .panic c,a,w=>PS c a w
 | e,a,w=>Q e a w
theorem wp_pan {P:Program} {c:Code} {PS:List PanicEntry→Act→World→Prop} {Q:Exit→Act→World→Prop} {a:Act} {w:World} (hp:∀c a W,PS c a W→Q (.panic c) a W) (h:c.wp P (PanQ PS Q) a w):c.wp P Q a w :=
 wp_mono h fun e a W hX=>by
  cases e with
  | panic c=>exact hp c a W hX
  | normal=>exact hX
  | ret=>exact hX
  | exit _=>exact hX
  | goto _=>exact hX
  | outgrown=>exact hX
theorem PanQ.normal {PS:List PanicEntry→Act→World→Prop} {Q:Exit→Act→World→Prop} {a:Act} {w:World} (h:Q .normal a w):PanQ PS Q .normal a w:=h
theorem lineIs_none {B:Nat} {s:List UInt8} (h:sp.lineS s=none) (W:World):LineIs B s W (.returned (.tuple #[.agg (zeroC 0),.bool false,.int .i64 12])):=by unfold LineIs;rw [h]
theorem lineIs_silent {B:Nat} {s:List UInt8} (h:sp.lineS s=some none) (W:World):LineIs B s W (.returned (.tuple #[.agg (zeroC 0),.bool false,.int .i64 0])):=by unfold LineIs;rw [h]
def startL (w:World):World:=((w.alloc (.cells (zeroC 0) 28)).alloc (.cells #[.bool false] 4)).alloc (.cells #[.int .i64 0] 29)
theorem start_res (w:World):Res w.heap.size (w.heap.size+1) (w.heap.size+2) (zeroC 0) false 0 (startL w)∧Below w.heap.size w (startL w)∧(startL w).heap.size=w.heap.size+3:=by
 have h1:=heap_alloc_at w (.cells (zeroC 0) 28)
 have h2:=heap_alloc_at (w.alloc (.cells (zeroC 0) 28)) (.cells #[.bool false] 4)
 have h3:=heap_alloc_at ((w.alloc (.cells (zeroC 0) 28)).alloc (.cells #[.bool false] 4)) (.cells #[.int .i64 0] 29)
 have e1:(w.alloc (.cells (zeroC 0) 28)).heap.size=w.heap.size+1:=by simp
 have e2:((w.alloc (.cells (zeroC 0) 28)).alloc (.cells #[.bool false] 4)).heap.size=w.heap.size+2:=by simp
 rw [e1] at h2
 rw [e2] at h3
 refine ⟨⟨heap_old _ _ _ (heap_old _ _ _ h1),heap_old _ _ _ h2,h3⟩,(((below_new w _).alloc (by simp) _).alloc (by simp;omega) _),by simp [startL]⟩
theorem Res.on {n:Nat} {cs:Array Value} {sy:Bool} {er:Int} {W W':World} (h:Res n (n+1) (n+2) cs sy er W) (hb:Below W.heap.size W W'):Res n (n+1) (n+2) cs sy er W' :=
 ⟨(hb.block _ (lt_of_block h.op)).trans h.op,(hb.block _ (lt_of_block h.says)).trans h.says,(hb.block _ (lt_of_block h.err)).trans h.err⟩
set_option maxRecDepth 100000 in
set_option maxHeartbeats 4000000 in
theorem line_has_nl (s:List UInt8) (w:World) (h:10∈s):Calls Tryz.prog 9 #[.string (bstr s)] w fun e w'=>LineIs w.heap.size s w' e∧Below w.heap.size w w':=by
 have hmf:∀(fn:Fn) (first cap:Array Value) (w:World),(Instr.makeFunc fn first cap).run Tryz.prog w=.ok (.func fn first cap) w:=fun _ _ _ _=>rfl
 obtain ⟨hr,hb,_⟩:=start_res w
 have HR:=Lib.hid hr;have HB:=Lib.hid hb
 have HF:=Lib.hid (fun W=>lineIs_none (B:=w.heap.size) (line_nl h) W)
 have HC:=Lib.hid (fun W=>contains_nl s W)
 rw [show decide (10∈s)=true by simpa using h] at HC
 clear hr hb h
 go_enter_defers Tryz.func9,Tryz.ntmps9
 go_wp2_with (first
  | (go_at_call 24;refine (HC.out _).mono ?_;rintro e w1 ⟨rfl,rfl⟩)
  | (go_at_call 23;refine (must_no _).mono ?_;rintro e w1 ⟨rfl,rfl⟩))
 refine leave_bar HR.out rfl ⟨rfl,rfl,rfl⟩ fun W' hW=>⟨HF.out _,?_⟩
 exact HB.out.trans hW
end Go.Proofs.YtihlneenajlhoaaGreatDoor
set_option linter.unusedSimpArgs false
set_option linter.unusedVariables false
namespace Go.Proofs.YtihlneenajlhoaaGreatDoor
open Go Go.RowKit Go.Shelf
def MaxAt (w:World):Prop:=∃m,w.cell? ⟨Tryz.laysSplit_ren.g 1,0,none⟩=some (.int .i64 m)
theorem MaxAt.on {w w':World} (h:MaxAt w) (hb:Below w.heap.size w w'):MaxAt w':=by
 obtain ⟨m,hm⟩:=h
 refine ⟨m,?_⟩
 have hlt:Tryz.laysSplit_ren.g 1<w.heap.size:=by
  unfold World.cell? at hm
  split at hm
  ·rename_i c t f hc
   exact lt_of_block hc
  ·cases hm
 rw [←hm]
 unfold World.cell?
 rw [hb.block _ hlt]
theorem split_call (w:World) (s:List UInt8) (hm:MaxAt w) (hn:s.length≤1073741824):Calls Tryz.prog 71 #[.string (bstr s),.string ⟨#[10]⟩] w fun e w'=>e=.returned (.slice (some ⟨w.heap.size,0,none⟩) (Lib.countB (bstr s) nlB+1) (Lib.countB (bstr s) nlB+1))∧w'=w.alloc (.cells ((Lib.splitB nlB 0 (Lib.countB (bstr s) nlB) (bstr s)).map Value.string).toArray 9):=by
 obtain ⟨m,hm⟩:=hm
 exact Any.strings_Split { Tryz.laysSplit with } Tryz.laysSplit.i9 (bstr s) nlB m w (by rw [bstr_size];omega) hm (by decide)
def strCells (l:List (List UInt8)):List Value:=l.map fun s=>.string (bstr s)
theorem rowAt_strs {W:World} {g n cap:Nat} {cs:Array Value} {l:List (List UInt8)} (hg:W.heap[g]?=some (.cells cs 9 (0,0))) (hn:n=l.length) (h1:n≤cap) (h2:cap≤maxLen) (hc:∀(j:Nat) (u:Value),(strCells l)[j]?=some u→cs[j]?=some u):RowAt W.heap.size W (.slice (some ⟨g,0,none⟩) n cap) l.length (strCells l):=by
 subst hn
 refine ⟨_,_,rfl,h1,h2,?_⟩
 by_cases h0:l.length=0
 ·left
  have:=List.eq_nil_of_length_eq_zero h0
  subst this
  exact ⟨rfl,rfl,fun h=>by cases h⟩
 ·right
  refine ⟨by omega,g,0,rfl,lt_of_block hg,fun j u hu => ?_⟩
  rw [Nat.zero_add]
  exact blk_cell hg j u (hc j u hu)
theorem array_strs (l:List (List UInt8)):((l.map bstr).map Value.string).toArray=(strCells l).toArray:=by simp [strCells]
set_option maxRecDepth 100000 in
set_option maxHeartbeats 4000000 in
theorem lines_any (w:World) (v:Value) (b:List UInt8) (h:RowAt w.heap.size w v b.length (Lib.byteCells b)) (hm:MaxAt w) (hn:b.length≤1048576) :
  Calls Tryz.prog 32 #[v] w fun e w'=>∃v',e=.returned v'∧RowAt w'.heap.size w' v' (sp.linesS b).length (strCells (sp.linesS b))∧Below w.heap.size w w':=by
 have hcv:=conv_row h
 obtain ⟨l,hl1,hl2,hl3⟩:=split_lines _ b (Nat.le_refl _)
 have HC:=Lib.hid (split_call w b hm (by omega))
 rw [hl1,array_strs,←hl2] at HC
 have hlen:l.length≤b.length+2:=by
  have:=(linesS_len b).1
  rcases hl3 with ⟨l',rfl,e⟩ | ⟨l',x,rfl,_,e⟩
  ·rw [e] at this;simp;omega
  ·rw [e] at this;simp at this ⊢; omega
 have HL:=Lib.hid hlen
 have hmx:(2097152:Nat)≤maxLen:=by unfold maxLen;decide
 have HB:Hid (∀o:Obj,Below w.heap.size w (w.alloc o)):=Lib.hid (below_new w)
 clear hl1 hl2 h hm hlen
 rcases hl3 with ⟨l',rfl,e⟩ | ⟨l',x,rfl,hx,e⟩
 ·have HG:=Lib.hid (heap_alloc_at w (.cells (strCells (l'++[[]])).toArray 9))
  have c1:=blk_cell HG.out l'.length (.string ⟨#[]⟩) (by simp [strCells];rfl)
  have HE:=Lib.hid e
  have hlb:(l'.length:Int)≤2097152:=by have:=HL.out;simp at this;omega
  have HMX:=Lib.hid hmx
  rw [List.length_append] at HC
  clear e hmx
  go_enter Tryz.func32,Tryz.ntmps32
  go_wp2_with (go_at_call 71;refine HC.out.mono ?_;rintro e w1 ⟨rfl,rfl⟩)
  go_ret
  refine ⟨_,rfl,?_,HB.out _⟩
  rw [HE.out]
  have hL:=HL.out
  have hM:=HMX.out
  rw [List.length_append] at hL
  exact rowAt_strs HG.out rfl (Nat.le_succ _) (by simp at hL;omega) fun j u hu=>by
   have hj:j<l'.length:=by
    have:=(List.getElem?_eq_some_iff.1 hu).1
    simpa [strCells] using this
   simp only [List.getElem?_toArray,strCells,List.map_append]
   rw [List.getElem?_append_left (by simpa using hj)]
   exact hu
 ·have HG:=Lib.hid (heap_alloc_at w (.cells (strCells (l'++[x])).toArray 9))
  have c1:=blk_cell HG.out l'.length (.string (bstr x)) (by simp [strCells])
  have HE:=Lib.hid e
  have hlb:(l'.length:Int)≤2097152:=by have:=HL.out;simp at this;omega
  have HMX:=Lib.hid hmx
  have hx0:(bstr x).toList.isEmpty=false:=by
   rw [Lib.toList_data,bstr_toList]
   cases x with
   | nil=>exact absurd rfl hx
   | cons _ _=>rfl
  rw [List.length_append] at HC
  clear e hmx hx
  go_enter Tryz.func32,Tryz.ntmps32
  go_wp2_with (go_at_call 71;refine HC.out.mono ?_;rintro e w1 ⟨rfl,rfl⟩)
  go_ret
  refine ⟨_,rfl,?_,HB.out _⟩
  rw [HE.out]
  have hL:=HL.out
  have hM:=HMX.out
  rw [List.length_append] at hL
  exact rowAt_strs HG.out (by simp) (Nat.le_refl _) (by simp at hL;omega) fun j u hu=>by simpa using hu
end Go.Proofs.YtihlneenajlhoaaGreatDoor
set_option linter.unusedSimpArgs false
set_option linter.unusedVariables false
namespace Go.Proofs.YtihlneenajlhoaaGreatDoor
open Go Go.RowKit
section
variable {ops:Array Oper} {rest:List Oper} {o:Oper} {a:Act} {Q:Exit→Act→World→Prop} {w:World}
theorem wpl_append_op (hgd:o.guard=none) (s x:Operand) (ho:o.op=.call { callee:=.builtin .append,args:=#[s,x],argTypes:=#[35,35] }) (base:Nat) (xs:List (sp.Op×Value)) (d:Value) (hs:a.eval s=d) (hown:w.ownsRow base 28 18 d xs.length (xs.flatMap opRow))
  (b:Nat) (y:sp.Op×Value) (fz:Nat×Nat) (hx:a.eval x=.slice (some ⟨b,0,none⟩) 1 1) (hb:w.heap[b]?=some (.cells (opCells y.1 y.2) 28 fz)) (h1:(opCells y.1 y.2).all (·.oneCell')=true) (hn:xs.length≤1048576) (hbase:base≤w.heap.size)
  (h:∀v' w',w'.ownsRow base 28 18 v' (xs++[y]).length ((xs++[y]).flatMap opRow)→w.grownBy w' d.ownBlock→(v'.ownBlock=d.ownBlock∨v'.ownBlock=some w.heap.size)→wpList Tryz.prog ops Q rest (a.put o.dst v') w'):wpList Tryz.prog ops Q (o :: rest) a w:=by
 obtain ⟨i,hi,hz,hsz,hby⟩:=info_parts info28'
 refine Go.wpList_append_own_at w hgd s x 35 ho base 28 i _ 18 184 Tryz.underlying35 hi hz hsz hby rfl (by decide) d xs.length (xs.flatMap opRow) hs hown ⟨b,0,none⟩ 1 1 (opRow y) hx rfl (fun j u hu => ?_) (fun u hu => ?_) (by unfold maxLen;omega) (by omega) hbase (fun v' w' k1 k2 _ k3=>h v' w' ?_ k2 k3)
 ·rw [Addr.add_mid,Nat.zero_add,cell_of_row w b j _ 28 fz hb]
  simpa [opRow] using hu
 ·exact (Array.all_eq_true_iff_forall_mem.1 h1) u (by simpa [opRow] using hu)
 ·rw [List.length_append,List.flatMap_append,List.flatMap_singleton]
  exact k1
end
theorem rowAt_grown {B:Nat} {w w':World} {v:Value} {n:Nat} {cs:List Value} {own:Option Nat} (h:RowAt B w v n cs) (hB:B≤w.heap.size) (hg:w.grownBy w' own) (hne:n≠0→∀x,v.ownBlock=some x→own≠some x):RowAt B w' v n cs:=by
 obtain ⟨a,cap,rfl,h2,h3,h4⟩:=h
 refine ⟨a,cap,rfl,h2,h3,?_⟩
 rcases h4 with h4 | ⟨h0,b,off,rfl,hb,hr⟩
 ·exact .inl h4
 ·exact .inr ⟨h0,b,off,rfl,hb,fun j u hu=>(cell_heap2 (hg.block b (by omega) (Ne.symm (hne (by omega) b rfl))) _).trans (hr j u hu)⟩
structure PaR (w:World) (L:List (sp.Op×Value)) (d:Value) (wr:World):Prop where
 own:wr.ownsRow w.heap.size 28 18 d L.length (L.flatMap opRow)
 bel:Below w.heap.size w wr
 texts:∀p∈L,RowAt wr.heap.size wr p.2 p.1.text.length (Lib.byteCells p.1.text)
 far:∀p∈L,p.1.text.length≠0→∀x,p.2.ownBlock=some x→d.ownBlock≠some x
theorem PaR.nil (w:World):PaR w [] (.slice none 0 0) w:=⟨World.ownsRow_nil _ _ _ _,Below.refl _ _,fun p hp=>(by cases hp),fun p hp=>(by cases hp)⟩
theorem PaR.start {w w1:World} (h:PaR w [] (.slice none 0 0) w) (hb:Below w.heap.size w w1):PaR w [] (.slice none 0 0) w1:=⟨World.ownsRow_nil _ _ _ _,hb,fun p hp=>(by cases hp),fun p hp=>(by cases hp)⟩
theorem ownsRow_below {w w':World} {base:Nat} {e:TypeId} {k n:Nat} {v:Value} {xs:List Value} (h:w.ownsRow base e k v n xs) (hb:Below w.heap.size w w'):w'.ownsRow base e k v n xs:=by
 obtain ⟨hl,h5⟩:=h
 exact ⟨hl,h5.imp id fun ⟨g,cap,cur,y1,y2,y3,y4⟩=>⟨g,cap,cur,y1,y2,(hb.block g (lt_of_block y3)).trans y3,y4⟩⟩
theorem own_lt {w:World} {base:Nat} {e:TypeId} {k n:Nat} {v:Value} {xs:List Value} (h:w.ownsRow base e k v n xs):∀g,v.ownBlock=some g→base≤g∧g<w.heap.size:=by
 intro g hg
 rcases h.2 with ⟨rfl,_⟩ | ⟨g',cap,cur,rfl,h2,h3,_⟩
 ·cases hg
 ·cases hg
  exact ⟨h2,lt_of_block h3⟩
section
variable {w wr W w':World} {L:List (sp.Op×Value)} {d v' tv:Value} {o:sp.Op}
theorem PaR.on (h:PaR w L d wr) (hb:Below wr.heap.size wr W):PaR w L d W :=
 ⟨ownsRow_below h.own hb,h.bel.trans (hb.mono h.bel.size),fun p hp=>((h.texts p hp).keep hb).mono hb.size,h.far⟩
theorem PaR.app (h:PaR w L d wr) (hb:Below wr.heap.size wr W) (ht:RowAt W.heap.size W tv o.text.length (Lib.byteCells o.text)) (hn:∀x,tv.ownBlock=some x→wr.heap.size≤x)
  (hown:w'.ownsRow w.heap.size 28 18 v' (L++[(o,tv)]).length ((L++[(o,tv)]).flatMap opRow)) (hg:W.grownBy w' d.ownBlock) (hv:v'.ownBlock=d.ownBlock∨v'.ownBlock=some W.heap.size):PaR w (L++[(o,tv)]) v' w':=by
 have h1:=h.on hb
 have hlt:=own_lt h.own
 have hsz:W.heap.size≤w'.heap.size:=hg.size
 have hne:∀x,tv.ownBlock=some x→d.ownBlock≠some x:=fun x hx e=>by
  have:=hn x hx
  have:=(hlt x e).2
  omega
 refine ⟨hown,h1.bel.grown hg h1.bel.size (fun k hk=>(hlt k hk).1),fun p hp => ?_,fun p hp h0 x hx => ?_⟩
 ·rcases List.mem_append.1 hp with hp | hp
  ·exact (rowAt_grown (h1.texts p hp) (Nat.le_refl _) hg (fun h0=>h.far p hp h0)).mono hsz
  ·rw [List.mem_singleton.1 hp]
   exact (rowAt_grown ht (Nat.le_refl _) hg (fun _=>hne)).mono hsz
 ·rcases hv with e | e
  ·rw [e]
   rcases List.mem_append.1 hp with hp | hp
   ·exact h.far p hp h0 x hx
   ·rw [List.mem_singleton.1 hp] at hx
    exact hne x hx
  ·rw [e]
   intro e2
   cases e2
   have hr:RowAt W.heap.size W p.2 p.1.text.length (Lib.byteCells p.1.text):=by
    rcases List.mem_append.1 hp with hp | hp
    ·exact h1.texts p hp
    ·rw [List.mem_singleton.1 hp];exact ht
   obtain ⟨a,cap,e3,_,_,h5⟩:=hr
   rcases h5 with h5 | ⟨_,b,off,rfl,hb,_⟩
   ·exact h0 h5.1
   ·rw [e3] at hx
    cases hx
    exact absurd hb (Nat.lt_irrefl _)
theorem PaR.row (h:PaR w L d wr):SameRow wr d L:=by
 refine ⟨?_,h.texts⟩
 rcases h.own.2 with ⟨rfl,h0⟩ | ⟨g,cap,cur,rfl,h2,h3,h4,h5,h6,h7⟩
 ·have:=List.eq_nil_of_length_eq_zero h0
  subst this
  exact ⟨none,0,rfl,Nat.le_refl _,Nat.zero_le _,.inl ⟨rfl,rfl,fun _=>rfl⟩⟩
 ·refine ⟨_,_,rfl,h4,h5,?_⟩
  by_cases h0:L.length=0
  ·have:=List.eq_nil_of_length_eq_zero h0
   subst this
   exact .inl ⟨rfl,rfl,fun h=>by cases h⟩
  ·refine .inr ⟨by omega,g,0,rfl,lt_of_block h3,fun j u hu => ?_⟩
   rw [Nat.zero_add]
   refine blk_cell h3 j u ?_
   have hj:j<L.length*18:=by
    have h1:=(List.getElem?_eq_some_iff.1 hu).1
    rw [h.own.1] at h1
    exact h1
   rw [←h7,List.getElem?_take_of_lt hj] at hu
   simpa using hu
end
def ParseIs (b:List UInt8) (w':World) (e:Ending):Prop:=if 65536<b.length∨2000<(sp.linesS b).length then e=.returned (.tuple #[.slice none 0 0,.int .i64 0,.int .i64 2]) else match sp.parseL 0 (sp.linesS b) with
 | .inl n=>e=.returned (.tuple #[.slice none 0 0,.int .i64 (n:Nat),.int .i64 12])
 | .inr l=>∃v L,L.map (·.1)=l∧e=.returned (.tuple #[v,.int .i64 0,.int .i64 0])∧SameRow w' v L
theorem parse_long {b:List UInt8} (h:65536<b.length∨2000<(sp.linesS b).length) (W:World):ParseIs b W (.returned (.tuple #[.slice none 0 0,.int .i64 0,.int .i64 2])):=by unfold ParseIs;rw [if_pos h]
theorem parse_err {b:List UInt8} (h1:b.length≤65536) (h2:(sp.linesS b).length≤2000) {n:Nat} (h:sp.parseL 0 (sp.linesS b)=.inl n) (W:World):ParseIs b W (.returned (.tuple #[.slice none 0 0,.int .i64 (n:Nat),.int .i64 12])):=by unfold ParseIs;rw [if_neg (by omega),h]
theorem parse_ok {b:List UInt8} (h1:b.length≤65536) (h2:(sp.linesS b).length≤2000) {L:List (sp.Op×Value)} (h:sp.parseL 0 (sp.linesS b)=.inr (L.map (·.1))) {w W:World} {d:Value} (hr:PaR w L d W):ParseIs b W (.returned (.tuple #[d,.int .i64 0,.int .i64 0])):=by
 unfold ParseIs
 rw [if_neg (by omega),h]
 exact ⟨d,L,rfl,rfl,hr.row⟩
def PaAt (l:List (List UInt8)) (k:Nat) (ops:List sp.Op):Prop:=sp.parseL 0 l=match sp.parseL k (l.drop k) with
 | .inl n=>.inl n
 | .inr r=>.inr (ops++r)
section
variable {l:List (List UInt8)} {k:Nat} {ops:List sp.Op} {s:List UInt8}
theorem PaAt.start (l:List (List UInt8)):PaAt l 0 []:=by
 unfold PaAt
 rw [List.drop_zero]
 cases sp.parseL 0 l<;>rfl
theorem PaAt.fin (h:PaAt l k ops) (hk:l.length≤k):sp.parseL 0 l=.inr ops:=by
 unfold PaAt at h
 rw [List.drop_of_length_le hk,sp.parseL] at h
 simpa using h
theorem PaAt.bad (h:PaAt l k ops) (hk:k<l.length) (hs:l[k]=s) (hl:sp.lineS s=none):sp.parseL 0 l=.inl (k+1):=by
 unfold PaAt at h
 rw [List.drop_eq_getElem_cons hk,hs,sp.parseL,hl] at h
 exact h
theorem PaAt.skip (h:PaAt l k ops) (hk:k<l.length) (hs:l[k]=s) (hl:sp.lineS s=some none):PaAt l (k+1) ops:=by
 unfold PaAt at h ⊢
 rw [List.drop_eq_getElem_cons hk,hs,sp.parseL,hl] at h
 exact h
theorem PaAt.one (h:PaAt l k ops) (hk:k<l.length) (hs:l[k]=s) {o:sp.Op} (hl:sp.lineS s=some (some o)):PaAt l (k+1) (ops++[o]):=by
 unfold PaAt at h ⊢
 rw [List.drop_eq_getElem_cons hk,hs,sp.parseL,hl] at h
 simp only at h
 rw [h]
 cases sp.parseL (k+1) (l.drop (k+1)) with
 | inl n=>rfl
 | inr r=>simp
end
theorem str_el {B:Nat} {w wr:World} {a:Option Addr} {n c:Nat} {l:List (List UInt8)} (h:RowAt B w (.slice a n c) l.length (strCells l)) (hb:Below B w wr) {k:Nat} (hk:k<l.length):∃b off,a=some ⟨b,off,none⟩∧n=l.length∧wr.cell? ⟨b,off+k,none⟩=some (.string (bstr l[k])):=by
 have hn:n=l.length:=by obtain ⟨_,_,e,_⟩:=h;cases e;rfl
 subst hn
 obtain ⟨bx,off,rfl,hbx,hrg⟩:=h.place (by omega)
 exact ⟨bx,off,rfl,rfl,rangeAt_below hb hbx hrg k _ (by simp [strCells,hk])⟩
theorem start_eq (w:World):((w.alloc (.cells #[.int .i64 0,.int .i64 0,.int .i64 0,.int .i64 0,.string ⟨#[]⟩,.string ⟨#[]⟩,.slice none 0 0,.int .i64 0,.int .i64 0,.int .i64 0,.int .i64 0,.int .i64 0,.string ⟨#[]⟩,.int .i64 0,.int .i64 0,.int .i64 0,.int .i64 0,.bool false] 28)).alloc (.cells #[.bool false] 4)).alloc (.cells #[.int .i64 0] 29)=startL w:=rfl
theorem Res.row {n:Nat} {cs cs':Array Value} {sy:Bool} {er:Int} {W:World} (h:Res n (n+1) (n+2) cs sy er W):Res n (n+1) (n+2) cs' sy er (W.setRow n cs')∧Below n W (W.setRow n cs') :=
 ⟨⟨setRow_at h.op _,(setRow_far _ (by omega)).trans h.says,(setRow_far _ (by omega)).trans h.err⟩,below_setRow (Below.refl n W) (Nat.le_refl _) _⟩
theorem lineR_new (W:World) (s:List UInt8):LineR (W.alloc (.cells #[.string (bstr s),.int .i64 0] 61)) W.heap.size (bstr s) s:=⟨[],by rw [bstr_toList];rfl,heap_alloc_at _ _⟩
theorem after_words {w w2:World} {o:Obj} (hf:Fr ((startL w).alloc o) w2 (startL w).heap.size none):Res w.heap.size (w.heap.size+1) (w.heap.size+2) (zeroC 0) false 0 w2∧Below w.heap.size w w2:=by
 obtain ⟨hr,hb,hsz⟩:=start_res w
 have h1:Below (startL w).heap.size (startL w) w2:=(below_new (startL w) o).trans (hf.below (Nat.le_refl _) (fun g hg=>by cases hg) (by simp))
 exact ⟨hr.on h1,hb.trans (h1.mono (by omega))⟩
set_option maxRecDepth 100000 in
set_option maxHeartbeats 4000000 in
theorem line_nothing (s:List UInt8) (w:World) (h:10∉s) (h2:sp.silentB s=true):Calls Tryz.prog 9 #[.string (bstr s)] w fun e w'=>LineIs w.heap.size s w' e∧Below w.heap.size w w':=by
 have hmf:∀(fn:Fn) (first cap:Array Value) (w:World),(Instr.makeFunc fn first cap).run Tryz.prog w=.ok (.func fn first cap) w:=fun _ _ _ _=>rfl
 obtain ⟨hr,hb,_⟩:=start_res w
 have HR:=Lib.hid hr;have HB:=Lib.hid hb
 have HF:=Lib.hid (fun W=>lineIs_silent (B:=w.heap.size) (line_silent h h2) W)
 have HC:=Lib.hid (fun W=>contains_nl s W)
 rw [show decide (10∈s)=false by simpa using h] at HC
 have HS:=Lib.hid (fun W=>silent_any s W)
 rw [h2] at HS
 clear hr hb h h2
 go_enter_defers Tryz.func9,Tryz.ntmps9
 go_wp2_with (first
  | (go_at_call 24;refine (HC.out _).mono ?_;rintro e w1 ⟨rfl,rfl⟩)
  | (go_at_call 23;refine (must_yes _).mono ?_;rintro e w1 ⟨rfl,rfl⟩)
  | (go_at_call 25;refine (HS.out _).mono ?_;rintro e w1 ⟨rfl,rfl⟩;rw [start_eq];have HR1:=Lib.hid (HR.out.row (cs':=zeroC 0)).1;have HB1:=Lib.hid (HB.out.trans (HR.out.row (cs':=zeroC 0)).2))
  | (refine wpList_store_row rfl 28 _ _ rfl w.heap.size (zeroC 0) rfl rfl 28 _ HR.out.op size28' rfl zero_one ?_;obtain ⟨k0,k1,y0,y1⟩:=HR1.out.cells;generalize (startL w).setRow w.heap.size (zeroC 0)=W2 at *))
 obtain ⟨n1,n2,n3⟩:=ne12 w.heap.size
 have HG:=HR1.out.fin n1 n2 n3 false 0
 exact leave_ok HG.1 rfl ⟨rfl,rfl,rfl⟩ ⟨HF.out _,HB1.out.trans (HG.2 _ (Nat.le_succ _) (by omega))⟩
set_option maxRecDepth 100000 in
set_option maxHeartbeats 4000000 in
theorem line_no_words (s:List UInt8) (w:World) (h:10∉s) (h2:sp.silentB s=false) (hw:sp.words s=none) (hn:s.length≤1099511627776):Calls Tryz.prog 9 #[.string (bstr s)] w fun e w'=>LineIs w.heap.size s w' e∧Below w.heap.size w w':=by
 have hmf:∀(fn:Fn) (first cap:Array Value) (w:World),(Instr.makeFunc fn first cap).run Tryz.prog w=.ok (.func fn first cap) w:=fun _ _ _ _=>rfl
 obtain ⟨hr,hb,hsz⟩:=start_res w
 have HR:=Lib.hid hr;have HB:=Lib.hid hb
 have HF:=Lib.hid (fun W=>lineIs_none (B:=w.heap.size) (s:=s) (by rw [line_words h h2,hw]) W)
 have HC:=Lib.hid (fun W=>contains_nl s W)
 rw [show decide (10∈s)=false by simpa using h] at HC
 have HS:=Lib.hid (fun W=>silent_any s W)
 rw [h2] at HS
 have HL:=Lib.hid (lineR_new (startL w) s)
 have HW:=Lib.hid hw;have HN:=Lib.hid hn;have HSZ:=Lib.hid hsz
 clear hr hb h h2 hw hn hsz
 go_enter_defers Tryz.func9,Tryz.ntmps9
 go_wp2_with (first
  | (go_at_call 24;refine (HC.out _).mono ?_;rintro e w1 ⟨rfl,rfl⟩)
  | (go_at_call 23;refine (must_yes _).mono ?_;rintro e w1 ⟨rfl,rfl⟩)
  | (go_at_call 25;refine (HS.out _).mono ?_;rintro e w1 ⟨rfl,rfl⟩;rw [start_eq])
  | (go_at_call 26;refine (words_any _ (startL w).heap.size (bstr s) s HL.out (by rw [bstr_size];exact HN.out)).mono ?_;rintro e w2 ⟨he,hf⟩;unfold WordsIs at he;rw [HW.out] at he;subst he))
 have HA:=after_words hf
 exact leave_bar HA.1 rfl ⟨rfl,rfl,rfl⟩ fun W' hW=>⟨HF.out _,HA.2.trans hW⟩
end Go.Proofs.YtihlneenajlhoaaGreatDoor
