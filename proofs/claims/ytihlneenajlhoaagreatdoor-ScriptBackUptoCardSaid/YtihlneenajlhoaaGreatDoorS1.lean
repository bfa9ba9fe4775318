/-
 Contracts, for a run of one goroutine, of what writes a line's words: (*script.writer).put, numbers, fractions. Condition: the writer's block is not the words' own; lengths that fit; strconv's table stands.
-/
import Derived.Test.YtihlneenajlhoaaGreatDoorS0
import Derived.Test.YtihlneenajlhoaaGreatDoorProg
import Derived.Shelf.Lay
import Derived.Shelf.Lays
import Derived.Shelf.Strings.IndexAnyAll
import Derived.Shelf.Small.Strs
import Derived.Shelf.Small.Utf8
import Derived.Ground.NamesProg
import Derived.Lib.DecodeN
import Derived.Lib.TrimU
import Derived.Laws.RangeAny
import Derived.Deep.RegionHeld
import Derived.OrdersHeld
set_option linter.unusedSimpArgs false
set_option linter.unusedVariables false
namespace Go.Proofs.YtihlneenajlhoaaGreatDoor
open Go Go.RowKit
def Ae (ss:List ByteArray):List UInt8:=ss.flatMap fun s=>32 :: s.data.toList
theorem OQ (ss:List ByteArray) (k:Nat) (h:k<ss.length):Ae (ss.take (k+1))=Ae (ss.take k)++(32 :: ss[k].data.toList):=by
 unfold Ae
 rw [List.take_add_one,List.getElem?_eq_getElem h,List.flatMap_append]
 simp
theorem Xy (ss:List ByteArray) (k:Nat):(Ae (ss.take k)).length≤(Ae ss).length:=by
 have h:Ae ss=Ae (ss.take k)++Ae (ss.drop k):=by
  unfold Ae
  rw [←List.flatMap_append,List.take_append_drop]
 rw [h,List.length_append]
 omega
def Wrote (w:World) (b:Nat) (own:Option Nat) (l:List UInt8) (ok:Bool) (w':World):Prop :=
 ∃own',Bld w' 123 [.bool ok] b own' l∧Fr w w' b own∧Own w own own'
theorem Wrote.refl {w:World} {b:Nat} {own:Option Nat} {l:List UInt8} {ok:Bool} (h:Bld w 123 [.bool ok] b own l):Wrote w b own l ok w:=⟨own,h,Fr.refl _ _ _,Own.refl _ _⟩
theorem Wrote.then {w w1 w2:World} {b:Nat} {own Az own2:Option Nat} {l:List UInt8} {ok:Bool} (hf:Fr w w1 b own) (ho:Own w own Az) (h2:Bld w2 123 [.bool ok] b own2 l) (hf2:Fr w1 w2 b Az) (ho2:Own w1 Az own2):Wrote w b own l ok w2 :=
 ⟨own2,h2,hf.trans hf2 ho,ho.trans hf.size ho2⟩
theorem Fr.OT {w w1:World} {b c:Nat} {own:Option Nat} (hf:Fr w w1 b own) (hc:c<w.heap.size) (hb:c≠b) (ho:some c≠own):w1.heap[c]?=w.heap[c]?:=hf.block c hc hb ho
theorem OU {w:World} {b:Nat} {own:Option Nat} {l:List UInt8} {ok:Bool} (h:Bld w 123 [.bool ok] b own l) (ok':Bool):Bld (w.setCell ⟨b,2,none⟩ (.bool ok')) 123 [.bool ok'] b own l:=by
 refine h.imp (fun h => ?_) (fun h => ?_)
 all_goals
  obtain ⟨sl,h1,h2,h3,h4⟩:=h
  refine ⟨sl,?_,ownsRow_setCell_below h2 (a:=⟨b,2,none⟩) (Nat.lt_succ_self b) _,h3,h4⟩
  have:=D9 h1 2 (.bool ok')
  simp at this
  exact this
theorem GL {w:World} {b:Nat} {own:Option Nat} {l:List UInt8} {ok:Bool} (h:Bld w 123 [.bool ok] b own l):w.cell? ⟨b,2,none⟩=some (.bool ok)∧w.frozen? ⟨b,2,none⟩=false:=by
 rcases h with h | h
 all_goals
  obtain ⟨sl,h1,_⟩:=h
  exact ⟨by rw [Lib.cell_of_heap h1];rfl,Lib.frozen_of_heap h1 2⟩
def Xz (w:World) (c:Nat) (ss:List ByteArray):Prop:=w.heap[c]?=some (.cells (ss.map Value.string).toArray 9 (0,0))
set_option maxRecDepth 100000 in
set_option maxHeartbeats 4000000 in
theorem put_any (w:World) (b:Nat) (own:Option Nat) (l:List UInt8) (ok:Bool) (c:Nat) (ss:List ByteArray) (h:Bld w 123 [.bool ok] b own l) (hc:Xz w c ss) (hcb:c≠b) (hco:some c≠own) (hn:l.length+(Ae ss).length≤140737488355328) (hss:ss.length≤1000) :
  Calls Tryz.prog 77 #[.pointer (some ⟨b,0,none⟩),.slice (some ⟨c,0,none⟩) ss.length ss.length] w fun e w'=>e=.returned (.tuple #[])∧Wrote w b own (l++Ae ss) ok w':=by
 have HB:=Lib.hid h;have HC:=Lib.hid hc;have HCB:=Lib.hid hcb;have HCO:=Lib.hid hco;have HN:=Lib.hid hn;have HSS:=Lib.hid hss
 clear h hc hcb hco hn hss
 go_enter Tryz.func77,Tryz.ntmps77
 go_wp2
 go_loopw [8] (fun i wr=>∃k:Nat,k≤ss.length∧i=.int .i64 k∧Wrote w b own (l++Ae (ss.take k)) ok wr) (fun i _=>ss.length-(intOf i).toNat)
 case atStart=>exact ⟨0,Nat.zero_le _,rfl,by simpa [Ae] using Wrote.refl HB.out⟩
 case round =>
  obtain ⟨k,hk,rfl,Az,hb1,hf1,ho1⟩:=hrel
  have hkb:(k:Int)≤1000:=by have:=HSS.out;omega
  have HB1:=Lib.hid hb1;have HF1:=Lib.hid hf1;have HO1:=Lib.hid ho1
  clear hb1 hf1 ho1
  by_cases hlt:k<ss.length
  ·have Iw:=lt_of_block HC.out
   have hcell:wr.cell? ⟨c,k,none⟩=some (.string ss[k]):=by
    have:=HF1.out.OT Iw HCB.out HCO.out
    rw [cell_of_row wr c k _ 9 (0,0) (this.trans HC.out)]
    simp [hlt]
   have HX:=Lib.hid (OQ ss k hlt)
   have HL:Hid ((l++Ae (ss.take k)).length+1+ss[k].size≤140737488355328):=Lib.hid (by
    have h1:=Xy ss (k+1)
    have h3:ss[k].data.toList.length=ss[k].size:=by rw [Array.length_toList];rfl
    rw [OQ ss k hlt,List.length_append,List.length_cons,h3] at h1
    have:=HN.out
    rw [List.length_append]
    omega)
   generalize ss[k]=s at hcell HX HL
   have HX2:Hid (l++Ae (ss.take (k+1))=(l++Ae (ss.take k))++[32]++s.data.toList):=Lib.hid (by rw [HX.out];simp)
   generalize l++Ae (ss.take k)=l0 at HB1 HL HX2
   clear HX
   go_wp2_with (first
    | (go_at_call 41;refine (KI _ 123 [.bool ok] b Az l0 32 UB HB1.out (by have:=HL.out;omega)).mono ?_;rintro e w1 ⟨rfl,own2,h2,hf2,ho2⟩;have HB2:Hid (Bld w1 123 [.bool ok] b own2 (l0++[32])):=Lib.hid (Or.inr h2);have HF2:=Lib.hid (HF1.out.trans hf2 HO1.out);have HO2:=Lib.hid (HO1.out.trans HF1.out.size ho2);clear h2 hf2 ho2)
    | (go_at_call 40;refine (QI _ 123 [.bool ok] b own2 (l0++[32]) s UB HB2.out (by have:=HL.out;rw [List.length_append];simp only [List.length_cons,List.length_nil];omega)).mono ?_;rintro e w2 ⟨rfl,Iy,h3,hf3,ho3⟩;have HW3:Hid (Wrote w b own (l0++[32]++s.data.toList) ok w2):=Lib.hid (Wrote.then HF2.out HO2.out (Or.inr h3) hf3 ho3);clear h3 hf3 ho3))
   refine ⟨⟨k+1,by omega,by go_num,?_⟩,by simp [intOf];omega⟩
   rw [HX2.out]
   exact HW3.out
  ·have:k=ss.length:=by omega
   subst this
   have HE:Hid (l++Ae (ss.take ss.length)=l++Ae ss):=Lib.hid (by rw [List.take_length])
   go_wp2
   go_end0
   rw [←HE.out]
   exact ⟨rfl,Az,HB1.out,HF1.out,HO1.out⟩
def CB (n:Int):Bool:=decide (-1000000000<n)&&decide (n<1000000000)
theorem pM (f:Int→Bool) (ok:Bool) (ns:List Int) (k:Nat) (h:k<ns.length):(ok&&(ns.take (k+1)).all f)=((ok&&(ns.take k).all f)&&f ns[k]):=by
 rw [List.take_add_one,List.getElem?_eq_getElem h,List.all_append]
 simp [Bool.and_assoc]
def IntsIn (w:World) (c:Nat) (ns:List Int):Prop:=w.heap[c]?=some (.cells (ns.map (Value.int .i64)).toArray 3 (0,0))
def Du (ns:List Int):List ByteArray:=ns.map fun n=>AA (Lib.itoa n)
theorem pO (ns:List Int) (h:∀n∈ns,I64 n):(Ae (Du ns)).length≤22*ns.length:=by
 induction ns with
 | nil=>simp [Ae,Du]
 | cons n ns ih =>
  have h1:=ih (fun m hm=>h m (List.mem_cons_of_mem _ hm))
  have h2:=IL (h n List.mem_cons_self)
  rw [Aa] at h2
  have e:Ae (Du (n :: ns))=32 :: Lib.itoa n++Ae (Du ns):=by simp [Ae,Du,AA]
  rw [e,List.length_append,List.length_cons,List.length_cons]
  omega
theorem X0 (ns:List Int) (k:Nat) (h:k<ns.length):Ae (Du (ns.take (k+1)))=Ae (Du (ns.take k))++Ae [AA (Lib.itoa ns[k])]:=by
 have e1:Du (ns.take (k+1))=(Du ns).take (k+1):=by simp [Du]
 have e2:Du (ns.take k)=(Du ns).take k:=by simp [Du]
 rw [e1,e2,OQ (Du ns) k (by simpa [Du] using h)]
 simp [Du,Ae]
set_option maxRecDepth 100000 in
set_option maxHeartbeats 4000000 in
theorem X3 (w:World) (b:Nat) (own:Option Nat) (l:List UInt8) (ok:Bool) (c:Nat) (ns:List Int) (h:Bld w 123 [.bool ok] b own l) (hc:IntsIn w c ns) (hcb:c≠b) (hco:some c≠own) (hn:l.length+22*ns.length≤1407374883553) (hns:ns.length≤1000) (hi:∀n∈ns,I64 n) (hp:Pow w) (hbw:∀w',Fr w w' b own→Pow w') :
  Calls Tryz.prog 76 #[.pointer (some ⟨b,0,none⟩),.slice (some ⟨c,0,none⟩) ns.length ns.length] w fun e w'=>e=.returned (.tuple #[])∧Wrote w b own (l++Ae (Du ns)) (ok&&ns.all CB) w':=by
 have HB:=Lib.hid h;have HC:=Lib.hid hc;have HCB:=Lib.hid hcb;have HCO:=Lib.hid hco;have HN:=Lib.hid hn;have HNS:=Lib.hid hns;have HI:=Lib.hid hi;have HP:=Lib.hid hbw
 clear h hc hcb hco hn hns hi hp hbw
 go_enter Tryz.func76,Tryz.ntmps76
 go_wp2
 go_loopw [8] (fun i wr=>∃k:Nat,k≤ns.length∧i=.int .i64 k∧Wrote w b own (l++Ae (Du (ns.take k))) (ok&&(ns.take k).all CB) wr) (fun i _=>ns.length-(intOf i).toNat)
 case atStart=>exact ⟨0,Nat.zero_le _,rfl,by simpa [Ae,Du] using Wrote.refl HB.out⟩
 case round =>
  obtain ⟨k,hk,rfl,Az,hb1,hf1,ho1⟩:=hrel
  have hkb:(k:Int)≤1000:=by have:=HNS.out;omega
  have HB1:=Lib.hid hb1;have HF1:=Lib.hid hf1;have HO1:=Lib.hid ho1
  clear hb1 hf1 ho1
  by_cases hlt:k<ns.length
  ·have Iw:=lt_of_block HC.out
   have hcell:wr.cell? ⟨c,k,none⟩=some (.int .i64 ns[k]):=by
    have:=HF1.out.OT Iw HCB.out HCO.out
    rw [cell_of_row wr c k _ 3 (0,0) (this.trans HC.out)]
    simp [hlt]
   have HX:=Lib.hid (X0 ns k hlt)
   have HO:=Lib.hid (pM CB ok ns k hlt)
   have HI1:=Lib.hid (HI.out ns[k] (List.getElem_mem hlt))
   have hz:=IL HI1.out
   have HL:Hid ((l++Ae (Du (ns.take k))).length+(Ae [AA (Lib.itoa ns[k])]).length≤1407374883553):=Lib.hid (by
    have h1:=pO (ns.take (k+1)) (fun n hn=>HI.out n (List.mem_of_mem_take hn))
    rw [X0 ns k hlt,List.length_append,List.length_take] at h1
    have:=HN.out
    rw [List.length_append]
    omega)
   obtain ⟨hok,hfz⟩:=GL HB1.out
   have hs:CB ns[k]=(decide (-1000000000<ns[k])&&decide (ns[k]<1000000000)):=rfl
   generalize ns[k]=n at hcell HX HO HI1 HL hs hz
   have HX2:Hid (l++Ae (Du (ns.take (k+1)))=(l++Ae (Du (ns.take k)))++Ae [AA (Lib.itoa n)]):=Lib.hid (by rw [HX.out];simp)
   generalize l++Ae (Du (ns.take k))=l0 at HB1 HL HX2
   generalize (ok&&(ns.take k).all CB)=ok0 at HB1 hok HO
   clear HX
   cases ok0<;>cases t1:decide (-1000000000<n)<;>cases t2:decide (n<1000000000)
   all_goals
    rw [t1,t2] at hs
    have HS:=Lib.hid hs;clear hs
    go_wp2_with (first
     | (go_at_call 34;refine (Hl n _ HI1.out (HP.out _ (HF1.out.trans (Fr.set 2 _) HO1.out))).mono ?_;rintro e w1 ⟨rfl,hb1⟩;have HB2:=Lib.hid (Bld.below (OU HB1.out _) hb1);have HF2:=Lib.hid (HF1.out.trans ((Fr.set 2 _).trans (Fr.of_below hb1) (Own.refl _ _)) HO1.out);have HO2:Hid (Own w own Az):=HO1;have HSZ:Hid (wr.heap.size≤w1.heap.size):=Lib.hid (by have:=hb1.size;simpa [World.setCell] using this);clear hb1)
     | (go_at_call 77;refine (put_any _ b Az l0 _ w1.heap.size [AA (Lib.itoa n)] (HB2.out.below (AZ _ _)) (AX _ _) (Nat.ne_of_gt HB2.out.lt) (fun e=>by have:=HB2.out.FN w1.heap.size e.symm;omega) (by have:=HL.out;omega) (by simp)).mono ?_;rintro e w2 ⟨rfl,own2,h2,hf2,ho2⟩;have HW:Hid (Wrote w b own _ _ w2):=Lib.hid (Wrote.then (HF2.out.trans (Fr.of_below (AZ _ _)) HO2.out) HO2.out h2 hf2 ho2);clear h2 hf2 ho2))
    refine ⟨⟨k+1,by omega,by go_num,?_⟩,by simp [intOf];omega⟩
    rw [HX2.out,HO.out,HS.out]
    exact HW.out
  ·have:k=ns.length:=by omega
   subst this
   have HE:Hid (ns.take ns.length=ns):=Lib.hid (by rw [List.take_length])
   go_wp2
   go_end0
   refine ⟨rfl,Az,?_,HF1.out,HO1.out⟩
   have:=HB1.out
   rw [HE.out] at this
   exact this
/-! ### Fractions -/
def OV (r:Int×Int):List Value:=[.int .i64 r.1,.int .i64 r.2]
def X4 (w:World) (c:Nat) (rs:List (Int×Int)):Prop:=w.heap[c]?=some (.cells (rs.flatMap OV).toArray 24 (0,0))
def CU (rs:List (Int×Int)):List ByteArray:=rs.map fun r=>AA (sp.AP r.1 r.2)
noncomputable def CP (r:Int×Int):Bool:=Cj r.1 r.2
theorem QP:∀(rs:List (Int×Int)) (k:Nat) (h:k<rs.length),(rs.flatMap OV)[k*2]?=some (.int .i64 rs[k].1)∧(rs.flatMap OV)[k*2+1]?=some (.int .i64 rs[k].2):=by
 intro rs
 induction rs with
 | nil=>intro k h;simp at h
 | cons a l ih =>
  intro k h
  have e:(a :: l).flatMap OV=.int .i64 a.1 :: .int .i64 a.2 :: l.flatMap OV:=rfl
  cases k with
  | zero=>exact ⟨rfl,rfl⟩
  | succ k =>
   have:=ih k (by simpa using h)
   rw [e,show (k+1)*2=k*2+1+1 by omega]
   simp only [List.getElem?_cons_succ,List.getElem_cons_succ]
   exact this
theorem X5 (f:Int×Int→Bool) (ok:Bool) (ns:List (Int×Int)) (k:Nat) (h:k<ns.length):(ok&&(ns.take (k+1)).all f)=((ok&&(ns.take k).all f)&&f ns[k]):=by
 rw [List.take_add_one,List.getElem?_eq_getElem h,List.all_append]
 simp [Bool.and_assoc]
theorem QQ {n d:Int} (hn:I64 n) (hd:I64 d):(AA (sp.AP n d)).size≤43:=by
 rw [Aa]
 by_cases hs:CJ n d
 ·rw [Xt n d hs,List.length_append]
  have h1:=Lib.itoa_length_le n hn.1 hn.2
  have h2:=Lib.itoa_length_le d hd.1 hd.2
  cases decide (1<d)
  ·simp;omega
  ·simp;omega
 ·rw [UQ hs];decide
theorem X6 (rs:List (Int×Int)) (h:∀r∈rs,I64 r.1∧I64 r.2):(Ae (CU rs)).length≤44*rs.length:=by
 induction rs with
 | nil=>simp [Ae,CU]
 | cons n ns ih =>
  have h1:=ih (fun m hm=>h m (List.mem_cons_of_mem _ hm))
  have h2:=QQ (h n List.mem_cons_self).1 (h n List.mem_cons_self).2
  rw [Aa] at h2
  have e:Ae (CU (n :: ns))=32 :: sp.AP n.1 n.2++Ae (CU ns):=by simp [Ae,CU,AA]
  rw [e,List.length_append,List.length_cons,List.length_cons]
  omega
theorem UT (rs:List (Int×Int)) (k:Nat) (h:k<rs.length):Ae (CU (rs.take (k+1)))=Ae (CU (rs.take k))++Ae [AA (sp.AP rs[k].1 rs[k].2)]:=by
 have e1:CU (rs.take (k+1))=(CU rs).take (k+1):=by simp [CU]
 have e2:CU (rs.take k)=(CU rs).take k:=by simp [CU]
 rw [e1,e2,OQ (CU rs) k (by simpa [CU] using h)]
 simp [CU,Ae]
theorem QT {w:World} {b c o:Nat} {v x:Value} (h:w.cell? ⟨c,o,none⟩=some x) (hb:b≠c):(w.setCell ⟨b,2,none⟩ v).cell? ⟨c,o,none⟩=some x:=by
 rw [World.cell?_of_block (w:=w) (Below.heap_setCell _ _ _ _ (fun e=>hb e.symm))]
 exact h
set_option maxRecDepth 100000 in
set_option maxHeartbeats 4000000 in
theorem X7 (w:World) (b:Nat) (own:Option Nat) (l:List UInt8) (ok:Bool) (c:Nat) (rs:List (Int×Int)) (h:Bld w 123 [.bool ok] b own l) (hc:X4 w c rs) (hcb:c≠b) (hco:some c≠own) (hn:l.length+44*rs.length≤1407374883553) (hns:rs.length≤1000) (hi:∀r∈rs,I64 r.1∧I64 r.2) :
  Calls Tryz.prog 78 #[.pointer (some ⟨b,0,none⟩),.slice (some ⟨c,0,none⟩) rs.length rs.length] w fun e w'=>e=.returned (.tuple #[])∧Wrote w b own (l++Ae (CU rs)) (ok&&rs.all CP) w':=by
 have HB:=Lib.hid h;have HC:=Lib.hid hc;have HCB:=Lib.hid hcb;have HCO:=Lib.hid hco;have HN:=Lib.hid hn;have HNS:=Lib.hid hns;have HI:=Lib.hid hi
 clear h hc hcb hco hn hns hi
 go_enter Tryz.func78,Tryz.ntmps78
 go_wp2
 go_loopw [8] (fun i wr=>∃k:Nat,k≤rs.length∧i=.int .i64 k∧Wrote w b own (l++Ae (CU (rs.take k))) (ok&&(rs.take k).all CP) wr) (fun i _=>rs.length-(intOf i).toNat)
 case atStart=>exact ⟨0,Nat.zero_le _,rfl,by simpa [Ae,CU] using Wrote.refl HB.out⟩
 case round =>
  obtain ⟨k,hk,rfl,Az,hb1,hf1,ho1⟩:=hrel
  have hkb:(k:Int)≤1000:=by have:=HNS.out;omega
  have HB1:=Lib.hid hb1;have HF1:=Lib.hid hf1;have HO1:=Lib.hid ho1
  clear hb1 hf1 ho1
  by_cases hlt:k<rs.length
  ·have Iw:=lt_of_block HC.out
   have hrow:=(HF1.out.OT Iw HCB.out HCO.out).trans HC.out
   have hcell0:wr.cell? ⟨c,k*2,none⟩=some (.int .i64 rs[k].1):=by
    rw [cell_of_row wr c (k*2) _ 24 (0,0) hrow,List.getElem?_toArray,(QP rs k hlt).1]
   have hcell1:wr.cell? ⟨c,k*2+1,none⟩=some (.int .i64 rs[k].2):=by
    rw [cell_of_row wr c (k*2+1) _ 24 (0,0) hrow,List.getElem?_toArray,(QP rs k hlt).2]
   have HX:=Lib.hid (UT rs k hlt)
   have HO:=Lib.hid (X5 CP ok rs k hlt)
   obtain ⟨i1,i2⟩:=HI.out rs[k] (List.getElem_mem hlt)
   have HI1:=Lib.hid i1;have HI2:=Lib.hid i2
   have hz:=QQ i1 i2
   have HL:Hid ((l++Ae (CU (rs.take k))).length+(Ae [AA (sp.AP rs[k].1 rs[k].2)]).length≤1407374883553):=Lib.hid (by
    have h1:=X6 (rs.take (k+1)) (fun n hn=>HI.out n (List.mem_of_mem_take hn))
    rw [UT rs k hlt,List.length_append,List.length_take] at h1
    have:=HN.out
    rw [List.length_append]
    omega)
   have hs:CP rs[k]=Cj rs[k].1 rs[k].2:=rfl
   obtain ⟨hok,hfz⟩:=GL HB1.out
   have hok2:=(Below.heap_alloc wr (.cells #[.int .i64 rs[k].1,.int .i64 rs[k].2] 24) b HB1.out.lt)
   generalize rs[k]=r at hcell0 hcell1 HX HO HI1 HI2 HL hs hz hok2
   obtain ⟨n,d⟩:=r
   simp only at hcell0 hcell1 HX HO HI1 HI2 HL hs hz hok2
   have HX2:Hid (l++Ae (CU (rs.take (k+1)))=(l++Ae (CU (rs.take k)))++Ae [AA (sp.AP n d)]):=Lib.hid (by rw [HX.out];simp)
   generalize l++Ae (CU (rs.take k))=l0 at HB1 HL HX2
   generalize (ok&&(rs.take k).all CP)=ok0 at HB1 hok HO
   have HRB:=Lib.hid (AX wr (.cells #[.int .i64 n,.int .i64 d] 24))
   have HBA:=Lib.hid (HB1.out.below (AZ wr (.cells #[.int .i64 n,.int .i64 d] 24)))
   have HFA:=Lib.hid (HF1.out.trans (Fr.of_below (AZ wr (.cells #[.int .i64 n,.int .i64 d] 24))) HO1.out)
   have HNB:Hid (b≠wr.heap.size):=Lib.hid (Nat.ne_of_lt HB1.out.lt)
   obtain ⟨g0,g1⟩:=JX HRB.out
   obtain ⟨f0,f1⟩:=GL HBA.out
   have q0:=fun v=>QT (v:=v) g0 HNB.out
   have q1:=fun v=>QT (v:=v) g1 HNB.out
   clear HX hok2 hrow i1 i2
   cases hm:Cj n d
   all_goals
    rw [hm] at hs
    have HS:=Lib.hid hs;have HM:=Lib.hid hm;clear hs hm
    cases ok0
    ·go_wp2_with (first
      | (go_at_call 73;refine (IK n d _ HI1.out HI2.out).mono ?_;rintro e w2 ⟨rfl,hb2⟩;have HB2:=Lib.hid (Bld.below (OU HBA.out _) hb2);have HF2:=Lib.hid (HFA.out.trans ((Fr.set 2 _).trans (Fr.of_below hb2) (Own.refl _ _)) HO1.out);clear hb2)
      | (go_at_call 77;refine (put_any _ b Az l0 _ w2.heap.size [AA (sp.AP n d)] (HB2.out.below (AZ _ _)) (AX _ _) (Nat.ne_of_gt HB2.out.lt) (fun e=>by have:=HB2.out.FN w2.heap.size e.symm;omega) (by have:=HL.out;omega) (by simp)).mono ?_;rintro e w3 ⟨rfl,own2,h2,hf2,ho2⟩;have HW:Hid (Wrote w b own _ _ w3):=Lib.hid (Wrote.then (HF2.out.trans (Fr.of_below (AZ _ _)) HO1.out) HO1.out h2 hf2 ho2);clear h2 hf2 ho2))
     refine ⟨⟨k+1,by omega,by go_num,?_⟩,by simp [intOf];omega⟩
     rw [HX2.out,HO.out,HS.out]
     exact HW.out
    ·go_wp2_with (first
      | (go_at_call 111;refine (nC n d _ HI1.out HI2.out).mono ?_;rintro e w1 ⟨rfl,hb1⟩;rw [HM.out];have hk1:=(hb1.block wr.heap.size (by simp)).trans HRB.out;obtain ⟨g2,g3⟩:=JX hk1;have q2:=fun v=>QT (v:=v) g2 HNB.out;have q3:=fun v=>QT (v:=v) g3 HNB.out;have HBB:=Lib.hid (HBA.out.below hb1);obtain ⟨f2,f3⟩:=GL HBB.out;have HFB:=Lib.hid (HFA.out.trans (Fr.of_below hb1) HO1.out);clear hb1 hk1)
      | (go_at_call 73;refine (IK n d _ HI1.out HI2.out).mono ?_;rintro e w2 ⟨rfl,hb2⟩;have HB2:=Lib.hid (Bld.below (OU HBB.out _) hb2);have HF2:=Lib.hid (HFB.out.trans ((Fr.set 2 _).trans (Fr.of_below hb2) (Own.refl _ _)) HO1.out);clear hb2)
      | (go_at_call 77;refine (put_any _ b Az l0 _ w2.heap.size [AA (sp.AP n d)] (HB2.out.below (AZ _ _)) (AX _ _) (Nat.ne_of_gt HB2.out.lt) (fun e=>by have:=HB2.out.FN w2.heap.size e.symm;omega) (by have:=HL.out;omega) (by simp)).mono ?_;rintro e w3 ⟨rfl,own2,h2,hf2,ho2⟩;have HW:Hid (Wrote w b own _ _ w3):=Lib.hid (Wrote.then (HF2.out.trans (Fr.of_below (AZ _ _)) HO1.out) HO1.out h2 hf2 ho2);clear h2 hf2 ho2))
     refine ⟨⟨k+1,by omega,by go_num,?_⟩,by simp [intOf];omega⟩
     rw [HX2.out,HO.out,HS.out]
     exact HW.out
  ·have:k=rs.length:=by omega
   subst this
   have HE:Hid (rs.take rs.length=rs):=Lib.hid (by rw [List.take_length])
   go_wp2
   go_end0
   refine ⟨rfl,Az,?_,HF1.out,HO1.out⟩
   have:=HB1.out
   rw [HE.out] at this
   exact this
end Go.Proofs.YtihlneenajlhoaaGreatDoor
namespace Go.Proofs.YtihlneenajlhoaaGreatDoor
open Go Go.RowKit Go.Shelf
def Tryz.pR:Go.Shelf.Ren:=⟨fun | 153=>148 | 152=>154 | 226=>211 | 227=>87 | 228=>119 | 137=>212 | 119=>213 | 224=>117 | 225=>116 | 217=>115 | 266=>151 | n=>n,fun | 9=>9 | 3=>3 | 4=>4 | 5=>5 | 21=>21 | 117=>135 | 116=>134 | 0=>0 | 46=>120 | 124=>138 | n=>n,fun | n=>n⟩
theorem Tryz.QU:Go.Proofs.Lays.n153 Tryz.prog Tryz.pR:={
 mixed:=by kernel_rfl,
 f119:=Tryz.func213.trans (congrArg some (by kernel_rfl)),
 f137:=Tryz.func212.trans (congrArg some (by kernel_rfl)),
 f152:=Tryz.func154.trans (congrArg some (by kernel_rfl)),
 f153:=Tryz.func148.trans (congrArg some (by kernel_rfl)),
 f217:=Tryz.func115.trans (congrArg some (by kernel_rfl)),
 f224:=Tryz.func117.trans (congrArg some (by kernel_rfl)),
 f225:=Tryz.func116.trans (congrArg some (by kernel_rfl)),
 f226:=Tryz.func211.trans (congrArg some (by kernel_rfl)),
 f227:=Tryz.func87.trans (congrArg some (by kernel_rfl)),
 f228:=Tryz.func119.trans (congrArg some (by kernel_rfl)),
 f266:=Tryz.func151.trans (congrArg some (by kernel_rfl)),
 t0:=Tryz.underlying0,
 a0:=Tryz.isAgg0,
 z0:=Tryz.sizeOf0,
 v0:=Tryz.zeroValue0,
 t3:=Tryz.underlying3,
 a3:=Tryz.isAgg3,
 z3:=Tryz.sizeOf3,
 v3:=Tryz.zeroValue3,
 t4:=Tryz.underlying4,
 a4:=Tryz.isAgg4,
 z4:=Tryz.sizeOf4,
 v4:=Tryz.zeroValue4,
 t5:=Tryz.underlying5,
 a5:=Tryz.isAgg5,
 z5:=Tryz.sizeOf5,
 v5:=Tryz.zeroValue5,
 t9:=Tryz.underlying9,
 a9:=Tryz.isAgg9,
 z9:=Tryz.sizeOf9,
 v9:=Tryz.zeroValue9,
 t21:=Tryz.underlying21,
 a21:=Tryz.isAgg21,
 z21:=Tryz.sizeOf21,
 v21:=Tryz.zeroValue21,
 t46:=Tryz.underlying120,
 a46:=Tryz.isAgg120,
 z46:=Tryz.sizeOf120,
 v46:=Tryz.zeroValue120,
 t116:=Tryz.underlying134,
 a116:=Tryz.isAgg134,
 z116:=Tryz.sizeOf134,
 t117:=Tryz.underlying135,
 a117:=Tryz.isAgg135,
 z117:=Tryz.sizeOf135,
 v117:=Tryz.zeroValue135,
 t124:=Tryz.underlying138,
 a124:=Tryz.isAgg138,
 z124:=Tryz.sizeOf138,
 v124:=Tryz.zeroValue138 }
def Tryz.pU:Go.Shelf.Ren:=⟨fun | 137=>212 | 217=>115 | 266=>151 | n=>n,fun | 9=>9 | 5=>5 | 3=>3 | n=>n,fun | n=>n⟩
theorem Tryz.pV:Go.Proofs.Lays.n137 Tryz.prog Tryz.pU:={
 mixed:=by kernel_rfl,
 f137:=Tryz.func212.trans (congrArg some (by kernel_rfl)),
 f217:=Tryz.func115.trans (congrArg some (by kernel_rfl)),
 f266:=Tryz.func151.trans (congrArg some (by kernel_rfl)),
 t3:=Tryz.underlying3,
 a3:=Tryz.isAgg3,
 z3:=Tryz.sizeOf3,
 v3:=Tryz.zeroValue3,
 t5:=Tryz.underlying5,
 a5:=Tryz.isAgg5,
 z5:=Tryz.sizeOf5,
 v5:=Tryz.zeroValue5,
 t9:=Tryz.underlying9,
 a9:=Tryz.isAgg9,
 z9:=Tryz.sizeOf9,
 v9:=Tryz.zeroValue9 }
def Tryz.laysValid_ren:Go.Shelf.Ren:=⟨fun | 119=>213 | n=>n,fun | 21=>21 | 4=>4 | n=>n,fun | n=>n⟩
theorem Tryz.laysValid:Go.Proofs.Lays.n119 Tryz.prog Tryz.laysValid_ren:={
 mixed:=by kernel_rfl,
 f119:=Tryz.func213.trans (congrArg some (by kernel_rfl)),
 t4:=Tryz.underlying4,
 a4:=Tryz.isAgg4,
 z4:=Tryz.sizeOf4,
 v4:=Tryz.zeroValue4,
 t21:=Tryz.underlying21,
 a21:=Tryz.isAgg21,
 z21:=Tryz.sizeOf21,
 v21:=Tryz.zeroValue21 }
end Go.Proofs.YtihlneenajlhoaaGreatDoor
set_option linter.unusedSimpArgs false
set_option linter.unusedVariables false
namespace Go.Proofs.YtihlneenajlhoaaGreatDoor
open Go Go.RowKit
def Ff:ByteArray:=⟨#[32,10,34]⟩
theorem UU:Ff.data.toList = [32,10,34]:=rfl
theorem pW (n b0 b1 b2 b3:Nat) (h:128≤b0) (h0:b0<256) (hn:0<n):let p:=Lib.decodeN n b0 b1 b2 b3;(1≤p.2∧p.2≤4∧p.2≤n)∧(2≤p.2→128≤b1)∧(3≤p.2→128≤b2)∧(4≤p.2→128≤b3)∧128≤p.1∧(p.1<55296∨(57344≤p.1∧p.1≤1114111)):=by
 simp only
 unfold Lib.decodeN
 repeat' split
 all_goals (simp only;omega)
theorem pX (s:ByteArray) (i:Nat) (h:i<s.size) (hx:128≤(s[i]'h).toNat):(1≤(Utf8.decode s i).2∧i+(Utf8.decode s i).2≤s.size)∧(∀j,j<(Utf8.decode s i).2→128≤(s.get! (i+j)).toNat)∧128≤(Utf8.decode s i).1∧((Utf8.decode s i).1<55296∨(57344≤(Utf8.decode s i).1∧(Utf8.decode s i).1≤1114111)):=by
 have h0:128≤(s.get! i).toNat:=by have:=get_at s i h;rw [Nat.add_zero] at this;rw [this];exact hx
 have key:=pW (s.size-i) (s.get! i).toNat (s.get! (i+1)).toNat (s.get! (i+2)).toNat (s.get! (i+3)).toNat h0 (UInt8.toNat_lt _) (by omega)
 rw [←Lib.decode_at s i] at key
 obtain ⟨⟨k1,k2,k3⟩,k4,k5,k6,k7,k8⟩:=key
 refine ⟨⟨k1,by omega⟩,fun j hj => ?_,k7,k8⟩
 have:j=0∨j=1∨j=2∨j=3:=by omega
 rcases this with rfl | rfl | rfl | rfl
 ·exact h0
 ·exact k4 (by omega)
 ·exact k5 (by omega)
 ·exact k6 (by omega)
theorem pY (b:UInt8) (h:128≤b.toNat):Ff.data.toList.contains b=false:=by
 rw [UU]
 simp only [List.contains_eq_mem,decide_eq_false_iff_not,List.mem_cons,List.not_mem_nil,or_false]
 rintro (rfl | rfl | rfl)<;>simp at h
theorem qA {s:ByteArray} {i n:Nat} (h:Lib.NoAny s.data.toList Ff.data.toList i) (hh:∀j,j<n→128≤(s.get! (i+j)).toNat) (hn:i+n≤s.size):Lib.NoAny s.data.toList Ff.data.toList (i+n):=by
 intro j b hj hb
 by_cases hlt:j<i
 ·exact h j b hlt hb
 ·have h1:=hh (j-i) (by omega)
  rw [show i+(j-i)=j by omega] at h1
  have h2:s.get! j=b:=by
   have h3:j<s.size:=by omega
   have h4:=get_at s j h3
   rw [Nat.add_zero] at h4
   rw [h4]
   have h5:s.data.toList[j]?=some (s[j]'h3):=Lib.data_getElem? s j h3
   rw [hb] at h5
   exact (Option.some.inj h5).symm
  rw [h2] at h1
  exact pY b h1
theorem X8 (w:World) (s:ByteArray) (i:Nat):Below w.heap.size w (w.iter s i):=AZ w _
set_option maxRecDepth 100000 in
set_option maxHeartbeats 4000000 in
theorem qB (w:World):Calls Tryz.prog 154 #[.string ⟨#[32,10,34]⟩,.int .i32 65533] w fun e w'=>e=.returned (.int .i64 (-1))∧Below w.heap.size w w':=by
 go_enter Tryz.func154,Tryz.ntmps154
 go_wp2
 go_loopg [5,6] 3 (fun g _ _ wx=>∃i:Nat,i+g=3∧wx=w.iter ⟨#[32,10,34]⟩ i)
 case atStart=>exact ⟨0,rfl,rfl⟩
 case round =>
  obtain ⟨i,hig,rfl⟩:=hrel
  cases gk with
  | zero =>
   obtain rfl:i=3:=by omega
   have hnx:=fun ty=>run_next_end (P:=Tryz.prog) w ⟨#[32,10,34]⟩ 3 ty (by decide)
   go_wp2
   go_ret
   exact ⟨rfl,X8 w _ _⟩
  | succ g =>
   have hi:i=0∨i=1∨i=2:=by omega
   rcases hi with rfl | rfl | rfl
   ·have hnx:=fun ty=>run_next_ascii (P:=Tryz.prog) w ⟨#[32,10,34]⟩ 0 ty (by decide) (by decide)
    have hb:((⟨#[32,10,34]⟩:ByteArray)[0]'(by decide)).toNat=32:=by decide
    go_wp2
    go_roundg g
    case measure=>omega
    case rel=>exact ⟨1,by omega,rfl⟩
   ·have hnx:=fun ty=>run_next_ascii (P:=Tryz.prog) w ⟨#[32,10,34]⟩ 1 ty (by decide) (by decide)
    have hb:((⟨#[32,10,34]⟩:ByteArray)[1]'(by decide)).toNat=10:=by decide
    go_wp2
    go_roundg g
    case measure=>omega
    case rel=>exact ⟨2,by omega,rfl⟩
   ·have hnx:=fun ty=>run_next_ascii (P:=Tryz.prog) w ⟨#[32,10,34]⟩ 2 ty (by decide) (by decide)
    have hb:((⟨#[32,10,34]⟩:ByteArray)[2]'(by decide)).toNat=34:=by decide
    go_wp2
    go_roundg g
    case measure=>omega
    case rel=>exact ⟨3,by omega,rfl⟩
theorem qC {r:Nat} (h0:128≤r) (h1:r<2048):Utf8.encode (r:Int)=⟨#[UInt8.ofNat (0xC0+r / 64),UInt8.ofNat (0x80+r%64)]⟩:=by
 have hv:Utf8.valid (r:Int)=true:=by unfold Utf8.valid;simp;omega
 unfold Utf8.encode
 rw [if_pos hv]
 simp only [Int.toNat_natCast]
 rw [if_neg (by omega),if_pos (by omega)]
theorem qE {r:Nat} (h0:2048≤r) (h1:r<65536) (hv:r<55296∨(57344≤r∧r≤1114111)):Utf8.encode (r:Int)=⟨#[UInt8.ofNat (0xE0+r / 4096),UInt8.ofNat (0x80+r / 64%64),UInt8.ofNat (0x80+r%64)]⟩:=by
 have hv:Utf8.valid (r:Int)=true:=by unfold Utf8.valid;simp;omega
 unfold Utf8.encode
 rw [if_pos hv]
 simp only [Int.toNat_natCast]
 rw [if_neg (by omega),if_neg (by omega),if_pos (by omega)]
theorem qF {r:Nat} (h0:65536≤r) (h1:r≤1114111):Utf8.encode (r:Int)=⟨#[UInt8.ofNat (0xF0+r / 262144),UInt8.ofNat (0x80+r / 4096%64),UInt8.ofNat (0x80+r / 64%64),UInt8.ofNat (0x80+r%64)]⟩:=by
 have hv:Utf8.valid (r:Int)=true:=by unfold Utf8.valid;simp;omega
 unfold Utf8.encode
 rw [if_pos hv]
 simp only [Int.toNat_natCast]
 rw [if_neg (by omega),if_neg (by omega),if_neg (by omega)]
theorem X9 (k:Nat):128≤(UInt8.ofNat (128+k%64)).toNat:=by
 rw [UInt8.toNat_ofNat']
 omega
theorem UV {r:Nat} (h:r<55296∨(57344≤r∧r≤1114111)):Lib.validRune (r:Int)=true:=by
 unfold Lib.validRune
 simp
 omega
theorem YA:∀(l:List UInt8) (y:UInt8),y∉l→Lib.indexByte l y = -1
 | [],_,_=>rfl
 | a :: l,y,h=>by
  have h1:(a==y)=false:=by simpa using fun e=>h (by rw [e];exact List.mem_cons_self)
  have h2:=YA l y (fun hm=>h (List.mem_cons_of_mem _ hm))
  unfold Lib.indexByte
  rw [h1,h2]
  rfl
theorem YB (i j:Nat) (y:UInt8) (hy:128≤y.toNat) (w:World):Calls Tryz.prog 212 #[.string ((⟨#[32,10,34]⟩:ByteArray).extract i j),.int .u8 y.toNat] w fun e w'=>e=.returned (.int .i64 (-1))∧w'=w:=by
 refine (Any.strings_IndexByte Tryz.pV _ (y.toNat:Int) w).mono ?_
 rintro e w' ⟨rfl,rfl⟩
 refine ⟨?_,rfl⟩
 have e1:((y.toNat:Int)).toNat.toUInt8=y:=by simp
 rw [e1,YA _ _ ?_]
 intro hm
 have h2:y∈[(32:UInt8),10,34]:=by
  have:((⟨#[32,10,34]⟩:ByteArray).extract i j).data.toList=([32,10,34]:List UInt8).extract i j:=by simp
  rw [this] at hm
  exact List.mem_of_mem_drop (List.mem_of_mem_take (by simpa [List.extract] using hm))
 simp only [List.mem_cons,List.not_mem_nil,or_false] at h2
 rcases h2 with rfl | rfl | rfl<;>simp at hy
theorem qG (y:UInt8) (hy:128≤y.toNat) (w:World):Calls Tryz.prog 212 #[.string ByteArray.empty,.int .u8 y.toNat] w fun e w'=>e=.returned (.int .i64 (-1))∧w'=w:=YB 3 3 y hy w
theorem YC {Q:Exit→Act→World→Prop} {a:Act} {w:World} (h:Q .ret a w):Exit.noGoto Q .ret a w:=h
theorem YD {Q:Exit→Act→World→Prop} {a:Act} {w:World} {n:Nat} (h:Q .ret a w):Exit.inBlock n Q .ret a w:=h
theorem YE {Q:Exit→Act→World→Prop} {K:Act→World→Prop} {a:Act} {w:World} (h:Q .ret a w):Exit.then K Q .ret a w:=h
set_option maxRecDepth 1000000 in
set_option maxHeartbeats 4000000 in
theorem qH (r:Nat) (w:World) (h0:128≤r) (h1:r<2048):Calls Tryz.prog 154 #[.string ⟨#[32,10,34]⟩,.int .i32 r] w fun e w'=>e=.returned (.int .i64 (-1))∧Below w.heap.size w w':=by
 obtain ⟨x,y,he,hy⟩:∃x y:UInt8,Utf8.encode (r:Int)=⟨#[x,y]⟩∧128≤y.toNat:=⟨_,_,qC h0 h1,X9 r⟩
 have e10:∀h,(((⟨#[32,10,34]⟩:ByteArray)[1]'h).toNat:Int)=10:=fun _=>rfl
 have ey:∀h,(((⟨#[x,y]⟩:ByteArray)[1]'h).toNat:Int)=y.toNat:=fun _=>rfl
 have hw2:IntKind.i64.wrap 2=2:=by decide
 have hsz:(⟨#[32,10,34]⟩:ByteArray).size=3:=rfl
 have hy1:((10:Int) != (y.toNat:Int))=true:=by simp;omega
 have HV:=Lib.hid (UV (r:=r) (by omega))
 have q1:decide ((0:Int)≤(r:Int))=true:=by simp
 have q2:decide ((r:Int)<128)=false:=by simp;omega
 have q3:((r:Int)==65533)=false:=by simp;omega
 clear h0 h1
 go_enter Tryz.func154,Tryz.ntmps154
 go_wp2_with (first
  | (go_at_call 213;refine (Any.utf8_ValidRune Tryz.laysValid r w).mono ?_;rintro e w1 ⟨rfl,hw⟩;rw [hw,HV.out];clear hw))
 go_step3
 go_wp2
 refine wp_loop_rounds 1 ?_
 rw [rounds_succ]
 go_wp2
 go_step3
 go_wp2
 go_quiet (fail)
 go_wp2
 go_quiet ((go_at_call 212;exact (YB _ _ y hy _).mono (fun _ _ hq=>⟨hq.1,_,hq.2⟩)))
 go_wp2
 repeat (first | refine YC ?_ | refine YD ?_ | refine YE ?_)
 go_ret
 exact ⟨rfl,below_drewN (Below.refl _ _) _⟩
set_option maxRecDepth 1000000 in
set_option maxHeartbeats 4000000 in
theorem qI (r:Nat) (w:World) (h0:2048≤r) (h1:r<65536) (h3:r≠65533) (h2:r<55296∨(57344≤r∧r≤1114111)):Calls Tryz.prog 154 #[.string ⟨#[32,10,34]⟩,.int .i32 r] w fun e w'=>e=.returned (.int .i64 (-1))∧Below w.heap.size w w':=by
 obtain ⟨x1,x2,y,he,hy⟩:∃x1 x2 y:UInt8,Utf8.encode (r:Int)=⟨#[x1,x2,y]⟩∧128≤y.toNat:=⟨_,_,_,qE h0 h1 h2,X9 r⟩
 have e10:∀h,(((⟨#[32,10,34]⟩:ByteArray)[2]'h).toNat:Int)=34:=fun _=>rfl
 have ey:∀h,(((⟨#[x1,x2,y]⟩:ByteArray)[2]'h).toNat:Int)=y.toNat:=fun _=>rfl
 have hw2:IntKind.i64.wrap 3=3:=by decide
 have hsz:(⟨#[32,10,34]⟩:ByteArray).size=3:=rfl
 have hy1:((34:Int) != (y.toNat:Int))=true:=by simp;omega
 have HV:=Lib.hid (UV (r:=r) h2)
 have q1:decide ((0:Int)≤(r:Int))=true:=by simp
 have q2:decide ((r:Int)<128)=false:=by simp;omega
 have q3:((r:Int)==65533)=false:=by simp;omega
 clear h0 h1 h2 h3
 go_enter Tryz.func154,Tryz.ntmps154
 go_wp2_with (first
  | (go_at_call 213;refine (Any.utf8_ValidRune Tryz.laysValid r w).mono ?_;rintro e w1 ⟨rfl,hw⟩;rw [hw,HV.out];clear hw))
 go_step3
 go_wp2
 refine wp_loop_rounds 1 ?_
 rw [rounds_succ]
 go_wp2
 go_step3
 go_wp2
 go_quiet (fail)
 go_wp2
 go_quiet ((go_at_call 212;exact (qG y hy _).mono (fun _ _ hq=>⟨hq.1,_,hq.2⟩)))
 go_wp2
 repeat (first | refine YC ?_ | refine YD ?_ | refine YE ?_)
 go_ret
 exact ⟨rfl,below_drewN (Below.refl _ _) _⟩
set_option maxRecDepth 1000000 in
set_option maxHeartbeats 4000000 in
theorem qJ (r:Nat) (w:World) (h0:65536≤r) (h1:r≤1114111):Calls Tryz.prog 154 #[.string ⟨#[32,10,34]⟩,.int .i32 r] w fun e w'=>e=.returned (.int .i64 (-1))∧Below w.heap.size w w':=by
 obtain ⟨x1,x2,x3,y,he⟩:∃x1 x2 x3 y:UInt8,Utf8.encode (r:Int)=⟨#[x1,x2,x3,y]⟩:=⟨_,_,_,_,qF h0 h1⟩
 have hsz:(⟨#[32,10,34]⟩:ByteArray).size=3:=rfl
 have HV:=Lib.hid (UV (r:=r) (by omega))
 have q1:decide ((0:Int)≤(r:Int))=true:=by simp
 have q2:decide ((r:Int)<128)=false:=by simp;omega
 have q3:((r:Int)==65533)=false:=by simp;omega
 clear h0 h1
 go_enter Tryz.func154,Tryz.ntmps154
 go_wp2_with (first
  | (go_at_call 213;refine (Any.utf8_ValidRune Tryz.laysValid r w).mono ?_;rintro e w1 ⟨rfl,hw⟩;rw [hw,HV.out];clear hw))
 go_step3
 go_wp2
 refine wp_loop_rounds 1 ?_
 rw [rounds_succ]
 go_wp2
 rw [Exit.noGoto_ret]
 go_ret
 exact ⟨rfl,Below.refl _ _⟩
theorem qK (r:Nat) (w:World) (h0:128≤r) (h1:r<55296∨(57344≤r∧r≤1114111)):Calls Tryz.prog 154 #[.string ⟨#[32,10,34]⟩,.int .i32 r] w fun e w'=>e=.returned (.int .i64 (-1))∧Below w.heap.size w w':=by
 by_cases hr:r=65533
 ·subst hr;exact qB w
 ·by_cases h2:r<2048
  ·exact qH r w h0 h2
  ·by_cases h3:r<65536
   ·exact qI r w (by omega) h3 hr h1
   ·exact qJ r w (by omega) (by omega)
theorem qL {w:World} {b:Nat} {s:ByteArray} {pos:Nat} (hg:w.heap[b]?=some (.stringIter s pos)) (h:pos<s.size) (ty:TypeId) :
  (Instr.next (.pointer (some ⟨b,0,none⟩)) true ty).run Tryz.prog w =
   .ok (.tuple #[.bool true,.int .i64 pos,.int .i32 (Utf8.decode s pos).1]) { w with heap:=w.heap.setIfInBounds b (.stringIter s (pos+(Utf8.decode s pos).2)) }:=by
 simp only [Instr.next,getObj,setObj,Sem.run_bind,Sem.run,hg,Result.andThen,h,if_true]
 simp [goInt]
theorem qM {w:World} {b:Nat} {s:ByteArray} {pos:Nat} (hg:w.heap[b]?=some (.stringIter s pos)) (h:¬pos<s.size) (ty:TypeId) :
  (Instr.next (.pointer (some ⟨b,0,none⟩)) true ty).run Tryz.prog w=.ok (.tuple #[.bool false]) w:=by
 simp [Instr.next,getObj,Sem.run,hg,h]
theorem qN {B b:Nat} {a w:World} (x:Obj) (hB:B≤b) (h:Below B a w):Below B a { w with heap:=w.heap.setIfInBounds b x } :=
 ⟨h.os,h.tape,h.output,by simpa using h.size,fun k hk=>by
  have:=h.block k hk
  rw [←this]
  simp only [Array.getElem?_setIfInBounds]
  rw [if_neg (by omega)]⟩
theorem qO {w:World} {b:Nat} {x:Obj} (y:Obj) (h:w.heap[b]?=some x):({ w with heap:=w.heap.setIfInBounds b y }:World).heap[b]?=some y:=by
 have hb:b<w.heap.size:=by
  rcases Nat.lt_or_ge b w.heap.size with h1 | h1
  ·exact h1
  ·rw [Array.getElem?_eq_none h1] at h;cases h
 show (w.heap.setIfInBounds b y)[b]?=_
 simp [Array.getElem?_setIfInBounds,hb]
set_option maxRecDepth 1000000 in
set_option maxHeartbeats 4000000 in
theorem qP (s:ByteArray) (w:World) (h8:s.size≤8):Calls Tryz.prog 148 #[.string s,.string ⟨#[32,10,34]⟩] w fun e w'=>e=.returned (.int .i64 (Lib.indexAny s.data.toList Ff.data.toList))∧Below w.heap.size w w':=by
 have h8z:decide ((8:Int)<(s.size:Int))=false:=decide_eq_false (by omega)
 go_enter Tryz.func148,Tryz.ntmps148
 go_wp2_with (go_at_call 211;refine (Any.strings_shouldUseASCIISet { Tryz.QU with } _ _).mono ?_;rintro e w' ⟨rfl,hw⟩;rw [hw,h8z];clear hw)
 go_loopg [9,10] s.size (fun g _ _ wx=>∃i:Nat,i+g=s.size∧wx.heap[w.heap.size]?=some (.stringIter s i)∧Below w.heap.size w wx∧Lib.NoAny s.data.toList Ff.data.toList i)
 case atStart=>exact ⟨0,by omega,World.iter_heap w s 0,X8 w s 0,Lib.NoAny.zero _ _⟩
 case round =>
  obtain ⟨i,hig,hit,hbel,hno⟩:=hrel
  have HN:=Lib.hid hno
  clear hno
  cases gk with
  | zero =>
   obtain rfl:i=s.size:=by omega
   have hnx:=fun ty=>qM hit (Nat.lt_irrefl _) ty
   go_wp2
   go_ret
   exact ⟨by rw [Lib.indexAny_none (by rw [←Lib.size_eq];exact HN.out)];rfl,hbel⟩
  | succ g =>
   have hi:i<s.size:=by omega
   have hnx:=fun ty=>qL hit hi ty
   have hw1:=qO (.stringIter s (i+(Utf8.decode s i).2)) hit
   have hb1:=qN (.stringIter s (i+(Utf8.decode s i).2)) (Nat.le_refl _) hbel
   generalize ({ wr with heap:=wr.heap.setIfInBounds w.heap.size (.stringIter s (i+(Utf8.decode s i).2)) }:World)=w1 at hnx hw1 hb1
   clear hit hbel
   obtain ⟨x,hx⟩:∃x:UInt8,s[i]'hi=x:=⟨_,rfl⟩
   have Hx:=Lib.hid (show s.data.toList[i]?=some x by rw [←hx];exact Lib.data_getElem? s i hi)
   by_cases hlo:x.toNat<128
   ·have hd:=decode_ascii s i hi (by rw [hx];exact hlo)
    rw [hx] at hd
    rw [hd] at hnx hw1
    have hcon:=Lib.contains_iff_indexByte Ff.data.toList x
    have hback:((x.toNat:Int)).toNat.toUInt8=x:=by simp
    clear hd hx
    cases hin:Ff.data.toList.contains x
    ·rw [hin] at hcon
     have hlt:decide ((0:Int)≤Lib.indexByte [32,10,34] x)=false:=hcon.symm
     clear hcon
     go_wp2_with (go_at_call 154;refine (Any.strings_IndexRune_ascii { Tryz.QU with } _ _ _ (by omega) (by omega)).mono ?_;rintro e w' ⟨rfl,hw⟩;rw [hw,hback];clear hw)
     go_roundg g
     case measure=>omega
     case rel=>exact ⟨i+1,by omega,hw1,hb1,HN.out.succ Hx.out hin⟩
    ·rw [hin] at hcon
     have hge:decide ((0:Int)≤Lib.indexByte [32,10,34] x)=true:=hcon.symm
     clear hcon
     go_wp2_with (go_at_call 154;refine (Any.strings_IndexRune_ascii { Tryz.QU with } _ _ _ (by omega) (by omega)).mono ?_;rintro e w' ⟨rfl,hw⟩;rw [hw,hback];clear hw)
     go_ret
     exact ⟨by rw [Lib.indexAny_hit HN.out Hx.out hin];rfl,hb1⟩
   ·obtain ⟨⟨k1,k2⟩,k3,k4,k5⟩:=pX s i hi (by rw [hx];omega)
    have HN2:=Lib.hid (qA HN.out k3 k2)
    have HR:=Lib.hid (fun w=>qK (Utf8.decode s i).1 w k4 k5)
    clear k3 k4 k5 HN Hx hx
    generalize (Utf8.decode s i).1=r at hnx HR
    generalize (Utf8.decode s i).2=k at k1 k2 hnx hw1 hb1 HN2
    have hs1:w.heap.size<w1.heap.size:=by
     rcases Nat.lt_or_ge w.heap.size w1.heap.size with h1 | h1
     ·exact h1
     ·rw [Array.getElem?_eq_none h1] at hw1;cases hw1
    go_wp2_with (go_at_call 154;refine (HR.out _).mono ?_;rintro e w2 ⟨rfl,hw2⟩;have hw3:=hw2.block _ hs1;have hb3:=hb1.trans (hw2.mono (Nat.le_of_lt hs1)))
    go_roundg (g+1-k)
    case measure=>omega
    case rel=>exact ⟨i+k,by omega,by rw [hw3];exact hw1,hb3,HN2.out⟩
theorem qQ (s:ByteArray) (w:World) (h8:8<s.size) (hs:s.size<4294967281):Calls Tryz.prog 148 #[.string s,.string ⟨#[32,10,34]⟩] w fun e w'=>e=.returned (.int .i64 (Lib.indexAny s.data.toList Ff.data.toList))∧Below w.heap.size w w':=by
 have z:=zero_of_info (P:=Tryz.prog) (t:=134) (v:=.agg (Array.replicate 256 (.bool false))) (n:=256) (by kernel_rfl)
 refine (Any.strings_IndexAny_long Tryz.QU z.1 z.2 s Ff w (by decide) h8 hs (by decide) ?_).mono fun e w' ⟨h1,h2⟩=>⟨h1,?_⟩
 ·intro j b hb
  have hm:b∈Ff.data.toList:=List.mem_of_getElem? hb
  rw [UU] at hm
  simp only [List.mem_cons,List.not_mem_nil,or_false] at hm
  rcases hm with rfl | rfl | rfl<;>decide
 ·rw [h2]
  exact ((Below.refl _ _).alloc (Nat.le_refl _) _).alloc (by simp) _
theorem qR (s:ByteArray) (w:World) (hs:s.size<4294967281):Calls Tryz.prog 148 #[.string s,.string ⟨#[32,10,34]⟩] w fun e w'=>e=.returned (.int .i64 (Lib.indexAny s.data.toList Ff.data.toList))∧Below w.heap.size w w':=by
 by_cases h8:s.size≤8
 ·exact qP s w h8
 ·exact qQ s w (by omega) hs
def GZ (l:List UInt8):Bool:=l.any fun c=>c==32||c==10||c==34
theorem YF:∀l:List UInt8,decide (0≤Lib.indexAny l Ff.data.toList)=GZ l
 | []=>rfl
 | a :: l=>by
  have ih:=YF l
  have hg:=Lib.indexAny_ge Ff.data.toList l
  have hc:Ff.data.toList.contains a=(a==32||a==10||a==34):=by
   rw [UU]
   simp only [List.contains_eq_mem,List.mem_cons,List.not_mem_nil,or_false,Bool.decide_or,Bool.or_assoc]
   rfl
  unfold Lib.indexAny
  simp only [GZ,List.any_cons]
  rw [hc]
  cases a==32||a==10||a==34
  ·simp only [Bool.false_or,Bool.false_eq_true,if_false]
   rw [←GZ,←ih]
   generalize Lib.indexAny l Ff.data.toList=n at *
   by_cases hn:n = -1
   ·subst hn;rfl
   ·rw [if_neg (by simpa using hn)]
    exact decide_eq_decide.2 ⟨fun _=>by omega,fun _=>by omega⟩
  ·simp
set_option maxRecDepth 100000 in
theorem qU (s:ByteArray) (w:World) (hs:s.size<4294967281):Calls Tryz.prog 112 #[.string s,.string ⟨#[32,10,34]⟩] w fun e w'=>e=.returned (.bool (GZ s.data.toList))∧Below w.heap.size w w':=by
 have h:=YF s.data.toList
 generalize GZ s.data.toList=v at h ⊢
 go_enter Tryz.func112,Tryz.ntmps112
 go_wp2_with (go_at_call 148;refine (qR s _ hs).mono ?_;rintro e w1 ⟨rfl,hb1⟩)
 go_ret
 exact ⟨rfl,hb1⟩
end Go.Proofs.YtihlneenajlhoaaGreatDoor
set_option linter.unusedVariables false
namespace Go.Proofs.YtihlneenajlhoaaGreatDoor.sp
open Go
def BN (n:Int):Prop := -1000000000<n∧n<1000000000
instance (n:Int):Decidable (BN n):=inferInstanceAs (Decidable (_∧_))
def BP (s:Bs):Bool := !s.isEmpty&&s.all fun c=>c != 32&&c != 10&&c != 34
def FI (b:Int):Bs:=if b=0 then Gv else if b=1 then Gw else Gx
def FK (s:Bs):Bs:=if s = [] then [45] else s
abbrev sp (s:Bs):Bs:=32 :: s
def AU (o:Op):Option Bs :=
 if o.kind=1 then if BN o.origin then some (BX++sp (Lib.itoa o.origin)++sp (DJ o.text)) else none
 else if o.kind=2 then if BM o.w.1 o.w.2∧BM o.h.1 o.h.2 then some (BA++sp (AP o.w.1 o.w.2)++sp (AP o.h.1 o.h.2)) else none
 else if o.kind=3 then if BM o.w.1 o.w.2 then some (BB++sp (AP o.w.1 o.w.2)) else none
 else if o.kind=13 then if BM o.w.1 o.w.2 then some (BC++sp (AP o.w.1 o.w.2)) else none
 else if o.kind=14 then some (Au++sp (if o.on then Ar else Bl))
 else if o.kind=4 then if BP o.name∧BP o.word then some (BZ++sp o.name++sp o.word) else none
 else if o.kind=5 then if BN o.node∧BN o.at_∧BP o.name then some (Ba++sp (Lib.itoa o.node)++sp (Lib.itoa o.at_)++sp o.name) else none
 else if o.kind=6 then if BN o.node then some (BD++sp (Lib.itoa o.node)) else none
 else if o.kind=7 then if BN o.node∧BP o.name then some (Bc++sp (Lib.itoa o.node)++sp o.name++sp (DJ o.word)) else none
 else if o.kind=8 then if BN o.node∧BP o.name then some (BF++sp (Lib.itoa o.node)++sp o.name) else none
 else if o.kind=9 then if BN o.node∧(0≤o.bt∧o.bt≤2)∧o.bn≠[45]∧(o.bn = []∨BP o.bn)∧BM o.bw.1 o.bw.2∧BM o.bh.1 o.bh.2 then some (kBox++sp (Lib.itoa o.node)++sp (FI o.bt)++sp (FK o.bn)++sp (AP o.bw.1 o.bw.2)++sp (AP o.bh.1 o.bh.2)) else none
 else if o.kind=10 then if BN o.node∧BP o.name then some (BG++sp (Lib.itoa o.node)++sp o.name) else none
 else if o.kind=11 then if BN o.node∧BP o.name then some (BH++sp (Lib.itoa o.node)++sp o.name) else none
 else if o.kind=12 then if BN o.node then some (BI++sp (Lib.itoa o.node)) else none
 else if o.kind=15 then some BJ
 else none
def textS:List Op→Option Bs
 | []=>some []
 | o :: l=>(AU o).bind fun s=>(textS l).map fun t=>s++10 :: t
def Dx (s:Bs):Bool:=(s.dropWhile (· == 32)).head?==none||(s.dropWhile (· == 32)).head?==some 35
noncomputable def lineS (s:Bs):Option (Option Op) :=
 if 10∈s then none else if Dx s then some none else
 match words s with
 | some ((w,false) :: a)=>(Ai w a).map some
 | _=>none
/-! ### Words, written and read -/
theorem MC:words []=some []:=by rw [words.eq_def];rfl
theorem OW (s:Bs):words (32 :: s)=words s:=by
 rw [words.eq_def,words.eq_def s]
 rfl
theorem YG {w u:Bs} (h0:w≠[]) (h:∀c∈w,Aw c=true) (hu:u.head?=none∨u.head?=some 32):words (w++u)=(words u).map fun l=>(w,false) :: l:=by
 obtain ⟨c,r,rfl⟩:=List.exists_cons_of_ne_nil h0
 have hc:=h c List.mem_cons_self
 have hc1:c≠32∧c≠34:=by simpa [Aw] using hc
 have hd:(c :: r++u).dropWhile (· == 32)=c :: (r++u):=by
  rw [List.cons_append,List.dropWhile_cons,if_neg]
  simpa using hc1.1
 have YH:(c :: (r++u)).dropWhile Aw=u∧(c :: (r++u)).takeWhile Aw=c :: r:=by
  have hst:∀u:Bs,(u.head?=none∨u.head?=some 32)→u.dropWhile Aw=u∧u.takeWhile Aw = []:=by
   intro u hu
   cases u with
   | nil=>exact ⟨rfl,rfl⟩
   | cons x u =>
    have hx:x=32:=by simpa using hu
    subst hx
    exact ⟨rfl,rfl⟩
  rw [←List.cons_append]
  constructor
  ·rw [List.dropWhile_append_of_pos h];exact (hst u hu).1
  ·rw [List.takeWhile_append_of_pos h,(hst u hu).2,List.append_nil]
 rw [words.eq_def]
 split
 ·rename_i h1;rw [hd] at h1;cases h1
 ·rename_i c' r' h1
  rw [hd] at h1
  obtain ⟨rfl,rfl⟩:=List.cons.inj h1
  rw [if_neg hc1.2,YH.1,YH.2,if_neg]
  rcases hu with hu | hu<;>rw [hu]<;>decide
theorem qV (t:Bs) {u:Bs} (hu:u.head?=none∨u.head?=some 32):words (DJ t++u)=(words u).map fun l=>(t,true) :: l:=by
 have hq:Aj (t.flatMap Bj++[34]++u)=some (t,u):=by
  rw [List.append_assoc];exact oN t u
 have hd:(DJ t++u).dropWhile (· == 32)=34 :: (t.flatMap Bj++[34]++u):=by
  unfold DJ
  rw [List.cons_append,List.dropWhile_cons,if_neg (by decide)]
 rw [words.eq_def]
 split
 ·rename_i h1;rw [hd] at h1;cases h1
 ·rename_i c' r' h1
  rw [hd] at h1
  obtain ⟨rfl,rfl⟩:=List.cons.inj h1
  rw [if_pos rfl]
  split
  ·rename_i h2;rw [hq] at h2;cases h2
  ·rename_i t' u' h2
   rw [hq] at h2
   cases h2
   rw [if_pos hu]
def Piece (p:Bs×Wd):Prop:=(∀u:Bs,(u.head?=none∨u.head?=some 32)→words (p.1++u)=(words u).map fun l=>p.2 :: l)∧(10:UInt8)∉p.1
def row (ps:List (Bs×Wd)):Bs:=ps.flatMap fun p=>32 :: p.1
theorem YI (ps:List (Bs×Wd)):(row ps).head?=none∨(row ps).head?=some 32:=by
 cases ps with
 | nil=>exact Or.inl rfl
 | cons p ps=>exact Or.inr rfl
theorem qW (ps:List (Bs×Wd)) (h:∀p∈ps,Piece p):words (row ps)=some (ps.map (·.2)):=by
 induction ps with
 | nil=>exact MC
 | cons p ps ih =>
  have e:row (p :: ps)=32 :: (p.1++row ps):=by simp [row]
  rw [e,OW,(h p List.mem_cons_self).1 _ (YI ps),ih fun q hq=>h q (List.mem_cons_of_mem _ hq)]
  rfl
theorem qX (ps:List (Bs×Wd)) (h:∀p∈ps,Piece p):(10:UInt8)∉row ps:=by
 intro hm
 obtain ⟨p,hp,hx⟩:=List.mem_flatMap.1 hm
 rcases List.mem_cons.1 hx with hx | hx
 ·exact absurd hx (by decide)
 ·exact (h p hp).2 hx
theorem F7 {k:Bs} (hk0:k≠[]) (hk:∀c∈k,(c != 32&&c != 34&&c != 10&&c != 35)=true) (ps:List (Bs×Wd)) (h:∀p∈ps,Piece p):lineS (k++row ps)=(Ai k (ps.map (·.2))).map some:=by
 have hw:∀c∈k,Aw c=true:=fun c hc=>by
  have:=hk c hc
  simp only [Bool.and_eq_true] at this
  simp [Aw,this.1.1.1,this.1.1.2]
 have hnl:(10:UInt8)∉k++row ps:=by
  rw [List.mem_append]
  rintro (hm | hm)
  ·exact absurd (hk 10 hm) (by decide)
  ·exact qX ps h hm
 have hs:Dx (k++row ps)=false:=by
  obtain ⟨c,r,rfl⟩:=List.exists_cons_of_ne_nil hk0
  have hc:=hk c List.mem_cons_self
  simp only [Bool.and_eq_true,bne_iff_ne,ne_eq] at hc
  unfold Dx
  rw [List.cons_append,List.dropWhile_cons,if_neg (by simpa using hc.1.1.1)]
  simp [hc.2]
 unfold lineS
 rw [if_neg hnl,hs,YG hk0 hw (YI ps),qW ps h]
 rfl
theorem MF {w:Bs} (h0:w≠[]) (h:∀c∈w,(c != 32&&c != 34&&c != 10)=true):Piece (w,(w,false)):=by
 refine ⟨fun u hu=>YG h0 (fun c hc => ?_) hu,fun hm=>absurd (h 10 hm) (by decide)⟩
 have:=h c hc
 simp only [Bool.and_eq_true] at this
 simp [Aw,this.1.1,this.1.2]
theorem JY {w:Bs} (h:BP w=true):Piece (w,(w,false)):=by
 unfold BP at h
 simp only [Bool.and_eq_true,Bool.not_eq_true',List.isEmpty_eq_false_iff,List.all_eq_true] at h
 refine MF h.1 fun c hc => ?_
 have:=h.2 c hc
 simp only [Bool.and_eq_true]
 exact ⟨⟨this.1.1,this.2⟩,this.1.2⟩
theorem UW {c:UInt8} (h:OM c=true):(c != 32&&c != 34&&c != 10)=true:=by
 simp only [Bool.and_eq_true,bne_iff_ne,ne_eq]
 refine ⟨⟨?_,?_⟩,?_⟩<;>(rintro rfl;exact absurd h (by decide))
theorem IM (n:Int):Piece (Lib.itoa n,(Lib.itoa n,false)):=by
 obtain ⟨c,r,e,_⟩:=UJ n
 exact MF (by rw [e];exact List.cons_ne_nil _ _) fun c hc=>UW (OO n c hc)
theorem MG (n d:Int):Piece (AP n d,(AP n d,false)):=by
 refine MF ?_ ?_
 ·unfold AP
  split
  ·obtain ⟨c,r,e,_⟩:=UJ n
   rw [e];exact List.cons_ne_nil _ _
  ·exact List.cons_ne_nil _ _
 ·unfold AP
  intro c hc
  split at hc
  ·rcases List.mem_append.1 hc with hc | hc
   ·exact UW (OO n c hc)
   ·split at hc
    ·rcases List.mem_cons.1 hc with rfl | hc
     ·decide
     ·exact UW (OO d c hc)
    ·cases hc
  ·revert c;decide
theorem qY (c:UInt8):(10:UInt8)∉Bj c:=by
 have hx:∀k,k<16→GK k≠10:=by decide
 unfold Bj
 intro h
 split at h
 ·rename_i h1
  simp only [List.mem_cons,List.not_mem_nil,or_false] at h
  rcases h with h | rfl
  ·exact absurd h (by decide)
  ·rcases h1 with h1 | h1<;>exact absurd h1 (by decide)
 ·split at h
  ·revert h;decide
  ·split at h
   ·simp only [List.mem_cons,List.not_mem_nil,or_false] at h
    have:=c.toNat_lt
    rcases h with h | h | h | h
    ·exact absurd h (by decide)
    ·exact absurd h (by decide)
    ·exact hx _ (by omega) h.symm
    ·exact hx _ (by omega) h.symm
   ·rename_i h1 _
    simp only [List.mem_cons,List.not_mem_nil,or_false] at h
    exact h1 h.symm
theorem YJ (t:Bs):Piece (DJ t,(t,true)):=by
 refine ⟨fun u hu=>qV t hu,?_⟩
 unfold DJ
 simp only [List.mem_cons,List.mem_append,List.mem_flatMap,List.not_mem_nil,or_false,not_or]
 refine ⟨by decide,?_,by decide⟩
 rintro ⟨c,_,h⟩
 exact qY c h
/-! ### An operation, written and read -/
def AV (o:Op):Op :=
 if o.kind=1 then { kind:=1,origin:=o.origin,text:=o.text }
 else if o.kind=2 then { kind:=2,w:=o.w,h:=o.h }
 else if o.kind=3 then { kind:=3,w:=o.w }
 else if o.kind=13 then { kind:=13,w:=o.w }
 else if o.kind=14 then { kind:=14,on:=o.on }
 else if o.kind=4 then { kind:=4,name:=o.name,word:=o.word }
 else if o.kind=5 then { kind:=5,node:=o.node,at_:=o.at_,name:=o.name }
 else if o.kind=6 then { kind:=6,node:=o.node }
 else if o.kind=7 then { kind:=7,node:=o.node,name:=o.name,word:=o.word }
 else if o.kind=8 then { kind:=8,node:=o.node,name:=o.name }
 else if o.kind=9 then { kind:=9,node:=o.node,bt:=o.bt,bn:=o.bn,bw:=o.bw,bh:=o.bh }
 else if o.kind=10 then { kind:=10,node:=o.node,name:=o.name }
 else if o.kind=11 then { kind:=11,node:=o.node,name:=o.name }
 else if o.kind=12 then { kind:=12,node:=o.node }
 else { kind:=o.kind }
structure Op.ok (o:Op):Prop where
 w1:I64 o.w.1
 w2:I64 o.w.2
 h1:I64 o.h.1
 h2:I64 o.h.2
 bw1:I64 o.bw.1
 bw2:I64 o.bw.2
 bh1:I64 o.bh.1
 bh2:I64 o.bh.2
theorem IP {n:Int} (h:BN n):Bf (Lib.itoa n,false)=some n:=oC h.1 h.2
theorem MH {p:Int×Int} (h1:I64 p.1) (h2:I64 p.2) (h:BM p.1 p.2):CW (AP p.1 p.2,false)=some p:=UL h1 h2 h
theorem Iz (s:Bs):A7 (s,false)=some s:=rfl
theorem YK (s:Bs):wText (s,true)=some s:=rfl
theorem F8:∀p∈([]:List (Bs×Wd)),Piece p:=fun _ h=>by cases h
theorem Dn {p:Bs×Wd} {l:List (Bs×Wd)} (h:Piece p) (hl:∀q∈l,Piece q):∀q∈p :: l,Piece q:=fun q hq=>by
 rcases List.mem_cons.1 hq with rfl | hq
 ·exact h
 ·exact hl q hq
end Go.Proofs.YtihlneenajlhoaaGreatDoor.sp
set_option linter.unusedSimpArgs false
set_option linter.unusedVariables false
namespace Go.Proofs.YtihlneenajlhoaaGreatDoor
open Go Go.RowKit
def CZ (s:ByteArray):Bool:=sp.BP s.data.toList
theorem qZ (l:List UInt8):(l.all fun c=>c != 32&&c != 10&&c != 34) = !GZ l:=by
 induction l with
 | nil=>rfl
 | cons a l ih =>
  unfold GZ at *
  rw [List.all_cons,List.any_cons,ih]
  cases h1:a==32<;>cases h2:a==10<;>cases h3:a==34<;>simp [bne,h1,h2,h3]
theorem UX (s:ByteArray):CZ s=(!s.data.toList.isEmpty && !GZ s.data.toList):=by
 unfold CZ sp.BP
 rw [qZ]
theorem rC (f:ByteArray→Bool) (ok:Bool) (ns:List ByteArray) (k:Nat) (h:k<ns.length):(ok&&(ns.take (k+1)).all f)=((ok&&(ns.take k).all f)&&f ns[k]):=by
 rw [List.take_add_one,List.getElem?_eq_getElem h,List.all_append]
 simp [Bool.and_assoc]
theorem rD (ss:List ByteArray) (k:Nat) (h:k<ss.length):Ae (ss.take (k+1))=Ae (ss.take k)++Ae [ss[k]]:=by
 rw [OQ ss k h]
 simp [Ae]
theorem rE (w:World) (b:Nat) (own:Option Nat) (l:List UInt8) (ok ok':Bool) (s:ByteArray) (h:Bld w 123 [.bool ok] b own l) (hn:l.length+(Ae [s]).length≤140737488355328) :
  Calls Tryz.prog 77 #[.pointer (some ⟨b,0,none⟩),.slice (some ⟨w.heap.size,0,none⟩) 1 1] ((w.setCell ⟨b,2,none⟩ (.bool ok')).alloc (.cells #[.string s] 9)) fun e w'=>e=.returned (.tuple #[])∧Wrote w b own (l++Ae [s]) ok' w':=by
 have hsz:(w.setCell ⟨b,2,none⟩ (.bool ok')).heap.size=w.heap.size:=by simp [World.setCell]
 have h1:=OU h ok'
 have f1:Fr w (w.setCell ⟨b,2,none⟩ (.bool ok')) b own:=Fr.set 2 _
 have hlt:=h.lt
 have hol:=h.FN
 generalize w.setCell ⟨b,2,none⟩ (.bool ok')=w1 at hsz h1 f1 ⊢
 refine (put_any _ b own l ok' w.heap.size [s] (h1.below (AZ _ _)) ?_ (by omega) (fun e=>by have:=hol w.heap.size e.symm;omega) hn (by simp)).mono ?_
 ·rw [←hsz];exact AX _ _
 ·rintro e w2 ⟨rfl,own2,h2,hf2,ho2⟩
  exact ⟨rfl,Wrote.then (f1.trans (Fr.of_below (AZ _ _)) (Own.refl _ _)) (Own.refl _ _) h2 hf2 ho2⟩
set_option maxRecDepth 100000 in
set_option maxHeartbeats 4000000 in
theorem YL (w:World) (b:Nat) (own:Option Nat) (l:List UInt8) (ok:Bool) (c:Nat) (ss:List ByteArray) (h:Bld w 123 [.bool ok] b own l) (hc:Xz w c ss) (hcb:c≠b) (hco:some c≠own) (hn:l.length+(Ae ss).length≤140737488355328) (hss:ss.length≤1000) (hsz:∀s∈ss,s.size≤1048576) :
  Calls Tryz.prog 79 #[.pointer (some ⟨b,0,none⟩),.slice (some ⟨c,0,none⟩) ss.length ss.length] w fun e w'=>e=.returned (.tuple #[])∧Wrote w b own (l++Ae ss) (ok&&ss.all CZ) w':=by
 have HB:=Lib.hid h;have HC:=Lib.hid hc;have HCB:=Lib.hid hcb;have HCO:=Lib.hid hco;have HN:=Lib.hid hn;have HSS:=Lib.hid hss;have HSZ:=Lib.hid hsz
 clear h hc hcb hco hn hss hsz
 go_enter Tryz.func79,Tryz.ntmps79
 go_wp2
 go_loopw [8] (fun i wr=>∃k:Nat,k≤ss.length∧i=.int .i64 k∧Wrote w b own (l++Ae (ss.take k)) (ok&&(ss.take k).all CZ) wr) (fun i _=>ss.length-(intOf i).toNat)
 case atStart=>exact ⟨0,Nat.zero_le _,rfl,by simpa [Ae] using Wrote.refl HB.out⟩
 case round =>
  obtain ⟨k,hk,rfl,Az,hb1,hf1,ho1⟩:=hrel
  have hkb:(k:Int)≤1000:=by have:=HSS.out;omega
  have HB1:=Lib.hid hb1;have HF1:=Lib.hid hf1;have HO1:=Lib.hid ho1
  clear hb1 hf1 ho1
  by_cases hlt:k<ss.length
  ·have Iw:=lt_of_block HC.out
   have hcell:wr.cell? ⟨c,k,none⟩=some (.string ss[k]):=by
    have:=HF1.out.OT Iw HCB.out HCO.out
    rw [cell_of_row wr c k _ 9 (0,0) (this.trans HC.out)]
    simp [hlt]
   have HX:=Lib.hid (rD ss k hlt)
   have HO:=Lib.hid (rC CZ ok ss k hlt)
   have HZ:=Lib.hid (HSZ.out _ (List.getElem_mem hlt))
   have HL:Hid ((l++Ae (ss.take k)).length+(Ae [ss[k]]).length≤140737488355328):=Lib.hid (by
    have h1:=Xy ss (k+1)
    rw [HX.out,List.length_append] at h1
    have:=HN.out
    rw [List.length_append]
    omega)
   have hs:=UX ss[k]
   obtain ⟨hok,hfz⟩:=GL HB1.out
   generalize ss[k]=s at hcell HX HL HO HZ hs
   have HX2:Hid (l++Ae (ss.take (k+1))=(l++Ae (ss.take k))++Ae [s]):=Lib.hid (by rw [HX.out];simp)
   generalize l++Ae (ss.take k)=l0 at HB1 HL HX2
   generalize (ok&&(ss.take k).all CZ)=ok0 at HB1 hok HO
   clear HX
   have hdat:s.data.toList.isEmpty=s.toList.isEmpty:=by rw [Lib.toList_data]
   rw [hdat] at hs
   cases ok0<;>cases t1:s.toList.isEmpty<;>cases t2:GZ s.data.toList
   all_goals
    rw [t1,t2] at hs
    have HS:=Lib.hid hs;clear hs
    have HT2:=Lib.hid t2;clear t2 hdat
    have HB2:=Lib.hid HB1.out
    have HF2:=Lib.hid HF1.out
    have HSB:Hid (wr.heap.size≤wr.heap.size):=Lib.hid (Nat.le_refl _)
    go_wp2_with (first
     | (go_at_call 112;refine (qU s _ (by have:=HZ.out;omega)).mono ?_;rintro e w1 ⟨rfl,hb1⟩;rw [HT2.out];have HB3:=Lib.hid (HB2.out.below hb1);have HF3:=Lib.hid (HF2.out.trans (Fr.of_below hb1) HO1.out);clear HB2 HF2;have HB2:=HB3;have HF2:=HF3;obtain ⟨ACG,ACH⟩:=GL HB3.out;clear HB3 HF3)
     | (go_at_call 77;refine (rE _ b Az l0 _ _ s HB2.out (by have:=HL.out;omega)).mono ?_;rintro e w2 ⟨rfl,own2,h2,hf2,ho2⟩;have HW:Hid (Wrote w b own _ _ w2):=Lib.hid (Wrote.then HF2.out HO1.out h2 hf2 ho2);clear h2 hf2 ho2))
    refine ⟨⟨k+1,by omega,by go_num,?_⟩,by simp [intOf];omega⟩
    rw [HX2.out,HO.out,HS.out]
    exact HW.out
  ·have:k=ss.length:=by omega
   subst this
   have HE:Hid (l++Ae (ss.take ss.length)=l++Ae ss):=Lib.hid (by rw [List.take_length])
   have HE2:Hid ((ok&&(ss.take ss.length).all CZ)=(ok&&ss.all CZ)):=Lib.hid (by rw [List.take_length])
   go_wp2
   go_end0
   rw [←HE.out,←HE2.out]
   exact ⟨rfl,Az,HB1.out,HF1.out,HO1.out⟩
theorem Hm (s:ByteArray):s.data.toList.length=s.size:=by rw [Array.length_toList];rfl
section
variable {w0 w:World} {b:Nat} {own:Option Nat} {l:List UInt8} {ok:Bool}
theorem Wrote.new (h:Wrote w0 b own l ok w) (x:Obj):∃Az,Bld (w.alloc x) 123 [.bool ok] b Az l∧Fr w0 (w.alloc x) b own∧Own w0 own Az∧w.heap.size≠b∧some w.heap.size≠Az:=by
 obtain ⟨Az,hb,hf,ho⟩:=h
 refine ⟨Az,hb.below (AZ _ _),hf.trans (Fr.of_below (AZ _ _)) ho,ho,by have:=hb.lt;omega,fun e => ?_⟩
 have:=hb.FN _ e.symm
 omega
theorem Wrote.below {w1:World} (h:Wrote w0 b own l ok w) (hb:Below w.heap.size w w1):Wrote w0 b own l ok w1:=by
 obtain ⟨Az,h1,hf,ho⟩:=h
 exact ⟨Az,h1.below hb,hf.trans (Fr.of_below hb) ho,ho⟩
theorem QV (c:Nat) (hc:w.heap.size=c) (h:Wrote w0 b own l ok w) (s:ByteArray) (hl:l.length≤1000000000) (hs:s.size≤100000000) :
  Calls Tryz.prog 77 #[.pointer (some ⟨b,0,none⟩),.slice (some ⟨c,0,none⟩) 1 1] (w.alloc (.cells #[.string s] 9)) fun e w'=>e=.returned (.tuple #[])∧Wrote w0 b own (l++32 :: s.data.toList) ok w':=by
 subst hc
 obtain ⟨Az,hb,hf,ho,n1,n2⟩:=h.new (.cells #[.string s] 9)
 have e:Ae [s]=32 :: s.data.toList:=by simp [Ae]
 refine (put_any _ b Az l ok w.heap.size [s] hb (AX _ _) n1 n2 ?_ (by simp)).mono ?_
 ·rw [e,List.length_cons,Hm];omega
 ·rw [e]
  rintro e w2 ⟨rfl,own2,h2,hf2,ho2⟩
  exact ⟨rfl,Wrote.then hf ho h2 hf2 ho2⟩
theorem QW (c:Nat) (hc:w.heap.size=c) (h:Wrote w0 b own l ok w) (s:ByteArray) (hl:l.length≤1000000000) (hs:s.size≤1048576) :
  Calls Tryz.prog 79 #[.pointer (some ⟨b,0,none⟩),.slice (some ⟨c,0,none⟩) 1 1] (w.alloc (.cells #[.string s] 9)) fun e w'=>e=.returned (.tuple #[])∧Wrote w0 b own (l++32 :: s.data.toList) (ok&&CZ s) w':=by
 subst hc
 obtain ⟨Az,hb,hf,ho,n1,n2⟩:=h.new (.cells #[.string s] 9)
 have e:Ae [s]=32 :: s.data.toList:=by simp [Ae]
 refine (YL _ b Az l ok w.heap.size [s] hb (AX _ _) n1 n2 ?_ (by simp) (by simpa using hs)).mono ?_
 ·rw [e,List.length_cons,Hm];omega
 ·rw [e]
  rintro e w2 ⟨rfl,own2,h2,hf2,ho2⟩
  exact ⟨rfl,Wrote.then hf ho (by simpa using h2) hf2 ho2⟩
theorem rF (c:Nat) (hc:w.heap.size=c) (h:Wrote w0 b own l ok w) (s t:ByteArray) (hl:l.length≤1000000000) (hs:s.size≤1048576) (ht:t.size≤1048576) :
  Calls Tryz.prog 79 #[.pointer (some ⟨b,0,none⟩),.slice (some ⟨c,0,none⟩) 2 2] (w.alloc (.cells #[.string s,.string t] 9)) fun e w'=>e=.returned (.tuple #[])∧Wrote w0 b own (l++32 :: s.data.toList++32 :: t.data.toList) (ok&&CZ s&&CZ t) w':=by
 subst hc
 obtain ⟨Az,hb,hf,ho,n1,n2⟩:=h.new (.cells #[.string s,.string t] 9)
 have e:Ae [s,t]=32 :: s.data.toList++32 :: t.data.toList:=by simp [Ae]
 refine (YL _ b Az l ok w.heap.size [s,t] hb (AX _ _) n1 n2 ?_ (by simp) (by simpa using ⟨hs,ht⟩)).mono ?_
 ·rw [e,List.length_append,List.length_cons,List.length_cons,Hm,Hm];omega
 ·rw [e]
  rintro e w2 ⟨rfl,own2,h2,hf2,ho2⟩
  exact ⟨rfl,Wrote.then hf ho (by simpa [Bool.and_assoc] using h2) hf2 ho2⟩
theorem KP (c:Nat) (hc:w.heap.size=c) (h:Wrote w0 b own l ok w) (n:Int) (hn:I64 n) (hl:l.length≤1000000000) (hp:∀w',Fr w0 w' b own→Pow w') :
  Calls Tryz.prog 76 #[.pointer (some ⟨b,0,none⟩),.slice (some ⟨c,0,none⟩) 1 1] (w.alloc (.cells #[.int .i64 n] 3)) fun e w'=>e=.returned (.tuple #[])∧Wrote w0 b own (l++32 :: Lib.itoa n) (ok&&CB n) w':=by
 subst hc
 obtain ⟨Az,hb,hf,ho,n1,n2⟩:=h.new (.cells #[.int .i64 n] 3)
 have e:Ae (Du [n])=32 :: Lib.itoa n:=by simp [Ae,Du,AA]
 refine (X3 _ b Az l ok w.heap.size [n] hb (AX _ _) n1 n2 (by simp;omega) (by simp) (by simpa using hn) (hp _ hf) (fun w' h=>hp _ (hf.trans h ho))).mono ?_
 rw [e]
 rintro e w2 ⟨rfl,own2,h2,hf2,ho2⟩
 exact ⟨rfl,Wrote.then hf ho (by simpa using h2) hf2 ho2⟩
theorem rG (c:Nat) (hc:w.heap.size=c) (h:Wrote w0 b own l ok w) (n k:Int) (hn:I64 n) (hk:I64 k) (hl:l.length≤1000000000) (hp:∀w',Fr w0 w' b own→Pow w') :
  Calls Tryz.prog 76 #[.pointer (some ⟨b,0,none⟩),.slice (some ⟨c,0,none⟩) 2 2] (w.alloc (.cells #[.int .i64 n,.int .i64 k] 3)) fun e w'=>e=.returned (.tuple #[])∧Wrote w0 b own (l++32 :: Lib.itoa n++32 :: Lib.itoa k) (ok&&CB n&&CB k) w':=by
 subst hc
 obtain ⟨Az,hb,hf,ho,n1,n2⟩:=h.new (.cells #[.int .i64 n,.int .i64 k] 3)
 have e:Ae (Du [n,k])=32 :: Lib.itoa n++32 :: Lib.itoa k:=by simp [Ae,Du,AA]
 refine (X3 _ b Az l ok w.heap.size [n,k] hb (AX _ _) n1 n2 (by simp;omega) (by simp) (by simpa using ⟨hn,hk⟩) (hp _ hf) (fun w' h=>hp _ (hf.trans h ho))).mono ?_
 rw [e]
 rintro e w2 ⟨rfl,own2,h2,hf2,ho2⟩
 exact ⟨rfl,Wrote.then hf ho (by simpa [Bool.and_assoc] using h2) hf2 ho2⟩
theorem rH (c:Nat) (hc:w.heap.size=c) (h:Wrote w0 b own l ok w) (r:Int×Int) (hr:I64 r.1∧I64 r.2) (hl:l.length≤1000000000) :
  Calls Tryz.prog 78 #[.pointer (some ⟨b,0,none⟩),.slice (some ⟨c,0,none⟩) 1 1] (w.alloc (.cells #[.int .i64 r.1,.int .i64 r.2] 24)) fun e w'=>e=.returned (.tuple #[])∧Wrote w0 b own (l++32 :: sp.AP r.1 r.2) (ok&&CP r) w':=by
 subst hc
 obtain ⟨Az,hb,hf,ho,n1,n2⟩:=h.new (.cells #[.int .i64 r.1,.int .i64 r.2] 24)
 have e:Ae (CU [r])=32 :: sp.AP r.1 r.2:=by simp [Ae,CU,AA]
 refine (X7 _ b Az l ok w.heap.size [r] hb (AX _ _) n1 n2 (by simp;omega) (by simp) (by simpa using hr)).mono ?_
 rw [e]
 rintro e w2 ⟨rfl,own2,h2,hf2,ho2⟩
 exact ⟨rfl,Wrote.then hf ho (by simpa using h2) hf2 ho2⟩
theorem QX (c:Nat) (hc:w.heap.size=c) (h:Wrote w0 b own l ok w) (r q:Int×Int) (hr:I64 r.1∧I64 r.2) (hq:I64 q.1∧I64 q.2) (hl:l.length≤1000000000) :
  Calls Tryz.prog 78 #[.pointer (some ⟨b,0,none⟩),.slice (some ⟨c,0,none⟩) 2 2] (w.alloc (.cells #[.int .i64 r.1,.int .i64 r.2,.int .i64 q.1,.int .i64 q.2] 24)) fun e w'=>e=.returned (.tuple #[])∧Wrote w0 b own (l++32 :: sp.AP r.1 r.2++32 :: sp.AP q.1 q.2) (ok&&CP r&&CP q) w':=by
 subst hc
 obtain ⟨Az,hb,hf,ho,n1,n2⟩:=h.new (.cells #[.int .i64 r.1,.int .i64 r.2,.int .i64 q.1,.int .i64 q.2] 24)
 have e:Ae (CU [r,q])=32 :: sp.AP r.1 r.2++32 :: sp.AP q.1 q.2:=by simp [Ae,CU,AA]
 refine (X7 _ b Az l ok w.heap.size [r,q] hb (AX _ _) n1 n2 (by simp;omega) (by simp) ?_).mono ?_
 ·intro x hx
  simp only [List.mem_cons,List.not_mem_nil,or_false] at hx
  rcases hx with rfl | rfl
  ·exact hr
  ·exact hq
 rw [e]
 rintro e w2 ⟨rfl,own2,h2,hf2,ho2⟩
 exact ⟨rfl,Wrote.then hf ho (by simpa [Bool.and_assoc] using h2) hf2 ho2⟩
end
def boxRow:Array Value:=#[.string ⟨#[110,111,110,101]⟩,.string ⟨#[105,110,108,105,110,101]⟩,.string ⟨#[115,105,122,101]⟩]
theorem QY (w:World):Calls Tryz.prog 94 #[] w fun e w'=>e=.returned (.slice (some ⟨w.heap.size,0,none⟩) 3 3)∧w'=w.alloc (.cells boxRow 9):=by
 go_enter Tryz.func94,Tryz.ntmps94
 go_wp2
 go_ret
 exact ⟨rfl,rfl⟩
theorem FM {w:World} {B:Nat} {a0 a1 a2 a3 a4 a5 a6 a7 a8 a9 a10 a11 a12 a13 a14 a15 a16 a17:Value} (h:w.heap[B]?=some (.cells #[a0,a1,a2,a3,a4,a5,a6,a7,a8,a9,a10,a11,a12,a13,a14,a15,a16,a17] 28 (0,0))) :
  w.cell? ⟨B,11,none⟩=some a11∧w.cell? ⟨B,12,none⟩=some a12∧w.cell? ⟨B,13,none⟩=some a13∧w.cell? ⟨B,14,none⟩=some a14∧w.cell? ⟨B,15,none⟩=some a15∧w.cell? ⟨B,16,none⟩=some a16 :=
 ⟨by rw [Lib.cell_of_heap h];rfl,by rw [Lib.cell_of_heap h];rfl,by rw [Lib.cell_of_heap h];rfl,by rw [Lib.cell_of_heap h];rfl,by rw [Lib.cell_of_heap h];rfl,by rw [Lib.cell_of_heap h];rfl⟩
theorem Wrote.keep {wA w1:World} {b B:Nat} {own:Option Nat} {l:List UInt8} {ok:Bool} {x:Obj} (h:Wrote wA b own l ok w1) (hB:wA.heap[B]?=some x) (n1:B≠b) (n2:some B≠own):w1.heap[B]?=some x:=by
 obtain ⟨own2,hb2,hf2,ho2⟩:=h
 exact (hf2.OT (Array.getElem?_eq_some_iff.1 hB).1 n1 n2).trans hB
theorem Wrote.flag {w0 w:World} {b:Nat} {own:Option Nat} {l:List UInt8} {ok:Bool} (h:Wrote w0 b own l ok w) (x:Bool):Wrote w0 b own l x (w.setCell ⟨b,2,none⟩ (.bool x)):=by
 obtain ⟨own2,hb2,hf2,ho2⟩:=h
 exact ⟨own2,OU hb2 x,hf2.trans (Fr.set 2 _) ho2,ho2⟩
theorem Wrote.since {w0 wA w:World} {b:Nat} {own Az:Option Nat} {l:List UInt8} {ok:Bool} (hf:Fr w0 wA b own) (ho:Own w0 own Az) (h:Wrote wA b Az l ok w):Wrote w0 b own l ok w:=by
 obtain ⟨own2,hb2,hf2,ho2⟩:=h
 exact Wrote.then hf ho hb2 hf2 ho2
noncomputable def Ep (node bt:Int) (bn:ByteArray) (bw bh:Int×Int):Bool:=CB node&&(decide (0≤bt)&&decide (bt≤2)) && !(bn.toList==[45])&&(bn.toList.isEmpty||CZ bn)&&CP bw&&CP bh
def boxS (node bt:Int) (bn:ByteArray) (bw bh:Int×Int):List UInt8:=32 :: Lib.itoa node++32 :: sp.FI bt++32 :: sp.FK bn.data.toList++32 :: sp.AP bw.1 bw.2++32 :: sp.AP bh.1 bh.2
theorem ET {r:Int×Int} (h:I64 r.1∧I64 r.2):(sp.AP r.1 r.2).length≤43:=by have:=QQ h.1 h.2;rwa [Aa] at this
theorem OX {bn:ByteArray} (h:bn.toList.isEmpty=true):sp.FK bn.data.toList = [45]:=by
 rw [Lib.toList_data] at h
 unfold sp.FK
 rw [if_pos (List.isEmpty_iff.1 h)]
theorem OY {bn:ByteArray} (h:bn.toList.isEmpty=false):sp.FK bn.data.toList=bn.data.toList:=by
 rw [Lib.toList_data] at h
 unfold sp.FK
 rw [if_neg (fun e=>by rw [e] at h;cases h)]
theorem MI {w0 w5:World} {b:Nat} {own:Option Nat} {l:List UInt8} {ok:Bool} (node bt:Int) (bn:ByteArray) (bw bh:Int×Int) (word:ByteArray) (btx:List UInt8) (hb:0≤bt∧bt≤2) (h3:(bn.toList==[45])=false) (hx:sp.FI bt=btx) (hw:sp.FK bn.data.toList=word.data.toList) (hp:CZ word=(bn.toList.isEmpty||CZ bn)) (n1:(Lib.itoa node).length≤21) (n2:btx.length≤10) (n3:word.size≤1048576) (n4:I64 bw.1∧I64 bw.2) (n5:I64 bh.1∧I64 bh.2)
  (h:Wrote w0 b own (l++32 :: Lib.itoa node++32 :: btx++32 :: word.data.toList++32 :: sp.AP bw.1 bw.2++32 :: sp.AP bh.1 bh.2) (ok&&CB node&&CZ word&&CP bw&&CP bh) w5) :
  ∃t ok',Wrote w0 b own (l++t) ok' w5∧ok'=(ok&&Ep node bt bn bw bh)∧(Ep node bt bn bw bh=true→t=boxS node bt bn bw bh)∧t.length≤10000000:=by
 have e1:Ep node bt bn bw bh=(CB node&&CZ word&&CP bw&&CP bh):=by
  unfold Ep
  rw [h3,hp,decide_eq_true hb.1,decide_eq_true hb.2]
  simp
 refine ⟨boxS node bt bn bw bh,(ok&&CB node&&CZ word&&CP bw&&CP bh),?_,?_,fun _=>rfl,?_⟩
 ·have e2:l++boxS node bt bn bw bh=l++32 :: Lib.itoa node++32 :: btx++32 :: word.data.toList++32 :: sp.AP bw.1 bw.2++32 :: sp.AP bh.1 bh.2:=by
   unfold boxS
   rw [hx,hw]
   simp
  rw [e2]
  exact h
 ·rw [e1];simp [Bool.and_assoc]
 ·unfold boxS
  rw [hx,hw]
  have:=ET n4;have:=ET n5;have:=Hm word
  simp only [List.length_append,List.length_cons]
  omega
theorem UY {w0 w5:World} {b:Nat} {own:Option Nat} {l:List UInt8} {ok:Bool} (node bt:Int) (bn:ByteArray) (bw bh:Int×Int) (hb:¬(0≤bt∧bt≤2)∨(bn.toList==[45])=true) (n1:(Lib.itoa node).length≤21) (h:Wrote w0 b own (l++32 :: Lib.itoa node) false w5) :
  ∃t ok',Wrote w0 b own (l++t) ok' w5∧ok'=(ok&&Ep node bt bn bw bh)∧(Ep node bt bn bw bh=true→t=boxS node bt bn bw bh)∧t.length≤10000000:=by
 have e1:Ep node bt bn bw bh=false:=by
  unfold Ep
  rcases hb with hb | hb
  ·have:(decide (0≤bt)&&decide (bt≤2))=false:=by
    rw [←Bool.decide_and];exact decide_eq_false hb
   rw [this];simp
  ·rw [hb];simp
 refine ⟨_,false,h,by rw [e1];simp,fun e=>(by rw [e1] at e;cases e),?_⟩
 rw [List.length_cons]
 omega
set_option maxRecDepth 100000 in
set_option maxHeartbeats 4000000 in
theorem rJ (kind node at_ org:Int) (name word:ByteArray) (tv:Value) (wn wd hn hd bt:Int) (bn:ByteArray) (bwn bwd Ec Ed:Int) (on:Bool) (w0 w:World) (b:Nat) (own:Option Nat) (l:List UInt8) (ok:Bool) (h:Wrote w0 b own l ok w) (hi:I64 node) (hl:l.length≤100000000) (hbn:bn.size≤1048576) (hr1:I64 bwn∧I64 bwd) (hr2:I64 Ec∧I64 Ed) (hp:∀w',Fr w0 w' b own→Pow w') :
  Calls Tryz.prog 80 #[.pointer (some ⟨b,0,none⟩),.agg #[.int .i64 kind,.int .i64 node,.int .i64 at_,.int .i64 org,.string name,.string word,tv,.int .i64 wn,.int .i64 wd,.int .i64 hn,.int .i64 hd,.int .i64 bt,.string bn,.int .i64 bwn,.int .i64 bwd,.int .i64 Ec,.int .i64 Ed,.bool on]] w fun e w'=>e=.returned (.tuple #[])∧∃t ok',Wrote w0 b own (l++t) ok' w'∧ok'=(ok&&Ep node bt bn (bwn,bwd) (Ec,Ed))∧(Ep node bt bn (bwn,bwd) (Ec,Ed)=true→t=boxS node bt bn (bwn,bwd) (Ec,Ed))∧t.length≤10000000:=by
 go_enter Tryz.func80,Tryz.ntmps80
 obtain ⟨Az,hb,hf,ho⟩:=h
 have HI:=Lib.hid hi;have HL:=Lib.hid hl
 have hB0:=AX w (.cells #[.int .i64 kind,.int .i64 node,.int .i64 at_,.int .i64 org,.string name,.string word,tv,.int .i64 wn,.int .i64 wd,.int .i64 hn,.int .i64 hd,.int .i64 bt,.string bn,.int .i64 bwn,.int .i64 bwd,.int .i64 Ec,.int .i64 Ed,.bool on] 28)
 have hA:=Wrote.refl (hb.below (AZ w (.cells #[.int .i64 kind,.int .i64 node,.int .i64 at_,.int .i64 org,.string name,.string word,tv,.int .i64 wn,.int .i64 wd,.int .i64 hn,.int .i64 hd,.int .i64 bt,.string bn,.int .i64 bwn,.int .i64 bwd,.int .i64 Ec,.int .i64 Ed,.bool on] 28)))
 have hfa:=hf.trans (Fr.of_below (AZ w (.cells #[.int .i64 kind,.int .i64 node,.int .i64 at_,.int .i64 org,.string name,.string word,tv,.int .i64 wn,.int .i64 wd,.int .i64 hn,.int .i64 hd,.int .i64 bt,.string bn,.int .i64 bwn,.int .i64 bwd,.int .i64 Ec,.int .i64 Ed,.bool on] 28))) ho
 have n1:w.heap.size≠b:=by have:=hb.lt;omega
 have n2:some w.heap.size≠Az:=fun e=>by have:=hb.FN _ e.symm;omega
 have HP:Hid (∀w',Fr (w.alloc (.cells #[.int .i64 kind,.int .i64 node,.int .i64 at_,.int .i64 org,.string name,.string word,tv,.int .i64 wn,.int .i64 wd,.int .i64 hn,.int .i64 hd,.int .i64 bt,.string bn,.int .i64 bwn,.int .i64 bwd,.int .i64 Ec,.int .i64 Ed,.bool on] 28)) w' b Az→Pow w'):=Lib.hid fun w' h=>hp w' (hfa.trans h ho)
 have HB0:=Lib.hid hB0;have HA:=Lib.hid hA;have N1:=Lib.hid n1;have N2:=Lib.hid n2;have HF:=Lib.hid hfa;have HO:=Lib.hid ho
 have HI0:Hid ((Lib.itoa node).length≤21):=Lib.hid (by have:=IL hi;rw [Aa] at this;omega)
 have HBN:=Lib.hid hbn;have HR:=Lib.hid hr1;have HQ:=Lib.hid hr2
 clear hbn hr1 hr2
 clear hi hl hp hb hf ho hB0 hA n1 n2 hfa
 by_cases hr:0≤bt∧bt≤2
 ·have t1:decide (bt<0)=false:=decide_eq_false (by omega)
  have t2:decide (2<bt)=false:=decide_eq_false (by omega)
  cases t3:(bn.toList==[45])
  ·have hbt:bt=0∨bt=1∨bt=2:=by omega
   clear t1 t2 hr
   rcases hbt with hbt | hbt | hbt
   ·obtain rfl:bt=0:=hbt
    go_wp2_with (go_at_call 76;refine (KP _ (by simp) HA.out node HI.out (by have:=HL.out;omega) HP.out).mono ?_;rintro e w1 ⟨rfl,h1⟩;obtain ⟨c11,c12,c13,c14,c15,c16⟩:=FM (h1.keep HB0.out N1.out N2.out);obtain ⟨f1,f2⟩:=GL h1.choose_spec.1;have HW1:=Lib.hid h1;clear h1)
    refine wp_region_held_drew (S:=(fun s=>s.cell? ⟨w.heap.size,11,none⟩=some (.int .i64 0))) (by kernel_rfl) c11 (fun hHeld => ?_)
    refine wpAnyH_take (i:=0) (v:=.pointer (some ⟨b,0,none⟩)) rfl (by kernel_rfl) (by kernel_rfl) (by kernel_rfl) (fun _ _ _ h=>h) (Or.inl ⟨by kernel_rfl,fun s hs=>by have Ho:=hs;go_simp<;>omega⟩) hHeld ?_
    refine wpAnyH_take (i:=2) (v:=.pointer (some ⟨w.heap.size,11,none⟩)) rfl (by kernel_rfl) (by kernel_rfl) (by kernel_rfl) (fun _ _ _ h=>h) (Or.inl ⟨by kernel_rfl,fun s hs=>by have Ho:=hs;go_simp<;>omega⟩) hHeld ?_
    refine wpAnyH_take (i:=3) (v:=.pointer (some ⟨w.heap.size,11,none⟩)) rfl (by kernel_rfl) (by kernel_rfl) (by kernel_rfl) (fun _ _ _ h=>h) (Or.inl ⟨by kernel_rfl,fun s hs=>by have Ho:=hs;go_simp<;>omega⟩) hHeld ?_
    refine wpAnyH_take (i:=4) (v:=.int .i64 0) rfl (by kernel_rfl) (by kernel_rfl) (by kernel_rfl) (fun _ _ _ h=>h) (Or.inl ⟨by kernel_rfl,fun s hs=>by have Ho:=hs;go_simp<;>omega⟩) hHeld ?_
    have d11:=c11
    clear c11 c12 c13 c14 c15 c16 f1 f2
    refine wpAnyH_ready (rs:=[1]) (by kernel_rfl) (by simp) ?_
    refine AllReadyH.cons rfl (fun K hK => ?_) AllReadyH.nil
    rw [if_pos (by kernel_rfl)]
    go_simp
    refine (QY _).mono ?_
    rintro e w2 ⟨rfl,hw2⟩
    have h2:=(HW1.out.below ((Below.refl _ _).drew)).below (hw2 ▸ AZ _ _)
    have hR:w2.heap[w1.heap.size]?=some (.cells boxRow 9 (0,0)):=by rw [hw2];exact AX _ _
    obtain ⟨c11,c12,c13,c14,c15,c16⟩:=FM (h2.keep HB0.out N1.out N2.out)
    have cR:w2.cell? ⟨w1.heap.size,0,none⟩=some (.string ⟨#[110,111,110,101]⟩):=by rw [Lib.cell_of_heap hR];rfl
    have HW2:=Lib.hid h2
    clear h2 hw2 hR d11
    refine hK _ _ c11 (fun hHeld => ?_)
    refine wpAnyH_ready (rs:=[5]) (by kernel_rfl) (by simp) ?_
    refine AllReadyH.cons rfl (fun K hK => ?_) AllReadyH.nil
    rw [if_pos (by kernel_rfl)]
    go_simp
    refine hK _ _ c11 (fun hHeld => ?_)
    refine wpAnyH_ready (rs:=[6]) (by kernel_rfl) (by simp) ?_
    refine AllReadyH.cons rfl (fun K hK => ?_) AllReadyH.nil
    rw [if_pos (by kernel_rfl)]
    go_simp
    refine hK _ _ c11 (fun hHeld => ?_)
    refine wpAnyH_ready (rs:=[7]) (by kernel_rfl) (by simp) ?_
    refine AllReadyH.cons rfl (fun K hK => ?_) AllReadyH.nil
    rw [if_pos (by kernel_rfl)]
    go_simp
    have JZ:=(FM ((HW2.out.below (AZ w2 (.cells #[.string ⟨#[110,111,110,101]⟩] 9))).keep HB0.out N1.out N2.out)).1
    refine hK _ _ JZ (fun hHeld => ?_)
    clear JZ
    refine wpAnyH_ready (rs:=[8]) (by kernel_rfl) (by simp) ?_
    refine AllReadyH.cons rfl (fun K hK => ?_) AllReadyH.nil
    rw [if_pos (by kernel_rfl)]
    go_simp
    refine (QV _ rfl HW2.out ⟨#[110,111,110,101]⟩ (by have:=HL.out;have:=HI0.out;simp;omega) (by decide)).mono ?_
    rintro e w3 ⟨rfl,h3⟩
    clear c11 c12 c13 c14 c15 c16 cR
    obtain ⟨c11,c12,c13,c14,c15,c16⟩:=FM (h3.keep HB0.out N1.out N2.out)
    have HW3:=Lib.hid h3
    clear h3
    refine hK _ _ c11 (fun hHeld => ?_)
    refine wpAnyH_done (by kernel_rfl) ?_ _
    clear hHeld
    go_simp
    cases t4:bn.toList.isEmpty
    all_goals
     go_wp2_with (first | (go_at_call 79;refine (QW _ rfl HW3.out _ (by have:=HL.out;have:=HI0.out;have:=HBN.out;have:=Hm bn;simp;omega) (by first | exact HBN.out | decide)).mono ?_;rintro e w4 ⟨rfl,h4⟩;clear c11 c12 c13 c14 c15 c16;obtain ⟨c11,c12,c13,c14,c15,c16⟩:=FM (h4.keep HB0.out N1.out N2.out);have HW4:=Lib.hid h4;clear h4) | (go_at_call 78;refine (QX _ rfl HW4.out (bwn,bwd) (Ec,Ed) HR.out HQ.out (by have:=HL.out;have:=HI0.out;have:=HBN.out;have:=Hm bn;simp;omega)).mono ?_;rintro e w5 ⟨rfl,h5⟩;have HW5:=Lib.hid (Wrote.since HF.out HO.out h5);clear h5))
     go_end0
    ·exact ⟨rfl,MI node 0 bn (bwn,bwd) (Ec,Ed) bn [110,111,110,101] (by decide) t3 rfl (OY t4) (by rw [t4];rfl) HI0.out (by decide) HBN.out HR.out HQ.out HW5.out⟩
    ·exact ⟨rfl,MI node 0 bn (bwn,bwd) (Ec,Ed) ⟨#[45]⟩ [110,111,110,101] (by decide) t3 rfl (OX t4) (by rw [t4];rfl) HI0.out (by decide) (by decide) HR.out HQ.out HW5.out⟩
   ·obtain rfl:bt=1:=hbt
    go_wp2_with (go_at_call 76;refine (KP _ (by simp) HA.out node HI.out (by have:=HL.out;omega) HP.out).mono ?_;rintro e w1 ⟨rfl,h1⟩;obtain ⟨c11,c12,c13,c14,c15,c16⟩:=FM (h1.keep HB0.out N1.out N2.out);obtain ⟨f1,f2⟩:=GL h1.choose_spec.1;have HW1:=Lib.hid h1;clear h1)
    refine wp_region_held_drew (S:=(fun s=>s.cell? ⟨w.heap.size,11,none⟩=some (.int .i64 1))) (by kernel_rfl) c11 (fun hHeld => ?_)
    refine wpAnyH_take (i:=0) (v:=.pointer (some ⟨b,0,none⟩)) rfl (by kernel_rfl) (by kernel_rfl) (by kernel_rfl) (fun _ _ _ h=>h) (Or.inl ⟨by kernel_rfl,fun s hs=>by have Ho:=hs;go_simp<;>omega⟩) hHeld ?_
    refine wpAnyH_take (i:=2) (v:=.pointer (some ⟨w.heap.size,11,none⟩)) rfl (by kernel_rfl) (by kernel_rfl) (by kernel_rfl) (fun _ _ _ h=>h) (Or.inl ⟨by kernel_rfl,fun s hs=>by have Ho:=hs;go_simp<;>omega⟩) hHeld ?_
    refine wpAnyH_take (i:=3) (v:=.pointer (some ⟨w.heap.size,11,none⟩)) rfl (by kernel_rfl) (by kernel_rfl) (by kernel_rfl) (fun _ _ _ h=>h) (Or.inl ⟨by kernel_rfl,fun s hs=>by have Ho:=hs;go_simp<;>omega⟩) hHeld ?_
    refine wpAnyH_take (i:=4) (v:=.int .i64 1) rfl (by kernel_rfl) (by kernel_rfl) (by kernel_rfl) (fun _ _ _ h=>h) (Or.inl ⟨by kernel_rfl,fun s hs=>by have Ho:=hs;go_simp<;>omega⟩) hHeld ?_
    have d11:=c11
    clear c11 c12 c13 c14 c15 c16 f1 f2
    refine wpAnyH_ready (rs:=[1]) (by kernel_rfl) (by simp) ?_
    refine AllReadyH.cons rfl (fun K hK => ?_) AllReadyH.nil
    rw [if_pos (by kernel_rfl)]
    go_simp
    refine (QY _).mono ?_
    rintro e w2 ⟨rfl,hw2⟩
    have h2:=(HW1.out.below ((Below.refl _ _).drew)).below (hw2 ▸ AZ _ _)
    have hR:w2.heap[w1.heap.size]?=some (.cells boxRow 9 (0,0)):=by rw [hw2];exact AX _ _
    obtain ⟨c11,c12,c13,c14,c15,c16⟩:=FM (h2.keep HB0.out N1.out N2.out)
    have cR:w2.cell? ⟨w1.heap.size,1,none⟩=some (.string ⟨#[105,110,108,105,110,101]⟩):=by rw [Lib.cell_of_heap hR];rfl
    have HW2:=Lib.hid h2
    clear h2 hw2 hR d11
    refine hK _ _ c11 (fun hHeld => ?_)
    refine wpAnyH_ready (rs:=[5]) (by kernel_rfl) (by simp) ?_
    refine AllReadyH.cons rfl (fun K hK => ?_) AllReadyH.nil
    rw [if_pos (by kernel_rfl)]
    go_simp
    refine hK _ _ c11 (fun hHeld => ?_)
    refine wpAnyH_ready (rs:=[6]) (by kernel_rfl) (by simp) ?_
    refine AllReadyH.cons rfl (fun K hK => ?_) AllReadyH.nil
    rw [if_pos (by kernel_rfl)]
    go_simp
    refine hK _ _ c11 (fun hHeld => ?_)
    refine wpAnyH_ready (rs:=[7]) (by kernel_rfl) (by simp) ?_
    refine AllReadyH.cons rfl (fun K hK => ?_) AllReadyH.nil
    rw [if_pos (by kernel_rfl)]
    go_simp
    have JZ:=(FM ((HW2.out.below (AZ w2 (.cells #[.string ⟨#[105,110,108,105,110,101]⟩] 9))).keep HB0.out N1.out N2.out)).1
    refine hK _ _ JZ (fun hHeld => ?_)
    clear JZ
    refine wpAnyH_ready (rs:=[8]) (by kernel_rfl) (by simp) ?_
    refine AllReadyH.cons rfl (fun K hK => ?_) AllReadyH.nil
    rw [if_pos (by kernel_rfl)]
    go_simp
    refine (QV _ rfl HW2.out ⟨#[105,110,108,105,110,101]⟩ (by have:=HL.out;have:=HI0.out;simp;omega) (by decide)).mono ?_
    rintro e w3 ⟨rfl,h3⟩
    clear c11 c12 c13 c14 c15 c16 cR
    obtain ⟨c11,c12,c13,c14,c15,c16⟩:=FM (h3.keep HB0.out N1.out N2.out)
    have HW3:=Lib.hid h3
    clear h3
    refine hK _ _ c11 (fun hHeld => ?_)
    refine wpAnyH_done (by kernel_rfl) ?_ _
    clear hHeld
    go_simp
    cases t4:bn.toList.isEmpty
    all_goals
     go_wp2_with (first | (go_at_call 79;refine (QW _ rfl HW3.out _ (by have:=HL.out;have:=HI0.out;have:=HBN.out;have:=Hm bn;simp;omega) (by first | exact HBN.out | decide)).mono ?_;rintro e w4 ⟨rfl,h4⟩;clear c11 c12 c13 c14 c15 c16;obtain ⟨c11,c12,c13,c14,c15,c16⟩:=FM (h4.keep HB0.out N1.out N2.out);have HW4:=Lib.hid h4;clear h4) | (go_at_call 78;refine (QX _ rfl HW4.out (bwn,bwd) (Ec,Ed) HR.out HQ.out (by have:=HL.out;have:=HI0.out;have:=HBN.out;have:=Hm bn;simp;omega)).mono ?_;rintro e w5 ⟨rfl,h5⟩;have HW5:=Lib.hid (Wrote.since HF.out HO.out h5);clear h5))
     go_end0
    ·exact ⟨rfl,MI node 1 bn (bwn,bwd) (Ec,Ed) bn [105,110,108,105,110,101] (by decide) t3 rfl (OY t4) (by rw [t4];rfl) HI0.out (by decide) HBN.out HR.out HQ.out HW5.out⟩
    ·exact ⟨rfl,MI node 1 bn (bwn,bwd) (Ec,Ed) ⟨#[45]⟩ [105,110,108,105,110,101] (by decide) t3 rfl (OX t4) (by rw [t4];rfl) HI0.out (by decide) (by decide) HR.out HQ.out HW5.out⟩
   ·obtain rfl:bt=2:=hbt
    go_wp2_with (go_at_call 76;refine (KP _ (by simp) HA.out node HI.out (by have:=HL.out;omega) HP.out).mono ?_;rintro e w1 ⟨rfl,h1⟩;obtain ⟨c11,c12,c13,c14,c15,c16⟩:=FM (h1.keep HB0.out N1.out N2.out);obtain ⟨f1,f2⟩:=GL h1.choose_spec.1;have HW1:=Lib.hid h1;clear h1)
    refine wp_region_held_drew (S:=(fun s=>s.cell? ⟨w.heap.size,11,none⟩=some (.int .i64 2))) (by kernel_rfl) c11 (fun hHeld => ?_)
    refine wpAnyH_take (i:=0) (v:=.pointer (some ⟨b,0,none⟩)) rfl (by kernel_rfl) (by kernel_rfl) (by kernel_rfl) (fun _ _ _ h=>h) (Or.inl ⟨by kernel_rfl,fun s hs=>by have Ho:=hs;go_simp<;>omega⟩) hHeld ?_
    refine wpAnyH_take (i:=2) (v:=.pointer (some ⟨w.heap.size,11,none⟩)) rfl (by kernel_rfl) (by kernel_rfl) (by kernel_rfl) (fun _ _ _ h=>h) (Or.inl ⟨by kernel_rfl,fun s hs=>by have Ho:=hs;go_simp<;>omega⟩) hHeld ?_
    refine wpAnyH_take (i:=3) (v:=.pointer (some ⟨w.heap.size,11,none⟩)) rfl (by kernel_rfl) (by kernel_rfl) (by kernel_rfl) (fun _ _ _ h=>h) (Or.inl ⟨by kernel_rfl,fun s hs=>by have Ho:=hs;go_simp<;>omega⟩) hHeld ?_
    refine wpAnyH_take (i:=4) (v:=.int .i64 2) rfl (by kernel_rfl) (by kernel_rfl) (by kernel_rfl) (fun _ _ _ h=>h) (Or.inl ⟨by kernel_rfl,fun s hs=>by have Ho:=hs;go_simp<;>omega⟩) hHeld ?_
    have d11:=c11
    clear c11 c12 c13 c14 c15 c16 f1 f2
    refine wpAnyH_ready (rs:=[1]) (by kernel_rfl) (by simp) ?_
    refine AllReadyH.cons rfl (fun K hK => ?_) AllReadyH.nil
    rw [if_pos (by kernel_rfl)]
    go_simp
    refine (QY _).mono ?_
    rintro e w2 ⟨rfl,hw2⟩
    have h2:=(HW1.out.below ((Below.refl _ _).drew)).below (hw2 ▸ AZ _ _)
    have hR:w2.heap[w1.heap.size]?=some (.cells boxRow 9 (0,0)):=by rw [hw2];exact AX _ _
    obtain ⟨c11,c12,c13,c14,c15,c16⟩:=FM (h2.keep HB0.out N1.out N2.out)
    have cR:w2.cell? ⟨w1.heap.size,2,none⟩=some (.string ⟨#[115,105,122,101]⟩):=by rw [Lib.cell_of_heap hR];rfl
    have HW2:=Lib.hid h2
    clear h2 hw2 hR d11
    refine hK _ _ c11 (fun hHeld => ?_)
    refine wpAnyH_ready (rs:=[5]) (by kernel_rfl) (by simp) ?_
    refine AllReadyH.cons rfl (fun K hK => ?_) AllReadyH.nil
    rw [if_pos (by kernel_rfl)]
    go_simp
    refine hK _ _ c11 (fun hHeld => ?_)
    refine wpAnyH_ready (rs:=[6]) (by kernel_rfl) (by simp) ?_
    refine AllReadyH.cons rfl (fun K hK => ?_) AllReadyH.nil
    rw [if_pos (by kernel_rfl)]
    go_simp
    refine hK _ _ c11 (fun hHeld => ?_)
    refine wpAnyH_ready (rs:=[7]) (by kernel_rfl) (by simp) ?_
    refine AllReadyH.cons rfl (fun K hK => ?_) AllReadyH.nil
    rw [if_pos (by kernel_rfl)]
    go_simp
    have JZ:=(FM ((HW2.out.below (AZ w2 (.cells #[.string ⟨#[115,105,122,101]⟩] 9))).keep HB0.out N1.out N2.out)).1
    refine hK _ _ JZ (fun hHeld => ?_)
    clear JZ
    refine wpAnyH_ready (rs:=[8]) (by kernel_rfl) (by simp) ?_
    refine AllReadyH.cons rfl (fun K hK => ?_) AllReadyH.nil
    rw [if_pos (by kernel_rfl)]
    go_simp
    refine (QV _ rfl HW2.out ⟨#[115,105,122,101]⟩ (by have:=HL.out;have:=HI0.out;simp;omega) (by decide)).mono ?_
    rintro e w3 ⟨rfl,h3⟩
    clear c11 c12 c13 c14 c15 c16 cR
    obtain ⟨c11,c12,c13,c14,c15,c16⟩:=FM (h3.keep HB0.out N1.out N2.out)
    have HW3:=Lib.hid h3
    clear h3
    refine hK _ _ c11 (fun hHeld => ?_)
    refine wpAnyH_done (by kernel_rfl) ?_ _
    clear hHeld
    go_simp
    cases t4:bn.toList.isEmpty
    all_goals
     go_wp2_with (first | (go_at_call 79;refine (QW _ rfl HW3.out _ (by have:=HL.out;have:=HI0.out;have:=HBN.out;have:=Hm bn;simp;omega) (by first | exact HBN.out | decide)).mono ?_;rintro e w4 ⟨rfl,h4⟩;clear c11 c12 c13 c14 c15 c16;obtain ⟨c11,c12,c13,c14,c15,c16⟩:=FM (h4.keep HB0.out N1.out N2.out);have HW4:=Lib.hid h4;clear h4) | (go_at_call 78;refine (QX _ rfl HW4.out (bwn,bwd) (Ec,Ed) HR.out HQ.out (by have:=HL.out;have:=HI0.out;have:=HBN.out;have:=Hm bn;simp;omega)).mono ?_;rintro e w5 ⟨rfl,h5⟩;have HW5:=Lib.hid (Wrote.since HF.out HO.out h5);clear h5))
     go_end0
    ·exact ⟨rfl,MI node 2 bn (bwn,bwd) (Ec,Ed) bn [115,105,122,101] (by decide) t3 rfl (OY t4) (by rw [t4];rfl) HI0.out (by decide) HBN.out HR.out HQ.out HW5.out⟩
    ·exact ⟨rfl,MI node 2 bn (bwn,bwd) (Ec,Ed) ⟨#[45]⟩ [115,105,122,101] (by decide) t3 rfl (OX t4) (by rw [t4];rfl) HI0.out (by decide) (by decide) HR.out HQ.out HW5.out⟩
  ·go_wp2_with (go_at_call 76;refine (KP _ (by simp) HA.out node HI.out (by have:=HL.out;omega) HP.out).mono ?_;rintro e w1 ⟨rfl,h1⟩;obtain ⟨c11,c12,c13,c14,c15,c16⟩:=FM (h1.keep HB0.out N1.out N2.out);obtain ⟨f1,f2⟩:=GL h1.choose_spec.1;have HW1:=Lib.hid h1;clear h1)
   refine bodyPost_ret (results_none rfl _ _ _) rfl ?_
   exact ⟨rfl,UY node bt bn (bwn,bwd) (Ec,Ed) (Or.inr t3) HI0.out (Wrote.since HF.out HO.out (HW1.out.flag false))⟩
 ·have HNR:=Lib.hid hr
  by_cases hlt:bt<0
  ·have t1:decide (bt<0)=true:=decide_eq_true hlt
   clear hlt hr
   go_wp2_with (go_at_call 76;refine (KP _ (by simp) HA.out node HI.out (by have:=HL.out;omega) HP.out).mono ?_;rintro e w1 ⟨rfl,h1⟩;obtain ⟨c11,c12,c13,c14,c15,c16⟩:=FM (h1.keep HB0.out N1.out N2.out);obtain ⟨f1,f2⟩:=GL h1.choose_spec.1;have HW1:=Lib.hid h1;clear h1)
   refine bodyPost_ret (results_none rfl _ _ _) rfl ?_
   exact ⟨rfl,UY node bt bn (bwn,bwd) (Ec,Ed) (Or.inl HNR.out) HI0.out (Wrote.since HF.out HO.out (HW1.out.flag false))⟩
  ·have t1:decide (bt<0)=false:=decide_eq_false hlt
   have t2:decide (2<bt)=true:=decide_eq_true (by omega)
   clear hlt hr
   go_wp2_with (go_at_call 76;refine (KP _ (by simp) HA.out node HI.out (by have:=HL.out;omega) HP.out).mono ?_;rintro e w1 ⟨rfl,h1⟩;obtain ⟨c11,c12,c13,c14,c15,c16⟩:=FM (h1.keep HB0.out N1.out N2.out);obtain ⟨f1,f2⟩:=GL h1.choose_spec.1;have HW1:=Lib.hid h1;clear h1)
   refine bodyPost_ret (results_none rfl _ _ _) rfl ?_
   exact ⟨rfl,UY node bt bn (bwn,bwd) (Ec,Ed) (Or.inl HNR.out) HI0.out (Wrote.since HF.out HO.out (HW1.out.flag false))⟩
end Go.Proofs.YtihlneenajlhoaaGreatDoor
