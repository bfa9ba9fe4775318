/-
 The row's function of jalousie script.rows for boxes: script.box. Condition: the operation's block and the words stand; lengths that fit.
-/
import Derived.Test.YtihlneenajlhoaaGreatDoorS5
import Derived.Test.YtihlneenajlhoaaGreatDoorS1
import Derived.Deep.RegionHeld
import Derived.Defers
import Derived.Recover
import Derived.Laws.CopyOwn
set_option linter.unusedSimpArgs false
set_option linter.unusedVariables false
namespace Go.Proofs.YtihlneenajlhoaaGreatDoor
open Go Go.RowKit
def bxN:Nat→List UInt8
 | 0=>sp.kNone
 | 1=>sp.kInline
 | _=>sp.kSize
def bxF (s:List UInt8):Nat→Bool
 | 0=>false
 | k+1=>if bxN k=s then true else bxF s k
def bxT (s:List UInt8):Nat→Int
 | 0=>0
 | k+1=>if bxN k=s then k else bxT s k
theorem box_is (s:List UInt8):sp.boxOf s=if bxF s 3 then some (bxT s 3) else none:=by
 unfold sp.boxOf
 by_cases h0:s=sp.kNone
 ·subst h0;rfl
 by_cases h1:s=sp.kInline
 ·subst h1;rfl
 by_cases h2:s=sp.kSize
 ·subst h2;rfl
 rw [if_neg h0,if_neg h1,if_neg h2]
 simp only [bxF,bxN,Ne.symm h0,Ne.symm h1,Ne.symm h2,if_false]
 rfl
def BxAt (q:Nat) (w:World):Prop:=w.heap[q]?=some (.cells boxRow 9 (0,0))
theorem BxAt.new {w w':World} (h:w'=w.alloc (.cells boxRow 9)):BxAt w.heap.size w':=by rw [h];exact heap_alloc_at _ _
theorem BxAt.cell {w:World} {q:Nat} (h:BxAt q w) (j:Nat) (hj:j<3):w.cell? ⟨q,j,none⟩=some (.string (bstr (bxN j))):=by
 rw [cell_of_row w q j _ 9 (0,0) h]
 match j,hj with
 | 0,_=>rfl
 | 1,_=>rfl
 | 2,_=>rfl
theorem BxAt.set {w:World} {q B:Nat} (h:BxAt q w) (hne:q≠B) (o:Nat) (v:Value):BxAt q (w.setCell ⟨B,o,none⟩ v):=by
 unfold BxAt
 show (w.heap.modify B _)[q]?=_
 rw [Array.getElem?_modify]
 simp [Ne.symm hne,h]
 exact h
set_option maxRecDepth 100000 in
set_option maxHeartbeats 16000000 in
theorem row_box (k:Int) (w0 w:World) (B g c:Nat) (x y z u v:List UInt8×Bool) (hlu:u.1.length≤1099511627776) (hlv:v.1.length≤1099511627776) (h:RowS w0 B g [x,y,z,u,v] (zeroC k) w):Calls Tryz.prog 61 #[.pointer (some ⟨B,0,none⟩),.slice (some ⟨g,2,none⟩) 5 c] w fun e w'=>RowIs w0 B ((sp.wNum x).bind fun n=>(sp.wPlain y).bind fun s=>(sp.boxOf s).bind fun b=>(sp.wPlain z).bind fun t=>(sp.wFrac u).bind fun p=>(sp.wFrac v).bind fun q=>some { kind:=k,node:=n,bt:=b,bn:=sp.boxName t,bw:=p,bh:=q }) e w':=by
 have HCx:=Lib.hid (fun W=>wnum_any x W)
 have HCy:=Lib.hid (fun W=>wplain_any y W)
 have HCz:=Lib.hid (fun W=>wplain_any z W)
 have HCu:=Lib.hid (fun W=>wfrac_any u W hlu)
 have HCv:=Lib.hid (fun W=>wfrac_any v W hlv)
 have H0:=Lib.hid h
 obtain ⟨a0,a1⟩:=h.w0
 clear h hlu hlv
 cases hx:sp.wNum x with
 | none =>
  have HXx:=Lib.hid hx
  clear hx
  go_enter Tryz.func61,Tryz.ntmps61
  go_wp2_with (first
   | (go_at_call 50;refine (HCx.out _).mono ?_;rintro e w1 ⟨he,hb⟩;unfold NumIs at he;rw [HXx.out] at he;subst he;have H1:=Lib.hid (H0.out.on hb);clear hb))
  exact ⟨rfl,H1.out.bad⟩
 | some nx =>
  have HXx:=Lib.hid hx
  clear hx
  cases hy:sp.wPlain y with
  | none =>
   have HXy:=Lib.hid hy
   clear hy
   go_enter Tryz.func61,Tryz.ntmps61
   go_wp2_with (first
    | (go_at_call 50;refine (HCx.out _).mono ?_;rintro e w1 ⟨he,hb⟩;unfold NumIs at he;rw [HXx.out] at he;subst he;have H1:=Lib.hid (H0.out.on hb);have f1:=H1.out.free 1;have c1:=H1.out.cell 1 (.int .i64 0) rfl;have H2:=Lib.hid (H1.out.set 1 (.int .i64 nx));obtain ⟨b0,b1⟩:=H2.out.w1;clear hb)
    | (go_at_call 28;refine (HCy.out _).mono ?_;rintro e w2 ⟨he,hb⟩;unfold PlainIs at he;rw [HXy.out] at he;subst he;have H3:=Lib.hid (H2.out.on hb);clear hb))
   exact ⟨rfl,H3.out.bad⟩
  | some ty =>
   have HXy:=Lib.hid hy
   clear hy
   cases hb:sp.boxOf ty with
   | none =>
    have HXb:=Lib.hid hb
    simp only [Option.bind_some,hb]
    clear hb
    go_enter Tryz.func61,Tryz.ntmps61
    go_wp2_with (first
     | (go_at_call 50;refine (HCx.out _).mono ?_;rintro e w1 ⟨he,hb⟩;unfold NumIs at he;rw [HXx.out] at he;subst he;have H1:=Lib.hid (H0.out.on hb);have f1:=H1.out.free 1;have c1:=H1.out.cell 1 (.int .i64 0) rfl;have H2:=Lib.hid (H1.out.set 1 (.int .i64 nx));obtain ⟨b0,b1⟩:=H2.out.w1;clear hb)
     | (go_at_call 28;refine (HCy.out _).mono ?_;rintro e w2 ⟨he,hb⟩;unfold PlainIs at he;rw [HXy.out] at he;subst he;have H3:=Lib.hid (H2.out.on hb);clear hb;clear HCy)
     | (go_at_call 94;refine (boxes_any _).mono ?_;rintro e w3 ⟨rfl,hw3⟩;have H4:=Lib.hid (H3.out.on (hw3 ▸ below_new _ _));have HBX:=Lib.hid (BxAt.new hw3);clear hw3))
    have HBE:Hid (w2.heap.size≠B):=Lib.hid (by have:=lt_of_block H3.out.op;omega)
    go_loopw [5,21] (fun fnd i wr=>∃j:Nat,j≤3∧i=.int .i64 j∧fnd=.bool (bxF ty j)∧RowS w0 B g [x,y,z,u,v] (((zeroC k).setIfInBounds 1 (.int .i64 nx)).setIfInBounds 11 (.int .i64 (bxT ty j))) wr∧BxAt w2.heap.size wr) (fun _ i _=>3-(intOf i).toNat)
    case atStart=>exact ⟨0,by omega,rfl,rfl,H4.out,HBX.out⟩
    case round =>
     obtain ⟨j,hj,rfl,rfl,hr,hbx⟩:=hrel
     have H5:=Lib.hid hr;have HBY:=Lib.hid hbx
     clear hr hbx H4 HBX H0 a0 a1 b0 b1 f1 c1
     by_cases hlt:j<3
     ·have hc:=HBY.out.cell j hlt
      have HF:=Lib.hid (show bxF ty (j+1)=if bxN j=ty then true else bxF ty j from rfl)
      have HT:=Lib.hid (show bxT ty (j+1)=if bxN j=ty then (j:Int) else bxT ty j from rfl)
      have hj2:(j:Int)≤3:=by omega
      have f11:=H5.out.free 11
      have c11:=H5.out.cell 11 (.int .i64 (bxT ty j)) rfl
      generalize bxF ty j=F at HF
      generalize bxT ty j=T at HT H5 c11
      by_cases ht:bxN j=ty
      ·have q1:((bstr (bxN j)).toList==(bstr ty).toList)=true:=by rw [ht];exact beq_self_eq_true _
       rw [if_pos ht] at HF HT
       clear ht
       go_wp2
       refine ⟨⟨j+1,by omega,by go_num,by rw [HF.out],?_,HBY.out.set HBE.out _ _⟩,by simp [intOf];omega⟩
       rw [HT.out]
       have:=H5.out.set 11 (.int .i64 j)
       simpa using this
      ·have q1:((bstr (bxN j)).toList==(bstr ty).toList)=false:=by rw [Lib.toList_data (bstr ty),bstr_toList];exact str_ne ht
       rw [if_neg ht] at HF HT
       clear ht
       go_wp2
       refine ⟨⟨j+1,by omega,by go_num,by rw [HF.out],?_,HBY.out⟩,by simp [intOf];omega⟩
       rw [HT.out]
       exact H5.out
     ·have hje:j=3:=by omega
      subst hje
      have HB3:=Lib.hid (box_is ty)
      obtain ⟨d0,d1⟩:=H5.out.w2
      have hf3:bxF ty 3=false:=by
       have:=HB3.out
       rw [HXb.out] at this
       cases hq:bxF ty 3 with
       | false=>rfl
       | true=>rw [hq] at this;cases this
      rw [hf3]
      go_wp2_with (go_at_call 23;refine (must_no _).mono ?_;rintro e w4 ⟨rfl,rfl⟩)
      exact ⟨rfl,H5.out.bad⟩
   | some bb =>
    have HXb:=Lib.hid hb
    simp only [Option.bind_some,hb]
    clear hb
    cases hz:sp.wPlain z with
    | none =>
     have HXz:=Lib.hid hz
     clear hz
     go_enter Tryz.func61,Tryz.ntmps61
     go_wp2_with (first
      | (go_at_call 50;refine (HCx.out _).mono ?_;rintro e w1 ⟨he,hb⟩;unfold NumIs at he;rw [HXx.out] at he;subst he;have H1:=Lib.hid (H0.out.on hb);have f1:=H1.out.free 1;have c1:=H1.out.cell 1 (.int .i64 0) rfl;have H2:=Lib.hid (H1.out.set 1 (.int .i64 nx));obtain ⟨b0,b1⟩:=H2.out.w1;clear hb)
      | (go_at_call 28;refine (HCy.out _).mono ?_;rintro e w2 ⟨he,hb⟩;unfold PlainIs at he;rw [HXy.out] at he;subst he;have H3:=Lib.hid (H2.out.on hb);clear hb;clear HCy)
      | (go_at_call 94;refine (boxes_any _).mono ?_;rintro e w3 ⟨rfl,hw3⟩;have H4:=Lib.hid (H3.out.on (hw3 ▸ below_new _ _));have HBX:=Lib.hid (BxAt.new hw3);clear hw3))
     have HBE:Hid (w2.heap.size≠B):=Lib.hid (by have:=lt_of_block H3.out.op;omega)
     go_loopw [5,21] (fun fnd i wr=>∃j:Nat,j≤3∧i=.int .i64 j∧fnd=.bool (bxF ty j)∧RowS w0 B g [x,y,z,u,v] (((zeroC k).setIfInBounds 1 (.int .i64 nx)).setIfInBounds 11 (.int .i64 (bxT ty j))) wr∧BxAt w2.heap.size wr) (fun _ i _=>3-(intOf i).toNat)
     case atStart=>exact ⟨0,by omega,rfl,rfl,H4.out,HBX.out⟩
     case round =>
      obtain ⟨j,hj,rfl,rfl,hr,hbx⟩:=hrel
      have H5:=Lib.hid hr;have HBY:=Lib.hid hbx
      clear hr hbx H4 HBX H0 a0 a1 b0 b1 f1 c1
      by_cases hlt:j<3
      ·have hc:=HBY.out.cell j hlt
       have HF:=Lib.hid (show bxF ty (j+1)=if bxN j=ty then true else bxF ty j from rfl)
       have HT:=Lib.hid (show bxT ty (j+1)=if bxN j=ty then (j:Int) else bxT ty j from rfl)
       have hj2:(j:Int)≤3:=by omega
       have f11:=H5.out.free 11
       have c11:=H5.out.cell 11 (.int .i64 (bxT ty j)) rfl
       generalize bxF ty j=F at HF
       generalize bxT ty j=T at HT H5 c11
       by_cases ht:bxN j=ty
       ·have q1:((bstr (bxN j)).toList==(bstr ty).toList)=true:=by rw [ht];exact beq_self_eq_true _
        rw [if_pos ht] at HF HT
        clear ht
        go_wp2
        refine ⟨⟨j+1,by omega,by go_num,by rw [HF.out],?_,HBY.out.set HBE.out _ _⟩,by simp [intOf];omega⟩
        rw [HT.out]
        have:=H5.out.set 11 (.int .i64 j)
        simpa using this
       ·have q1:((bstr (bxN j)).toList==(bstr ty).toList)=false:=by rw [Lib.toList_data (bstr ty),bstr_toList];exact str_ne ht
        rw [if_neg ht] at HF HT
        clear ht
        go_wp2
        refine ⟨⟨j+1,by omega,by go_num,by rw [HF.out],?_,HBY.out⟩,by simp [intOf];omega⟩
        rw [HT.out]
        exact H5.out
      ·have hje:j=3:=by omega
       subst hje
       have HB3:=Lib.hid (box_is ty)
       obtain ⟨d0,d1⟩:=H5.out.w2
       have hf3:bxF ty 3=true∧bxT ty 3=bb:=by
        have:=HB3.out
        rw [HXb.out] at this
        cases hq:bxF ty 3 with
        | false=>rw [hq] at this;cases this
        | true=>rw [hq] at this;exact ⟨rfl,(Option.some.inj this).symm⟩
       rw [hf3.1]
       rw [hf3.2] at H5
       clear hf3 HBY HBE
       go_wp2_with (first
        | (go_at_call 23;refine (must_yes _).mono ?_;rintro e w4 ⟨rfl,rfl⟩)
        | (go_at_call 28;refine (HCz.out _).mono ?_;rintro e w5 ⟨he,hb⟩;unfold PlainIs at he;rw [HXz.out] at he;subst he;have H6:=Lib.hid (H5.out.on hb);clear hb))
       exact ⟨rfl,H6.out.bad⟩
    | some tz =>
     have HXz:=Lib.hid hz
     clear hz
     cases hu:sp.wFrac u with
     | none =>
      have HXu:=Lib.hid hu
      clear hu
      go_enter Tryz.func61,Tryz.ntmps61
      go_wp2_with (first
       | (go_at_call 50;refine (HCx.out _).mono ?_;rintro e w1 ⟨he,hb⟩;unfold NumIs at he;rw [HXx.out] at he;subst he;have H1:=Lib.hid (H0.out.on hb);have f1:=H1.out.free 1;have c1:=H1.out.cell 1 (.int .i64 0) rfl;have H2:=Lib.hid (H1.out.set 1 (.int .i64 nx));obtain ⟨b0,b1⟩:=H2.out.w1;clear hb)
       | (go_at_call 28;refine (HCy.out _).mono ?_;rintro e w2 ⟨he,hb⟩;unfold PlainIs at he;rw [HXy.out] at he;subst he;have H3:=Lib.hid (H2.out.on hb);clear hb;clear HCy)
       | (go_at_call 94;refine (boxes_any _).mono ?_;rintro e w3 ⟨rfl,hw3⟩;have H4:=Lib.hid (H3.out.on (hw3 ▸ below_new _ _));have HBX:=Lib.hid (BxAt.new hw3);clear hw3))
      have HBE:Hid (w2.heap.size≠B):=Lib.hid (by have:=lt_of_block H3.out.op;omega)
      go_loopw [5,21] (fun fnd i wr=>∃j:Nat,j≤3∧i=.int .i64 j∧fnd=.bool (bxF ty j)∧RowS w0 B g [x,y,z,u,v] (((zeroC k).setIfInBounds 1 (.int .i64 nx)).setIfInBounds 11 (.int .i64 (bxT ty j))) wr∧BxAt w2.heap.size wr) (fun _ i _=>3-(intOf i).toNat)
      case atStart=>exact ⟨0,by omega,rfl,rfl,H4.out,HBX.out⟩
      case round =>
       obtain ⟨j,hj,rfl,rfl,hr,hbx⟩:=hrel
       have H5:=Lib.hid hr;have HBY:=Lib.hid hbx
       clear hr hbx H4 HBX H0 a0 a1 b0 b1 f1 c1
       by_cases hlt:j<3
       ·have hc:=HBY.out.cell j hlt
        have HF:=Lib.hid (show bxF ty (j+1)=if bxN j=ty then true else bxF ty j from rfl)
        have HT:=Lib.hid (show bxT ty (j+1)=if bxN j=ty then (j:Int) else bxT ty j from rfl)
        have hj2:(j:Int)≤3:=by omega
        have f11:=H5.out.free 11
        have c11:=H5.out.cell 11 (.int .i64 (bxT ty j)) rfl
        generalize bxF ty j=F at HF
        generalize bxT ty j=T at HT H5 c11
        by_cases ht:bxN j=ty
        ·have q1:((bstr (bxN j)).toList==(bstr ty).toList)=true:=by rw [ht];exact beq_self_eq_true _
         rw [if_pos ht] at HF HT
         clear ht
         go_wp2
         refine ⟨⟨j+1,by omega,by go_num,by rw [HF.out],?_,HBY.out.set HBE.out _ _⟩,by simp [intOf];omega⟩
         rw [HT.out]
         have:=H5.out.set 11 (.int .i64 j)
         simpa using this
        ·have q1:((bstr (bxN j)).toList==(bstr ty).toList)=false:=by rw [Lib.toList_data (bstr ty),bstr_toList];exact str_ne ht
         rw [if_neg ht] at HF HT
         clear ht
         go_wp2
         refine ⟨⟨j+1,by omega,by go_num,by rw [HF.out],?_,HBY.out⟩,by simp [intOf];omega⟩
         rw [HT.out]
         exact H5.out
       ·have hje:j=3:=by omega
        subst hje
        have HB3:=Lib.hid (box_is ty)
        obtain ⟨d0,d1⟩:=H5.out.w2
        have hf3:bxF ty 3=true∧bxT ty 3=bb:=by
         have:=HB3.out
         rw [HXb.out] at this
         cases hq:bxF ty 3 with
         | false=>rw [hq] at this;cases this
         | true=>rw [hq] at this;exact ⟨rfl,(Option.some.inj this).symm⟩
        rw [hf3.1]
        rw [hf3.2] at H5
        clear hf3 HBY HBE
        by_cases hz:tz = [45]
        ·have q3:((bstr tz).toList==[45])=true:=str_eq hz
         clear d0 d1
         obtain ⟨d0,d1⟩:=H5.out.w2
         have HZ:=Lib.hid hz
         clear hz
         go_wp2_with (first
          | (go_at_call 23;refine (must_yes _).mono ?_;rintro e w4 ⟨rfl,rfl⟩)
          | (go_at_call 28;refine (HCz.out _).mono ?_;rintro e w5 ⟨he,hb⟩;unfold PlainIs at he;rw [HXz.out] at he;subst he;have H6:=Lib.hid (H5.out.on hb);have f12:=H6.out.free 12;have c12:=H6.out.cell 12 (.string ⟨#[]⟩) rfl;have H7:=Lib.hid (H6.out.set 12 (.string (bstr tz)));have f12b:=H7.out.free 12;have c12b:=H7.out.cell 12 (.string (bstr tz)) rfl;clear hb))
         have H8:=Lib.hid (by have:=H7.out.set 12 (.string ⟨#[]⟩);simpa using this)
         have H9:=Lib.hid (H8.out.on (Below.refl _ _).drew)
         refine wp_region_held_drew (S:=fun s=>∃cs,RowS w0 B g [x,y,z,u,v] cs s) (by kernel_rfl) ⟨_,H9.out⟩ (fun hHeld => ?_)
         refine tk 0 (.pointer (some ⟨B,0,none⟩)) rfl hHeld (fun s hs=>by obtain ⟨_,_,_,_,_,_,d0,d1,e0,e1⟩:=rc5 hs;go_simp) ?_
         refine tk 1 (.pointer (some ⟨B,0,none⟩)) rfl hHeld (fun s hs=>by obtain ⟨_,_,_,_,_,_,d0,d1,e0,e1⟩:=rc5 hs;go_simp) ?_
         refine tk 2 (.slice (some ⟨g,2,none⟩) 5 c) rfl hHeld (fun s hs=>by obtain ⟨_,_,_,_,_,_,d0,d1,e0,e1⟩:=rc5 hs;go_simp) ?_
         refine tk 3 (.pointer (some ⟨g,8,none⟩)) rfl hHeld (fun s hs=>by obtain ⟨_,_,_,_,_,_,d0,d1,e0,e1⟩:=rc5 hs;go_simp) ?_
         refine tk 4 (.agg #[.string (bstr u.1),.bool u.2]) rfl hHeld (fun s hs=>by obtain ⟨_,_,_,_,_,_,d0,d1,e0,e1⟩:=rc5 hs;go_simp) ?_
         refine tk 6 (.slice (some ⟨g,2,none⟩) 5 c) rfl hHeld (fun s hs=>by obtain ⟨_,_,_,_,_,_,d0,d1,e0,e1⟩:=rc5 hs;go_simp) ?_
         refine tk 7 (.pointer (some ⟨g,10,none⟩)) rfl hHeld (fun s hs=>by obtain ⟨_,_,_,_,_,_,d0,d1,e0,e1⟩:=rc5 hs;go_simp) ?_
         refine tk 8 (.agg #[.string (bstr v.1),.bool v.2]) rfl hHeld (fun s hs=>by obtain ⟨_,_,_,_,_,_,d0,d1,e0,e1⟩:=rc5 hs;go_simp) ?_
         refine rd1 5 rfl fun K hK => ?_
         go_simp
         refine (HCu.out _).mono ?_
         rintro e w6 ⟨he,hb⟩
         unfold FracWIs at he
         rw [HXu.out] at he
         subst he
         have Ha:=Lib.hid (H9.out.on hb)
         clear hb
         exact ⟨rfl,Ha.out.bad⟩
        ·have q3:((bstr tz).toList==[45])=false:=str_ne hz
         have HZ:=Lib.hid hz
         clear hz
         go_wp2_with (first
          | (go_at_call 23;refine (must_yes _).mono ?_;rintro e w4 ⟨rfl,rfl⟩)
          | (go_at_call 28;refine (HCz.out _).mono ?_;rintro e w5 ⟨he,hb⟩;unfold PlainIs at he;rw [HXz.out] at he;subst he;have H6:=Lib.hid (H5.out.on hb);have f12:=H6.out.free 12;have c12:=H6.out.cell 12 (.string ⟨#[]⟩) rfl;have H7:=Lib.hid (H6.out.set 12 (.string (bstr tz)));clear hb))
         have H8:=Lib.hid (H7.out)
         have H9:=Lib.hid (H8.out.on (Below.refl _ _).drew)
         refine wp_region_held_drew (S:=fun s=>∃cs,RowS w0 B g [x,y,z,u,v] cs s) (by kernel_rfl) ⟨_,H9.out⟩ (fun hHeld => ?_)
         refine tk 0 (.pointer (some ⟨B,0,none⟩)) rfl hHeld (fun s hs=>by obtain ⟨_,_,_,_,_,_,d0,d1,e0,e1⟩:=rc5 hs;go_simp) ?_
         refine tk 1 (.pointer (some ⟨B,0,none⟩)) rfl hHeld (fun s hs=>by obtain ⟨_,_,_,_,_,_,d0,d1,e0,e1⟩:=rc5 hs;go_simp) ?_
         refine tk 2 (.slice (some ⟨g,2,none⟩) 5 c) rfl hHeld (fun s hs=>by obtain ⟨_,_,_,_,_,_,d0,d1,e0,e1⟩:=rc5 hs;go_simp) ?_
         refine tk 3 (.pointer (some ⟨g,8,none⟩)) rfl hHeld (fun s hs=>by obtain ⟨_,_,_,_,_,_,d0,d1,e0,e1⟩:=rc5 hs;go_simp) ?_
         refine tk 4 (.agg #[.string (bstr u.1),.bool u.2]) rfl hHeld (fun s hs=>by obtain ⟨_,_,_,_,_,_,d0,d1,e0,e1⟩:=rc5 hs;go_simp) ?_
         refine tk 6 (.slice (some ⟨g,2,none⟩) 5 c) rfl hHeld (fun s hs=>by obtain ⟨_,_,_,_,_,_,d0,d1,e0,e1⟩:=rc5 hs;go_simp) ?_
         refine tk 7 (.pointer (some ⟨g,10,none⟩)) rfl hHeld (fun s hs=>by obtain ⟨_,_,_,_,_,_,d0,d1,e0,e1⟩:=rc5 hs;go_simp) ?_
         refine tk 8 (.agg #[.string (bstr v.1),.bool v.2]) rfl hHeld (fun s hs=>by obtain ⟨_,_,_,_,_,_,d0,d1,e0,e1⟩:=rc5 hs;go_simp) ?_
         refine rd1 5 rfl fun K hK => ?_
         go_simp
         refine (HCu.out _).mono ?_
         rintro e w6 ⟨he,hb⟩
         unfold FracWIs at he
         rw [HXu.out] at he
         subst he
         have Ha:=Lib.hid (H9.out.on hb)
         clear hb
         exact ⟨rfl,Ha.out.bad⟩
     | some qu =>
      have HXu:=Lib.hid hu
      clear hu
      cases hv:sp.wFrac v with
      | none =>
       have HXv:=Lib.hid hv
       clear hv
       go_enter Tryz.func61,Tryz.ntmps61
       go_wp2_with (first
        | (go_at_call 50;refine (HCx.out _).mono ?_;rintro e w1 ⟨he,hb⟩;unfold NumIs at he;rw [HXx.out] at he;subst he;have H1:=Lib.hid (H0.out.on hb);have f1:=H1.out.free 1;have c1:=H1.out.cell 1 (.int .i64 0) rfl;have H2:=Lib.hid (H1.out.set 1 (.int .i64 nx));obtain ⟨b0,b1⟩:=H2.out.w1;clear hb)
        | (go_at_call 28;refine (HCy.out _).mono ?_;rintro e w2 ⟨he,hb⟩;unfold PlainIs at he;rw [HXy.out] at he;subst he;have H3:=Lib.hid (H2.out.on hb);clear hb;clear HCy)
        | (go_at_call 94;refine (boxes_any _).mono ?_;rintro e w3 ⟨rfl,hw3⟩;have H4:=Lib.hid (H3.out.on (hw3 ▸ below_new _ _));have HBX:=Lib.hid (BxAt.new hw3);clear hw3))
       have HBE:Hid (w2.heap.size≠B):=Lib.hid (by have:=lt_of_block H3.out.op;omega)
       go_loopw [5,21] (fun fnd i wr=>∃j:Nat,j≤3∧i=.int .i64 j∧fnd=.bool (bxF ty j)∧RowS w0 B g [x,y,z,u,v] (((zeroC k).setIfInBounds 1 (.int .i64 nx)).setIfInBounds 11 (.int .i64 (bxT ty j))) wr∧BxAt w2.heap.size wr) (fun _ i _=>3-(intOf i).toNat)
       case atStart=>exact ⟨0,by omega,rfl,rfl,H4.out,HBX.out⟩
       case round =>
        obtain ⟨j,hj,rfl,rfl,hr,hbx⟩:=hrel
        have H5:=Lib.hid hr;have HBY:=Lib.hid hbx
        clear hr hbx H4 HBX H0 a0 a1 b0 b1 f1 c1
        by_cases hlt:j<3
        ·have hc:=HBY.out.cell j hlt
         have HF:=Lib.hid (show bxF ty (j+1)=if bxN j=ty then true else bxF ty j from rfl)
         have HT:=Lib.hid (show bxT ty (j+1)=if bxN j=ty then (j:Int) else bxT ty j from rfl)
         have hj2:(j:Int)≤3:=by omega
         have f11:=H5.out.free 11
         have c11:=H5.out.cell 11 (.int .i64 (bxT ty j)) rfl
         generalize bxF ty j=F at HF
         generalize bxT ty j=T at HT H5 c11
         by_cases ht:bxN j=ty
         ·have q1:((bstr (bxN j)).toList==(bstr ty).toList)=true:=by rw [ht];exact beq_self_eq_true _
          rw [if_pos ht] at HF HT
          clear ht
          go_wp2
          refine ⟨⟨j+1,by omega,by go_num,by rw [HF.out],?_,HBY.out.set HBE.out _ _⟩,by simp [intOf];omega⟩
          rw [HT.out]
          have:=H5.out.set 11 (.int .i64 j)
          simpa using this
         ·have q1:((bstr (bxN j)).toList==(bstr ty).toList)=false:=by rw [Lib.toList_data (bstr ty),bstr_toList];exact str_ne ht
          rw [if_neg ht] at HF HT
          clear ht
          go_wp2
          refine ⟨⟨j+1,by omega,by go_num,by rw [HF.out],?_,HBY.out⟩,by simp [intOf];omega⟩
          rw [HT.out]
          exact H5.out
        ·have hje:j=3:=by omega
         subst hje
         have HB3:=Lib.hid (box_is ty)
         obtain ⟨d0,d1⟩:=H5.out.w2
         have hf3:bxF ty 3=true∧bxT ty 3=bb:=by
          have:=HB3.out
          rw [HXb.out] at this
          cases hq:bxF ty 3 with
          | false=>rw [hq] at this;cases this
          | true=>rw [hq] at this;exact ⟨rfl,(Option.some.inj this).symm⟩
         rw [hf3.1]
         rw [hf3.2] at H5
         clear hf3 HBY HBE
         by_cases hz:tz = [45]
         ·have q3:((bstr tz).toList==[45])=true:=str_eq hz
          clear d0 d1
          obtain ⟨d0,d1⟩:=H5.out.w2
          have HZ:=Lib.hid hz
          clear hz
          go_wp2_with (first
           | (go_at_call 23;refine (must_yes _).mono ?_;rintro e w4 ⟨rfl,rfl⟩)
           | (go_at_call 28;refine (HCz.out _).mono ?_;rintro e w5 ⟨he,hb⟩;unfold PlainIs at he;rw [HXz.out] at he;subst he;have H6:=Lib.hid (H5.out.on hb);have f12:=H6.out.free 12;have c12:=H6.out.cell 12 (.string ⟨#[]⟩) rfl;have H7:=Lib.hid (H6.out.set 12 (.string (bstr tz)));have f12b:=H7.out.free 12;have c12b:=H7.out.cell 12 (.string (bstr tz)) rfl;clear hb))
          have H8:=Lib.hid (by have:=H7.out.set 12 (.string ⟨#[]⟩);simpa using this)
          have H9:=Lib.hid (H8.out.on (Below.refl _ _).drew)
          refine wp_region_held_drew (S:=fun s=>∃cs,RowS w0 B g [x,y,z,u,v] cs s) (by kernel_rfl) ⟨_,H9.out⟩ (fun hHeld => ?_)
          refine tk 0 (.pointer (some ⟨B,0,none⟩)) rfl hHeld (fun s hs=>by obtain ⟨_,_,_,_,_,_,d0,d1,e0,e1⟩:=rc5 hs;go_simp) ?_
          refine tk 1 (.pointer (some ⟨B,0,none⟩)) rfl hHeld (fun s hs=>by obtain ⟨_,_,_,_,_,_,d0,d1,e0,e1⟩:=rc5 hs;go_simp) ?_
          refine tk 2 (.slice (some ⟨g,2,none⟩) 5 c) rfl hHeld (fun s hs=>by obtain ⟨_,_,_,_,_,_,d0,d1,e0,e1⟩:=rc5 hs;go_simp) ?_
          refine tk 3 (.pointer (some ⟨g,8,none⟩)) rfl hHeld (fun s hs=>by obtain ⟨_,_,_,_,_,_,d0,d1,e0,e1⟩:=rc5 hs;go_simp) ?_
          refine tk 4 (.agg #[.string (bstr u.1),.bool u.2]) rfl hHeld (fun s hs=>by obtain ⟨_,_,_,_,_,_,d0,d1,e0,e1⟩:=rc5 hs;go_simp) ?_
          refine tk 6 (.slice (some ⟨g,2,none⟩) 5 c) rfl hHeld (fun s hs=>by obtain ⟨_,_,_,_,_,_,d0,d1,e0,e1⟩:=rc5 hs;go_simp) ?_
          refine tk 7 (.pointer (some ⟨g,10,none⟩)) rfl hHeld (fun s hs=>by obtain ⟨_,_,_,_,_,_,d0,d1,e0,e1⟩:=rc5 hs;go_simp) ?_
          refine tk 8 (.agg #[.string (bstr v.1),.bool v.2]) rfl hHeld (fun s hs=>by obtain ⟨_,_,_,_,_,_,d0,d1,e0,e1⟩:=rc5 hs;go_simp) ?_
          refine rd1 5 rfl fun K hK => ?_
          go_simp
          refine (HCu.out _).mono ?_
          rintro e w6 ⟨he,hb⟩
          unfold FracWIs at he
          rw [HXu.out] at he
          subst he
          have Ha:=Lib.hid (H9.out.on hb)
          clear hb
          refine hK.out _ _ ⟨_,Ha.out⟩ (fun hHeld => ?_)
          clear hK
          refine rd1 9 rfl fun K hK => ?_
          go_simp
          refine (HCv.out _).mono ?_
          rintro e w7 ⟨he,hb⟩
          unfold FracWIs at he
          rw [HXv.out] at he
          subst he
          have Hb:=Lib.hid (Ha.out.on hb)
          clear hb
          exact ⟨rfl,Hb.out.bad⟩
         ·have q3:((bstr tz).toList==[45])=false:=str_ne hz
          have HZ:=Lib.hid hz
          clear hz
          go_wp2_with (first
           | (go_at_call 23;refine (must_yes _).mono ?_;rintro e w4 ⟨rfl,rfl⟩)
           | (go_at_call 28;refine (HCz.out _).mono ?_;rintro e w5 ⟨he,hb⟩;unfold PlainIs at he;rw [HXz.out] at he;subst he;have H6:=Lib.hid (H5.out.on hb);have f12:=H6.out.free 12;have c12:=H6.out.cell 12 (.string ⟨#[]⟩) rfl;have H7:=Lib.hid (H6.out.set 12 (.string (bstr tz)));clear hb))
          have H8:=Lib.hid (H7.out)
          have H9:=Lib.hid (H8.out.on (Below.refl _ _).drew)
          refine wp_region_held_drew (S:=fun s=>∃cs,RowS w0 B g [x,y,z,u,v] cs s) (by kernel_rfl) ⟨_,H9.out⟩ (fun hHeld => ?_)
          refine tk 0 (.pointer (some ⟨B,0,none⟩)) rfl hHeld (fun s hs=>by obtain ⟨_,_,_,_,_,_,d0,d1,e0,e1⟩:=rc5 hs;go_simp) ?_
          refine tk 1 (.pointer (some ⟨B,0,none⟩)) rfl hHeld (fun s hs=>by obtain ⟨_,_,_,_,_,_,d0,d1,e0,e1⟩:=rc5 hs;go_simp) ?_
          refine tk 2 (.slice (some ⟨g,2,none⟩) 5 c) rfl hHeld (fun s hs=>by obtain ⟨_,_,_,_,_,_,d0,d1,e0,e1⟩:=rc5 hs;go_simp) ?_
          refine tk 3 (.pointer (some ⟨g,8,none⟩)) rfl hHeld (fun s hs=>by obtain ⟨_,_,_,_,_,_,d0,d1,e0,e1⟩:=rc5 hs;go_simp) ?_
          refine tk 4 (.agg #[.string (bstr u.1),.bool u.2]) rfl hHeld (fun s hs=>by obtain ⟨_,_,_,_,_,_,d0,d1,e0,e1⟩:=rc5 hs;go_simp) ?_
          refine tk 6 (.slice (some ⟨g,2,none⟩) 5 c) rfl hHeld (fun s hs=>by obtain ⟨_,_,_,_,_,_,d0,d1,e0,e1⟩:=rc5 hs;go_simp) ?_
          refine tk 7 (.pointer (some ⟨g,10,none⟩)) rfl hHeld (fun s hs=>by obtain ⟨_,_,_,_,_,_,d0,d1,e0,e1⟩:=rc5 hs;go_simp) ?_
          refine tk 8 (.agg #[.string (bstr v.1),.bool v.2]) rfl hHeld (fun s hs=>by obtain ⟨_,_,_,_,_,_,d0,d1,e0,e1⟩:=rc5 hs;go_simp) ?_
          refine rd1 5 rfl fun K hK => ?_
          go_simp
          refine (HCu.out _).mono ?_
          rintro e w6 ⟨he,hb⟩
          unfold FracWIs at he
          rw [HXu.out] at he
          subst he
          have Ha:=Lib.hid (H9.out.on hb)
          clear hb
          refine hK.out _ _ ⟨_,Ha.out⟩ (fun hHeld => ?_)
          clear hK
          refine rd1 9 rfl fun K hK => ?_
          go_simp
          refine (HCv.out _).mono ?_
          rintro e w7 ⟨he,hb⟩
          unfold FracWIs at he
          rw [HXv.out] at he
          subst he
          have Hb:=Lib.hid (Ha.out.on hb)
          clear hb
          exact ⟨rfl,Hb.out.bad⟩
      | some qv =>
       have HXv:=Lib.hid hv
       clear hv
       go_enter Tryz.func61,Tryz.ntmps61
       go_wp2_with (first
        | (go_at_call 50;refine (HCx.out _).mono ?_;rintro e w1 ⟨he,hb⟩;unfold NumIs at he;rw [HXx.out] at he;subst he;have H1:=Lib.hid (H0.out.on hb);have f1:=H1.out.free 1;have c1:=H1.out.cell 1 (.int .i64 0) rfl;have H2:=Lib.hid (H1.out.set 1 (.int .i64 nx));obtain ⟨b0,b1⟩:=H2.out.w1;clear hb)
        | (go_at_call 28;refine (HCy.out _).mono ?_;rintro e w2 ⟨he,hb⟩;unfold PlainIs at he;rw [HXy.out] at he;subst he;have H3:=Lib.hid (H2.out.on hb);clear hb;clear HCy)
        | (go_at_call 94;refine (boxes_any _).mono ?_;rintro e w3 ⟨rfl,hw3⟩;have H4:=Lib.hid (H3.out.on (hw3 ▸ below_new _ _));have HBX:=Lib.hid (BxAt.new hw3);clear hw3))
       have HBE:Hid (w2.heap.size≠B):=Lib.hid (by have:=lt_of_block H3.out.op;omega)
       go_loopw [5,21] (fun fnd i wr=>∃j:Nat,j≤3∧i=.int .i64 j∧fnd=.bool (bxF ty j)∧RowS w0 B g [x,y,z,u,v] (((zeroC k).setIfInBounds 1 (.int .i64 nx)).setIfInBounds 11 (.int .i64 (bxT ty j))) wr∧BxAt w2.heap.size wr) (fun _ i _=>3-(intOf i).toNat)
       case atStart=>exact ⟨0,by omega,rfl,rfl,H4.out,HBX.out⟩
       case round =>
        obtain ⟨j,hj,rfl,rfl,hr,hbx⟩:=hrel
        have H5:=Lib.hid hr;have HBY:=Lib.hid hbx
        clear hr hbx H4 HBX H0 a0 a1 b0 b1 f1 c1
        by_cases hlt:j<3
        ·have hc:=HBY.out.cell j hlt
         have HF:=Lib.hid (show bxF ty (j+1)=if bxN j=ty then true else bxF ty j from rfl)
         have HT:=Lib.hid (show bxT ty (j+1)=if bxN j=ty then (j:Int) else bxT ty j from rfl)
         have hj2:(j:Int)≤3:=by omega
         have f11:=H5.out.free 11
         have c11:=H5.out.cell 11 (.int .i64 (bxT ty j)) rfl
         generalize bxF ty j=F at HF
         generalize bxT ty j=T at HT H5 c11
         by_cases ht:bxN j=ty
         ·have q1:((bstr (bxN j)).toList==(bstr ty).toList)=true:=by rw [ht];exact beq_self_eq_true _
          rw [if_pos ht] at HF HT
          clear ht
          go_wp2
          refine ⟨⟨j+1,by omega,by go_num,by rw [HF.out],?_,HBY.out.set HBE.out _ _⟩,by simp [intOf];omega⟩
          rw [HT.out]
          have:=H5.out.set 11 (.int .i64 j)
          simpa using this
         ·have q1:((bstr (bxN j)).toList==(bstr ty).toList)=false:=by rw [Lib.toList_data (bstr ty),bstr_toList];exact str_ne ht
          rw [if_neg ht] at HF HT
          clear ht
          go_wp2
          refine ⟨⟨j+1,by omega,by go_num,by rw [HF.out],?_,HBY.out⟩,by simp [intOf];omega⟩
          rw [HT.out]
          exact H5.out
        ·have hje:j=3:=by omega
         subst hje
         have HB3:=Lib.hid (box_is ty)
         obtain ⟨d0,d1⟩:=H5.out.w2
         have hf3:bxF ty 3=true∧bxT ty 3=bb:=by
          have:=HB3.out
          rw [HXb.out] at this
          cases hq:bxF ty 3 with
          | false=>rw [hq] at this;cases this
          | true=>rw [hq] at this;exact ⟨rfl,(Option.some.inj this).symm⟩
         rw [hf3.1]
         rw [hf3.2] at H5
         clear hf3 HBY HBE
         by_cases hz:tz = [45]
         ·have q3:((bstr tz).toList==[45])=true:=str_eq hz
          clear d0 d1
          obtain ⟨d0,d1⟩:=H5.out.w2
          have HZ:=Lib.hid hz
          clear hz
          go_wp2_with (first
           | (go_at_call 23;refine (must_yes _).mono ?_;rintro e w4 ⟨rfl,rfl⟩)
           | (go_at_call 28;refine (HCz.out _).mono ?_;rintro e w5 ⟨he,hb⟩;unfold PlainIs at he;rw [HXz.out] at he;subst he;have H6:=Lib.hid (H5.out.on hb);have f12:=H6.out.free 12;have c12:=H6.out.cell 12 (.string ⟨#[]⟩) rfl;have H7:=Lib.hid (H6.out.set 12 (.string (bstr tz)));have f12b:=H7.out.free 12;have c12b:=H7.out.cell 12 (.string (bstr tz)) rfl;clear hb))
          have H8:=Lib.hid (by have:=H7.out.set 12 (.string ⟨#[]⟩);simpa using this)
          have H9:=Lib.hid (H8.out.on (Below.refl _ _).drew)
          refine wp_region_held_drew (S:=fun s=>∃cs,RowS w0 B g [x,y,z,u,v] cs s) (by kernel_rfl) ⟨_,H9.out⟩ (fun hHeld => ?_)
          refine tk 0 (.pointer (some ⟨B,0,none⟩)) rfl hHeld (fun s hs=>by obtain ⟨_,_,_,_,_,_,d0,d1,e0,e1⟩:=rc5 hs;go_simp) ?_
          refine tk 1 (.pointer (some ⟨B,0,none⟩)) rfl hHeld (fun s hs=>by obtain ⟨_,_,_,_,_,_,d0,d1,e0,e1⟩:=rc5 hs;go_simp) ?_
          refine tk 2 (.slice (some ⟨g,2,none⟩) 5 c) rfl hHeld (fun s hs=>by obtain ⟨_,_,_,_,_,_,d0,d1,e0,e1⟩:=rc5 hs;go_simp) ?_
          refine tk 3 (.pointer (some ⟨g,8,none⟩)) rfl hHeld (fun s hs=>by obtain ⟨_,_,_,_,_,_,d0,d1,e0,e1⟩:=rc5 hs;go_simp) ?_
          refine tk 4 (.agg #[.string (bstr u.1),.bool u.2]) rfl hHeld (fun s hs=>by obtain ⟨_,_,_,_,_,_,d0,d1,e0,e1⟩:=rc5 hs;go_simp) ?_
          refine tk 6 (.slice (some ⟨g,2,none⟩) 5 c) rfl hHeld (fun s hs=>by obtain ⟨_,_,_,_,_,_,d0,d1,e0,e1⟩:=rc5 hs;go_simp) ?_
          refine tk 7 (.pointer (some ⟨g,10,none⟩)) rfl hHeld (fun s hs=>by obtain ⟨_,_,_,_,_,_,d0,d1,e0,e1⟩:=rc5 hs;go_simp) ?_
          refine tk 8 (.agg #[.string (bstr v.1),.bool v.2]) rfl hHeld (fun s hs=>by obtain ⟨_,_,_,_,_,_,d0,d1,e0,e1⟩:=rc5 hs;go_simp) ?_
          refine rd1 5 rfl fun K hK => ?_
          go_simp
          refine (HCu.out _).mono ?_
          rintro e w6 ⟨he,hb⟩
          unfold FracWIs at he
          rw [HXu.out] at he
          subst he
          have Ha:=Lib.hid (H9.out.on hb)
          clear hb
          refine hK.out _ _ ⟨_,Ha.out⟩ (fun hHeld => ?_)
          clear hK
          refine rd1 9 rfl fun K hK => ?_
          go_simp
          refine (HCv.out _).mono ?_
          rintro e w7 ⟨he,hb⟩
          unfold FracWIs at he
          rw [HXv.out] at he
          subst he
          have Hb:=Lib.hid (Ha.out.on hb)
          clear hb
          refine hK.out _ _ ⟨_,Hb.out⟩ (fun hHeld => ?_)
          clear hK
          refine tk 10 (.pointer (some ⟨B,0,none⟩)) rfl hHeld (fun s hs=>by obtain ⟨_,_,_,_,_,_,d0,d1,e0,e1⟩:=rc5 hs;go_simp) ?_
          refine tk 11 (.pointer (some ⟨B,11,none⟩)) rfl hHeld (fun s hs=>by obtain ⟨_,_,_,_,_,_,d0,d1,e0,e1⟩:=rc5 hs;go_simp) ?_
          refine tk 12 (.pointer (some ⟨B,13,none⟩)) rfl hHeld (fun s hs=>by obtain ⟨_,_,_,_,_,_,d0,d1,e0,e1⟩:=rc5 hs;go_simp) ?_
          have f13:=Hb.out.free 13
          have c13:=Hb.out.cell 13 (.int .i64 0) rfl
          have f14:=Hb.out.free 14
          have c14:=Hb.out.cell 14 (.int .i64 0) rfl
          refine rd1 13 rfl fun K hK => ?_
          go_simp
          have Hc:=Lib.hid (Hb.out.set 13 (.int .i64 qu.1))
          have Hd:=Lib.hid (Hc.out.set 14 (.int .i64 qu.2))
          clear f13 c13 f14 c14
          refine hK.out _ _ ⟨_,Hd.out⟩ (fun hHeld => ?_)
          clear hK
          refine tk 14 (.pointer (some ⟨B,0,none⟩)) rfl hHeld (fun s hs=>by obtain ⟨_,_,_,_,_,_,d0,d1,e0,e1⟩:=rc5 hs;go_simp) ?_
          refine tk 15 (.pointer (some ⟨B,11,none⟩)) rfl hHeld (fun s hs=>by obtain ⟨_,_,_,_,_,_,d0,d1,e0,e1⟩:=rc5 hs;go_simp) ?_
          refine tk 16 (.pointer (some ⟨B,15,none⟩)) rfl hHeld (fun s hs=>by obtain ⟨_,_,_,_,_,_,d0,d1,e0,e1⟩:=rc5 hs;go_simp) ?_
          have f15:=Hd.out.free 15
          have c15:=Hd.out.cell 15 (.int .i64 0) rfl
          have f16:=Hd.out.free 16
          have c16:=Hd.out.cell 16 (.int .i64 0) rfl
          refine rd1 17 rfl fun K hK => ?_
          go_simp
          have He:=Lib.hid (Hd.out.set 15 (.int .i64 qv.1))
          have Hf:=Lib.hid (He.out.set 16 (.int .i64 qv.2))
          clear f15 c15 f16 c16
          refine hK.out _ _ ⟨_,Hf.out⟩ (fun hHeld => ?_)
          clear hK
          refine wpAnyH_done (by kernel_rfl) ?_ _
          clear hHeld
          go_simp
          go_end0
          exact Hf.out.good _ rfl (by simp only [sp.boxName,if_pos HZ.out];rfl)
         ·have q3:((bstr tz).toList==[45])=false:=str_ne hz
          have HZ:=Lib.hid hz
          clear hz
          go_wp2_with (first
           | (go_at_call 23;refine (must_yes _).mono ?_;rintro e w4 ⟨rfl,rfl⟩)
           | (go_at_call 28;refine (HCz.out _).mono ?_;rintro e w5 ⟨he,hb⟩;unfold PlainIs at he;rw [HXz.out] at he;subst he;have H6:=Lib.hid (H5.out.on hb);have f12:=H6.out.free 12;have c12:=H6.out.cell 12 (.string ⟨#[]⟩) rfl;have H7:=Lib.hid (H6.out.set 12 (.string (bstr tz)));clear hb))
          have H8:=Lib.hid (H7.out)
          have H9:=Lib.hid (H8.out.on (Below.refl _ _).drew)
          refine wp_region_held_drew (S:=fun s=>∃cs,RowS w0 B g [x,y,z,u,v] cs s) (by kernel_rfl) ⟨_,H9.out⟩ (fun hHeld => ?_)
          refine tk 0 (.pointer (some ⟨B,0,none⟩)) rfl hHeld (fun s hs=>by obtain ⟨_,_,_,_,_,_,d0,d1,e0,e1⟩:=rc5 hs;go_simp) ?_
          refine tk 1 (.pointer (some ⟨B,0,none⟩)) rfl hHeld (fun s hs=>by obtain ⟨_,_,_,_,_,_,d0,d1,e0,e1⟩:=rc5 hs;go_simp) ?_
          refine tk 2 (.slice (some ⟨g,2,none⟩) 5 c) rfl hHeld (fun s hs=>by obtain ⟨_,_,_,_,_,_,d0,d1,e0,e1⟩:=rc5 hs;go_simp) ?_
          refine tk 3 (.pointer (some ⟨g,8,none⟩)) rfl hHeld (fun s hs=>by obtain ⟨_,_,_,_,_,_,d0,d1,e0,e1⟩:=rc5 hs;go_simp) ?_
          refine tk 4 (.agg #[.string (bstr u.1),.bool u.2]) rfl hHeld (fun s hs=>by obtain ⟨_,_,_,_,_,_,d0,d1,e0,e1⟩:=rc5 hs;go_simp) ?_
          refine tk 6 (.slice (some ⟨g,2,none⟩) 5 c) rfl hHeld (fun s hs=>by obtain ⟨_,_,_,_,_,_,d0,d1,e0,e1⟩:=rc5 hs;go_simp) ?_
          refine tk 7 (.pointer (some ⟨g,10,none⟩)) rfl hHeld (fun s hs=>by obtain ⟨_,_,_,_,_,_,d0,d1,e0,e1⟩:=rc5 hs;go_simp) ?_
          refine tk 8 (.agg #[.string (bstr v.1),.bool v.2]) rfl hHeld (fun s hs=>by obtain ⟨_,_,_,_,_,_,d0,d1,e0,e1⟩:=rc5 hs;go_simp) ?_
          refine rd1 5 rfl fun K hK => ?_
          go_simp
          refine (HCu.out _).mono ?_
          rintro e w6 ⟨he,hb⟩
          unfold FracWIs at he
          rw [HXu.out] at he
          subst he
          have Ha:=Lib.hid (H9.out.on hb)
          clear hb
          refine hK.out _ _ ⟨_,Ha.out⟩ (fun hHeld => ?_)
          clear hK
          refine rd1 9 rfl fun K hK => ?_
          go_simp
          refine (HCv.out _).mono ?_
          rintro e w7 ⟨he,hb⟩
          unfold FracWIs at he
          rw [HXv.out] at he
          subst he
          have Hb:=Lib.hid (Ha.out.on hb)
          clear hb
          refine hK.out _ _ ⟨_,Hb.out⟩ (fun hHeld => ?_)
          clear hK
          refine tk 10 (.pointer (some ⟨B,0,none⟩)) rfl hHeld (fun s hs=>by obtain ⟨_,_,_,_,_,_,d0,d1,e0,e1⟩:=rc5 hs;go_simp) ?_
          refine tk 11 (.pointer (some ⟨B,11,none⟩)) rfl hHeld (fun s hs=>by obtain ⟨_,_,_,_,_,_,d0,d1,e0,e1⟩:=rc5 hs;go_simp) ?_
          refine tk 12 (.pointer (some ⟨B,13,none⟩)) rfl hHeld (fun s hs=>by obtain ⟨_,_,_,_,_,_,d0,d1,e0,e1⟩:=rc5 hs;go_simp) ?_
          have f13:=Hb.out.free 13
          have c13:=Hb.out.cell 13 (.int .i64 0) rfl
          have f14:=Hb.out.free 14
          have c14:=Hb.out.cell 14 (.int .i64 0) rfl
          refine rd1 13 rfl fun K hK => ?_
          go_simp
          have Hc:=Lib.hid (Hb.out.set 13 (.int .i64 qu.1))
          have Hd:=Lib.hid (Hc.out.set 14 (.int .i64 qu.2))
          clear f13 c13 f14 c14
          refine hK.out _ _ ⟨_,Hd.out⟩ (fun hHeld => ?_)
          clear hK
          refine tk 14 (.pointer (some ⟨B,0,none⟩)) rfl hHeld (fun s hs=>by obtain ⟨_,_,_,_,_,_,d0,d1,e0,e1⟩:=rc5 hs;go_simp) ?_
          refine tk 15 (.pointer (some ⟨B,11,none⟩)) rfl hHeld (fun s hs=>by obtain ⟨_,_,_,_,_,_,d0,d1,e0,e1⟩:=rc5 hs;go_simp) ?_
          refine tk 16 (.pointer (some ⟨B,15,none⟩)) rfl hHeld (fun s hs=>by obtain ⟨_,_,_,_,_,_,d0,d1,e0,e1⟩:=rc5 hs;go_simp) ?_
          have f15:=Hd.out.free 15
          have c15:=Hd.out.cell 15 (.int .i64 0) rfl
          have f16:=Hd.out.free 16
          have c16:=Hd.out.cell 16 (.int .i64 0) rfl
          refine rd1 17 rfl fun K hK => ?_
          go_simp
          have He:=Lib.hid (Hd.out.set 15 (.int .i64 qv.1))
          have Hf:=Lib.hid (He.out.set 16 (.int .i64 qv.2))
          clear f15 c15 f16 c16
          refine hK.out _ _ ⟨_,Hf.out⟩ (fun hHeld => ?_)
          clear hK
          refine wpAnyH_done (by kernel_rfl) ?_ _
          clear hHeld
          go_simp
          go_end0
          exact Hf.out.good _ rfl (by simp only [sp.boxName,if_neg HZ.out];rfl)
theorem wText_len {p:List UInt8×Bool} {t:List UInt8} (h:sp.wText p=some t):t.length=p.1.length:=by
 unfold sp.wText at h
 split at h
 ·cases h;rfl
 ·cases h
set_option maxRecDepth 100000 in
set_option maxHeartbeats 4000000 in
theorem row_named (k:Int) (w0 w:World) (B g c:Nat) (x y:List UInt8×Bool) (h:RowS w0 B g [x,y] (zeroC k) w):Calls Tryz.prog 51 #[.pointer (some ⟨B,0,none⟩),.slice (some ⟨g,2,none⟩) 2 c] w fun e w'=>RowIs w0 B ((sp.wNum x).bind fun n=>(sp.wPlain y).bind fun s=>some { kind:=k,node:=n,name:=s }) e w':=by
 have HCx:=Lib.hid (fun W=>wnum_any x W)
 have HCy:=Lib.hid (fun W=>wplain_any y W)
 have H0:=Lib.hid (h.on (Below.refl _ _).drew)
 clear h
 cases hx:sp.wNum x with
 | none =>
  have HXx:=Lib.hid hx
  clear hx
  go_enter Tryz.func51,Tryz.ntmps51
  go_wp2
  refine wp_region_held_drew (S:=fun s=>∃cs,RowS w0 B g [x,y] cs s) (by kernel_rfl) ⟨_,H0.out⟩ (fun hHeld => ?_)
  refine tk 0 (.pointer (some ⟨B,0,none⟩)) rfl hHeld (fun s hs=>by obtain ⟨a0,a1,b0,b1⟩:=rc2 hs;go_simp) ?_
  refine tk 1 (.pointer (some ⟨B,0,none⟩)) rfl hHeld (fun s hs=>by obtain ⟨a0,a1,b0,b1⟩:=rc2 hs;go_simp) ?_
  refine tk 2 (.slice (some ⟨g,2,none⟩) 2 c) rfl hHeld (fun s hs=>by obtain ⟨a0,a1,b0,b1⟩:=rc2 hs;go_simp) ?_
  refine tk 3 (.pointer (some ⟨g,2,none⟩)) rfl hHeld (fun s hs=>by obtain ⟨a0,a1,b0,b1⟩:=rc2 hs;go_simp) ?_
  refine tk 4 (.agg #[.string (bstr x.1),.bool x.2]) rfl hHeld (fun s hs=>by obtain ⟨a0,a1,b0,b1⟩:=rc2 hs;go_simp) ?_
  refine tk 6 (.slice (some ⟨g,2,none⟩) 2 c) rfl hHeld (fun s hs=>by obtain ⟨a0,a1,b0,b1⟩:=rc2 hs;go_simp) ?_
  refine tk 7 (.pointer (some ⟨g,4,none⟩)) rfl hHeld (fun s hs=>by obtain ⟨a0,a1,b0,b1⟩:=rc2 hs;go_simp) ?_
  refine tk 8 (.agg #[.string (bstr y.1),.bool y.2]) rfl hHeld (fun s hs=>by obtain ⟨a0,a1,b0,b1⟩:=rc2 hs;go_simp) ?_
  refine rd1 5 rfl fun K hK => ?_
  go_simp
  refine (HCx.out _).mono ?_
  rintro e w1 ⟨he,hb1⟩
  unfold NumIs at he
  rw [HXx.out] at he
  subst he
  have H1:=Lib.hid (H0.out.on hb1)
  clear hb1
  exact ⟨rfl,H1.out.bad⟩
 | some nx =>
  have HXx:=Lib.hid hx
  clear hx
  cases hy:sp.wPlain y with
  | none =>
   have HXy:=Lib.hid hy
   clear hy
   go_enter Tryz.func51,Tryz.ntmps51
   go_wp2
   refine wp_region_held_drew (S:=fun s=>∃cs,RowS w0 B g [x,y] cs s) (by kernel_rfl) ⟨_,H0.out⟩ (fun hHeld => ?_)
   refine tk 0 (.pointer (some ⟨B,0,none⟩)) rfl hHeld (fun s hs=>by obtain ⟨a0,a1,b0,b1⟩:=rc2 hs;go_simp) ?_
   refine tk 1 (.pointer (some ⟨B,0,none⟩)) rfl hHeld (fun s hs=>by obtain ⟨a0,a1,b0,b1⟩:=rc2 hs;go_simp) ?_
   refine tk 2 (.slice (some ⟨g,2,none⟩) 2 c) rfl hHeld (fun s hs=>by obtain ⟨a0,a1,b0,b1⟩:=rc2 hs;go_simp) ?_
   refine tk 3 (.pointer (some ⟨g,2,none⟩)) rfl hHeld (fun s hs=>by obtain ⟨a0,a1,b0,b1⟩:=rc2 hs;go_simp) ?_
   refine tk 4 (.agg #[.string (bstr x.1),.bool x.2]) rfl hHeld (fun s hs=>by obtain ⟨a0,a1,b0,b1⟩:=rc2 hs;go_simp) ?_
   refine tk 6 (.slice (some ⟨g,2,none⟩) 2 c) rfl hHeld (fun s hs=>by obtain ⟨a0,a1,b0,b1⟩:=rc2 hs;go_simp) ?_
   refine tk 7 (.pointer (some ⟨g,4,none⟩)) rfl hHeld (fun s hs=>by obtain ⟨a0,a1,b0,b1⟩:=rc2 hs;go_simp) ?_
   refine tk 8 (.agg #[.string (bstr y.1),.bool y.2]) rfl hHeld (fun s hs=>by obtain ⟨a0,a1,b0,b1⟩:=rc2 hs;go_simp) ?_
   refine rd1 5 rfl fun K hK => ?_
   go_simp
   refine (HCx.out _).mono ?_
   rintro e w1 ⟨he,hb1⟩
   unfold NumIs at he
   rw [HXx.out] at he
   subst he
   have H1:=Lib.hid (H0.out.on hb1)
   clear hb1
   refine hK.out _ _ ⟨_,H1.out⟩ (fun hHeld => ?_)
   clear hK
   refine rd1 9 rfl fun K hK => ?_
   go_simp
   refine (HCy.out _).mono ?_
   rintro e w2 ⟨he,hb2⟩
   unfold PlainIs at he
   rw [HXy.out] at he
   subst he
   have H2:=Lib.hid (H1.out.on hb2)
   clear hb2
   exact ⟨rfl,H2.out.bad⟩
  | some ty =>
   have HXy:=Lib.hid hy
   clear hy
   go_enter Tryz.func51,Tryz.ntmps51
   go_wp2
   refine wp_region_held_drew (S:=fun s=>∃cs,RowS w0 B g [x,y] cs s) (by kernel_rfl) ⟨_,H0.out⟩ (fun hHeld => ?_)
   refine tk 0 (.pointer (some ⟨B,0,none⟩)) rfl hHeld (fun s hs=>by obtain ⟨a0,a1,b0,b1⟩:=rc2 hs;go_simp) ?_
   refine tk 1 (.pointer (some ⟨B,0,none⟩)) rfl hHeld (fun s hs=>by obtain ⟨a0,a1,b0,b1⟩:=rc2 hs;go_simp) ?_
   refine tk 2 (.slice (some ⟨g,2,none⟩) 2 c) rfl hHeld (fun s hs=>by obtain ⟨a0,a1,b0,b1⟩:=rc2 hs;go_simp) ?_
   refine tk 3 (.pointer (some ⟨g,2,none⟩)) rfl hHeld (fun s hs=>by obtain ⟨a0,a1,b0,b1⟩:=rc2 hs;go_simp) ?_
   refine tk 4 (.agg #[.string (bstr x.1),.bool x.2]) rfl hHeld (fun s hs=>by obtain ⟨a0,a1,b0,b1⟩:=rc2 hs;go_simp) ?_
   refine tk 6 (.slice (some ⟨g,2,none⟩) 2 c) rfl hHeld (fun s hs=>by obtain ⟨a0,a1,b0,b1⟩:=rc2 hs;go_simp) ?_
   refine tk 7 (.pointer (some ⟨g,4,none⟩)) rfl hHeld (fun s hs=>by obtain ⟨a0,a1,b0,b1⟩:=rc2 hs;go_simp) ?_
   refine tk 8 (.agg #[.string (bstr y.1),.bool y.2]) rfl hHeld (fun s hs=>by obtain ⟨a0,a1,b0,b1⟩:=rc2 hs;go_simp) ?_
   refine rd1 5 rfl fun K hK => ?_
   go_simp
   refine (HCx.out _).mono ?_
   rintro e w1 ⟨he,hb1⟩
   unfold NumIs at he
   rw [HXx.out] at he
   subst he
   have H1:=Lib.hid (H0.out.on hb1)
   clear hb1
   refine hK.out _ _ ⟨_,H1.out⟩ (fun hHeld => ?_)
   clear hK
   refine rd1 9 rfl fun K hK => ?_
   go_simp
   refine (HCy.out _).mono ?_
   rintro e w2 ⟨he,hb2⟩
   unfold PlainIs at he
   rw [HXy.out] at he
   subst he
   have H2:=Lib.hid (H1.out.on hb2)
   clear hb2
   refine hK.out _ _ ⟨_,H2.out⟩ (fun hHeld => ?_)
   clear hK
   refine tk 10 (.pointer (some ⟨B,0,none⟩)) rfl hHeld (fun s hs=>by obtain ⟨a0,a1,b0,b1⟩:=rc2 hs;go_simp) ?_
   refine tk 11 (.pointer (some ⟨B,1,none⟩)) rfl hHeld (fun s hs=>by obtain ⟨a0,a1,b0,b1⟩:=rc2 hs;go_simp) ?_
   refine rd1 12 rfl fun K hK => ?_
   have f1:=H2.out.free 1
   have c1:=H2.out.cell 1 (.int .i64 0) rfl
   go_simp
   have H3:=Lib.hid (H2.out.set 1 (.int .i64 nx))
   clear f1 c1
   refine hK.out _ _ ⟨_,H3.out⟩ (fun hHeld => ?_)
   clear hK
   refine tk 13 (.pointer (some ⟨B,0,none⟩)) rfl hHeld (fun s hs=>by obtain ⟨a0,a1,b0,b1⟩:=rc2 hs;go_simp) ?_
   refine tk 14 (.pointer (some ⟨B,4,none⟩)) rfl hHeld (fun s hs=>by obtain ⟨a0,a1,b0,b1⟩:=rc2 hs;go_simp) ?_
   refine rd1 15 rfl fun K hK => ?_
   have f4:=H3.out.free 4
   have c4:=H3.out.cell 4 (.string ⟨#[]⟩) rfl
   go_simp
   have H4:=Lib.hid (H3.out.set 4 (.string (bstr ty)))
   clear f4 c4
   refine hK.out _ _ ⟨_,H4.out⟩ (fun hHeld => ?_)
   clear hK
   refine wpAnyH_done (by kernel_rfl) ?_ _
   clear hHeld
   go_simp
   go_end0
   exact H4.out.good _ rfl rfl
set_option maxRecDepth 100000 in
set_option maxHeartbeats 4000000 in
theorem row_view (k:Int) (w0 w:World) (B g c:Nat) (x y:List UInt8×Bool) (hlx:x.1.length≤1099511627776) (hly:y.1.length≤1099511627776) (h:RowS w0 B g [x,y] (zeroC k) w):Calls Tryz.prog 56 #[.pointer (some ⟨B,0,none⟩),.slice (some ⟨g,2,none⟩) 2 c] w fun e w'=>RowIs w0 B ((sp.wFrac x).bind fun p=>(sp.wFrac y).bind fun q=>some { kind:=k,w:=p,h:=q }) e w':=by
 have HCx:=Lib.hid (fun W=>wfrac_any x W hlx)
 have HCy:=Lib.hid (fun W=>wfrac_any y W hly)
 have H0:=Lib.hid (h.on (Below.refl _ _).drew)
 clear h hlx hly
 cases hx:sp.wFrac x with
 | none =>
  have HXx:=Lib.hid hx
  clear hx
  go_enter Tryz.func56,Tryz.ntmps56
  go_wp2
  refine wp_region_held_drew (S:=fun s=>∃cs,RowS w0 B g [x,y] cs s) (by kernel_rfl) ⟨_,H0.out⟩ (fun hHeld => ?_)
  refine tk 0 (.pointer (some ⟨B,0,none⟩)) rfl hHeld (fun s hs=>by obtain ⟨a0,a1,b0,b1⟩:=rc2 hs;go_simp) ?_
  refine tk 1 (.pointer (some ⟨B,0,none⟩)) rfl hHeld (fun s hs=>by obtain ⟨a0,a1,b0,b1⟩:=rc2 hs;go_simp) ?_
  refine tk 2 (.slice (some ⟨g,2,none⟩) 2 c) rfl hHeld (fun s hs=>by obtain ⟨a0,a1,b0,b1⟩:=rc2 hs;go_simp) ?_
  refine tk 3 (.pointer (some ⟨g,2,none⟩)) rfl hHeld (fun s hs=>by obtain ⟨a0,a1,b0,b1⟩:=rc2 hs;go_simp) ?_
  refine tk 4 (.agg #[.string (bstr x.1),.bool x.2]) rfl hHeld (fun s hs=>by obtain ⟨a0,a1,b0,b1⟩:=rc2 hs;go_simp) ?_
  refine tk 6 (.slice (some ⟨g,2,none⟩) 2 c) rfl hHeld (fun s hs=>by obtain ⟨a0,a1,b0,b1⟩:=rc2 hs;go_simp) ?_
  refine tk 7 (.pointer (some ⟨g,4,none⟩)) rfl hHeld (fun s hs=>by obtain ⟨a0,a1,b0,b1⟩:=rc2 hs;go_simp) ?_
  refine tk 8 (.agg #[.string (bstr y.1),.bool y.2]) rfl hHeld (fun s hs=>by obtain ⟨a0,a1,b0,b1⟩:=rc2 hs;go_simp) ?_
  refine rd1 5 rfl fun K hK => ?_
  go_simp
  refine (HCx.out _).mono ?_
  rintro e w1 ⟨he,hb1⟩
  unfold FracWIs at he
  rw [HXx.out] at he
  subst he
  have H1:=Lib.hid (H0.out.on hb1)
  clear hb1
  exact ⟨rfl,H1.out.bad⟩
 | some qx =>
  have HXx:=Lib.hid hx
  clear hx
  cases hy:sp.wFrac y with
  | none =>
   have HXy:=Lib.hid hy
   clear hy
   go_enter Tryz.func56,Tryz.ntmps56
   go_wp2
   refine wp_region_held_drew (S:=fun s=>∃cs,RowS w0 B g [x,y] cs s) (by kernel_rfl) ⟨_,H0.out⟩ (fun hHeld => ?_)
   refine tk 0 (.pointer (some ⟨B,0,none⟩)) rfl hHeld (fun s hs=>by obtain ⟨a0,a1,b0,b1⟩:=rc2 hs;go_simp) ?_
   refine tk 1 (.pointer (some ⟨B,0,none⟩)) rfl hHeld (fun s hs=>by obtain ⟨a0,a1,b0,b1⟩:=rc2 hs;go_simp) ?_
   refine tk 2 (.slice (some ⟨g,2,none⟩) 2 c) rfl hHeld (fun s hs=>by obtain ⟨a0,a1,b0,b1⟩:=rc2 hs;go_simp) ?_
   refine tk 3 (.pointer (some ⟨g,2,none⟩)) rfl hHeld (fun s hs=>by obtain ⟨a0,a1,b0,b1⟩:=rc2 hs;go_simp) ?_
   refine tk 4 (.agg #[.string (bstr x.1),.bool x.2]) rfl hHeld (fun s hs=>by obtain ⟨a0,a1,b0,b1⟩:=rc2 hs;go_simp) ?_
   refine tk 6 (.slice (some ⟨g,2,none⟩) 2 c) rfl hHeld (fun s hs=>by obtain ⟨a0,a1,b0,b1⟩:=rc2 hs;go_simp) ?_
   refine tk 7 (.pointer (some ⟨g,4,none⟩)) rfl hHeld (fun s hs=>by obtain ⟨a0,a1,b0,b1⟩:=rc2 hs;go_simp) ?_
   refine tk 8 (.agg #[.string (bstr y.1),.bool y.2]) rfl hHeld (fun s hs=>by obtain ⟨a0,a1,b0,b1⟩:=rc2 hs;go_simp) ?_
   refine rd1 5 rfl fun K hK => ?_
   go_simp
   refine (HCx.out _).mono ?_
   rintro e w1 ⟨he,hb1⟩
   unfold FracWIs at he
   rw [HXx.out] at he
   subst he
   have H1:=Lib.hid (H0.out.on hb1)
   clear hb1
   refine hK.out _ _ ⟨_,H1.out⟩ (fun hHeld => ?_)
   clear hK
   refine rd1 9 rfl fun K hK => ?_
   go_simp
   refine (HCy.out _).mono ?_
   rintro e w2 ⟨he,hb2⟩
   unfold FracWIs at he
   rw [HXy.out] at he
   subst he
   have H2:=Lib.hid (H1.out.on hb2)
   clear hb2
   exact ⟨rfl,H2.out.bad⟩
  | some qy =>
   have HXy:=Lib.hid hy
   clear hy
   go_enter Tryz.func56,Tryz.ntmps56
   go_wp2
   refine wp_region_held_drew (S:=fun s=>∃cs,RowS w0 B g [x,y] cs s) (by kernel_rfl) ⟨_,H0.out⟩ (fun hHeld => ?_)
   refine tk 0 (.pointer (some ⟨B,0,none⟩)) rfl hHeld (fun s hs=>by obtain ⟨a0,a1,b0,b1⟩:=rc2 hs;go_simp) ?_
   refine tk 1 (.pointer (some ⟨B,0,none⟩)) rfl hHeld (fun s hs=>by obtain ⟨a0,a1,b0,b1⟩:=rc2 hs;go_simp) ?_
   refine tk 2 (.slice (some ⟨g,2,none⟩) 2 c) rfl hHeld (fun s hs=>by obtain ⟨a0,a1,b0,b1⟩:=rc2 hs;go_simp) ?_
   refine tk 3 (.pointer (some ⟨g,2,none⟩)) rfl hHeld (fun s hs=>by obtain ⟨a0,a1,b0,b1⟩:=rc2 hs;go_simp) ?_
   refine tk 4 (.agg #[.string (bstr x.1),.bool x.2]) rfl hHeld (fun s hs=>by obtain ⟨a0,a1,b0,b1⟩:=rc2 hs;go_simp) ?_
   refine tk 6 (.slice (some ⟨g,2,none⟩) 2 c) rfl hHeld (fun s hs=>by obtain ⟨a0,a1,b0,b1⟩:=rc2 hs;go_simp) ?_
   refine tk 7 (.pointer (some ⟨g,4,none⟩)) rfl hHeld (fun s hs=>by obtain ⟨a0,a1,b0,b1⟩:=rc2 hs;go_simp) ?_
   refine tk 8 (.agg #[.string (bstr y.1),.bool y.2]) rfl hHeld (fun s hs=>by obtain ⟨a0,a1,b0,b1⟩:=rc2 hs;go_simp) ?_
   refine rd1 5 rfl fun K hK => ?_
   go_simp
   refine (HCx.out _).mono ?_
   rintro e w1 ⟨he,hb1⟩
   unfold FracWIs at he
   rw [HXx.out] at he
   subst he
   have H1:=Lib.hid (H0.out.on hb1)
   clear hb1
   refine hK.out _ _ ⟨_,H1.out⟩ (fun hHeld => ?_)
   clear hK
   refine rd1 9 rfl fun K hK => ?_
   go_simp
   refine (HCy.out _).mono ?_
   rintro e w2 ⟨he,hb2⟩
   unfold FracWIs at he
   rw [HXy.out] at he
   subst he
   have H2:=Lib.hid (H1.out.on hb2)
   clear hb2
   refine hK.out _ _ ⟨_,H2.out⟩ (fun hHeld => ?_)
   clear hK
   refine tk 10 (.pointer (some ⟨B,0,none⟩)) rfl hHeld (fun s hs=>by obtain ⟨a0,a1,b0,b1⟩:=rc2 hs;go_simp) ?_
   refine tk 11 (.pointer (some ⟨B,7,none⟩)) rfl hHeld (fun s hs=>by obtain ⟨a0,a1,b0,b1⟩:=rc2 hs;go_simp) ?_
   refine rd1 12 rfl fun K hK => ?_
   have f7:=H2.out.free 7
   have c7:=H2.out.cell 7 (.int .i64 0) rfl
   have f8:=H2.out.free 8
   have c8:=H2.out.cell 8 (.int .i64 0) rfl
   go_simp
   have H3:=Lib.hid (H2.out.set 7 (.int .i64 qx.1))
   have H4:=Lib.hid (H3.out.set 8 (.int .i64 qx.2))
   clear f7 c7 f8 c8
   refine hK.out _ _ ⟨_,H4.out⟩ (fun hHeld => ?_)
   clear hK
   refine tk 13 (.pointer (some ⟨B,0,none⟩)) rfl hHeld (fun s hs=>by obtain ⟨a0,a1,b0,b1⟩:=rc2 hs;go_simp) ?_
   refine tk 14 (.pointer (some ⟨B,9,none⟩)) rfl hHeld (fun s hs=>by obtain ⟨a0,a1,b0,b1⟩:=rc2 hs;go_simp) ?_
   refine rd1 15 rfl fun K hK => ?_
   have f9:=H4.out.free 9
   have c9:=H4.out.cell 9 (.int .i64 0) rfl
   have f10:=H4.out.free 10
   have c10:=H4.out.cell 10 (.int .i64 0) rfl
   go_simp
   have H5:=Lib.hid (H4.out.set 9 (.int .i64 qy.1))
   have H6:=Lib.hid (H5.out.set 10 (.int .i64 qy.2))
   clear f9 c9 f10 c10
   refine hK.out _ _ ⟨_,H6.out⟩ (fun hHeld => ?_)
   clear hK
   refine wpAnyH_done (by kernel_rfl) ?_ _
   clear hHeld
   go_simp
   go_end0
   exact H6.out.good _ rfl rfl
set_option maxRecDepth 100000 in
set_option maxHeartbeats 4000000 in
theorem row_word (k:Int) (w0 w:World) (B g c:Nat) (x y:List UInt8×Bool) (h:RowS w0 B g [x,y] (zeroC k) w):Calls Tryz.prog 58 #[.pointer (some ⟨B,0,none⟩),.slice (some ⟨g,2,none⟩) 2 c] w fun e w'=>RowIs w0 B ((sp.wPlain x).bind fun s=>(sp.wPlain y).bind fun t=>some { kind:=k,name:=s,word:=t }) e w':=by
 have HCx:=Lib.hid (fun W=>wplain_any x W)
 have HCy:=Lib.hid (fun W=>wplain_any y W)
 have H0:=Lib.hid (h.on (Below.refl _ _).drew)
 clear h
 cases hx:sp.wPlain x with
 | none =>
  have HXx:=Lib.hid hx
  clear hx
  go_enter Tryz.func58,Tryz.ntmps58
  go_wp2
  refine wp_region_held_drew (S:=fun s=>∃cs,RowS w0 B g [x,y] cs s) (by kernel_rfl) ⟨_,H0.out⟩ (fun hHeld => ?_)
  refine tk 0 (.pointer (some ⟨B,0,none⟩)) rfl hHeld (fun s hs=>by obtain ⟨a0,a1,b0,b1⟩:=rc2 hs;go_simp) ?_
  refine tk 1 (.pointer (some ⟨B,0,none⟩)) rfl hHeld (fun s hs=>by obtain ⟨a0,a1,b0,b1⟩:=rc2 hs;go_simp) ?_
  refine tk 2 (.slice (some ⟨g,2,none⟩) 2 c) rfl hHeld (fun s hs=>by obtain ⟨a0,a1,b0,b1⟩:=rc2 hs;go_simp) ?_
  refine tk 3 (.pointer (some ⟨g,2,none⟩)) rfl hHeld (fun s hs=>by obtain ⟨a0,a1,b0,b1⟩:=rc2 hs;go_simp) ?_
  refine tk 4 (.agg #[.string (bstr x.1),.bool x.2]) rfl hHeld (fun s hs=>by obtain ⟨a0,a1,b0,b1⟩:=rc2 hs;go_simp) ?_
  refine tk 6 (.slice (some ⟨g,2,none⟩) 2 c) rfl hHeld (fun s hs=>by obtain ⟨a0,a1,b0,b1⟩:=rc2 hs;go_simp) ?_
  refine tk 7 (.pointer (some ⟨g,4,none⟩)) rfl hHeld (fun s hs=>by obtain ⟨a0,a1,b0,b1⟩:=rc2 hs;go_simp) ?_
  refine tk 8 (.agg #[.string (bstr y.1),.bool y.2]) rfl hHeld (fun s hs=>by obtain ⟨a0,a1,b0,b1⟩:=rc2 hs;go_simp) ?_
  refine rd1 5 rfl fun K hK => ?_
  go_simp
  refine (HCx.out _).mono ?_
  rintro e w1 ⟨he,hb1⟩
  unfold PlainIs at he
  rw [HXx.out] at he
  subst he
  have H1:=Lib.hid (H0.out.on hb1)
  clear hb1
  exact ⟨rfl,H1.out.bad⟩
 | some tx =>
  have HXx:=Lib.hid hx
  clear hx
  cases hy:sp.wPlain y with
  | none =>
   have HXy:=Lib.hid hy
   clear hy
   go_enter Tryz.func58,Tryz.ntmps58
   go_wp2
   refine wp_region_held_drew (S:=fun s=>∃cs,RowS w0 B g [x,y] cs s) (by kernel_rfl) ⟨_,H0.out⟩ (fun hHeld => ?_)
   refine tk 0 (.pointer (some ⟨B,0,none⟩)) rfl hHeld (fun s hs=>by obtain ⟨a0,a1,b0,b1⟩:=rc2 hs;go_simp) ?_
   refine tk 1 (.pointer (some ⟨B,0,none⟩)) rfl hHeld (fun s hs=>by obtain ⟨a0,a1,b0,b1⟩:=rc2 hs;go_simp) ?_
   refine tk 2 (.slice (some ⟨g,2,none⟩) 2 c) rfl hHeld (fun s hs=>by obtain ⟨a0,a1,b0,b1⟩:=rc2 hs;go_simp) ?_
   refine tk 3 (.pointer (some ⟨g,2,none⟩)) rfl hHeld (fun s hs=>by obtain ⟨a0,a1,b0,b1⟩:=rc2 hs;go_simp) ?_
   refine tk 4 (.agg #[.string (bstr x.1),.bool x.2]) rfl hHeld (fun s hs=>by obtain ⟨a0,a1,b0,b1⟩:=rc2 hs;go_simp) ?_
   refine tk 6 (.slice (some ⟨g,2,none⟩) 2 c) rfl hHeld (fun s hs=>by obtain ⟨a0,a1,b0,b1⟩:=rc2 hs;go_simp) ?_
   refine tk 7 (.pointer (some ⟨g,4,none⟩)) rfl hHeld (fun s hs=>by obtain ⟨a0,a1,b0,b1⟩:=rc2 hs;go_simp) ?_
   refine tk 8 (.agg #[.string (bstr y.1),.bool y.2]) rfl hHeld (fun s hs=>by obtain ⟨a0,a1,b0,b1⟩:=rc2 hs;go_simp) ?_
   refine rd1 5 rfl fun K hK => ?_
   go_simp
   refine (HCx.out _).mono ?_
   rintro e w1 ⟨he,hb1⟩
   unfold PlainIs at he
   rw [HXx.out] at he
   subst he
   have H1:=Lib.hid (H0.out.on hb1)
   clear hb1
   refine hK.out _ _ ⟨_,H1.out⟩ (fun hHeld => ?_)
   clear hK
   refine rd1 9 rfl fun K hK => ?_
   go_simp
   refine (HCy.out _).mono ?_
   rintro e w2 ⟨he,hb2⟩
   unfold PlainIs at he
   rw [HXy.out] at he
   subst he
   have H2:=Lib.hid (H1.out.on hb2)
   clear hb2
   exact ⟨rfl,H2.out.bad⟩
  | some ty =>
   have HXy:=Lib.hid hy
   clear hy
   go_enter Tryz.func58,Tryz.ntmps58
   go_wp2
   refine wp_region_held_drew (S:=fun s=>∃cs,RowS w0 B g [x,y] cs s) (by kernel_rfl) ⟨_,H0.out⟩ (fun hHeld => ?_)
   refine tk 0 (.pointer (some ⟨B,0,none⟩)) rfl hHeld (fun s hs=>by obtain ⟨a0,a1,b0,b1⟩:=rc2 hs;go_simp) ?_
   refine tk 1 (.pointer (some ⟨B,0,none⟩)) rfl hHeld (fun s hs=>by obtain ⟨a0,a1,b0,b1⟩:=rc2 hs;go_simp) ?_
   refine tk 2 (.slice (some ⟨g,2,none⟩) 2 c) rfl hHeld (fun s hs=>by obtain ⟨a0,a1,b0,b1⟩:=rc2 hs;go_simp) ?_
   refine tk 3 (.pointer (some ⟨g,2,none⟩)) rfl hHeld (fun s hs=>by obtain ⟨a0,a1,b0,b1⟩:=rc2 hs;go_simp) ?_
   refine tk 4 (.agg #[.string (bstr x.1),.bool x.2]) rfl hHeld (fun s hs=>by obtain ⟨a0,a1,b0,b1⟩:=rc2 hs;go_simp) ?_
   refine tk 6 (.slice (some ⟨g,2,none⟩) 2 c) rfl hHeld (fun s hs=>by obtain ⟨a0,a1,b0,b1⟩:=rc2 hs;go_simp) ?_
   refine tk 7 (.pointer (some ⟨g,4,none⟩)) rfl hHeld (fun s hs=>by obtain ⟨a0,a1,b0,b1⟩:=rc2 hs;go_simp) ?_
   refine tk 8 (.agg #[.string (bstr y.1),.bool y.2]) rfl hHeld (fun s hs=>by obtain ⟨a0,a1,b0,b1⟩:=rc2 hs;go_simp) ?_
   refine rd1 5 rfl fun K hK => ?_
   go_simp
   refine (HCx.out _).mono ?_
   rintro e w1 ⟨he,hb1⟩
   unfold PlainIs at he
   rw [HXx.out] at he
   subst he
   have H1:=Lib.hid (H0.out.on hb1)
   clear hb1
   refine hK.out _ _ ⟨_,H1.out⟩ (fun hHeld => ?_)
   clear hK
   refine rd1 9 rfl fun K hK => ?_
   go_simp
   refine (HCy.out _).mono ?_
   rintro e w2 ⟨he,hb2⟩
   unfold PlainIs at he
   rw [HXy.out] at he
   subst he
   have H2:=Lib.hid (H1.out.on hb2)
   clear hb2
   refine hK.out _ _ ⟨_,H2.out⟩ (fun hHeld => ?_)
   clear hK
   refine tk 10 (.pointer (some ⟨B,0,none⟩)) rfl hHeld (fun s hs=>by obtain ⟨a0,a1,b0,b1⟩:=rc2 hs;go_simp) ?_
   refine tk 11 (.pointer (some ⟨B,4,none⟩)) rfl hHeld (fun s hs=>by obtain ⟨a0,a1,b0,b1⟩:=rc2 hs;go_simp) ?_
   refine rd1 12 rfl fun K hK => ?_
   have f4:=H2.out.free 4
   have c4:=H2.out.cell 4 (.string ⟨#[]⟩) rfl
   go_simp
   have H3:=Lib.hid (H2.out.set 4 (.string (bstr tx)))
   clear f4 c4
   refine hK.out _ _ ⟨_,H3.out⟩ (fun hHeld => ?_)
   clear hK
   refine tk 13 (.pointer (some ⟨B,0,none⟩)) rfl hHeld (fun s hs=>by obtain ⟨a0,a1,b0,b1⟩:=rc2 hs;go_simp) ?_
   refine tk 14 (.pointer (some ⟨B,5,none⟩)) rfl hHeld (fun s hs=>by obtain ⟨a0,a1,b0,b1⟩:=rc2 hs;go_simp) ?_
   refine rd1 15 rfl fun K hK => ?_
   have f5:=H3.out.free 5
   have c5:=H3.out.cell 5 (.string ⟨#[]⟩) rfl
   go_simp
   have H4:=Lib.hid (H3.out.set 5 (.string (bstr ty)))
   clear f5 c5
   refine hK.out _ _ ⟨_,H4.out⟩ (fun hHeld => ?_)
   clear hK
   refine wpAnyH_done (by kernel_rfl) ?_ _
   clear hHeld
   go_simp
   go_end0
   exact H4.out.good _ rfl rfl
set_option maxRecDepth 100000 in
set_option maxHeartbeats 4000000 in
theorem row_insert (k:Int) (w0 w:World) (B g c:Nat) (x y z:List UInt8×Bool) (h:RowS w0 B g [x,y,z] (zeroC k) w):Calls Tryz.prog 59 #[.pointer (some ⟨B,0,none⟩),.slice (some ⟨g,2,none⟩) 3 c] w fun e w'=>RowIs w0 B ((sp.wNum x).bind fun n=>(sp.wNum y).bind fun i=>(sp.wPlain z).bind fun s=>some { kind:=k,node:=n,at_:=i,name:=s }) e w':=by
 have HCx:=Lib.hid (fun W=>wnum_any x W)
 have HCy:=Lib.hid (fun W=>wnum_any y W)
 have HCz:=Lib.hid (fun W=>wplain_any z W)
 have H0:=Lib.hid (h.on (Below.refl _ _).drew)
 clear h
 cases hx:sp.wNum x with
 | none =>
  have HXx:=Lib.hid hx
  clear hx
  go_enter Tryz.func59,Tryz.ntmps59
  go_wp2
  refine wp_region_held_drew (S:=fun s=>∃cs,RowS w0 B g [x,y,z] cs s) (by kernel_rfl) ⟨_,H0.out⟩ (fun hHeld => ?_)
  refine tk 0 (.pointer (some ⟨B,0,none⟩)) rfl hHeld (fun s hs=>by obtain ⟨a0,a1,b0,b1,c0,c1⟩:=rc3 hs;go_simp) ?_
  refine tk 1 (.pointer (some ⟨B,0,none⟩)) rfl hHeld (fun s hs=>by obtain ⟨a0,a1,b0,b1,c0,c1⟩:=rc3 hs;go_simp) ?_
  refine tk 2 (.pointer (some ⟨B,0,none⟩)) rfl hHeld (fun s hs=>by obtain ⟨a0,a1,b0,b1,c0,c1⟩:=rc3 hs;go_simp) ?_
  refine tk 3 (.slice (some ⟨g,2,none⟩) 3 c) rfl hHeld (fun s hs=>by obtain ⟨a0,a1,b0,b1,c0,c1⟩:=rc3 hs;go_simp) ?_
  refine tk 4 (.pointer (some ⟨g,2,none⟩)) rfl hHeld (fun s hs=>by obtain ⟨a0,a1,b0,b1,c0,c1⟩:=rc3 hs;go_simp) ?_
  refine tk 5 (.agg #[.string (bstr x.1),.bool x.2]) rfl hHeld (fun s hs=>by obtain ⟨a0,a1,b0,b1,c0,c1⟩:=rc3 hs;go_simp) ?_
  refine tk 7 (.slice (some ⟨g,2,none⟩) 3 c) rfl hHeld (fun s hs=>by obtain ⟨a0,a1,b0,b1,c0,c1⟩:=rc3 hs;go_simp) ?_
  refine tk 8 (.pointer (some ⟨g,4,none⟩)) rfl hHeld (fun s hs=>by obtain ⟨a0,a1,b0,b1,c0,c1⟩:=rc3 hs;go_simp) ?_
  refine tk 9 (.agg #[.string (bstr y.1),.bool y.2]) rfl hHeld (fun s hs=>by obtain ⟨a0,a1,b0,b1,c0,c1⟩:=rc3 hs;go_simp) ?_
  refine tk 11 (.slice (some ⟨g,2,none⟩) 3 c) rfl hHeld (fun s hs=>by obtain ⟨a0,a1,b0,b1,c0,c1⟩:=rc3 hs;go_simp) ?_
  refine tk 12 (.pointer (some ⟨g,6,none⟩)) rfl hHeld (fun s hs=>by obtain ⟨a0,a1,b0,b1,c0,c1⟩:=rc3 hs;go_simp) ?_
  refine tk 13 (.agg #[.string (bstr z.1),.bool z.2]) rfl hHeld (fun s hs=>by obtain ⟨a0,a1,b0,b1,c0,c1⟩:=rc3 hs;go_simp) ?_
  refine rd1 6 rfl fun K hK => ?_
  go_simp
  refine (HCx.out _).mono ?_
  rintro e w1 ⟨he,hb1⟩
  unfold NumIs at he
  rw [HXx.out] at he
  subst he
  have H1:=Lib.hid (H0.out.on hb1)
  clear hb1
  exact ⟨rfl,H1.out.bad⟩
 | some nx =>
  have HXx:=Lib.hid hx
  clear hx
  cases hy:sp.wNum y with
  | none =>
   have HXy:=Lib.hid hy
   clear hy
   go_enter Tryz.func59,Tryz.ntmps59
   go_wp2
   refine wp_region_held_drew (S:=fun s=>∃cs,RowS w0 B g [x,y,z] cs s) (by kernel_rfl) ⟨_,H0.out⟩ (fun hHeld => ?_)
   refine tk 0 (.pointer (some ⟨B,0,none⟩)) rfl hHeld (fun s hs=>by obtain ⟨a0,a1,b0,b1,c0,c1⟩:=rc3 hs;go_simp) ?_
   refine tk 1 (.pointer (some ⟨B,0,none⟩)) rfl hHeld (fun s hs=>by obtain ⟨a0,a1,b0,b1,c0,c1⟩:=rc3 hs;go_simp) ?_
   refine tk 2 (.pointer (some ⟨B,0,none⟩)) rfl hHeld (fun s hs=>by obtain ⟨a0,a1,b0,b1,c0,c1⟩:=rc3 hs;go_simp) ?_
   refine tk 3 (.slice (some ⟨g,2,none⟩) 3 c) rfl hHeld (fun s hs=>by obtain ⟨a0,a1,b0,b1,c0,c1⟩:=rc3 hs;go_simp) ?_
   refine tk 4 (.pointer (some ⟨g,2,none⟩)) rfl hHeld (fun s hs=>by obtain ⟨a0,a1,b0,b1,c0,c1⟩:=rc3 hs;go_simp) ?_
   refine tk 5 (.agg #[.string (bstr x.1),.bool x.2]) rfl hHeld (fun s hs=>by obtain ⟨a0,a1,b0,b1,c0,c1⟩:=rc3 hs;go_simp) ?_
   refine tk 7 (.slice (some ⟨g,2,none⟩) 3 c) rfl hHeld (fun s hs=>by obtain ⟨a0,a1,b0,b1,c0,c1⟩:=rc3 hs;go_simp) ?_
   refine tk 8 (.pointer (some ⟨g,4,none⟩)) rfl hHeld (fun s hs=>by obtain ⟨a0,a1,b0,b1,c0,c1⟩:=rc3 hs;go_simp) ?_
   refine tk 9 (.agg #[.string (bstr y.1),.bool y.2]) rfl hHeld (fun s hs=>by obtain ⟨a0,a1,b0,b1,c0,c1⟩:=rc3 hs;go_simp) ?_
   refine tk 11 (.slice (some ⟨g,2,none⟩) 3 c) rfl hHeld (fun s hs=>by obtain ⟨a0,a1,b0,b1,c0,c1⟩:=rc3 hs;go_simp) ?_
   refine tk 12 (.pointer (some ⟨g,6,none⟩)) rfl hHeld (fun s hs=>by obtain ⟨a0,a1,b0,b1,c0,c1⟩:=rc3 hs;go_simp) ?_
   refine tk 13 (.agg #[.string (bstr z.1),.bool z.2]) rfl hHeld (fun s hs=>by obtain ⟨a0,a1,b0,b1,c0,c1⟩:=rc3 hs;go_simp) ?_
   refine rd1 6 rfl fun K hK => ?_
   go_simp
   refine (HCx.out _).mono ?_
   rintro e w1 ⟨he,hb1⟩
   unfold NumIs at he
   rw [HXx.out] at he
   subst he
   have H1:=Lib.hid (H0.out.on hb1)
   clear hb1
   refine hK.out _ _ ⟨_,H1.out⟩ (fun hHeld => ?_)
   clear hK
   refine rd1 10 rfl fun K hK => ?_
   go_simp
   refine (HCy.out _).mono ?_
   rintro e w2 ⟨he,hb2⟩
   unfold NumIs at he
   rw [HXy.out] at he
   subst he
   have H2:=Lib.hid (H1.out.on hb2)
   clear hb2
   exact ⟨rfl,H2.out.bad⟩
  | some ny =>
   have HXy:=Lib.hid hy
   clear hy
   cases hz:sp.wPlain z with
   | none =>
    have HXz:=Lib.hid hz
    clear hz
    go_enter Tryz.func59,Tryz.ntmps59
    go_wp2
    refine wp_region_held_drew (S:=fun s=>∃cs,RowS w0 B g [x,y,z] cs s) (by kernel_rfl) ⟨_,H0.out⟩ (fun hHeld => ?_)
    refine tk 0 (.pointer (some ⟨B,0,none⟩)) rfl hHeld (fun s hs=>by obtain ⟨a0,a1,b0,b1,c0,c1⟩:=rc3 hs;go_simp) ?_
    refine tk 1 (.pointer (some ⟨B,0,none⟩)) rfl hHeld (fun s hs=>by obtain ⟨a0,a1,b0,b1,c0,c1⟩:=rc3 hs;go_simp) ?_
    refine tk 2 (.pointer (some ⟨B,0,none⟩)) rfl hHeld (fun s hs=>by obtain ⟨a0,a1,b0,b1,c0,c1⟩:=rc3 hs;go_simp) ?_
    refine tk 3 (.slice (some ⟨g,2,none⟩) 3 c) rfl hHeld (fun s hs=>by obtain ⟨a0,a1,b0,b1,c0,c1⟩:=rc3 hs;go_simp) ?_
    refine tk 4 (.pointer (some ⟨g,2,none⟩)) rfl hHeld (fun s hs=>by obtain ⟨a0,a1,b0,b1,c0,c1⟩:=rc3 hs;go_simp) ?_
    refine tk 5 (.agg #[.string (bstr x.1),.bool x.2]) rfl hHeld (fun s hs=>by obtain ⟨a0,a1,b0,b1,c0,c1⟩:=rc3 hs;go_simp) ?_
    refine tk 7 (.slice (some ⟨g,2,none⟩) 3 c) rfl hHeld (fun s hs=>by obtain ⟨a0,a1,b0,b1,c0,c1⟩:=rc3 hs;go_simp) ?_
    refine tk 8 (.pointer (some ⟨g,4,none⟩)) rfl hHeld (fun s hs=>by obtain ⟨a0,a1,b0,b1,c0,c1⟩:=rc3 hs;go_simp) ?_
    refine tk 9 (.agg #[.string (bstr y.1),.bool y.2]) rfl hHeld (fun s hs=>by obtain ⟨a0,a1,b0,b1,c0,c1⟩:=rc3 hs;go_simp) ?_
    refine tk 11 (.slice (some ⟨g,2,none⟩) 3 c) rfl hHeld (fun s hs=>by obtain ⟨a0,a1,b0,b1,c0,c1⟩:=rc3 hs;go_simp) ?_
    refine tk 12 (.pointer (some ⟨g,6,none⟩)) rfl hHeld (fun s hs=>by obtain ⟨a0,a1,b0,b1,c0,c1⟩:=rc3 hs;go_simp) ?_
    refine tk 13 (.agg #[.string (bstr z.1),.bool z.2]) rfl hHeld (fun s hs=>by obtain ⟨a0,a1,b0,b1,c0,c1⟩:=rc3 hs;go_simp) ?_
    refine rd1 6 rfl fun K hK => ?_
    go_simp
    refine (HCx.out _).mono ?_
    rintro e w1 ⟨he,hb1⟩
    unfold NumIs at he
    rw [HXx.out] at he
    subst he
    have H1:=Lib.hid (H0.out.on hb1)
    clear hb1
    refine hK.out _ _ ⟨_,H1.out⟩ (fun hHeld => ?_)
    clear hK
    refine rd1 10 rfl fun K hK => ?_
    go_simp
    refine (HCy.out _).mono ?_
    rintro e w2 ⟨he,hb2⟩
    unfold NumIs at he
    rw [HXy.out] at he
    subst he
    have H2:=Lib.hid (H1.out.on hb2)
    clear hb2
    refine hK.out _ _ ⟨_,H2.out⟩ (fun hHeld => ?_)
    clear hK
    refine rd1 14 rfl fun K hK => ?_
    go_simp
    refine (HCz.out _).mono ?_
    rintro e w3 ⟨he,hb3⟩
    unfold PlainIs at he
    rw [HXz.out] at he
    subst he
    have H3:=Lib.hid (H2.out.on hb3)
    clear hb3
    exact ⟨rfl,H3.out.bad⟩
   | some tz =>
    have HXz:=Lib.hid hz
    clear hz
    go_enter Tryz.func59,Tryz.ntmps59
    go_wp2
    refine wp_region_held_drew (S:=fun s=>∃cs,RowS w0 B g [x,y,z] cs s) (by kernel_rfl) ⟨_,H0.out⟩ (fun hHeld => ?_)
    refine tk 0 (.pointer (some ⟨B,0,none⟩)) rfl hHeld (fun s hs=>by obtain ⟨a0,a1,b0,b1,c0,c1⟩:=rc3 hs;go_simp) ?_
    refine tk 1 (.pointer (some ⟨B,0,none⟩)) rfl hHeld (fun s hs=>by obtain ⟨a0,a1,b0,b1,c0,c1⟩:=rc3 hs;go_simp) ?_
    refine tk 2 (.pointer (some ⟨B,0,none⟩)) rfl hHeld (fun s hs=>by obtain ⟨a0,a1,b0,b1,c0,c1⟩:=rc3 hs;go_simp) ?_
    refine tk 3 (.slice (some ⟨g,2,none⟩) 3 c) rfl hHeld (fun s hs=>by obtain ⟨a0,a1,b0,b1,c0,c1⟩:=rc3 hs;go_simp) ?_
    refine tk 4 (.pointer (some ⟨g,2,none⟩)) rfl hHeld (fun s hs=>by obtain ⟨a0,a1,b0,b1,c0,c1⟩:=rc3 hs;go_simp) ?_
    refine tk 5 (.agg #[.string (bstr x.1),.bool x.2]) rfl hHeld (fun s hs=>by obtain ⟨a0,a1,b0,b1,c0,c1⟩:=rc3 hs;go_simp) ?_
    refine tk 7 (.slice (some ⟨g,2,none⟩) 3 c) rfl hHeld (fun s hs=>by obtain ⟨a0,a1,b0,b1,c0,c1⟩:=rc3 hs;go_simp) ?_
    refine tk 8 (.pointer (some ⟨g,4,none⟩)) rfl hHeld (fun s hs=>by obtain ⟨a0,a1,b0,b1,c0,c1⟩:=rc3 hs;go_simp) ?_
    refine tk 9 (.agg #[.string (bstr y.1),.bool y.2]) rfl hHeld (fun s hs=>by obtain ⟨a0,a1,b0,b1,c0,c1⟩:=rc3 hs;go_simp) ?_
    refine tk 11 (.slice (some ⟨g,2,none⟩) 3 c) rfl hHeld (fun s hs=>by obtain ⟨a0,a1,b0,b1,c0,c1⟩:=rc3 hs;go_simp) ?_
    refine tk 12 (.pointer (some ⟨g,6,none⟩)) rfl hHeld (fun s hs=>by obtain ⟨a0,a1,b0,b1,c0,c1⟩:=rc3 hs;go_simp) ?_
    refine tk 13 (.agg #[.string (bstr z.1),.bool z.2]) rfl hHeld (fun s hs=>by obtain ⟨a0,a1,b0,b1,c0,c1⟩:=rc3 hs;go_simp) ?_
    refine rd1 6 rfl fun K hK => ?_
    go_simp
    refine (HCx.out _).mono ?_
    rintro e w1 ⟨he,hb1⟩
    unfold NumIs at he
    rw [HXx.out] at he
    subst he
    have H1:=Lib.hid (H0.out.on hb1)
    clear hb1
    refine hK.out _ _ ⟨_,H1.out⟩ (fun hHeld => ?_)
    clear hK
    refine rd1 10 rfl fun K hK => ?_
    go_simp
    refine (HCy.out _).mono ?_
    rintro e w2 ⟨he,hb2⟩
    unfold NumIs at he
    rw [HXy.out] at he
    subst he
    have H2:=Lib.hid (H1.out.on hb2)
    clear hb2
    refine hK.out _ _ ⟨_,H2.out⟩ (fun hHeld => ?_)
    clear hK
    refine rd1 14 rfl fun K hK => ?_
    go_simp
    refine (HCz.out _).mono ?_
    rintro e w3 ⟨he,hb3⟩
    unfold PlainIs at he
    rw [HXz.out] at he
    subst he
    have H3:=Lib.hid (H2.out.on hb3)
    clear hb3
    refine hK.out _ _ ⟨_,H3.out⟩ (fun hHeld => ?_)
    clear hK
    refine tk 15 (.pointer (some ⟨B,0,none⟩)) rfl hHeld (fun s hs=>by obtain ⟨a0,a1,b0,b1,c0,c1⟩:=rc3 hs;go_simp) ?_
    refine tk 16 (.pointer (some ⟨B,1,none⟩)) rfl hHeld (fun s hs=>by obtain ⟨a0,a1,b0,b1,c0,c1⟩:=rc3 hs;go_simp) ?_
    refine rd1 17 rfl fun K hK => ?_
    have f1:=H3.out.free 1
    have c1:=H3.out.cell 1 (.int .i64 0) rfl
    go_simp
    have H4:=Lib.hid (H3.out.set 1 (.int .i64 nx))
    clear f1 c1
    refine hK.out _ _ ⟨_,H4.out⟩ (fun hHeld => ?_)
    clear hK
    refine tk 18 (.pointer (some ⟨B,0,none⟩)) rfl hHeld (fun s hs=>by obtain ⟨a0,a1,b0,b1,c0,c1⟩:=rc3 hs;go_simp) ?_
    refine tk 19 (.pointer (some ⟨B,2,none⟩)) rfl hHeld (fun s hs=>by obtain ⟨a0,a1,b0,b1,c0,c1⟩:=rc3 hs;go_simp) ?_
    refine rd1 20 rfl fun K hK => ?_
    have f2:=H4.out.free 2
    have c2:=H4.out.cell 2 (.int .i64 0) rfl
    go_simp
    have H5:=Lib.hid (H4.out.set 2 (.int .i64 ny))
    clear f2 c2
    refine hK.out _ _ ⟨_,H5.out⟩ (fun hHeld => ?_)
    clear hK
    refine tk 21 (.pointer (some ⟨B,0,none⟩)) rfl hHeld (fun s hs=>by obtain ⟨a0,a1,b0,b1,c0,c1⟩:=rc3 hs;go_simp) ?_
    refine tk 22 (.pointer (some ⟨B,4,none⟩)) rfl hHeld (fun s hs=>by obtain ⟨a0,a1,b0,b1,c0,c1⟩:=rc3 hs;go_simp) ?_
    refine rd1 23 rfl fun K hK => ?_
    have f4:=H5.out.free 4
    have c4:=H5.out.cell 4 (.string ⟨#[]⟩) rfl
    go_simp
    have H6:=Lib.hid (H5.out.set 4 (.string (bstr tz)))
    clear f4 c4
    refine hK.out _ _ ⟨_,H6.out⟩ (fun hHeld => ?_)
    clear hK
    refine wpAnyH_done (by kernel_rfl) ?_ _
    clear hHeld
    go_simp
    go_end0
    exact H6.out.good _ rfl rfl
set_option maxRecDepth 100000 in
set_option maxHeartbeats 4000000 in
theorem row_set (k:Int) (w0 w:World) (B g c:Nat) (x y z:List UInt8×Bool) (h:RowS w0 B g [x,y,z] (zeroC k) w):Calls Tryz.prog 60 #[.pointer (some ⟨B,0,none⟩),.slice (some ⟨g,2,none⟩) 3 c] w fun e w'=>RowIs w0 B ((sp.wNum x).bind fun n=>(sp.wPlain y).bind fun s=>(sp.wText z).bind fun t=>some { kind:=k,node:=n,name:=s,word:=t }) e w':=by
 have HCx:=Lib.hid (fun W=>wnum_any x W)
 have HCy:=Lib.hid (fun W=>wplain_any y W)
 have HCz:=Lib.hid (fun W=>wtext_any z W)
 have H0:=Lib.hid (h.on (Below.refl _ _).drew)
 clear h
 cases hx:sp.wNum x with
 | none =>
  have HXx:=Lib.hid hx
  clear hx
  go_enter Tryz.func60,Tryz.ntmps60
  go_wp2
  refine wp_region_held_drew (S:=fun s=>∃cs,RowS w0 B g [x,y,z] cs s) (by kernel_rfl) ⟨_,H0.out⟩ (fun hHeld => ?_)
  refine tk 0 (.pointer (some ⟨B,0,none⟩)) rfl hHeld (fun s hs=>by obtain ⟨a0,a1,b0,b1,c0,c1⟩:=rc3 hs;go_simp) ?_
  refine tk 1 (.pointer (some ⟨B,0,none⟩)) rfl hHeld (fun s hs=>by obtain ⟨a0,a1,b0,b1,c0,c1⟩:=rc3 hs;go_simp) ?_
  refine tk 2 (.pointer (some ⟨B,0,none⟩)) rfl hHeld (fun s hs=>by obtain ⟨a0,a1,b0,b1,c0,c1⟩:=rc3 hs;go_simp) ?_
  refine tk 3 (.slice (some ⟨g,2,none⟩) 3 c) rfl hHeld (fun s hs=>by obtain ⟨a0,a1,b0,b1,c0,c1⟩:=rc3 hs;go_simp) ?_
  refine tk 4 (.pointer (some ⟨g,2,none⟩)) rfl hHeld (fun s hs=>by obtain ⟨a0,a1,b0,b1,c0,c1⟩:=rc3 hs;go_simp) ?_
  refine tk 5 (.agg #[.string (bstr x.1),.bool x.2]) rfl hHeld (fun s hs=>by obtain ⟨a0,a1,b0,b1,c0,c1⟩:=rc3 hs;go_simp) ?_
  refine tk 7 (.slice (some ⟨g,2,none⟩) 3 c) rfl hHeld (fun s hs=>by obtain ⟨a0,a1,b0,b1,c0,c1⟩:=rc3 hs;go_simp) ?_
  refine tk 8 (.pointer (some ⟨g,4,none⟩)) rfl hHeld (fun s hs=>by obtain ⟨a0,a1,b0,b1,c0,c1⟩:=rc3 hs;go_simp) ?_
  refine tk 9 (.agg #[.string (bstr y.1),.bool y.2]) rfl hHeld (fun s hs=>by obtain ⟨a0,a1,b0,b1,c0,c1⟩:=rc3 hs;go_simp) ?_
  refine tk 11 (.slice (some ⟨g,2,none⟩) 3 c) rfl hHeld (fun s hs=>by obtain ⟨a0,a1,b0,b1,c0,c1⟩:=rc3 hs;go_simp) ?_
  refine tk 12 (.pointer (some ⟨g,6,none⟩)) rfl hHeld (fun s hs=>by obtain ⟨a0,a1,b0,b1,c0,c1⟩:=rc3 hs;go_simp) ?_
  refine tk 13 (.agg #[.string (bstr z.1),.bool z.2]) rfl hHeld (fun s hs=>by obtain ⟨a0,a1,b0,b1,c0,c1⟩:=rc3 hs;go_simp) ?_
  refine rd1 6 rfl fun K hK => ?_
  go_simp
  refine (HCx.out _).mono ?_
  rintro e w1 ⟨he,hb1⟩
  unfold NumIs at he
  rw [HXx.out] at he
  subst he
  have H1:=Lib.hid (H0.out.on hb1)
  clear hb1
  exact ⟨rfl,H1.out.bad⟩
 | some nx =>
  have HXx:=Lib.hid hx
  clear hx
  cases hy:sp.wPlain y with
  | none =>
   have HXy:=Lib.hid hy
   clear hy
   go_enter Tryz.func60,Tryz.ntmps60
   go_wp2
   refine wp_region_held_drew (S:=fun s=>∃cs,RowS w0 B g [x,y,z] cs s) (by kernel_rfl) ⟨_,H0.out⟩ (fun hHeld => ?_)
   refine tk 0 (.pointer (some ⟨B,0,none⟩)) rfl hHeld (fun s hs=>by obtain ⟨a0,a1,b0,b1,c0,c1⟩:=rc3 hs;go_simp) ?_
   refine tk 1 (.pointer (some ⟨B,0,none⟩)) rfl hHeld (fun s hs=>by obtain ⟨a0,a1,b0,b1,c0,c1⟩:=rc3 hs;go_simp) ?_
   refine tk 2 (.pointer (some ⟨B,0,none⟩)) rfl hHeld (fun s hs=>by obtain ⟨a0,a1,b0,b1,c0,c1⟩:=rc3 hs;go_simp) ?_
   refine tk 3 (.slice (some ⟨g,2,none⟩) 3 c) rfl hHeld (fun s hs=>by obtain ⟨a0,a1,b0,b1,c0,c1⟩:=rc3 hs;go_simp) ?_
   refine tk 4 (.pointer (some ⟨g,2,none⟩)) rfl hHeld (fun s hs=>by obtain ⟨a0,a1,b0,b1,c0,c1⟩:=rc3 hs;go_simp) ?_
   refine tk 5 (.agg #[.string (bstr x.1),.bool x.2]) rfl hHeld (fun s hs=>by obtain ⟨a0,a1,b0,b1,c0,c1⟩:=rc3 hs;go_simp) ?_
   refine tk 7 (.slice (some ⟨g,2,none⟩) 3 c) rfl hHeld (fun s hs=>by obtain ⟨a0,a1,b0,b1,c0,c1⟩:=rc3 hs;go_simp) ?_
   refine tk 8 (.pointer (some ⟨g,4,none⟩)) rfl hHeld (fun s hs=>by obtain ⟨a0,a1,b0,b1,c0,c1⟩:=rc3 hs;go_simp) ?_
   refine tk 9 (.agg #[.string (bstr y.1),.bool y.2]) rfl hHeld (fun s hs=>by obtain ⟨a0,a1,b0,b1,c0,c1⟩:=rc3 hs;go_simp) ?_
   refine tk 11 (.slice (some ⟨g,2,none⟩) 3 c) rfl hHeld (fun s hs=>by obtain ⟨a0,a1,b0,b1,c0,c1⟩:=rc3 hs;go_simp) ?_
   refine tk 12 (.pointer (some ⟨g,6,none⟩)) rfl hHeld (fun s hs=>by obtain ⟨a0,a1,b0,b1,c0,c1⟩:=rc3 hs;go_simp) ?_
   refine tk 13 (.agg #[.string (bstr z.1),.bool z.2]) rfl hHeld (fun s hs=>by obtain ⟨a0,a1,b0,b1,c0,c1⟩:=rc3 hs;go_simp) ?_
   refine rd1 6 rfl fun K hK => ?_
   go_simp
   refine (HCx.out _).mono ?_
   rintro e w1 ⟨he,hb1⟩
   unfold NumIs at he
   rw [HXx.out] at he
   subst he
   have H1:=Lib.hid (H0.out.on hb1)
   clear hb1
   refine hK.out _ _ ⟨_,H1.out⟩ (fun hHeld => ?_)
   clear hK
   refine rd1 10 rfl fun K hK => ?_
   go_simp
   refine (HCy.out _).mono ?_
   rintro e w2 ⟨he,hb2⟩
   unfold PlainIs at he
   rw [HXy.out] at he
   subst he
   have H2:=Lib.hid (H1.out.on hb2)
   clear hb2
   exact ⟨rfl,H2.out.bad⟩
  | some ty =>
   have HXy:=Lib.hid hy
   clear hy
   cases hz:sp.wText z with
   | none =>
    have HXz:=Lib.hid hz
    clear hz
    go_enter Tryz.func60,Tryz.ntmps60
    go_wp2
    refine wp_region_held_drew (S:=fun s=>∃cs,RowS w0 B g [x,y,z] cs s) (by kernel_rfl) ⟨_,H0.out⟩ (fun hHeld => ?_)
    refine tk 0 (.pointer (some ⟨B,0,none⟩)) rfl hHeld (fun s hs=>by obtain ⟨a0,a1,b0,b1,c0,c1⟩:=rc3 hs;go_simp) ?_
    refine tk 1 (.pointer (some ⟨B,0,none⟩)) rfl hHeld (fun s hs=>by obtain ⟨a0,a1,b0,b1,c0,c1⟩:=rc3 hs;go_simp) ?_
    refine tk 2 (.pointer (some ⟨B,0,none⟩)) rfl hHeld (fun s hs=>by obtain ⟨a0,a1,b0,b1,c0,c1⟩:=rc3 hs;go_simp) ?_
    refine tk 3 (.slice (some ⟨g,2,none⟩) 3 c) rfl hHeld (fun s hs=>by obtain ⟨a0,a1,b0,b1,c0,c1⟩:=rc3 hs;go_simp) ?_
    refine tk 4 (.pointer (some ⟨g,2,none⟩)) rfl hHeld (fun s hs=>by obtain ⟨a0,a1,b0,b1,c0,c1⟩:=rc3 hs;go_simp) ?_
    refine tk 5 (.agg #[.string (bstr x.1),.bool x.2]) rfl hHeld (fun s hs=>by obtain ⟨a0,a1,b0,b1,c0,c1⟩:=rc3 hs;go_simp) ?_
    refine tk 7 (.slice (some ⟨g,2,none⟩) 3 c) rfl hHeld (fun s hs=>by obtain ⟨a0,a1,b0,b1,c0,c1⟩:=rc3 hs;go_simp) ?_
    refine tk 8 (.pointer (some ⟨g,4,none⟩)) rfl hHeld (fun s hs=>by obtain ⟨a0,a1,b0,b1,c0,c1⟩:=rc3 hs;go_simp) ?_
    refine tk 9 (.agg #[.string (bstr y.1),.bool y.2]) rfl hHeld (fun s hs=>by obtain ⟨a0,a1,b0,b1,c0,c1⟩:=rc3 hs;go_simp) ?_
    refine tk 11 (.slice (some ⟨g,2,none⟩) 3 c) rfl hHeld (fun s hs=>by obtain ⟨a0,a1,b0,b1,c0,c1⟩:=rc3 hs;go_simp) ?_
    refine tk 12 (.pointer (some ⟨g,6,none⟩)) rfl hHeld (fun s hs=>by obtain ⟨a0,a1,b0,b1,c0,c1⟩:=rc3 hs;go_simp) ?_
    refine tk 13 (.agg #[.string (bstr z.1),.bool z.2]) rfl hHeld (fun s hs=>by obtain ⟨a0,a1,b0,b1,c0,c1⟩:=rc3 hs;go_simp) ?_
    refine rd1 6 rfl fun K hK => ?_
    go_simp
    refine (HCx.out _).mono ?_
    rintro e w1 ⟨he,hb1⟩
    unfold NumIs at he
    rw [HXx.out] at he
    subst he
    have H1:=Lib.hid (H0.out.on hb1)
    clear hb1
    refine hK.out _ _ ⟨_,H1.out⟩ (fun hHeld => ?_)
    clear hK
    refine rd1 10 rfl fun K hK => ?_
    go_simp
    refine (HCy.out _).mono ?_
    rintro e w2 ⟨he,hb2⟩
    unfold PlainIs at he
    rw [HXy.out] at he
    subst he
    have H2:=Lib.hid (H1.out.on hb2)
    clear hb2
    refine hK.out _ _ ⟨_,H2.out⟩ (fun hHeld => ?_)
    clear hK
    refine rd1 14 rfl fun K hK => ?_
    go_simp
    refine (HCz.out _).mono ?_
    rintro e w3 ⟨he,hb3⟩
    unfold TextWIs at he
    rw [HXz.out] at he
    subst he
    have H3:=Lib.hid (H2.out.on hb3)
    clear hb3
    exact ⟨rfl,H3.out.bad⟩
   | some tz =>
    have HXz:=Lib.hid hz
    clear hz
    go_enter Tryz.func60,Tryz.ntmps60
    go_wp2
    refine wp_region_held_drew (S:=fun s=>∃cs,RowS w0 B g [x,y,z] cs s) (by kernel_rfl) ⟨_,H0.out⟩ (fun hHeld => ?_)
    refine tk 0 (.pointer (some ⟨B,0,none⟩)) rfl hHeld (fun s hs=>by obtain ⟨a0,a1,b0,b1,c0,c1⟩:=rc3 hs;go_simp) ?_
    refine tk 1 (.pointer (some ⟨B,0,none⟩)) rfl hHeld (fun s hs=>by obtain ⟨a0,a1,b0,b1,c0,c1⟩:=rc3 hs;go_simp) ?_
    refine tk 2 (.pointer (some ⟨B,0,none⟩)) rfl hHeld (fun s hs=>by obtain ⟨a0,a1,b0,b1,c0,c1⟩:=rc3 hs;go_simp) ?_
    refine tk 3 (.slice (some ⟨g,2,none⟩) 3 c) rfl hHeld (fun s hs=>by obtain ⟨a0,a1,b0,b1,c0,c1⟩:=rc3 hs;go_simp) ?_
    refine tk 4 (.pointer (some ⟨g,2,none⟩)) rfl hHeld (fun s hs=>by obtain ⟨a0,a1,b0,b1,c0,c1⟩:=rc3 hs;go_simp) ?_
    refine tk 5 (.agg #[.string (bstr x.1),.bool x.2]) rfl hHeld (fun s hs=>by obtain ⟨a0,a1,b0,b1,c0,c1⟩:=rc3 hs;go_simp) ?_
    refine tk 7 (.slice (some ⟨g,2,none⟩) 3 c) rfl hHeld (fun s hs=>by obtain ⟨a0,a1,b0,b1,c0,c1⟩:=rc3 hs;go_simp) ?_
    refine tk 8 (.pointer (some ⟨g,4,none⟩)) rfl hHeld (fun s hs=>by obtain ⟨a0,a1,b0,b1,c0,c1⟩:=rc3 hs;go_simp) ?_
    refine tk 9 (.agg #[.string (bstr y.1),.bool y.2]) rfl hHeld (fun s hs=>by obtain ⟨a0,a1,b0,b1,c0,c1⟩:=rc3 hs;go_simp) ?_
    refine tk 11 (.slice (some ⟨g,2,none⟩) 3 c) rfl hHeld (fun s hs=>by obtain ⟨a0,a1,b0,b1,c0,c1⟩:=rc3 hs;go_simp) ?_
    refine tk 12 (.pointer (some ⟨g,6,none⟩)) rfl hHeld (fun s hs=>by obtain ⟨a0,a1,b0,b1,c0,c1⟩:=rc3 hs;go_simp) ?_
    refine tk 13 (.agg #[.string (bstr z.1),.bool z.2]) rfl hHeld (fun s hs=>by obtain ⟨a0,a1,b0,b1,c0,c1⟩:=rc3 hs;go_simp) ?_
    refine rd1 6 rfl fun K hK => ?_
    go_simp
    refine (HCx.out _).mono ?_
    rintro e w1 ⟨he,hb1⟩
    unfold NumIs at he
    rw [HXx.out] at he
    subst he
    have H1:=Lib.hid (H0.out.on hb1)
    clear hb1
    refine hK.out _ _ ⟨_,H1.out⟩ (fun hHeld => ?_)
    clear hK
    refine rd1 10 rfl fun K hK => ?_
    go_simp
    refine (HCy.out _).mono ?_
    rintro e w2 ⟨he,hb2⟩
    unfold PlainIs at he
    rw [HXy.out] at he
    subst he
    have H2:=Lib.hid (H1.out.on hb2)
    clear hb2
    refine hK.out _ _ ⟨_,H2.out⟩ (fun hHeld => ?_)
    clear hK
    refine rd1 14 rfl fun K hK => ?_
    go_simp
    refine (HCz.out _).mono ?_
    rintro e w3 ⟨he,hb3⟩
    unfold TextWIs at he
    rw [HXz.out] at he
    subst he
    have H3:=Lib.hid (H2.out.on hb3)
    clear hb3
    refine hK.out _ _ ⟨_,H3.out⟩ (fun hHeld => ?_)
    clear hK
    refine tk 15 (.pointer (some ⟨B,0,none⟩)) rfl hHeld (fun s hs=>by obtain ⟨a0,a1,b0,b1,c0,c1⟩:=rc3 hs;go_simp) ?_
    refine tk 16 (.pointer (some ⟨B,1,none⟩)) rfl hHeld (fun s hs=>by obtain ⟨a0,a1,b0,b1,c0,c1⟩:=rc3 hs;go_simp) ?_
    refine rd1 17 rfl fun K hK => ?_
    have f1:=H3.out.free 1
    have c1:=H3.out.cell 1 (.int .i64 0) rfl
    go_simp
    have H4:=Lib.hid (H3.out.set 1 (.int .i64 nx))
    clear f1 c1
    refine hK.out _ _ ⟨_,H4.out⟩ (fun hHeld => ?_)
    clear hK
    refine tk 18 (.pointer (some ⟨B,0,none⟩)) rfl hHeld (fun s hs=>by obtain ⟨a0,a1,b0,b1,c0,c1⟩:=rc3 hs;go_simp) ?_
    refine tk 19 (.pointer (some ⟨B,4,none⟩)) rfl hHeld (fun s hs=>by obtain ⟨a0,a1,b0,b1,c0,c1⟩:=rc3 hs;go_simp) ?_
    refine rd1 20 rfl fun K hK => ?_
    have f4:=H4.out.free 4
    have c4:=H4.out.cell 4 (.string ⟨#[]⟩) rfl
    go_simp
    have H5:=Lib.hid (H4.out.set 4 (.string (bstr ty)))
    clear f4 c4
    refine hK.out _ _ ⟨_,H5.out⟩ (fun hHeld => ?_)
    clear hK
    refine tk 21 (.pointer (some ⟨B,0,none⟩)) rfl hHeld (fun s hs=>by obtain ⟨a0,a1,b0,b1,c0,c1⟩:=rc3 hs;go_simp) ?_
    refine tk 22 (.pointer (some ⟨B,5,none⟩)) rfl hHeld (fun s hs=>by obtain ⟨a0,a1,b0,b1,c0,c1⟩:=rc3 hs;go_simp) ?_
    refine rd1 23 rfl fun K hK => ?_
    have f5:=H5.out.free 5
    have c5:=H5.out.cell 5 (.string ⟨#[]⟩) rfl
    go_simp
    have H6:=Lib.hid (H5.out.set 5 (.string (bstr tz)))
    clear f5 c5
    refine hK.out _ _ ⟨_,H6.out⟩ (fun hHeld => ?_)
    clear hK
    refine wpAnyH_done (by kernel_rfl) ?_ _
    clear hHeld
    go_simp
    go_end0
    exact H6.out.good _ rfl rfl
set_option maxRecDepth 100000 in
set_option maxHeartbeats 4000000 in
theorem row_sheet (k:Int) (w0 w:World) (B g c:Nat) (x y:List UInt8×Bool) (hly:y.1.length≤1099511627776) (h:RowS w0 B g [x,y] (zeroC k) w):Calls Tryz.prog 54 #[.pointer (some ⟨B,0,none⟩),.slice (some ⟨g,2,none⟩) 2 c] w fun e w'=>RowIs w0 B ((sp.wNum x).bind fun o=>(sp.wText y).bind fun t=>some { kind:=k,origin:=o,text:=t }) e w':=by
 have HCx:=Lib.hid (fun W=>wnum_any x W)
 have HCy:=Lib.hid (fun W=>wtext_any y W)
 have H0:=Lib.hid (h.on (Below.refl _ _).drew)
 clear h
 cases hx:sp.wNum x with
 | none =>
  have HXx:=Lib.hid hx
  clear hx
  go_enter Tryz.func54,Tryz.ntmps54
  go_wp2
  refine wp_region_held_drew (S:=fun s=>∃cs,RowS w0 B g [x,y] cs s) (by kernel_rfl) ⟨_,H0.out⟩ (fun hHeld => ?_)
  refine tk 0 (.pointer (some ⟨B,0,none⟩)) rfl hHeld (fun s hs=>by obtain ⟨a0,a1,b0,b1⟩:=rc2 hs;go_simp) ?_
  refine tk 1 (.pointer (some ⟨B,0,none⟩)) rfl hHeld (fun s hs=>by obtain ⟨a0,a1,b0,b1⟩:=rc2 hs;go_simp) ?_
  refine tk 2 (.slice (some ⟨g,2,none⟩) 2 c) rfl hHeld (fun s hs=>by obtain ⟨a0,a1,b0,b1⟩:=rc2 hs;go_simp) ?_
  refine tk 3 (.pointer (some ⟨g,2,none⟩)) rfl hHeld (fun s hs=>by obtain ⟨a0,a1,b0,b1⟩:=rc2 hs;go_simp) ?_
  refine tk 4 (.agg #[.string (bstr x.1),.bool x.2]) rfl hHeld (fun s hs=>by obtain ⟨a0,a1,b0,b1⟩:=rc2 hs;go_simp) ?_
  refine tk 6 (.slice (some ⟨g,2,none⟩) 2 c) rfl hHeld (fun s hs=>by obtain ⟨a0,a1,b0,b1⟩:=rc2 hs;go_simp) ?_
  refine tk 7 (.pointer (some ⟨g,4,none⟩)) rfl hHeld (fun s hs=>by obtain ⟨a0,a1,b0,b1⟩:=rc2 hs;go_simp) ?_
  refine tk 8 (.agg #[.string (bstr y.1),.bool y.2]) rfl hHeld (fun s hs=>by obtain ⟨a0,a1,b0,b1⟩:=rc2 hs;go_simp) ?_
  refine rd1 5 rfl fun K hK => ?_
  go_simp
  refine (HCx.out _).mono ?_
  rintro e w1 ⟨he,hb1⟩
  unfold NumIs at he
  rw [HXx.out] at he
  subst he
  have H1:=Lib.hid (H0.out.on hb1)
  clear hb1
  exact ⟨rfl,H1.out.bad⟩
 | some nx =>
  have HXx:=Lib.hid hx
  clear hx
  cases hy:sp.wText y with
  | none =>
   have HXy:=Lib.hid hy
   clear hy
   go_enter Tryz.func54,Tryz.ntmps54
   go_wp2
   refine wp_region_held_drew (S:=fun s=>∃cs,RowS w0 B g [x,y] cs s) (by kernel_rfl) ⟨_,H0.out⟩ (fun hHeld => ?_)
   refine tk 0 (.pointer (some ⟨B,0,none⟩)) rfl hHeld (fun s hs=>by obtain ⟨a0,a1,b0,b1⟩:=rc2 hs;go_simp) ?_
   refine tk 1 (.pointer (some ⟨B,0,none⟩)) rfl hHeld (fun s hs=>by obtain ⟨a0,a1,b0,b1⟩:=rc2 hs;go_simp) ?_
   refine tk 2 (.slice (some ⟨g,2,none⟩) 2 c) rfl hHeld (fun s hs=>by obtain ⟨a0,a1,b0,b1⟩:=rc2 hs;go_simp) ?_
   refine tk 3 (.pointer (some ⟨g,2,none⟩)) rfl hHeld (fun s hs=>by obtain ⟨a0,a1,b0,b1⟩:=rc2 hs;go_simp) ?_
   refine tk 4 (.agg #[.string (bstr x.1),.bool x.2]) rfl hHeld (fun s hs=>by obtain ⟨a0,a1,b0,b1⟩:=rc2 hs;go_simp) ?_
   refine tk 6 (.slice (some ⟨g,2,none⟩) 2 c) rfl hHeld (fun s hs=>by obtain ⟨a0,a1,b0,b1⟩:=rc2 hs;go_simp) ?_
   refine tk 7 (.pointer (some ⟨g,4,none⟩)) rfl hHeld (fun s hs=>by obtain ⟨a0,a1,b0,b1⟩:=rc2 hs;go_simp) ?_
   refine tk 8 (.agg #[.string (bstr y.1),.bool y.2]) rfl hHeld (fun s hs=>by obtain ⟨a0,a1,b0,b1⟩:=rc2 hs;go_simp) ?_
   refine rd1 5 rfl fun K hK => ?_
   go_simp
   refine (HCx.out _).mono ?_
   rintro e w1 ⟨he,hb1⟩
   unfold NumIs at he
   rw [HXx.out] at he
   subst he
   have H1:=Lib.hid (H0.out.on hb1)
   clear hb1
   refine hK.out _ _ ⟨_,H1.out⟩ (fun hHeld => ?_)
   clear hK
   refine rd1 9 rfl fun K hK => ?_
   go_simp
   refine (HCy.out _).mono ?_
   rintro e w2 ⟨he,hb2⟩
   unfold TextWIs at he
   rw [HXy.out] at he
   subst he
   have H2:=Lib.hid (H1.out.on hb2)
   clear hb2
   exact ⟨rfl,H2.out.bad⟩
  | some ty =>
   have HXy:=Lib.hid hy
   clear hy
   go_enter Tryz.func54,Tryz.ntmps54
   go_wp2
   refine wp_region_held_drew (S:=fun s=>∃cs,RowS w0 B g [x,y] cs s) (by kernel_rfl) ⟨_,H0.out⟩ (fun hHeld => ?_)
   refine tk 0 (.pointer (some ⟨B,0,none⟩)) rfl hHeld (fun s hs=>by obtain ⟨a0,a1,b0,b1⟩:=rc2 hs;go_simp) ?_
   refine tk 1 (.pointer (some ⟨B,0,none⟩)) rfl hHeld (fun s hs=>by obtain ⟨a0,a1,b0,b1⟩:=rc2 hs;go_simp) ?_
   refine tk 2 (.slice (some ⟨g,2,none⟩) 2 c) rfl hHeld (fun s hs=>by obtain ⟨a0,a1,b0,b1⟩:=rc2 hs;go_simp) ?_
   refine tk 3 (.pointer (some ⟨g,2,none⟩)) rfl hHeld (fun s hs=>by obtain ⟨a0,a1,b0,b1⟩:=rc2 hs;go_simp) ?_
   refine tk 4 (.agg #[.string (bstr x.1),.bool x.2]) rfl hHeld (fun s hs=>by obtain ⟨a0,a1,b0,b1⟩:=rc2 hs;go_simp) ?_
   refine tk 6 (.slice (some ⟨g,2,none⟩) 2 c) rfl hHeld (fun s hs=>by obtain ⟨a0,a1,b0,b1⟩:=rc2 hs;go_simp) ?_
   refine tk 7 (.pointer (some ⟨g,4,none⟩)) rfl hHeld (fun s hs=>by obtain ⟨a0,a1,b0,b1⟩:=rc2 hs;go_simp) ?_
   refine tk 8 (.agg #[.string (bstr y.1),.bool y.2]) rfl hHeld (fun s hs=>by obtain ⟨a0,a1,b0,b1⟩:=rc2 hs;go_simp) ?_
   refine rd1 5 rfl fun K hK => ?_
   go_simp
   refine (HCx.out _).mono ?_
   rintro e w1 ⟨he,hb1⟩
   unfold NumIs at he
   rw [HXx.out] at he
   subst he
   have H1:=Lib.hid (H0.out.on hb1)
   clear hb1
   refine hK.out _ _ ⟨_,H1.out⟩ (fun hHeld => ?_)
   clear hK
   refine rd1 9 rfl fun K hK => ?_
   go_simp
   refine (HCy.out _).mono ?_
   rintro e w2 ⟨he,hb2⟩
   unfold TextWIs at he
   rw [HXy.out] at he
   subst he
   have H2:=Lib.hid (H1.out.on hb2)
   clear hb2
   refine hK.out _ _ ⟨_,H2.out⟩ (fun hHeld => ?_)
   clear hK
   refine tk 11 (.pointer (some ⟨B,0,none⟩)) rfl hHeld (fun s hs=>by obtain ⟨a0,a1,b0,b1⟩:=rc2 hs;go_simp) ?_
   refine tk 12 (.pointer (some ⟨B,3,none⟩)) rfl hHeld (fun s hs=>by obtain ⟨a0,a1,b0,b1⟩:=rc2 hs;go_simp) ?_
   refine wpAnyH_ready (rs:=[10,13]) (by kernel_rfl) (by simp) ?_
   refine AllReadyH.cons rfl (fun K hK => ?_) (AllReadyH.cons rfl (fun K hK => ?_) AllReadyH.nil)
   ·rw [if_pos (by kernel_rfl)]
    obtain ⟨wc,cp,hcv,hbc,hsz,hrow,hc1,hc2⟩:=conv_bytes2 (w2) ty
    have hsx:(w2).heap.size=w2.heap.size:=by simp
    rw [hsx] at hcv hsz hrow
    have HCV:=Lib.hid (And.intro hsz (And.intro hrow (And.intro hc1 hc2)))
    have HLT:=Lib.hid (show B<w2.heap.size by have:=lt_of_block H2.out.op;rw [hsx] at this;exact this)
    clear hrow hc1 hc2 hsz hsx
    go_simp
    clear hcv
    have H3:=Lib.hid (H2.out.on hbc)
    clear hbc
    refine hK.out _ _ ⟨_,H3.out⟩ (fun hHeld => ?_)
    clear hK
    refine rd1 13 rfl fun K hK => ?_
    have f3:=H3.out.free 3
    have c3:=H3.out.cell 3 (.int .i64 0) rfl
    go_simp
    have H4:=Lib.hid (H3.out.set 3 (.int .i64 nx))
    clear f3 c3
    refine hK.out _ _ ⟨_,H4.out⟩ (fun hHeld => ?_)
    clear hK
    refine tk 14 (.pointer (some ⟨B,0,none⟩)) rfl hHeld (fun s hs=>by obtain ⟨a0,a1,b0,b1⟩:=rc2 hs;go_simp) ?_
    refine tk 15 (.pointer (some ⟨B,6,none⟩)) rfl hHeld (fun s hs=>by obtain ⟨a0,a1,b0,b1⟩:=rc2 hs;go_simp) ?_
    refine rd1 16 rfl fun K hK => ?_
    have f6:=H4.out.free 6
    have c6:=H4.out.cell 6 (.slice none 0 0) rfl
    go_simp
    have H5:=Lib.hid (H4.out.set 6 (.slice (some ⟨w2.heap.size,0,none⟩) ty.length cp))
    clear f6 c6
    refine hK.out _ _ ⟨_,H5.out⟩ (fun hHeld => ?_)
    clear hK
    refine wpAnyH_done (by kernel_rfl) ?_ _
    clear hHeld
    go_simp
    go_end0
    have hne:w2.heap.size≠B:=by have:=HLT.out;omega
    exact H5.out.goodT _ (range_other (range_other HCV.out.2.1 hne _ _) hne _ _) rfl HCV.out.2.2.1 (HCV.out.2.2.2 (by have:=wText_len HXy.out;unfold maxLen;omega)) (by have:=HCV.out.1;simp;omega) H2.out.fr.size rfl
   ·rw [if_pos (by kernel_rfl)]
    have f3:=H2.out.free 3
    have c3:=H2.out.cell 3 (.int .i64 0) rfl
    go_simp
    have H3:=Lib.hid (H2.out.set 3 (.int .i64 nx))
    clear f3 c3
    refine hK.out _ _ ⟨_,H3.out⟩ (fun hHeld => ?_)
    clear hK
    refine rd1 10 rfl fun K hK => ?_
    obtain ⟨wc,cp,hcv,hbc,hsz,hrow,hc1,hc2⟩:=conv_bytes2 (w2.setCell ⟨B,3,none⟩ (.int .i64 nx)) ty
    have hsx:(w2.setCell ⟨B,3,none⟩ (.int .i64 nx)).heap.size=w2.heap.size:=by simp
    rw [hsx] at hcv hsz hrow
    have HCV:=Lib.hid (And.intro hsz (And.intro hrow (And.intro hc1 hc2)))
    have HLT:=Lib.hid (show B<w2.heap.size by have:=lt_of_block H3.out.op;rw [hsx] at this;exact this)
    clear hrow hc1 hc2 hsz hsx
    go_simp
    clear hcv
    have H4:=Lib.hid (H3.out.on hbc)
    clear hbc
    refine hK.out _ _ ⟨_,H4.out⟩ (fun hHeld => ?_)
    clear hK
    refine tk 14 (.pointer (some ⟨B,0,none⟩)) rfl hHeld (fun s hs=>by obtain ⟨a0,a1,b0,b1⟩:=rc2 hs;go_simp) ?_
    refine tk 15 (.pointer (some ⟨B,6,none⟩)) rfl hHeld (fun s hs=>by obtain ⟨a0,a1,b0,b1⟩:=rc2 hs;go_simp) ?_
    refine rd1 16 rfl fun K hK => ?_
    have f6:=H4.out.free 6
    have c6:=H4.out.cell 6 (.slice none 0 0) rfl
    go_simp
    have H5:=Lib.hid (H4.out.set 6 (.slice (some ⟨w2.heap.size,0,none⟩) ty.length cp))
    clear f6 c6
    refine hK.out _ _ ⟨_,H5.out⟩ (fun hHeld => ?_)
    clear hK
    refine wpAnyH_done (by kernel_rfl) ?_ _
    clear hHeld
    go_simp
    go_end0
    have hne:w2.heap.size≠B:=by have:=HLT.out;omega
    exact H5.out.goodT _ (range_other HCV.out.2.1 hne _ _) rfl HCV.out.2.2.1 (HCV.out.2.2.2 (by have:=wText_len HXy.out;unfold maxLen;omega)) (by have:=HCV.out.1;simp;omega) H2.out.fr.size rfl
set_option maxRecDepth 100000 in
set_option maxHeartbeats 2000000 in
theorem row_size (k:Int) (w0 w:World) (B g c:Nat) (x:List UInt8×Bool) (hl:x.1.length≤1099511627776) (h:RowS w0 B g [x] (zeroC k) w):Calls Tryz.prog 52 #[.pointer (some ⟨B,0,none⟩),.slice (some ⟨g,2,none⟩) 1 c] w fun e w'=>RowIs w0 B ((sp.wFrac x).map fun q=>{ kind:=k,w:=q }) e w':=by
 have HN:=Lib.hid (fun W=>wfrac_any x W hl)
 obtain ⟨a0,a1⟩:=h.w0
 have HH:=Lib.hid h
 clear h hl
 cases hx:sp.wFrac x with
 | none =>
  have HX:=Lib.hid hx
  clear hx
  go_enter Tryz.func52,Tryz.ntmps52
  go_wp2_with (go_at_call 53;refine (HN.out _).mono ?_;rintro e w1 ⟨he,hb⟩;unfold FracWIs at he;rw [HX.out] at he;subst he)
  exact ⟨rfl,(HH.out.on hb).bad⟩
 | some q =>
  have HX:=Lib.hid hx
  clear hx
  go_enter Tryz.func52,Tryz.ntmps52
  go_wp2_with (go_at_call 53;refine (HN.out _).mono ?_;rintro e w1 ⟨he,hb⟩;unfold FracWIs at he;rw [HX.out] at he;subst he;have H1:=Lib.hid (HH.out.on hb);have f7:=H1.out.free 7;have c7:=H1.out.cell 7 (.int .i64 0) rfl;have f8:=H1.out.free 8;have c8:=H1.out.cell 8 (.int .i64 0) rfl;clear hb)
  go_end0
  exact ((H1.out.set 7 _).set 8 _).good _ rfl rfl
set_option maxRecDepth 100000 in
set_option maxHeartbeats 2000000 in
theorem row_print (k:Int) (w0 w:World) (B g c:Nat) (x:List UInt8×Bool) (h:RowS w0 B g [x] (zeroC k) w):Calls Tryz.prog 57 #[.pointer (some ⟨B,0,none⟩),.slice (some ⟨g,2,none⟩) 1 c] w fun e w'=>RowIs w0 B ((sp.wPlain x).bind fun s=>if s=sp.kOn then some { kind:=k,on:=true } else if s=sp.kOff then some { kind:=k } else none) e w':=by
 have HN:=Lib.hid (fun W=>wplain_any x W)
 obtain ⟨a0,a1⟩:=h.w0
 have HH:=Lib.hid h
 clear h
 cases hx:sp.wPlain x with
 | none =>
  have HX:=Lib.hid hx
  clear hx
  go_enter Tryz.func57,Tryz.ntmps57
  go_wp2_with (go_at_call 28;refine (HN.out _).mono ?_;rintro e w1 ⟨he,hb⟩;unfold PlainIs at he;rw [HX.out] at he;subst he)
  exact ⟨rfl,(HH.out.on hb).bad⟩
 | some s =>
  have hxs:x.1=s:=by
   unfold sp.wPlain at hx
   split at hx
   ·cases hx
   ·cases hx;rfl
  have HX:=Lib.hid hx
  rw [hxs] at a0
  simp only [hxs] at HN
  have HS:=Lib.hid hxs
  clear hx hxs
  by_cases h1:s=sp.kOn
  ·have q1:=str_eq h1
   have HR:Hid (((some s).bind fun s=>if s=sp.kOn then some { kind:=k,on:=true } else if s=sp.kOff then some { kind:=k } else none)=some { kind:=k,on:=true:sp.Op }):=Lib.hid (by simp [h1])
   clear h1
   go_enter Tryz.func57,Tryz.ntmps57
   go_wp2_with (first
    | (go_at_call 28;refine (HN.out _).mono ?_;rintro e w1 ⟨he,hb⟩;unfold PlainIs at he;rw [HX.out] at he;subst he;have H1:=Lib.hid (HH.out.on hb);have f7:=H1.out.free 17;have c7:=H1.out.cell 17 (.bool false) rfl;clear hb)
    | (go_at_call 23;refine (must_yes _).mono ?_;rintro e w2 ⟨rfl,rfl⟩))
   go_end0
   rw [HR.out]
   exact (H1.out.set 17 _).good _ rfl rfl
  ·have q1:=str_ne h1
   by_cases h2:s=sp.kOff
   ·have q2:=str_eq h2
    have HR:Hid (((some s).bind fun s=>if s=sp.kOn then some { kind:=k,on:=true } else if s=sp.kOff then some { kind:=k } else none)=some { kind:=k:sp.Op }):=Lib.hid (by simp [h1,h2])
    clear h1 h2
    go_enter Tryz.func57,Tryz.ntmps57
    go_wp2_with (first
     | (go_at_call 28;refine (HN.out _).mono ?_;rintro e w1 ⟨he,hb⟩;unfold PlainIs at he;rw [HX.out] at he;subst he;have H1:=Lib.hid (HH.out.on hb);have f7:=H1.out.free 17;have c7:=H1.out.cell 17 (.bool false) rfl;have H2:=Lib.hid (H1.out.set 17 (.bool false));obtain ⟨a20,a21⟩:=H2.out.w0;rw [HS.out] at a20;clear hb)
     | (go_at_call 23;refine (must_yes _).mono ?_;rintro e w2 ⟨rfl,rfl⟩))
    go_end0
    rw [HR.out]
    exact H2.out.good _ rfl rfl
   ·have q2:=str_ne h2
    have HR:Hid (((some s).bind fun s=>if s=sp.kOn then some { kind:=k,on:=true } else if s=sp.kOff then some { kind:=k } else none)=(none:Option sp.Op)):=Lib.hid (by simp [h1,h2])
    clear h1 h2
    go_enter Tryz.func57,Tryz.ntmps57
    go_wp2_with (first
     | (go_at_call 28;refine (HN.out _).mono ?_;rintro e w1 ⟨he,hb⟩;unfold PlainIs at he;rw [HX.out] at he;subst he;have H1:=Lib.hid (HH.out.on hb);have f7:=H1.out.free 17;have c7:=H1.out.cell 17 (.bool false) rfl;have H2:=Lib.hid (H1.out.set 17 (.bool false));obtain ⟨a20,a21⟩:=H2.out.w0;rw [HS.out] at a20;clear hb)
     | (go_at_call 23;refine (must_no _).mono ?_;rintro e w2 ⟨rfl,rfl⟩))
    rw [HR.out]
    exact ⟨rfl,H2.out.bad⟩
set_option maxRecDepth 100000 in
theorem row_count (k:Int) (w0 w:World) (B g c:Nat) (a:Option Addr) (h:RowS w0 B g [] (zeroC k) w):Calls Tryz.prog 62 #[.pointer (some ⟨B,0,none⟩),.slice a 0 c] w fun e w'=>RowIs w0 B (some { kind:=k }) e w':=by
 have HH:=Lib.hid h
 clear h
 go_enter Tryz.func62,Tryz.ntmps62
 go_wp2
 go_end0
 exact HH.out.good _ rfl rfl
set_option maxRecDepth 100000 in
theorem line_idle (p q r:Addr) (w:World) :
  CallsD Tryz.prog 22 #[.pointer (some p),.pointer (some q),.pointer (some r)] .returning w fun e u' w'=>e=.returned (.tuple #[])∧u'=.returning∧w'=w:=by
 refine callsD_of_wpS Tryz.func22 rfl fun c₀ cs hu => ?_
 apply wpS_seq
 apply wpS_region
 simp [wpOpsS,go_sem,recoverD,hu,Tryz.ntmps22,Exit.thenS]
 refine wpS_of_wp ?_
 have e:(#[Value.pointer (some p),Value.pointer (some q),Value.pointer (some r)]++((Array.replicate 15 undef).setIfInBounds 3 Value.nilIface).setIfInBounds 0 Value.nilIface)=#[Value.pointer (some p),Value.pointer (some q),Value.pointer (some r),.nilIface,undef,undef,.nilIface,undef,undef,undef,undef,undef,undef,undef,undef,undef,undef,undef]:=rfl
 rw [e]
 clear e
 go_wp2
 exact ⟨rfl,.returning,by rw [←hu],_,results_none rfl _ _ _,rfl,rfl,rfl⟩
structure Res (B S E:Nat) (cs:Array Value) (sy:Bool) (er:Int) (W:World):Prop where
 op:W.heap[B]?=some (.cells cs 28 (0,0))
 says:W.heap[S]?=some (.cells #[.bool sy] 4 (0,0))
 err:W.heap[E]?=some (.cells #[.int .i64 er] 29 (0,0))
theorem setRow_at {w:World} {g:Nat} {old:Array Value} {t:TypeId} {fz:Nat×Nat} (h:w.heap[g]?=some (.cells old t fz)) (cells:Array Value):(w.setRow g cells).heap[g]?=some (.cells cells t fz):=by
 have hlt:=lt_of_block h
 have h':w.heap[g]=.cells old t fz:=by simpa [Array.getElem?_eq_getElem hlt] using h
 show (w.heap.modify g _)[g]?=_
 rw [Array.getElem?_eq_getElem (by simpa using hlt),Array.getElem_modify_self,h']
theorem setRow_far {w:World} {g k:Nat} (cells:Array Value) (h:g≠k):(w.setRow g cells).heap[k]?=w.heap[k]?:=by
 show (w.heap.modify g _)[k]?=_
 rw [Array.getElem?_modify]
 simp [h]
theorem res_zero {B S E:Nat} {cs:Array Value} {sy:Bool} {er:Int} {w:World} (h:Res B S E cs sy er w) (h1:B≠S) (h2:B≠E):Res B S E (zeroC 0) sy er ((w.alloc (.cells #[] 54)).setRow B (zeroC 0))∧(∀n,n≤B→Below n w ((w.alloc (.cells #[] 54)).setRow B (zeroC 0))) :=
 ⟨⟨setRow_at (heap_old _ _ _ h.op) _,(setRow_far _ h1).trans (heap_old _ _ _ h.says),(setRow_far _ h2).trans (heap_old _ _ _ h.err)⟩,
  fun n hn=>below_setRow ((Below.refl n w).alloc (by have:=lt_of_block h.op;omega) _) hn _⟩
theorem Res.cells {B S E:Nat} {cs:Array Value} {sy:Bool} {er:Int} {w:World} (h:Res B S E cs sy er w):w.cell? ⟨S,0,none⟩=some (.bool sy)∧w.cell? ⟨E,0,none⟩=some (.int .i64 er)∧w.frozen? ⟨S,0,none⟩=false∧w.frozen? ⟨E,0,none⟩=false :=
 ⟨by rw [Lib.cell_of_heap h.says];rfl,by rw [Lib.cell_of_heap h.err];rfl,blk_free h.says 0,blk_free h.err 0⟩
theorem Res.fin {B S E:Nat} {cs:Array Value} {sy:Bool} {er:Int} {w:World} (h:Res B S E cs sy er w) (h1:B≠S) (h2:B≠E) (h3:S≠E) (sy':Bool) (er':Int):Res B S E cs sy' er' ((w.setCell ⟨S,0,none⟩ (.bool sy')).setCell ⟨E,0,none⟩ (.int .i64 er'))∧(∀n,n≤S→n≤E→Below n w ((w.setCell ⟨S,0,none⟩ (.bool sy')).setCell ⟨E,0,none⟩ (.int .i64 er'))):=by
 refine ⟨⟨(heap_other (Ne.symm h2) _ _).trans ((heap_other (Ne.symm h1) _ _).trans h.op),(heap_other (Ne.symm h3) _ _).trans ?_,?_⟩,fun n hs he=>((Below.refl n w).setCell hs _).setCell he _⟩
 ·have:=blk_set h.says 0 (.bool sy')
  simpa using this
 ·have:=blk_set ((heap_other h3 0 (.bool sy')).trans h.err) 0 (.int .i64 er')
  simpa using this
theorem zero_one:(zeroC 0).all (·.oneCell')=true:=by simp [zeroC,opCells,Value.oneCell']
theorem ta54 (w:World):(Instr.typeAssert (.iface 54 (.agg #[])) 20 54 true).run Tryz.prog w=.ok (.tuple #[.agg #[],.bool true]) w:=by kernel_rfl
set_option maxRecDepth 100000 in
set_option maxHeartbeats 2000000 in
theorem line_bar (B S E:Nat) (cs:Array Value) (sy:Bool) (er:Int) (w:World) (h:Res B S E cs sy er w) (hc:cs.size=18) (h1:B≠S) (h2:B≠E) (h3:S≠E) :
  CallsD Tryz.prog 22 #[.pointer (some ⟨B,0,none⟩),.pointer (some ⟨S,0,none⟩),.pointer (some ⟨E,0,none⟩)] (.panicking bar) w fun e u' w'=>e=.returned (.tuple #[])∧u'=.panicking [{ v:=.iface 54 (.agg #[]),recovered:=true }]∧Res B S E (zeroC 0) false 12 w'∧(∀n,n≤B→n≤S→n≤E→Below n w w'):=by
 have HR:=Lib.hid h
 have s0:w.cell? ⟨S,0,none⟩=some (.bool sy):=by rw [Lib.cell_of_heap h.says];rfl
 have e0:w.cell? ⟨E,0,none⟩=some (.int .i64 er):=by rw [Lib.cell_of_heap h.err];rfl
 have z0:=blk_free h.says 0
 have z1:=blk_free h.err 0
 have hta:=ta54
 have HC:=Lib.hid hc
 clear h
 unfold bar
 refine callsD_of_wpS Tryz.func22 rfl fun c₀ fs hu => ?_
 apply wpS_seq
 apply wpS_region
 simp [wpOpsS,go_sem,recoverD,hu,Tryz.ntmps22,Exit.thenS]
 refine wpS_of_wp ?_
 have e:(#[Value.pointer (some ⟨B,0,none⟩),Value.pointer (some ⟨S,0,none⟩),Value.pointer (some ⟨E,0,none⟩)]++((Array.replicate 15 undef).setIfInBounds 3 (.iface 54 (.agg #[]))).setIfInBounds 0 (.iface 54 (.agg #[])))=#[Value.pointer (some ⟨B,0,none⟩),Value.pointer (some ⟨S,0,none⟩),Value.pointer (some ⟨E,0,none⟩),(.iface 54 (.agg #[])),undef,undef,(.iface 54 (.agg #[])),undef,undef,undef,undef,undef,undef,undef,undef,undef,undef,undef]:=rfl
 rw [e]
 clear e hu
 go_wp2_with (refine wpList_store_row rfl 28 _ _ rfl B (zeroC 0) rfl rfl 28 cs (heap_old _ _ _ HR.out.op) size28' HC.out zero_one ?_;obtain ⟨hr2,hb2⟩:=res_zero HR.out h1 h2;generalize (w.alloc (.cells #[] 54)).setRow B (zeroC 0)=W2 at hr2 hb2 ⊢; have HR2:=Lib.hid hr2;have HB2:=Lib.hid hb2;obtain ⟨k0,k1,y0,y1⟩:=hr2.cells;clear hr2 hb2)
 have HF:=HR2.out.fin h1 h2 h3 false 12
 exact ⟨rfl,_,rfl,_,results_none rfl _ _ _,rfl,rfl,HF.1,fun n q1 q2 q3=>(HB2.out n q1).trans (HF.2 n q2 q3)⟩
end Go.Proofs.YtihlneenajlhoaaGreatDoor
