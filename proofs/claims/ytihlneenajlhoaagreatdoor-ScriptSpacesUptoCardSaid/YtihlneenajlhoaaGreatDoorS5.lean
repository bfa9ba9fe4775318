/-
 Contracts, for a run of one goroutine, of what reads a word as a number: jalousie script.number. Condition: lengths that fit.
-/
import Derived.Test.YtihlneenajlhoaaGreatDoorS4
import Derived.Laws.ResultCell
import Derived.Lib.IndexAny
import Derived.Test.YtihlneenajlhoaaGreatDoorS3
import Derived.Deep.RegionHeld
set_option linter.unusedSimpArgs false
set_option linter.unusedVariables false
namespace Go.Proofs.YtihlneenajlhoaaGreatDoor
open Go Go.RowKit
def bodyOf (t:List UInt8):List UInt8:=if t.head?=some 45 then t.tail else t
theorem cut_minus (t:List UInt8):Lib.trimPrefix t [45]=bodyOf t∧Lib.hasPrefix t [45]=decide (t.head?=some 45):=by
 cases t with
 | nil=>exact ⟨rfl,rfl⟩
 | cons c r =>
  by_cases h:c=45
  ·subst h
   simp [Lib.trimPrefix,Lib.hasPrefix,bodyOf]
  ·have h2:(45==c)=false:=by simpa using Ne.symm h
   simp [Lib.trimPrefix,Lib.hasPrefix,bodyOf,h,List.isPrefixOf,h2]
theorem cutPrefix_any (t:List UInt8) (w:World):Calls Tryz.prog 92 #[.string (bstr t),.string ⟨#[45]⟩] w fun e w'=>e=.returned (.tuple #[.string (bstr (bodyOf t)),.bool (decide (t.head?=some 45))])∧w'=w :=
 (Any.strings_CutPrefix Tryz.laysCut (bstr t) ⟨#[45]⟩ w).mono fun e w' ⟨h1,h2⟩=>⟨by
  rw [h1]
  have:=cut_minus (bstr t).data.toList
  rw [show (⟨#[45]⟩:ByteArray).data.toList = [45] from rfl,this.1,this.2,bstr_toList]
  rfl,h2⟩
theorem str_ne {l m:List UInt8} (h:l≠m):((bstr l).toList==m)=false:=by
 rw [Lib.toList_data,bstr_toList]
 simpa using h
theorem str_eq {l m:List UInt8} (h:l=m):((bstr l).toList==m)=true:=by
 rw [Lib.toList_data,bstr_toList]
 simpa using h
def NumIs (p:List UInt8×Bool) (e:Ending):Prop:=match sp.wNum p with
 | some n=>e=.returned (.int .i64 n)
 | none=>e=.panicked bar
set_option maxRecDepth 100000 in
set_option maxHeartbeats 4000000 in
theorem number_quoted (t:List UInt8) (w:World):Calls Tryz.prog 50 #[.agg #[.string (bstr t),.bool true]] w fun e w'=>e=.panicked bar∧Below w.heap.size w w':=by
 have HB:=Lib.hid (below_new w (.cells #[.string (bstr t),.bool true] 71))
 go_enter Tryz.func50,Tryz.ntmps50
 go_wp2_with (first
  | (go_at_call 92;refine (cutPrefix_any t _).mono ?_;rintro e w1 ⟨rfl,rfl⟩)
  | (go_at_call 23;refine (must_no _).mono ?_;rintro e w1 ⟨rfl,rfl⟩))
 exact ⟨rfl,rfl,HB.out⟩
set_option maxRecDepth 100000 in
set_option maxHeartbeats 4000000 in
theorem number_empty (t:List UInt8) (w:World) (h:bodyOf t = []):Calls Tryz.prog 50 #[.agg #[.string (bstr t),.bool false]] w fun e w'=>e=.panicked bar∧Below w.heap.size w w':=by
 have HB:=Lib.hid (below_new w (.cells #[.string (bstr t),.bool false] 71))
 have hsz:(bstr []).size=0:=rfl
 have HC:=Lib.hid (fun W=>by have:=cutPrefix_any t W;rw [h] at this;exact this)
 clear h
 generalize decide (t.head?=some 45)=bl at HC
 go_enter Tryz.func50,Tryz.ntmps50
 go_wp2_with (first
  | (go_at_call 92;refine (HC.out _).mono ?_;rintro e w1 ⟨rfl,rfl⟩)
  | (go_at_call 23;refine (must_no _).mono ?_;rintro e w1 ⟨rfl,rfl⟩))
 exact ⟨rfl,rfl,HB.out⟩
set_option maxRecDepth 100000 in
set_option maxHeartbeats 4000000 in
theorem number_long (t:List UInt8) (w:World) (h:9<(bodyOf t).length):Calls Tryz.prog 50 #[.agg #[.string (bstr t),.bool false]] w fun e w'=>e=.panicked bar∧Below w.heap.size w w':=by
 have HB:=Lib.hid (below_new w (.cells #[.string (bstr t),.bool false] 71))
 have h1:decide (((bstr (bodyOf t)).size:Int)≥1)=true:=by rw [bstr_size];simp;omega
 have h2:decide (((bstr (bodyOf t)).size:Int)≤9)=false:=by rw [bstr_size];simp;omega
 have HC:=Lib.hid (cutPrefix_any t)
 clear h
 generalize bstr (bodyOf t)=S at HC h1 h2
 generalize decide (t.head?=some 45)=bl at HC
 go_enter Tryz.func50,Tryz.ntmps50
 go_wp2_with (first
  | (go_at_call 92;refine (HC.out _).mono ?_;rintro e w1 ⟨rfl,rfl⟩)
  | (go_at_call 23;refine (must_no _).mono ?_;rintro e w1 ⟨rfl,rfl⟩))
 exact ⟨rfl,rfl,HB.out⟩
set_option maxRecDepth 100000 in
set_option maxHeartbeats 4000000 in
theorem number_zero (t:List UInt8) (w:World) (r:List UInt8) (h:bodyOf t=48 :: r) (hn:r.length≤8) (hz:t≠[48]):Calls Tryz.prog 50 #[.agg #[.string (bstr t),.bool false]] w fun e w'=>e=.panicked bar∧Below w.heap.size w w':=by
 have HB:=Lib.hid (below_new w (.cells #[.string (bstr t),.bool false] 71))
 have h1:decide (((bstr (bodyOf t)).size:Int)≥1)=true:=by rw [bstr_size,h];simp;omega
 have h2:decide (((bstr (bodyOf t)).size:Int)≤9)=true:=by rw [bstr_size,h];simp;omega
 have h3:∀q,(bstr (bodyOf t))[0]'q=48:=by rw [h];intro q;rfl
 have HC:=Lib.hid (cutPrefix_any t)
 have h0:0<(bstr (bodyOf t)).size:=by rw [bstr_size,h];simp
 generalize hS:bstr (bodyOf t)=S at HC h0 h1 h2 h3
 generalize hbl:decide (t.head?=some 45)=bl at HC
 by_cases hr:r = []
 ·have hb:bl=true:=by
   rw [←hbl]
   by_cases q:t.head?=some 45
   ·simp [q]
   ·exfalso
    apply hz
    unfold bodyOf at h
    rw [if_neg q,hr] at h
    exact h
  subst hb
  have hS1:S=⟨#[48]⟩:=by rw [←hS,h,hr];rfl
  subst hS1
  clear hS h hz hbl h3
  go_enter Tryz.func50,Tryz.ntmps50
  go_wp2_with (first
   | (go_at_call 92;refine (HC.out _).mono ?_;rintro e w1 ⟨rfl,rfl⟩)
   | (go_at_call 23;refine (must_no _).mono ?_;rintro e w1 ⟨rfl,rfl⟩))
  exact ⟨rfl,rfl,HB.out⟩
 ·have h4:(S.toList==[48])=false:=by
   rw [←hS,h]
   exact str_ne (fun e=>hr (by cases e;rfl))
  clear hS h hz hbl hr
  go_enter Tryz.func50,Tryz.ntmps50
  go_wp2_with (first
   | (go_at_call 92;refine (HC.out _).mono ?_;rintro e w1 ⟨rfl,rfl⟩)
   | (go_at_call 23;refine (must_no _).mono ?_;rintro e w1 ⟨rfl,rfl⟩))
  exact ⟨rfl,rfl,HB.out⟩
def RowB (w:World) (q:Nat) (xs:List UInt8):Prop:=∀j,j<xs.length→w.cell? ⟨q,j,none⟩=some (.int .u8 (xs.getD j 0).toNat)
theorem conv_bytes (w:World) (xs:List UInt8):∃W2 cp q,(convert 9 22 (.string (bstr xs))).run Tryz.prog w=.ok (.slice (some ⟨q,0,none⟩) xs.length cp) W2∧Below w.heap.size w W2∧RowB W2 q xs:=by
 have h:=Lib.run_convert_string_bytes (P:=Tryz.prog) w 9 22 5 (bstr xs) Tryz.underlying9 Tryz.underlying22 Tryz.underlying5
 refine ⟨_,_,_,by rw [←bstr_size xs];exact h,below_bytes w _,fun j hj => ?_⟩
 have:=Lib.bytesWorld_cell w 5 (bstr xs) j (by rw [bstr_size];exact hj)
 rw [bstr_toList] at this
 exact this
theorem getD_get {l:List UInt8} {k:Nat} (h:k<l.length):l.getD k 0=l[k]:=by simp [List.getD,h]
theorem val_take {l:List UInt8} {k:Nat} (h:k<l.length):sp.val 0 (l.take (k+1))=sp.val 0 (l.take k)*10+((l.getD k 0).toNat-48):=by
 rw [List.take_add_one,List.getElem?_eq_getElem h,Option.toList_some,sp.val_append,sp.val_cons,sp.val_nil,getD_get h]
theorem val_small {l:List UInt8} (h:∀c∈l,sp.digitB c=true) (hn:l.length≤9):sp.val 0 l<1000000000:=by
 have h1:=sp.val_lt l h 0
 have h2:10 ^ l.length≤10 ^ 9:=Nat.pow_le_pow_right (by decide) hn
 omega
def DigIs (X:List UInt8) (bl:Bool) (e:Ending):Prop:=if X.all sp.digitB then e=.returned (.int .i64 (if bl then -(sp.val 0 X:Int) else (sp.val 0 X:Int))) else e=.panicked bar
set_option maxRecDepth 100000 in
set_option maxHeartbeats 4000000 in
theorem number_digits (t:List UInt8) (w:World) (X:List UInt8) (hX:bodyOf t=X) (bl:Bool) (hbl:decide (t.head?=some 45)=bl) (hn:1≤X.length) (hn9:X.length≤9) (hz:X.head?=some 48→X = [48]∧bl=false):Calls Tryz.prog 50 #[.agg #[.string (bstr t),.bool false]] w fun e w'=>DigIs X bl e∧Below w.heap.size w w':=by
 have h0:0<(bstr X).size:=by rw [bstr_size];exact hn
 have h1:decide (((bstr X).size:Int)≥1)=true:=by simp;omega
 have h2:decide (((bstr X).size:Int)≤9)=true:=by rw [bstr_size];simp;omega
 have HC:=Lib.hid (cutPrefix_any t)
 rw [hX,hbl] at HC
 obtain ⟨W2,cp,q,hcv,hbw,hrow⟩:=conv_bytes (w.alloc (.cells #[.string (bstr t),.bool false] 71)) X
 have HB:=Lib.hid ((below_new w (.cells #[.string (bstr t),.bool false] 71)).trans (hbw.mono (by simp)))
 have HROW:=Lib.hid hrow
 have HN:=Lib.hid hn9
 obtain ⟨c,r,hcr⟩:=List.exists_cons_of_ne_nil (List.ne_nil_of_length_pos hn)
 have h3:∀p,(bstr X)[0]'p=c:=by rw [hcr];intro p;rfl
 have h4:c=48→((bstr X).toList==[48])=true∧bl=false:=fun e=>by
  have:=hz (by rw [hcr,e];rfl)
  exact ⟨str_eq this.1,this.2⟩
 have HX:=Lib.hid (rfl:bstr X=bstr X)
 clear hX hbl hbw hrow hn hn9 hz hcr
 generalize hS:bstr X=S at HC h0 h1 h2 h3 h4 hcv
 have HSX:=Lib.hid hS
 clear hS HX
 have key:Calls Tryz.prog 50 #[.agg #[.string (bstr t),.bool false]] w fun e w'=>DigIs X bl e∧Below w.heap.size w w':=by
  by_cases hc:c=48
  ·obtain ⟨h5,rfl⟩:=h4 hc
   subst hc
   go_enter Tryz.func50,Tryz.ntmps50
   go_wp2_with (first
    | (go_at_call 92;refine (HC.out _).mono ?_;rintro e w1 ⟨rfl,rfl⟩)
    | (go_at_call 23;refine (must_yes _).mono ?_;rintro e w1 ⟨rfl,rfl⟩))
   go_loopw [5,44] (fun n i wr=>∃k:Nat,k≤X.length∧i=.int .i64 k∧n=.int .i64 (sp.val 0 (X.take k):Nat)∧(∀x∈X.take k,sp.digitB x=true)∧wr=W2) (fun _ i _=>X.length-(intOf i).toNat)
   case atStart=>exact ⟨0,Nat.zero_le _,rfl,rfl,fun _ h=>(by cases h),rfl⟩
   case round =>
    obtain ⟨k,hk,rfl,rfl,hd,rfl⟩:=hrel
    have HD:=Lib.hid hd
    clear hd
    by_cases hlt:k<X.length
    ·have hcell:=HROW.out k hlt
     have hv:=val_take hlt
     have hs:sp.val 0 (X.take k)<1000000000:=val_small HD.out (by rw [List.length_take];have:=HN.out;omega)
     have hmem:X.getD k 0∈X:=by rw [getD_get hlt];exact List.getElem_mem _
     have hset:∀x∈X.take (k+1),x∈X.take k∨x=X.getD k 0:=fun x hx=>by
      rw [List.take_add_one,List.getElem?_eq_getElem hlt,Option.toList_some] at hx
      rcases List.mem_append.1 hx with h | h
      ·exact .inl h
      ·rw [List.mem_singleton] at h
       exact .inr (by rw [h,getD_get hlt])
     have hX9:(X.length:Int)≤9:=by have:=HN.out;omega
     have HV:=Lib.hid hv;have HM:=Lib.hid hmem;have HSET:=Lib.hid hset
     clear hv hmem hset
     generalize X.getD k 0=K at hcell HV HM HSET
     have hK:=K.toNat_lt
     by_cases hdg:48≤K.toNat∧K.toNat≤57
     ·have t1:decide ((K.toNat:Int)≥48)=true:=by simp;omega
      have t2:decide ((K.toNat:Int)≤57)=true:=by simp;omega
      have hKd:sp.digitB K=true:=by unfold sp.digitB;simp;omega
      have hsub:((K.toNat:Int)-48)=((K.toNat-48:Nat):Int):=by omega
      have hb1:((K.toNat-48:Nat):Int)≤9:=by omega
      have HKD:=Lib.hid hKd
      generalize K.toNat-48=D at hsub hb1 HV
      generalize sp.val 0 (X.take k)=V at hs HV
      clear hdg hKd
      go_wp2_with (first
       | (go_at_call 23;refine (must_yes _).mono ?_;rintro e w1 ⟨rfl,rfl⟩))
      refine ⟨⟨k+1,by omega,by go_num,?_,fun x hx => ?_,trivial⟩,by simp [intOf];omega⟩
      ·rw [HV.out];simp
      ·rcases HSET.out x hx with h | h
       ·exact HD.out x h
       ·rw [h];exact HKD.out
     ·have hKd:sp.digitB K=false:=by unfold sp.digitB;simp;omega
      have HF:Hid (DigIs X false (.panicked bar)):=Lib.hid (by
       unfold DigIs
       rw [if_neg]
       intro hall
       have:=List.all_eq_true.1 hall K HM.out
       rw [hKd] at this
       cases this)
      by_cases q1:48≤K.toNat
      ·have t1:decide ((K.toNat:Int)≥48)=true:=by simp;omega
       have t2:decide ((K.toNat:Int)≤57)=false:=by simp;omega
       clear hdg hKd q1
       go_wp2_with (first
        | (go_at_call 23;refine (must_no _).mono ?_;rintro e w1 ⟨rfl,rfl⟩))
       exact ⟨rfl,HF.out,HB.out⟩
      ·have t1:decide ((K.toNat:Int)≥48)=false:=by simp;omega
       clear hdg hKd q1
       go_wp2_with (first
        | (go_at_call 23;refine (must_no _).mono ?_;rintro e w1 ⟨rfl,rfl⟩))
       exact ⟨rfl,HF.out,HB.out⟩
    ·have hke:k=X.length:=by omega
     subst hke
     have HF:Hid (DigIs X false (.returned (.int .i64 (if false then -(sp.val 0 X:Int) else (sp.val 0 X:Int))))):=Lib.hid (by
      unfold DigIs
      rw [if_pos]
      exact List.all_eq_true.2 fun x hx=>HD.out x (by rw [List.take_length];exact hx))
     have hs:sp.val 0 (X.take X.length)<1000000000:=val_small HD.out (by rw [List.take_length];exact HN.out)
     rw [List.take_length] at hs ⊢
     generalize sp.val 0 X=V at hs HF
     have hX9:(X.length:Int)≤9:=by have:=HN.out;omega
     go_wp2
     go_ret
     exact ⟨HF.out,HB.out⟩
  ·have t5:((c.toNat:Int)==48)=false:=u8ne c 48 hc
   have t5n:((c.toNat:Int) != 48)=true:=by rw [bne,t5];rfl
   clear h4
   go_enter Tryz.func50,Tryz.ntmps50
   go_wp2_with (first
    | (go_at_call 92;refine (HC.out _).mono ?_;rintro e w1 ⟨rfl,rfl⟩)
    | (go_at_call 23;refine (must_yes _).mono ?_;rintro e w1 ⟨rfl,rfl⟩))
   go_loopw [5,44] (fun n i wr=>∃k:Nat,k≤X.length∧i=.int .i64 k∧n=.int .i64 (sp.val 0 (X.take k):Nat)∧(∀x∈X.take k,sp.digitB x=true)∧wr=W2) (fun _ i _=>X.length-(intOf i).toNat)
   case atStart=>exact ⟨0,Nat.zero_le _,rfl,rfl,fun _ h=>(by cases h),rfl⟩
   case round =>
    obtain ⟨k,hk,rfl,rfl,hd,rfl⟩:=hrel
    have HD:=Lib.hid hd
    clear hd
    by_cases hlt:k<X.length
    ·have hcell:=HROW.out k hlt
     have hv:=val_take hlt
     have hs:sp.val 0 (X.take k)<1000000000:=val_small HD.out (by rw [List.length_take];have:=HN.out;omega)
     have hmem:X.getD k 0∈X:=by rw [getD_get hlt];exact List.getElem_mem _
     have hset:∀x∈X.take (k+1),x∈X.take k∨x=X.getD k 0:=fun x hx=>by
      rw [List.take_add_one,List.getElem?_eq_getElem hlt,Option.toList_some] at hx
      rcases List.mem_append.1 hx with h | h
      ·exact .inl h
      ·rw [List.mem_singleton] at h
       exact .inr (by rw [h,getD_get hlt])
     have hX9:(X.length:Int)≤9:=by have:=HN.out;omega
     have HV:=Lib.hid hv;have HM:=Lib.hid hmem;have HSET:=Lib.hid hset
     clear hv hmem hset
     generalize X.getD k 0=K at hcell HV HM HSET
     have hK:=K.toNat_lt
     by_cases hdg:48≤K.toNat∧K.toNat≤57
     ·have t1:decide ((K.toNat:Int)≥48)=true:=by simp;omega
      have t2:decide ((K.toNat:Int)≤57)=true:=by simp;omega
      have hKd:sp.digitB K=true:=by unfold sp.digitB;simp;omega
      have hsub:((K.toNat:Int)-48)=((K.toNat-48:Nat):Int):=by omega
      have hb1:((K.toNat-48:Nat):Int)≤9:=by omega
      have HKD:=Lib.hid hKd
      generalize K.toNat-48=D at hsub hb1 HV
      generalize sp.val 0 (X.take k)=V at hs HV
      clear hdg hKd
      go_wp2_with (first
       | (go_at_call 23;refine (must_yes _).mono ?_;rintro e w1 ⟨rfl,rfl⟩))
      refine ⟨⟨k+1,by omega,by go_num,?_,fun x hx => ?_,trivial⟩,by simp [intOf];omega⟩
      ·rw [HV.out];simp
      ·rcases HSET.out x hx with h | h
       ·exact HD.out x h
       ·rw [h];exact HKD.out
     ·have hKd:sp.digitB K=false:=by unfold sp.digitB;simp;omega
      have HF:Hid (DigIs X bl (.panicked bar)):=Lib.hid (by
       unfold DigIs
       rw [if_neg]
       intro hall
       have:=List.all_eq_true.1 hall K HM.out
       rw [hKd] at this
       cases this)
      by_cases q1:48≤K.toNat
      ·have t1:decide ((K.toNat:Int)≥48)=true:=by simp;omega
       have t2:decide ((K.toNat:Int)≤57)=false:=by simp;omega
       clear hdg hKd q1
       go_wp2_with (first
        | (go_at_call 23;refine (must_no _).mono ?_;rintro e w1 ⟨rfl,rfl⟩))
       exact ⟨rfl,HF.out,HB.out⟩
      ·have t1:decide ((K.toNat:Int)≥48)=false:=by simp;omega
       clear hdg hKd q1
       go_wp2_with (first
        | (go_at_call 23;refine (must_no _).mono ?_;rintro e w1 ⟨rfl,rfl⟩))
       exact ⟨rfl,HF.out,HB.out⟩
    ·have hke:k=X.length:=by omega
     subst hke
     have HF:Hid (DigIs X bl (.returned (.int .i64 (if bl then -(sp.val 0 X:Int) else (sp.val 0 X:Int))))):=Lib.hid (by
      unfold DigIs
      rw [if_pos]
      exact List.all_eq_true.2 fun x hx=>HD.out x (by rw [List.take_length];exact hx))
     have hs:sp.val 0 (X.take X.length)<1000000000:=val_small HD.out (by rw [List.take_length];exact HN.out)
     rw [List.take_length] at hs ⊢
     generalize sp.val 0 X=V at hs HF
     have hX9:(X.length:Int)≤9:=by have:=HN.out;omega
     cases bl
     ·go_wp2
      go_ret
      exact ⟨HF.out,HB.out⟩
     ·go_wp2
      go_ret
      exact ⟨HF.out,HB.out⟩
 exact key
theorem num_body (t:List UInt8):sp.num t=if bodyOf t = []∨9<(bodyOf t).length∨((bodyOf t).head?=some 48∧t≠[48]) then none else if (bodyOf t).all sp.digitB then some (if t.head?=some 45 then -(sp.val 0 (bodyOf t):Int) else (sp.val 0 (bodyOf t):Int)) else none:=rfl
theorem wnum_any (p:List UInt8×Bool) (w:World):Calls Tryz.prog 50 #[.agg #[.string (bstr p.1),.bool p.2]] w fun e w'=>NumIs p e∧Below w.heap.size w w':=by
 obtain ⟨t,q⟩:=p
 cases q with
 | true=>exact (number_quoted t w).mono fun e w' ⟨h1,h2⟩=>⟨h1,h2⟩
 | false =>
  have e0:sp.wNum (t,false)=sp.num t:=rfl
  have hm:bodyOf t = []∨9<(bodyOf t).length∨((bodyOf t).head?=some 48∧t≠[48])→∀e,e=.panicked bar→NumIs (t,false) e:=fun h e he=>by
   unfold NumIs
   rw [e0,num_body,if_pos h]
   exact he
  by_cases h1:bodyOf t = []
  ·exact (number_empty t w h1).mono fun e w' ⟨k1,k2⟩=>⟨hm (.inl h1) e k1,k2⟩
  by_cases h2:9<(bodyOf t).length
  ·exact (number_long t w h2).mono fun e w' ⟨k1,k2⟩=>⟨hm (.inr (.inl h2)) e k1,k2⟩
  by_cases h3:(bodyOf t).head?=some 48∧t≠[48]
  ·obtain ⟨r,hr⟩:∃r,bodyOf t=48 :: r:=by
    cases hb:bodyOf t with
    | nil=>exact absurd hb h1
    | cons c r=>rw [hb] at h3;obtain ⟨h3,_⟩:=h3;cases h3;exact ⟨r,rfl⟩
   exact (number_zero t w r hr (by rw [hr] at h2;simp at h2;omega) h3.2).mono fun e w' ⟨k1,k2⟩=>⟨hm (.inr (.inr h3)) e k1,k2⟩
  refine (number_digits t w (bodyOf t) rfl _ rfl (List.length_pos_iff.2 h1) (by omega) fun h => ?_).mono fun e w' ⟨k1,k2⟩=>⟨?_,k2⟩
  ·have ht:t = [48]:=Classical.byContradiction fun hne=>h3 ⟨h,hne⟩
   subst ht
   exact ⟨rfl,rfl⟩
  ·unfold NumIs
   rw [e0,num_body,if_neg (fun h=>h.elim h1 fun h=>h.elim h2 h3)]
   unfold DigIs at k1
   by_cases ha:(bodyOf t).all sp.digitB=true
   ·rw [if_pos ha] at k1 ⊢
    rw [k1]
    simp only [decide_eq_true_eq]
   ·rw [if_neg ha] at k1 ⊢
    exact k1
theorem bstr_at {l:List UInt8} {k:Nat} (h:k<l.length):∀p,(bstr l)[k]'p=l.getD k 0:=fun p=>by
 rw [getD_get h]
 rfl
theorem digB_iff (c:UInt8):sp.digitB c=true↔48≤c.toNat∧c.toNat≤57:=by unfold sp.digitB;simp
theorem take_all {f:UInt8→Bool} {l:List UInt8} {k:Nat} (h:∀x∈l.take k,f x=true) (hk:k≤l.length) (hn:k<l.length→f (l.getD k 0)=false):l.takeWhile f=l.take k∧l.dropWhile f=l.drop k:=by
 have:=while_at (f:=f) (t:=l.take k) (r:=l.drop k) h (fun c hc=>by
  by_cases hlt:k<l.length
  ·have e:=hn hlt
   rw [List.head?_drop,List.getElem?_eq_getElem hlt] at hc
   cases hc
   rw [getD_get hlt] at e
   exact e
  ·rw [List.drop_eq_nil_of_le (by omega)] at hc
   cases hc)
 rw [List.take_append_drop] at this
 exact this
theorem take_step {l:List UInt8} {k:Nat} (hlt:k<l.length):∀x∈l.take (k+1),x∈l.take k∨x=l.getD k 0:=fun x hx=>by
 rw [List.take_add_one,List.getElem?_eq_getElem hlt,Option.toList_some] at hx
 rcases List.mem_append.1 hx with h | h
 ·exact .inl h
 ·rw [List.mem_singleton] at h
  exact .inr (by rw [h,getD_get hlt])
set_option maxRecDepth 100000 in
set_option maxHeartbeats 4000000 in
theorem digits_any (X:List UInt8) (w:World) (hn:X.length≤1099511627776):Calls Tryz.prog 156 #[.string (bstr X)] w fun e w'=>e=.returned (.int .i64 ((X.takeWhile sp.digitB).length:Nat))∧w'=w:=by
 have HN:=Lib.hid hn
 have hsz:=bstr_size X
 clear hn
 go_enter Tryz.func156,Tryz.ntmps156
 go_wp2
 go_loopw [3] (fun i wr=>∃k:Nat,k≤X.length∧i=.int .i64 k∧(∀x∈X.take k,sp.digitB x=true)∧wr=w) (fun i _=>X.length-(intOf i).toNat)
 case atStart=>exact ⟨0,Nat.zero_le _,rfl,fun _ h=>(by cases h),rfl⟩
 case round =>
  obtain ⟨k,hk,rfl,hd,rfl⟩:=hrel
  have HD:=Lib.hid hd
  have hkb:(k:Int)≤1099511627776:=by have:=HN.out;omega
  clear hd
  by_cases hlt:k<X.length
  ·have hat:=bstr_at hlt
   have HSET:=Lib.hid (take_step hlt)
   have HTW:=Lib.hid (fun h=>take_all (f:=sp.digitB) HD.out hk (fun _=>h))
   have t0:decide ((k:Int)<(X.length:Int))=true:=by simp;omega
   generalize X.getD k 0=K at hat HSET HTW
   have hK:=K.toNat_lt
   by_cases hdg:48≤K.toNat∧K.toNat≤57
   ·have t1:decide ((K.toNat:Int)≥48)=true:=by simp;omega
    have t2:decide ((K.toNat:Int)≤57)=true:=by simp;omega
    have HKD:=Lib.hid ((digB_iff K).2 hdg)
    clear hdg
    go_wp2
    refine ⟨⟨k+1,by omega,by go_num,fun x hx => ?_,trivial⟩,by simp [intOf];omega⟩
    rcases HSET.out x hx with h | h
    ·exact HD.out x h
    ·rw [h];exact HKD.out
   ·have HF:Hid ((X.takeWhile sp.digitB).length=k):=Lib.hid (by
     have hf:sp.digitB K=false:=by
      cases hb:sp.digitB K with
      | false=>rfl
      | true=>exact absurd ((digB_iff K).1 hb) hdg
     rw [(HTW.out hf).1,List.length_take];omega)
    by_cases q1:48≤K.toNat
    ·have t1:decide ((K.toNat:Int)≥48)=true:=by simp;omega
     have t2:decide ((K.toNat:Int)≤57)=false:=by simp;omega
     clear hdg q1
     go_wp2
     go_ret
     exact ⟨by rw [HF.out];rfl,rfl⟩
    ·have t1:decide ((K.toNat:Int)≥48)=false:=by simp;omega
     clear hdg q1
     go_wp2
     go_ret
     exact ⟨by rw [HF.out];rfl,rfl⟩
  ·have HF:Hid ((X.takeWhile sp.digitB).length=k):=Lib.hid (by
    rw [(take_all (f:=sp.digitB) HD.out hk (fun h=>absurd h hlt)).1,List.length_take];omega)
   have t0:decide ((k:Int)<(X.length:Int))=false:=by simp;omega
   go_wp2
   go_ret
   exact ⟨by rw [HF.out];rfl,rfl⟩
def WholeP (X:List UInt8) (v:Int) (u:List UInt8) (ok:Bool):Prop:=sp.I64 v∧(if ok then X.takeWhile sp.digitB≠[]∧(X.takeWhile sp.digitB).length≤19∧v=sp.val 0 (X.takeWhile sp.digitB)∧sp.val 0 (X.takeWhile sp.digitB)≤9223372036854775807∧u=X.dropWhile sp.digitB
 else X.takeWhile sp.digitB = []∨19<(X.takeWhile sp.digitB).length∨9223372036854775807<sp.val 0 (X.takeWhile sp.digitB))
theorem tw_all (X:List UInt8):∀x∈X.takeWhile sp.digitB,sp.digitB x=true:=fun x hx=>by
 have:=List.all_takeWhile (l:=X) (p:=sp.digitB)
 exact List.all_eq_true.1 this x hx
theorem tw_take (X:List UInt8):X.take (X.takeWhile sp.digitB).length=X.takeWhile sp.digitB∧X.drop (X.takeWhile sp.digitB).length=X.dropWhile sp.digitB:=by
 have h:=List.takeWhile_append_dropWhile (p:=sp.digitB) (l:=X)
 generalize X.takeWhile sp.digitB=a at h
 generalize X.dropWhile sp.digitB=b at h
 subst h
 exact ⟨List.take_left,List.drop_left⟩
theorem ext_take (X:List UInt8) (k:Nat) (h:k≤X.length):(bstr X).extract 0 k=bstr (X.take k):=by
 have:=extract_bstr (s:=bstr X) (p:=[]) (t:=X.take k) (r:=X.drop k) (by rw [bstr_toList];simp)
 rw [List.length_take,Nat.min_eq_left h] at this
 simpa using this
theorem ext_drop (X:List UInt8) (k n:Nat) (h:k≤X.length) (hn:n=X.length):(bstr X).extract k n=bstr (X.drop k):=by
 subst hn
 have:=extract_bstr (s:=bstr X) (p:=X.take k) (t:=X.drop k) (r:=[]) (by rw [bstr_toList];simp)
 rw [List.length_take,Nat.min_eq_left h,List.length_drop] at this
 rw [show k+(X.length-k)=X.length by omega] at this
 exact this
theorem wrap_I64 (x:Int):sp.I64 (wrap64 x):=by
 unfold sp.I64 wrap64
 constructor<;>omega
theorem val_19 {l:List UInt8} (h:∀c∈l,sp.digitB c=true) (hn:l.length≤19):sp.val 0 l<10000000000000000000:=by
 have h1:=sp.val_lt l h 0
 have h2:10 ^ l.length≤10 ^ 19:=Nat.pow_le_pow_right (by decide) hn
 omega
theorem val_18 {l:List UInt8} {k:Nat} (h:∀c∈l.take k,sp.digitB c=true) (hk:k<l.length) (hn:l.length≤19):sp.val 0 (l.take k)<1000000000000000000:=by
 have h1:=sp.val_lt (l.take k) h 0
 have h2:10 ^ (l.take k).length≤10 ^ 18:=Nat.pow_le_pow_right (by decide) (by rw [List.length_take];omega)
 omega
set_option maxRecDepth 100000 in
set_option maxHeartbeats 4000000 in
theorem whole_any (X:List UInt8) (w:World) (hn:X.length≤1099511627776):Calls Tryz.prog 124 #[.string (bstr X)] w fun e w'=>(∃v u ok,e=.returned (.tuple #[.int .i64 v,.string (bstr u),.bool ok])∧WholeP X v u ok)∧Below w.heap.size w w':=by
 have HD:=Lib.hid (digits_any X w hn)
 obtain ⟨n,hN⟩:∃n,n=(X.takeWhile sp.digitB).length:=⟨_,rfl⟩
 have hle:n≤X.length:=by rw [hN];exact (List.takeWhile_sublist sp.digitB).length_le
 have hnb:(n:Int)≤1099511627776:=by omega
 rw [←hN] at HD
 have hsz:=bstr_size X
 by_cases h0:n=0
 ·have HF:Hid (WholeP X 0 [] false):=Lib.hid ⟨by constructor<;>decide,.inl (List.length_eq_zero_iff.1 (by omega))⟩
  subst h0
  clear hN hn
  go_enter Tryz.func124,Tryz.ntmps124
  go_wp2_with (go_at_call 156;refine HD.out.mono ?_;rintro e w1 ⟨rfl,rfl⟩)
  go_ret3
  exact ⟨⟨0,[],false,rfl,HF.out⟩,Below.refl _ _⟩
 ·by_cases h19:n≤19
  ·obtain ⟨W2,cp,q,hcv,hbw,hrow⟩:=conv_bytes w (X.take n)
   have HB:=Lib.hid hbw;have HROW:=Lib.hid hrow
   rw [←ext_take X n hle] at hcv
   have hlen:(X.take n).length=n:=by rw [List.length_take];omega
   rw [hlen] at hcv
   have htw:=tw_take X
   rw [←hN] at htw
   have HALL:Hid (∀x∈X.take n,sp.digitB x=true):=Lib.hid (fun x hx=>by rw [htw.1] at hx;exact tw_all X x hx)
   have hed:(bstr X).extract n X.length=bstr (X.drop n):=ext_drop X n _ hle rfl
   have HTW:=Lib.hid htw;have HED:=Lib.hid hed
   have t0:decide ((n:Int)>19)=false:=by simp;omega
   have t1:((n:Int)==0)=false:=by simp;omega
   have HLEN:=Lib.hid hlen;have H0:=Lib.hid h0
   clear hbw hrow hN hn h0 htw hed hlen
   go_enter Tryz.func124,Tryz.ntmps124
   go_wp2_with (go_at_call 156;refine HD.out.mono ?_;rintro e w1 ⟨rfl,rfl⟩)
   go_loopw [6,22] (fun v i wr=>∃k:Nat,k≤n∧i=.int .i64 k∧v=.int .u64 (sp.val 0 ((X.take n).take k):Nat)∧wr=W2) (fun _ i _=>n-(intOf i).toNat)
   case atStart=>exact ⟨0,Nat.zero_le _,rfl,rfl,rfl⟩
   case round =>
    obtain ⟨k,hk,rfl,rfl,rfl⟩:=hrel
    by_cases hlt:k<n
    ·have hlt':k<(X.take n).length:=by rw [HLEN.out];exact hlt
     have hcell:=HROW.out k hlt'
     have hv:=val_take hlt'
     have hs:sp.val 0 ((X.take n).take k)<1000000000000000000:=val_18 (fun x hx=>HALL.out x (List.mem_of_mem_take hx)) hlt' (by rw [HLEN.out];omega)
     have hd:=(digB_iff _).1 (HALL.out ((X.take n).getD k 0) (by rw [getD_get hlt'];exact List.getElem_mem _))
     have hkb:(k:Int)≤19:=by omega
     have HV:=Lib.hid hv
     clear hv
     generalize (X.take n).getD k 0=K at hcell HV hd
     have hsub:((K.toNat:Int)-48)=((K.toNat-48:Nat):Int):=by omega
     have hb1:((K.toNat-48:Nat):Int)≤9:=by omega
     generalize K.toNat-48=D at hsub hb1 HV
     generalize sp.val 0 ((X.take n).take k)=V at hs HV
     clear hd
     go_wp2
     refine ⟨⟨k+1,by omega,by go_num,?_,trivial⟩,by simp [intOf];omega⟩
     rw [HV.out];simp
    ·have hke:k=n:=by omega
     subst hke
     have hs:sp.val 0 ((X.take k).take k)<10000000000000000000:=val_19 (fun x hx=>HALL.out x (List.mem_of_mem_take hx)) (by rw [List.length_take,HLEN.out];omega)
     have HE:Hid ((X.take k).take k=X.takeWhile sp.digitB):=Lib.hid (by rw [List.take_take,Nat.min_self];exact HTW.out.1)
     rw [HE.out] at hs ⊢
     have HNE:Hid (X.takeWhile sp.digitB≠[]∧(X.takeWhile sp.digitB).length≤19):=Lib.hid (by
      rw [←HTW.out.1]
      refine ⟨fun e => ?_,by rw [HLEN.out];omega⟩
      have:=HLEN.out
      rw [e] at this
      simp at this
      exact H0.out this.symm)
     by_cases hm:sp.val 0 (X.takeWhile sp.digitB)≤9223372036854775807
     ·have HF:Hid (WholeP X (sp.val 0 (X.takeWhile sp.digitB):Nat) (X.drop k) true):=Lib.hid ⟨by constructor<;>omega,HNE.out.1,HNE.out.2,rfl,hm,HTW.out.2⟩
      generalize sp.val 0 (X.takeWhile sp.digitB)=V at hs hm HF
      go_wp2
      have hdv:decide ((V:Int)≤9223372036854775807)=true:=by simp;omega
      go_region
      all_goals
       go_wp2
       go_ret3
       exact ⟨⟨(V:Int),X.drop k,true,by rw [HED.out];rfl,HF.out⟩,HB.out.drew⟩
     ·have HF:Hid (∀v u,sp.I64 v→WholeP X v u false):=Lib.hid (fun v u hv=>⟨hv,.inr (.inr (by omega))⟩)
      have hdv:decide (((sp.val 0 (X.takeWhile sp.digitB):Nat):Int)≤9223372036854775807)=false:=by simp;omega
      generalize sp.val 0 (X.takeWhile sp.digitB)=V at hs hm HF hdv
      go_wp2
      go_region
      all_goals
       go_wp2
       go_ret3
       exact ⟨⟨wrap64 (V:Int),_,false,rfl,HF.out _ _ (wrap_I64 _)⟩,HB.out.drew⟩
  ·have t0:decide ((n:Int)>19)=true:=by simp;omega
   have t1:((n:Int)==0)=false:=by simp;omega
   have HF:Hid (WholeP X 0 [] false):=Lib.hid ⟨by constructor<;>decide,.inr (.inl (by omega))⟩
   clear hN hn h0 h19
   go_enter Tryz.func124,Tryz.ntmps124
   go_wp2_with (go_at_call 156;refine HD.out.mono ?_;rintro e w1 ⟨rfl,rfl⟩)
   go_ret3
   exact ⟨⟨0,[],false,rfl,HF.out⟩,Below.refl _ _⟩
def FracIs (X:List UInt8) (e:Ending):Prop:=match sp.fracS X with
 | some p=>e=.returned (.tuple #[.agg #[.int .i64 p.1,.int .i64 p.2],.int .i64 0])
 | none=>e=.returned (.tuple #[.agg #[.int .i64 0,.int .i64 0],.int .i64 3])
theorem may_over:sp.MayP 0 0∧sp.ratS 0 0=sp.over:=by
 refine ⟨.inl ⟨rfl,rfl⟩,?_⟩
 unfold sp.ratS
 rw [if_neg]
 rintro ⟨h,_⟩
 omega
theorem frac_over:sp.fracS sp.over=some (0,0):=by
 have:=sp.fracS_yes (n:=0) (d:=0) (by constructor<;>decide) (by constructor<;>decide) may_over.1
 rwa [may_over.2] at this
theorem may_sure {n d:Int} {X:List UInt8} (h:sp.MayP n d) (he:sp.ratS n d=X) (hX:X≠sp.over):sp.SureP n d:=by
 rcases h with ⟨rfl,rfl⟩ | h
 ·exact absurd (he.symm.trans may_over.2) hX
 ·exact h
theorem dec_tw (m:Nat) (r:List UInt8) (hr:∀c,r.head?=some c→sp.digitB c=false):(Lib.decDigits m++r).takeWhile sp.digitB=Lib.decDigits m∧(Lib.decDigits m++r).dropWhile sp.digitB=r:=while_at (sp.dec_all m) hr
theorem frac_fwd {n d:Int} {X:List UInt8} (h:sp.SureP n d) (he:sp.ratS n d=X):(X.head?=some 45↔n<0)∧(bodyOf X).takeWhile sp.digitB=Lib.decDigits n.natAbs∧(bodyOf X).dropWhile sp.digitB=(if 1<d then 47 :: Lib.decDigits d.toNat else []):=by
 have hd:(if 1<d then 47 :: Lib.itoa d else [])=(if 1<d then 47 :: Lib.decDigits d.toNat else []:List UInt8):=by
  split
  ·obtain ⟨k,rfl⟩:∃k:Nat,d=k:=⟨d.toNat,by omega⟩
   rw [sp.itoa_nat];rfl
  ·rfl
 have htail:∀c,(if 1<d then 47 :: Lib.decDigits d.toNat else []:List UInt8).head?=some c→sp.digitB c=false:=by
  intro c hc
  split at hc
  ·cases hc;rfl
  ·cases hc
 unfold sp.ratS at he
 rw [if_pos h,hd] at he
 generalize (if 1<d then 47 :: Lib.decDigits d.toNat else []:List UInt8)=T at he htail
 by_cases hn:n<0
 ·have e1:Lib.itoa n=45 :: Lib.decDigits n.natAbs:=by
   rw [show n = -((n.natAbs:Nat):Int) by omega,sp.itoa_minus _ (by omega)];simp
  rw [e1] at he
  subst he
  have:=dec_tw n.natAbs T htail
  refine ⟨by simp [hn],?_⟩
  unfold bodyOf
  rw [List.cons_append,List.head?_cons,if_pos rfl,List.tail_cons]
  exact this
 ·have e1:Lib.itoa n=Lib.decDigits n.natAbs:=by
   rw [show n=((n.natAbs:Nat):Int) by omega,sp.itoa_nat];simp
  rw [e1] at he
  subst he
  have hh:(Lib.decDigits n.natAbs++T).head?≠some 45:=by
   rw [sp.head_append (sp.dec_ne _)]
   exact sp.dec_head_ne _
  have:=dec_tw n.natAbs T htail
  refine ⟨⟨fun h=>absurd h hh,fun h=>absurd h hn⟩,?_⟩
  unfold bodyOf
  rw [if_neg hh]
  exact this
theorem nDigits_le19 {u:Nat} (h:u≤9223372036854775807):Lib.nDigits u≤19:=by
 by_cases h0:u=0
 ·subst h0;rw [Lib.nDigits_small (by omega)];omega
 ·obtain ⟨c,r,e,hc⟩:=sp.dec_head_digit u
  have hv:=sp.dec_val u
  have hh:=sp.dec_head u h0
  have hl:=Lib.decDigits_length u
  rw [e] at hv hh hl
  have hc:=(digB_iff c).1 hc
  have hne:c.toNat≠48:=fun h=>hh (by simp only [List.head?_cons,Option.some.injEq];exact UInt8.toNat_inj.1 h)
  rw [sp.val_cons] at hv
  have h2:=sp.val_le r (0*10+(c.toNat-48))
  rw [hv] at h2
  simp only [List.length_cons] at hl
  by_cases hr:r.length≤18
  ·omega
  ·have h3:(10:Nat) ^ 19≤10 ^ r.length:=Nat.pow_le_pow_right (by decide) (by omega)
   have h4:1*10 ^ r.length≤(0*10+(c.toNat-48))*10 ^ r.length:=Nat.mul_le_mul_right _ (by omega)
   have h5:(10:Nat) ^ 19=10000000000000000000:=by decide
   omega
theorem whole_fwd {Y:List UInt8} {v:Int} {u:List UInt8} {ok:Bool} {m:Nat} (h:WholeP Y v u ok) (hY:Y.takeWhile sp.digitB=Lib.decDigits m) (hm:m≤9223372036854775807):ok=true∧v=m∧u=Y.dropWhile sp.digitB:=by
 have hv:sp.val 0 (Y.takeWhile sp.digitB)=m:=by rw [hY,sp.dec_val]
 obtain ⟨_,h⟩:=h
 cases ok with
 | true =>
  rw [if_pos rfl] at h
  obtain ⟨_,_,h3,_,h5⟩:=h
  exact ⟨rfl,by rw [h3,hv],h5⟩
 | false =>
  exfalso
  rw [if_neg (by decide),hv,hY] at h
  rcases h with h | h | h
  ·exact sp.dec_ne m h
  ·have h1:=Lib.decDigits_length m
   have h2:=nDigits_le19 hm
   omega
  ·omega
theorem frac_none {X:List UInt8} (hX:X≠sp.over) (h:∀n d,sp.I64 n→sp.I64 d→sp.SureP n d→sp.ratS n d=X→False):FracIs X (.returned (.tuple #[.agg #[.int .i64 0,.int .i64 0],.int .i64 3])):=by
 unfold FracIs
 rw [sp.fracS_no fun n d h1 h2 h3 h4=>h n d h1 h2 (may_sure h3 h4 hX) h4]
theorem frac_some {X:List UInt8} {n d:Int} (h1:sp.I64 n) (h2:sp.I64 d) (h3:sp.SureP n d) (h4:sp.ratS n d=X):FracIs X (.returned (.tuple #[.agg #[.int .i64 n,.int .i64 d],.int .i64 0])):=by
 unfold FracIs
 rw [←h4,sp.fracS_yes h1 h2 (.inr h3)]
section
variable {X:List UInt8} {v v2:Int} {u u2 u3:List UInt8} {ok ok2:Bool}
theorem sure_small {n d:Int} (h1:sp.I64 n) (h:sp.SureP n d):n.natAbs≤9223372036854775807:=by
 obtain ⟨_,h3,_⟩:=h
 obtain ⟨a,b⟩:=h1
 omega
def sgn (X:List UInt8) (v:Int):Int:=if X.head?=some 45 then -v else v
theorem sgn_abs {n d:Int} (h:sp.SureP n d) (he:sp.ratS n d=X):sgn X n.natAbs=n:=by
 have:=(frac_fwd h he).1
 unfold sgn
 split
 ·rename_i q;have:=this.1 q;omega
 ·rename_i q;have:¬n<0:=fun h=>q (this.2 h);omega
theorem frac_first (hX:X≠sp.over) (h:WholeP (bodyOf X) v u ok) {n d:Int} (h1:sp.I64 n) (h3:sp.SureP n d) (h4:sp.ratS n d=X):ok=true∧v=n.natAbs∧u=if 1<d then 47 :: Lib.decDigits d.toNat else []:=by
 obtain ⟨_,k2,k3⟩:=frac_fwd h3 h4
 have:=whole_fwd h k2 (sure_small h1 h3)
 exact ⟨this.1,this.2.1,this.2.2.trans k3⟩
theorem frac_L1 (hX:X≠sp.over) (h:WholeP (bodyOf X) v u false):FracIs X (.returned (.tuple #[.agg #[.int .i64 0,.int .i64 0],.int .i64 3])) :=
 frac_none hX fun n d h1 _ h3 h4=>by
  have:=(frac_first hX h h1 h3 h4).1
  cases this
theorem frac_L3 {c:UInt8} (hX:X≠sp.over) (h:WholeP (bodyOf X) v (c :: u) ok) (hc:c≠47):FracIs X (.returned (.tuple #[.agg #[.int .i64 0,.int .i64 0],.int .i64 3])) :=
 frac_none hX fun n d h1 _ h3 h4=>by
  have:=(frac_first hX h h1 h3 h4).2.2
  split at this
  ·cases this;exact hc rfl
  ·cases this
theorem frac_L2 (hX:X≠sp.over) (h:WholeP (bodyOf X) v [] ok) (hno:¬(sp.SureP (sgn X v) 1∧sp.ratS (sgn X v) 1=X)):FracIs X (.returned (.tuple #[.agg #[.int .i64 0,.int .i64 0],.int .i64 3])) :=
 frac_none hX fun n d h1 _ h3 h4=>by
  obtain ⟨_,e2,e3⟩:=frac_first hX h h1 h3 h4
  have hd:d=1:=by
   have:=h3.1
   by_cases q:1<d
   ·rw [if_pos q] at e3;cases e3
   ·omega
  subst hd
  rw [e2,sgn_abs h3 h4] at hno
  exact hno ⟨h3,h4⟩
theorem frac_second (hX:X≠sp.over) (h:WholeP (bodyOf X) v (47 :: u2) ok) (h2:WholeP u2 v2 u3 ok2) {n d:Int} (h1:sp.I64 n) (hd:sp.I64 d) (h3:sp.SureP n d) (h4:sp.ratS n d=X):ok2=true∧v=n.natAbs∧v2=d∧u3 = []:=by
 obtain ⟨_,e2,e3⟩:=frac_first hX h h1 h3 h4
 have q:1<d:=Classical.byContradiction fun q=>by rw [if_neg q] at e3;cases e3
 rw [if_pos q] at e3
 cases e3
 have hw:=dec_tw d.toNat [] (fun _ h=>by cases h)
 rw [List.append_nil] at hw
 have:=whole_fwd h2 hw.1 (by have:=hd.2;omega)
 exact ⟨this.1,e2,by rw [this.2.1];omega,this.2.2.trans hw.2⟩
theorem frac_L4a (hX:X≠sp.over) (h:WholeP (bodyOf X) v (47 :: u2) ok) (h2:WholeP u2 v2 u3 false):FracIs X (.returned (.tuple #[.agg #[.int .i64 0,.int .i64 0],.int .i64 3])) :=
 frac_none hX fun n d h1 hd h3 h4=>by
  have:=(frac_second hX h h2 h1 hd h3 h4).1
  cases this
theorem frac_L4b (hX:X≠sp.over) (h:WholeP (bodyOf X) v (47 :: u2) ok) (h2:WholeP u2 v2 u3 ok2) (h0:u3≠[]):FracIs X (.returned (.tuple #[.agg #[.int .i64 0,.int .i64 0],.int .i64 3])) :=
 frac_none hX fun n d h1 hd h3 h4=>h0 (frac_second hX h h2 h1 hd h3 h4).2.2.2
theorem frac_L4c (hX:X≠sp.over) (h:WholeP (bodyOf X) v (47 :: u2) ok) (h2:WholeP u2 v2 u3 ok2) (hno:¬(sp.SureP (sgn X v) v2∧sp.ratS (sgn X v) v2=X)):FracIs X (.returned (.tuple #[.agg #[.int .i64 0,.int .i64 0],.int .i64 3])) :=
 frac_none hX fun n d h1 hd h3 h4=>by
  obtain ⟨_,e2,e3,_⟩:=frac_second hX h h2 h1 hd h3 h4
  rw [e2,e3,sgn_abs h3 h4] at hno
  exact hno ⟨h3,h4⟩
end
theorem results_row_tmp {P:Program} {fn:Func} {p u:Tmp} {ty:TypeId} (h:fn.results=#[.cell p ty,.tmp u]) (tmps:Array Value) (w:World) (g:Nat) (t:TypeId) (cs:Array Value) (fr:Nat×Nat) (d:TypeDesc)
  (hp:tmps.getD p undef=.pointer (some ⟨g,0,none⟩)) (hg:w.heap[g]?=some (.cells cs t fr))
  (hu:P.underlying ty=some d) (hd:(match d with | .struct _ | .array _ _=>true | _=>false)=true) (hi:(P.info? ty).map (·.size)=some cs.size) :
  (results fn tmps).run P w=.ok (.tuple #[.agg cs,tmps.getD u undef]) w:=by
 rw [results_cell_tmp h,hp]
 have hl:=run_loadVar_row (P:=P) w g t ty cs fr d hg hu hd hi
 simp only [asAddr,Sem.run_pure,Result.andThen_ok,hl]
theorem info24:(Tryz.prog.info? 24).map (·.size)=some 2:=by kernel_rfl
theorem ret_frac {W:World} {g:Nat} {a b:Value} {e:Value} {fn:Func} {tmps:Array Value} {R:Ending→World→Prop} (hr:fn.results=#[.cell 2 24,.tmp 3]) (hp:tmps.getD 2 undef=.pointer (some ⟨g,0,none⟩)) (he:tmps.getD 3 undef=e) (hg:W.heap[g]?=some (.cells #[a,b] 24 (0,0)))
  (h:R (.returned (.tuple #[.agg #[a,b],e])) W):bodyPost Tryz.prog fn R .ret ⟨tmps,[]⟩ W:=by
 refine bodyPost_ret (results_row_tmp hr tmps W g 24 #[a,b] (0,0) _ hp hg Tryz.underlying24 rfl info24) rfl ?_
 rw [he]
 exact h
theorem two_set {w1:World} {g:Nat} {x y:Value} (h:w1.heap[g]?=some (.cells #[x,y] 24 (0,0))) (a b:Value):((w1.setCell ⟨g,0,none⟩ a).setCell ⟨g,1,none⟩ b).heap[g]?=some (.cells #[a,b] 24 (0,0)):=by
 have:=blk_set (blk_set h 0 a) 1 b
 simpa using this
theorem whole_range {Y:List UInt8} {v:Int} {u:List UInt8} (h:WholeP Y v u true):0≤v∧v≤9223372036854775807:=by
 obtain ⟨h1,h2⟩:=h
 rw [if_pos rfl] at h2
 obtain ⟨_,_,h3,h4,_⟩:=h2
 constructor<;>omega
structure PF (w:World) (R:Nat) (n d:Int) (W:World):Prop where
 res:W.heap[w.heap.size]?=some (.cells #[.int .i64 0,.int .i64 0] 24 (0,0))
 frac:W.heap[R]?=some (.cells #[.int .i64 n,.int .i64 d] 24 (0,0))
 bel:Below w.heap.size w W
theorem PF.new {w w1:World} (h1:Below w.heap.size w w1) (h2:w1.heap[w.heap.size]?=some (.cells #[.int .i64 0,.int .i64 0] 24 (0,0))) (n d:Int):PF w w1.heap.size n d (w1.alloc (.cells #[.int .i64 n,.int .i64 d] 24)) :=
 ⟨heap_old _ _ _ h2,heap_alloc_at _ _,h1.alloc (by have:=lt_of_block h2;omega) _⟩
theorem PF.on {w W W':World} {R:Nat} {n d:Int} (h:PF w R n d W) (hb:Below W.heap.size W W'):PF w R n d W' :=
 ⟨(hb.block _ (lt_of_block h.res)).trans h.res,(hb.block _ (lt_of_block h.frac)).trans h.frac,h.bel.trans (hb.mono (by have:=lt_of_block h.res;omega))⟩
theorem PF.cells {w W:World} {R:Nat} {n d:Int} (h:PF w R n d W):W.cell? ⟨R,0,none⟩=some (.int .i64 n)∧W.cell? ⟨R,1,none⟩=some (.int .i64 d)∧W.cell? ⟨w.heap.size,0,none⟩=some (.int .i64 0)∧W.cell? ⟨w.heap.size,1,none⟩=some (.int .i64 0)∧W.frozen? ⟨w.heap.size,0,none⟩=false∧W.frozen? ⟨w.heap.size,1,none⟩=false :=
 ⟨by rw [Lib.cell_of_heap h.frac];rfl,by rw [Lib.cell_of_heap h.frac];rfl,by rw [Lib.cell_of_heap h.res];rfl,by rw [Lib.cell_of_heap h.res];rfl,blk_free h.res 0,blk_free h.res 1⟩
theorem PF.free {w W:World} {R:Nat} {n d:Int} (h:PF w R n d W):W.frozen? ⟨R,0,none⟩=false∧W.frozen? ⟨R,1,none⟩=false:=⟨blk_free h.frac 0,blk_free h.frac 1⟩
theorem heap_other {W:World} {R g:Nat} (hne:R≠g) (o:Nat) (v:Value):(W.setCell ⟨R,o,none⟩ v).heap[g]?=W.heap[g]?:=by
 show (W.heap.modify R _)[g]?=_
 rw [Array.getElem?_modify]
 simp [hne]
theorem PF.den {w W:World} {R:Nat} {n d:Int} (h:PF w R n d W) (hR:w.heap.size<R) (d':Int):PF w R n d' (W.setCell ⟨R,1,none⟩ (.int .i64 d')) :=
 ⟨(heap_other (by omega) _ _).trans h.res,by have:=blk_set h.frac 1 (.int .i64 d');simpa using this,h.bel.setCell (Nat.le_of_lt hR) _⟩
theorem PF.num {w W:World} {R:Nat} {n d:Int} (h:PF w R n d W) (hR:w.heap.size<R) (n':Int):PF w R n' d (W.setCell ⟨R,0,none⟩ (.int .i64 n')) :=
 ⟨(heap_other (by omega) _ _).trans h.res,by have:=blk_set h.frac 0 (.int .i64 n');simpa using this,h.bel.setCell (Nat.le_of_lt hR) _⟩
theorem PF.fin {w W:World} {R:Nat} {n d:Int} (h:PF w R n d W) (a b:Value):((W.setCell ⟨w.heap.size,0,none⟩ a).setCell ⟨w.heap.size,1,none⟩ b).heap[w.heap.size]?=some (.cells #[a,b] 24 (0,0))∧Below w.heap.size w ((W.setCell ⟨w.heap.size,0,none⟩ a).setCell ⟨w.heap.size,1,none⟩ b) :=
 ⟨two_set h.res a b,(h.bel.setCell (Nat.le_refl _) _).setCell (Nat.le_refl _) _⟩
set_option maxRecDepth 100000 in
set_option maxHeartbeats 4000000 in
theorem parse_any (X:List UInt8) (w:World) (hn:X.length≤1099511627776):Calls Tryz.prog 93 #[.string (bstr X)] w fun e w'=>FracIs X e∧Below w.heap.size w w':=by
 by_cases hX:X=sp.over
 ·have hs:=str_eq hX
  have HF:Hid (FracIs X (.returned (.tuple #[.agg #[.int .i64 0,.int .i64 0],.int .i64 0]))):=Lib.hid (by unfold FracIs;rw [hX,frac_over])
  clear hX
  go_enter Tryz.func93,Tryz.ntmps93
  go_wp2
  exact ret_frac rfl rfl rfl (heap_alloc_at _ _) ⟨HF.out,below_new w _⟩
 ·have hs:((bstr X).toList==[111,118,101,114])=false:=str_ne hX
  have HX:=Lib.hid hX
  have HCUT:=Lib.hid (cutPrefix_any X)
  have hbl:(bodyOf X).length≤1099511627776:=by
   unfold bodyOf
   split
   ·rw [List.length_tail];omega
   ·exact hn
  have HW:=Lib.hid (fun W=>whole_any (bodyOf X) W hbl)
  have HN:=Lib.hid hn
  obtain ⟨neg,hneg⟩:∃neg,neg=decide (X.head?=some 45):=⟨_,rfl⟩
  rw [←hneg] at HCUT
  have HNEG:=Lib.hid hneg
  clear hX hneg hbl hn
  go_enter Tryz.func93,Tryz.ntmps93
  go_wp2_with (first
   | (go_at_call 92;refine (HCUT.out _).mono ?_;rintro e w1 ⟨rfl,rfl⟩)
   | (go_at_call 124;refine (HW.out _).mono ?_;rintro e w1 ⟨⟨v,u,ok,rfl,hw⟩,hb1⟩;refine Hid.out ?_))
  refine Lib.hid ?_
  have HB1:=Lib.hid ((below_new w (.cells #[.int .i64 0,.int .i64 0] 24)).trans (hb1.mono (by simp)))
  have HR1:=Lib.hid ((hb1.block w.heap.size (by simp)).trans (heap_alloc_at w (.cells #[.int .i64 0,.int .i64 0] 24)))
  have HWP:=Lib.hid hw
  have hlt:w.heap.size<w1.heap.size:=by have:=hb1.size;simp at this;omega
  clear hw hb1 HW HCUT
  have d0:w1.cell? ⟨w.heap.size,0,none⟩=some (.int .i64 0):=by rw [Lib.cell_of_heap HR1.out];rfl
  have d1:w1.cell? ⟨w.heap.size,1,none⟩=some (.int .i64 0):=by rw [Lib.cell_of_heap HR1.out];rfl
  have z0:w1.frozen? ⟨w.heap.size,0,none⟩=false:=blk_free HR1.out 0
  have z1:w1.frozen? ⟨w.heap.size,1,none⟩=false:=blk_free HR1.out 1
  cases ok with
  | false =>
   have HF:=Lib.hid (frac_L1 HX.out HWP.out)
   cases neg with
   | false =>
    go_wp2
    exact ret_frac rfl rfl rfl (heap_old _ _ _ (two_set HR1.out _ _)) ⟨HF.out,((HB1.out.setCell (Nat.le_refl _) _).setCell (Nat.le_refl _) _).alloc (by simp;omega) _⟩
   | true =>
    go_wp2
    exact ret_frac rfl rfl rfl (heap_old _ _ _ (two_set HR1.out _ _)) ⟨HF.out,((HB1.out.setCell (Nat.le_refl _) _).setCell (Nat.le_refl _) _).alloc (by simp;omega) _⟩
  | true =>
   obtain ⟨hv0,hv1⟩:=whole_range HWP.out
   match u with
   | [] =>
    have e1:(bstr []).toList.isEmpty=true:=by rw [Lib.toList_data];rfl
    cases neg with
    | false =>
     have hsg:sgn X v=v:=by unfold sgn;rw [if_neg (by have:=HNEG.out;simpa using this.symm)]
     by_cases hs1:sp.SureP (v) (1)
     ·have q1:=sureB_yes hs1
      have HS1:=Lib.hid hs1
      by_cases ht:sp.ratS (v) (1)=X
      ·have q2:((bstr (sp.ratS (v) (1))).toList==(bstr X).toList)=true:=by rw [ht];exact beq_self_eq_true _
       have HF:=Lib.hid (frac_some ⟨by omega,by omega⟩ ⟨by decide,by decide⟩ hs1 ht)
       clear hs1 ht
       go_wp2_with (first
        | (go_at_call 106;refine (sure_any (v) (1) _ ⟨by omega,by omega⟩ ⟨by decide,by decide⟩).mono ?_;rintro e w2 ⟨rfl,hb2⟩;have HP2:=Lib.hid ((PF.new HB1.out HR1.out v 1).on hb2);obtain ⟨r0,r1,k0,k1,y0,y1⟩:=HP2.out.cells;clear hb2)
        | (go_at_call 73;refine (ratText_any (v) (1) _ ⟨by omega,by omega⟩ ⟨by decide,by decide⟩).mono ?_;rintro e w3 ⟨rfl,hb3⟩;have HP3:=Lib.hid (HP2.out.on hb3);obtain ⟨s0,s1,l0,l1,x0,x1⟩:=HP3.out.cells;clear hb3))
       exact ret_frac rfl rfl rfl (HP3.out.fin _ _).1 ⟨HF.out,(HP3.out.fin _ _).2⟩
      ·have q2:((bstr (sp.ratS (v) (1))).toList==(bstr X).toList)=false:=by rw [Lib.toList_data (bstr X),bstr_toList];exact str_ne ht
       have HF:=Lib.hid (frac_L2 HX.out HWP.out (fun h=>ht (by rw [←hsg];exact h.2)))
       clear hs1 ht
       go_wp2_with (first
        | (go_at_call 106;refine (sure_any (v) (1) _ ⟨by omega,by omega⟩ ⟨by decide,by decide⟩).mono ?_;rintro e w2 ⟨rfl,hb2⟩;have HP2:=Lib.hid ((PF.new HB1.out HR1.out v 1).on hb2);obtain ⟨r0,r1,k0,k1,y0,y1⟩:=HP2.out.cells;clear hb2)
        | (go_at_call 73;refine (ratText_any (v) (1) _ ⟨by omega,by omega⟩ ⟨by decide,by decide⟩).mono ?_;rintro e w3 ⟨rfl,hb3⟩;have HP3:=Lib.hid (HP2.out.on hb3);obtain ⟨s0,s1,l0,l1,x0,x1⟩:=HP3.out.cells;clear hb3))
       exact ret_frac rfl rfl rfl (HP3.out.fin _ _).1 ⟨HF.out,(HP3.out.fin _ _).2⟩
     ·have q1:=sureB_no hs1
      have HF:=Lib.hid (frac_L2 HX.out HWP.out (fun h=>hs1 (by rw [←hsg];exact h.1)))
      clear hs1
      go_wp2_with (first
       | (go_at_call 106;refine (sure_any (v) (1) _ ⟨by omega,by omega⟩ ⟨by decide,by decide⟩).mono ?_;rintro e w2 ⟨rfl,hb2⟩;have HP2:=Lib.hid ((PF.new HB1.out HR1.out v 1).on hb2);obtain ⟨r0,r1,k0,k1,y0,y1⟩:=HP2.out.cells;clear hb2))
      exact ret_frac rfl rfl rfl (HP2.out.fin _ _).1 ⟨HF.out,(HP2.out.fin _ _).2⟩
    | true =>
     have hsg:sgn X v = -v:=by unfold sgn;rw [if_pos (by have:=HNEG.out;simpa using this.symm)]
     by_cases hs1:sp.SureP (-v) (1)
     ·have q1:=sureB_yes hs1
      have HS1:=Lib.hid hs1
      by_cases ht:sp.ratS (-v) (1)=X
      ·have q2:((bstr (sp.ratS (-v) (1))).toList==(bstr X).toList)=true:=by rw [ht];exact beq_self_eq_true _
       have HF:=Lib.hid (frac_some ⟨by omega,by omega⟩ ⟨by decide,by decide⟩ hs1 ht)
       clear hs1 ht
       go_wp2_with (first
        | (go_at_call 106;refine (sure_any (-v) (1) _ ⟨by omega,by omega⟩ ⟨by decide,by decide⟩).mono ?_;rintro e w2 ⟨rfl,hb2⟩;have HP2:=Lib.hid ((PF.new HB1.out HR1.out (-v) 1).on hb2);obtain ⟨r0,r1,k0,k1,y0,y1⟩:=HP2.out.cells;clear hb2)
        | (go_at_call 73;refine (ratText_any (-v) (1) _ ⟨by omega,by omega⟩ ⟨by decide,by decide⟩).mono ?_;rintro e w3 ⟨rfl,hb3⟩;have HP3:=Lib.hid (HP2.out.on hb3);obtain ⟨s0,s1,l0,l1,x0,x1⟩:=HP3.out.cells;clear hb3))
       exact ret_frac rfl rfl rfl (HP3.out.fin _ _).1 ⟨HF.out,(HP3.out.fin _ _).2⟩
      ·have q2:((bstr (sp.ratS (-v) (1))).toList==(bstr X).toList)=false:=by rw [Lib.toList_data (bstr X),bstr_toList];exact str_ne ht
       have HF:=Lib.hid (frac_L2 HX.out HWP.out (fun h=>ht (by rw [←hsg];exact h.2)))
       clear hs1 ht
       go_wp2_with (first
        | (go_at_call 106;refine (sure_any (-v) (1) _ ⟨by omega,by omega⟩ ⟨by decide,by decide⟩).mono ?_;rintro e w2 ⟨rfl,hb2⟩;have HP2:=Lib.hid ((PF.new HB1.out HR1.out (-v) 1).on hb2);obtain ⟨r0,r1,k0,k1,y0,y1⟩:=HP2.out.cells;clear hb2)
        | (go_at_call 73;refine (ratText_any (-v) (1) _ ⟨by omega,by omega⟩ ⟨by decide,by decide⟩).mono ?_;rintro e w3 ⟨rfl,hb3⟩;have HP3:=Lib.hid (HP2.out.on hb3);obtain ⟨s0,s1,l0,l1,x0,x1⟩:=HP3.out.cells;clear hb3))
       exact ret_frac rfl rfl rfl (HP3.out.fin _ _).1 ⟨HF.out,(HP3.out.fin _ _).2⟩
     ·have q1:=sureB_no hs1
      have HF:=Lib.hid (frac_L2 HX.out HWP.out (fun h=>hs1 (by rw [←hsg];exact h.1)))
      clear hs1
      go_wp2_with (first
       | (go_at_call 106;refine (sure_any (-v) (1) _ ⟨by omega,by omega⟩ ⟨by decide,by decide⟩).mono ?_;rintro e w2 ⟨rfl,hb2⟩;have HP2:=Lib.hid ((PF.new HB1.out HR1.out (-v) 1).on hb2);obtain ⟨r0,r1,k0,k1,y0,y1⟩:=HP2.out.cells;clear hb2))
      exact ret_frac rfl rfl rfl (HP2.out.fin _ _).1 ⟨HF.out,(HP2.out.fin _ _).2⟩
   | c :: u' =>
    have e1:(bstr (c :: u')).toList.isEmpty=false:=by rw [Lib.toList_data,bstr_toList];rfl
    have e0:0<(bstr (c :: u')).size:=by rw [bstr_size];simp
    have ei:∀p,(bstr (c :: u'))[0]'p=c:=fun p=>rfl
    by_cases h47:c=47
    ·subst h47
     have hle:u'.length≤1099511627776:=by
      have h2:=HWP.out.2
      rw [if_pos rfl] at h2
      obtain ⟨_,_,_,_,h5⟩:=h2
      have h6:=(List.dropWhile_sublist sp.digitB (l:=bodyOf X)).length_le
      have h7:(bodyOf X).length≤X.length:=by unfold bodyOf;split<;>simp
      have:=HN.out
      rw [←h5] at h6
      simp at h6
      omega
     have es1:(1:Int)≤(bstr (47 :: u')).size:=by rw [bstr_size];simp;omega
     have ex:(bstr (47 :: u')).extract 1 (bstr (47 :: u')).size=bstr u':=ext_drop (47 :: u') 1 _ (by simp) (bstr_size _)
     have HW2:=Lib.hid (fun W=>whole_any u' W hle)
     go_wp2_with (first
      | (go_at_call 124;(try rw [ex]);refine (HW2.out _).mono ?_;rintro e w2 ⟨⟨v2,u3,ok2,rfl,hw2⟩,hb2⟩;refine Hid.out ?_))
     refine Lib.hid ?_
     have HWP2:=Lib.hid hw2
     have HP:=Lib.hid ((PF.new HB1.out HR1.out v 1).on hb2)
     obtain ⟨r0,r1,k0,k1,y0,y1⟩:=HP.out.cells
     obtain ⟨f0,f1⟩:=HP.out.free
     have hne:¬w1.heap.size=w.heap.size:=by omega
     have hne2:¬w.heap.size=w1.heap.size:=by omega
     clear hb2 hw2 HW2
     cases ok2 with
     | false =>
      have HF:=Lib.hid (frac_L4a HX.out HWP.out HWP2.out)
      cases neg with
      | false =>
       have HE:=HP.out.den hlt v2
       go_wp2
       exact ret_frac rfl rfl rfl (HE.fin _ _).1 ⟨HF.out,(HE.fin _ _).2⟩
      | true =>
       have HE:=(HP.out.den hlt v2).num hlt (-v)
       go_wp2
       exact ret_frac rfl rfl rfl (HE.fin _ _).1 ⟨HF.out,(HE.fin _ _).2⟩
     | true =>
      obtain ⟨hw0,hw1⟩:=whole_range HWP2.out
      match u3 with
      | c3 :: u4 =>
       have e3:(bstr (c3 :: u4)).toList.isEmpty=false:=by rw [Lib.toList_data,bstr_toList];rfl
       have HF:=Lib.hid (frac_L4b HX.out HWP.out HWP2.out (by simp))
       cases neg with
       | false =>
        have HE:=HP.out.den hlt v2
        go_wp2
        exact ret_frac rfl rfl rfl (HE.fin _ _).1 ⟨HF.out,(HE.fin _ _).2⟩
       | true =>
        have HE:=(HP.out.den hlt v2).num hlt (-v)
        go_wp2
        exact ret_frac rfl rfl rfl (HE.fin _ _).1 ⟨HF.out,(HE.fin _ _).2⟩
      | [] =>
       have e3:(bstr []).toList.isEmpty=true:=by rw [Lib.toList_data];rfl
       cases neg with
       | false =>
        have hsg:sgn X v=v:=by unfold sgn;rw [if_neg (by have:=HNEG.out;simpa using this.symm)]
        by_cases hs1:sp.SureP (v) (v2)
        ·have q1:=sureB_yes hs1
         have HS1:=Lib.hid hs1
         by_cases ht:sp.ratS (v) (v2)=X
         ·have q2:((bstr (sp.ratS (v) (v2))).toList==(bstr X).toList)=true:=by rw [ht];exact beq_self_eq_true _
          have HF:=Lib.hid (frac_some ⟨by omega,by omega⟩ ⟨by omega,by omega⟩ hs1 ht)
          clear hs1 ht
          go_wp2_with (first
           | (go_at_call 106;refine (sure_any (v) (v2) _ ⟨by omega,by omega⟩ ⟨by omega,by omega⟩).mono ?_;rintro e w2 ⟨rfl,hb2⟩;have HP2:=Lib.hid ((HP.out.den hlt v2).on hb2);obtain ⟨r0,r1,k0,k1,y0,y1⟩:=HP2.out.cells;clear hb2)
           | (go_at_call 73;refine (ratText_any (v) (v2) _ ⟨by omega,by omega⟩ ⟨by omega,by omega⟩).mono ?_;rintro e w3 ⟨rfl,hb3⟩;have HP3:=Lib.hid (HP2.out.on hb3);obtain ⟨s0,s1,l0,l1,x0,x1⟩:=HP3.out.cells;clear hb3))
          exact ret_frac rfl rfl rfl (HP3.out.fin _ _).1 ⟨HF.out,(HP3.out.fin _ _).2⟩
         ·have q2:((bstr (sp.ratS (v) (v2))).toList==(bstr X).toList)=false:=by rw [Lib.toList_data (bstr X),bstr_toList];exact str_ne ht
          have HF:=Lib.hid (frac_L4c HX.out HWP.out HWP2.out (fun h=>ht (by rw [←hsg];exact h.2)))
          clear hs1 ht
          go_wp2_with (first
           | (go_at_call 106;refine (sure_any (v) (v2) _ ⟨by omega,by omega⟩ ⟨by omega,by omega⟩).mono ?_;rintro e w2 ⟨rfl,hb2⟩;have HP2:=Lib.hid ((HP.out.den hlt v2).on hb2);obtain ⟨r0,r1,k0,k1,y0,y1⟩:=HP2.out.cells;clear hb2)
           | (go_at_call 73;refine (ratText_any (v) (v2) _ ⟨by omega,by omega⟩ ⟨by omega,by omega⟩).mono ?_;rintro e w3 ⟨rfl,hb3⟩;have HP3:=Lib.hid (HP2.out.on hb3);obtain ⟨s0,s1,l0,l1,x0,x1⟩:=HP3.out.cells;clear hb3))
          exact ret_frac rfl rfl rfl (HP3.out.fin _ _).1 ⟨HF.out,(HP3.out.fin _ _).2⟩
        ·have q1:=sureB_no hs1
         have HF:=Lib.hid (frac_L4c HX.out HWP.out HWP2.out (fun h=>hs1 (by rw [←hsg];exact h.1)))
         clear hs1
         go_wp2_with (first
          | (go_at_call 106;refine (sure_any (v) (v2) _ ⟨by omega,by omega⟩ ⟨by omega,by omega⟩).mono ?_;rintro e w2 ⟨rfl,hb2⟩;have HP2:=Lib.hid ((HP.out.den hlt v2).on hb2);obtain ⟨r0,r1,k0,k1,y0,y1⟩:=HP2.out.cells;clear hb2))
         exact ret_frac rfl rfl rfl (HP2.out.fin _ _).1 ⟨HF.out,(HP2.out.fin _ _).2⟩
       | true =>
        have hsg:sgn X v = -v:=by unfold sgn;rw [if_pos (by have:=HNEG.out;simpa using this.symm)]
        by_cases hs1:sp.SureP (-v) (v2)
        ·have q1:=sureB_yes hs1
         have HS1:=Lib.hid hs1
         by_cases ht:sp.ratS (-v) (v2)=X
         ·have q2:((bstr (sp.ratS (-v) (v2))).toList==(bstr X).toList)=true:=by rw [ht];exact beq_self_eq_true _
          have HF:=Lib.hid (frac_some ⟨by omega,by omega⟩ ⟨by omega,by omega⟩ hs1 ht)
          clear hs1 ht
          go_wp2_with (first
           | (go_at_call 106;refine (sure_any (-v) (v2) _ ⟨by omega,by omega⟩ ⟨by omega,by omega⟩).mono ?_;rintro e w2 ⟨rfl,hb2⟩;have HP2:=Lib.hid (((HP.out.den hlt v2).num hlt (-v)).on hb2);obtain ⟨r0,r1,k0,k1,y0,y1⟩:=HP2.out.cells;clear hb2)
           | (go_at_call 73;refine (ratText_any (-v) (v2) _ ⟨by omega,by omega⟩ ⟨by omega,by omega⟩).mono ?_;rintro e w3 ⟨rfl,hb3⟩;have HP3:=Lib.hid (HP2.out.on hb3);obtain ⟨s0,s1,l0,l1,x0,x1⟩:=HP3.out.cells;clear hb3))
          exact ret_frac rfl rfl rfl (HP3.out.fin _ _).1 ⟨HF.out,(HP3.out.fin _ _).2⟩
         ·have q2:((bstr (sp.ratS (-v) (v2))).toList==(bstr X).toList)=false:=by rw [Lib.toList_data (bstr X),bstr_toList];exact str_ne ht
          have HF:=Lib.hid (frac_L4c HX.out HWP.out HWP2.out (fun h=>ht (by rw [←hsg];exact h.2)))
          clear hs1 ht
          go_wp2_with (first
           | (go_at_call 106;refine (sure_any (-v) (v2) _ ⟨by omega,by omega⟩ ⟨by omega,by omega⟩).mono ?_;rintro e w2 ⟨rfl,hb2⟩;have HP2:=Lib.hid (((HP.out.den hlt v2).num hlt (-v)).on hb2);obtain ⟨r0,r1,k0,k1,y0,y1⟩:=HP2.out.cells;clear hb2)
           | (go_at_call 73;refine (ratText_any (-v) (v2) _ ⟨by omega,by omega⟩ ⟨by omega,by omega⟩).mono ?_;rintro e w3 ⟨rfl,hb3⟩;have HP3:=Lib.hid (HP2.out.on hb3);obtain ⟨s0,s1,l0,l1,x0,x1⟩:=HP3.out.cells;clear hb3))
          exact ret_frac rfl rfl rfl (HP3.out.fin _ _).1 ⟨HF.out,(HP3.out.fin _ _).2⟩
        ·have q1:=sureB_no hs1
         have HF:=Lib.hid (frac_L4c HX.out HWP.out HWP2.out (fun h=>hs1 (by rw [←hsg];exact h.1)))
         clear hs1
         go_wp2_with (first
          | (go_at_call 106;refine (sure_any (-v) (v2) _ ⟨by omega,by omega⟩ ⟨by omega,by omega⟩).mono ?_;rintro e w2 ⟨rfl,hb2⟩;have HP2:=Lib.hid (((HP.out.den hlt v2).num hlt (-v)).on hb2);obtain ⟨r0,r1,k0,k1,y0,y1⟩:=HP2.out.cells;clear hb2))
         exact ret_frac rfl rfl rfl (HP2.out.fin _ _).1 ⟨HF.out,(HP2.out.fin _ _).2⟩
    ·have t47:((c.toNat:Int)==47)=false:=u8ne c 47 h47
     have HF:=Lib.hid (frac_L3 HX.out HWP.out h47)
     clear h47
     cases neg with
     | false =>
      go_wp2
      exact ret_frac rfl rfl rfl (heap_old _ _ _ (two_set HR1.out _ _)) ⟨HF.out,((HB1.out.setCell (Nat.le_refl _) _).setCell (Nat.le_refl _) _).alloc (by simp;omega) _⟩
     | true =>
      go_wp2
      exact ret_frac rfl rfl rfl (heap_old _ _ _ (two_set HR1.out _ _)) ⟨HF.out,((HB1.out.setCell (Nat.le_refl _) _).setCell (Nat.le_refl _) _).alloc (by simp;omega) _⟩
def PlainIs (p:List UInt8×Bool) (e:Ending):Prop:=match sp.wPlain p with
 | some t=>e=.returned (.string (bstr t))
 | none=>e=.panicked bar
def TextWIs (p:List UInt8×Bool) (e:Ending):Prop:=match sp.wText p with
 | some t=>e=.returned (.string (bstr t))
 | none=>e=.panicked bar
def FracWIs (p:List UInt8×Bool) (e:Ending):Prop:=match sp.wFrac p with
 | some q=>e=.returned (.agg #[.int .i64 q.1,.int .i64 q.2])
 | none=>e=.panicked bar
set_option maxRecDepth 100000 in
set_option maxHeartbeats 1000000 in
theorem wplain_any (p:List UInt8×Bool) (w:World):Calls Tryz.prog 28 #[.agg #[.string (bstr p.1),.bool p.2]] w fun e w'=>PlainIs p e∧Below w.heap.size w w':=by
 obtain ⟨t,q⟩:=p
 have HB:=Lib.hid (below_new w (.cells #[.string (bstr t),.bool q] 71))
 cases q with
 | true =>
  go_enter Tryz.func28,Tryz.ntmps28
  go_wp2_with (go_at_call 23;refine (must_no _).mono ?_;rintro e w1 ⟨rfl,rfl⟩)
  exact ⟨rfl,rfl,HB.out⟩
 | false =>
  go_enter Tryz.func28,Tryz.ntmps28
  go_wp2_with (go_at_call 23;refine (must_yes _).mono ?_;rintro e w1 ⟨rfl,rfl⟩)
  go_ret
  exact ⟨rfl,HB.out⟩
set_option maxRecDepth 100000 in
set_option maxHeartbeats 1000000 in
theorem wtext_any (p:List UInt8×Bool) (w:World):Calls Tryz.prog 55 #[.agg #[.string (bstr p.1),.bool p.2]] w fun e w'=>TextWIs p e∧Below w.heap.size w w':=by
 obtain ⟨t,q⟩:=p
 have HB:=Lib.hid (below_new w (.cells #[.string (bstr t),.bool q] 71))
 cases q with
 | false =>
  go_enter Tryz.func55,Tryz.ntmps55
  go_wp2_with (go_at_call 23;refine (must_no _).mono ?_;rintro e w1 ⟨rfl,rfl⟩)
  exact ⟨rfl,rfl,HB.out⟩
 | true =>
  go_enter Tryz.func55,Tryz.ntmps55
  go_wp2_with (go_at_call 23;refine (must_yes _).mono ?_;rintro e w1 ⟨rfl,rfl⟩)
  go_ret
  exact ⟨rfl,HB.out⟩
theorem ret_fr1 {W:World} {g:Nat} {a b:Value} {fn:Func} {tmps:Array Value} {R:Ending→World→Prop} (hr:fn.results=#[.cell 2 24]) (hp:tmps.getD 2 undef=.pointer (some ⟨g,0,none⟩)) (hg:W.heap[g]?=some (.cells #[a,b] 24 (0,0)))
  (h:R (.returned (.agg #[a,b])) W):bodyPost Tryz.prog fn R .ret ⟨tmps,[]⟩ W :=
 bodyPost_ret (results_cell_row hr tmps W g 24 #[a,b] (0,0) _ hp hg Tryz.underlying24 rfl info24) rfl h
structure FrW (w:World) (t:List UInt8) (q:Bool) (W:World):Prop where
 word:W.heap[w.heap.size]?=some (.cells #[.string (bstr t),.bool q] 71 (0,0))
 res:W.heap[w.heap.size+1]?=some (.cells #[.int .i64 0,.int .i64 0] 24 (0,0))
 bel:Below w.heap.size w W
theorem FrW.of {w w1 w2:World} {t:List UInt8} {q:Bool} (hb:Below w.heap.size w w1) (h0:w1.heap[w.heap.size]?=some (.cells #[.string (bstr t),.bool q] 71 (0,0))) (h1:w1.heap[w.heap.size+1]?=some (.cells #[.int .i64 0,.int .i64 0] 24 (0,0))) (hb2:Below w1.heap.size w1 w2):FrW w t q w2 :=
 ⟨(hb2.block _ (lt_of_block h0)).trans h0,(hb2.block _ (lt_of_block h1)).trans h1,hb.trans (hb2.mono (by have:=lt_of_block h0;omega))⟩
theorem FrW.cells {w W:World} {t:List UInt8} {q:Bool} (h:FrW w t q W):W.cell? ⟨w.heap.size,1,none⟩=some (.bool q)∧W.cell? ⟨w.heap.size+1,0,none⟩=some (.int .i64 0)∧W.cell? ⟨w.heap.size+1,1,none⟩=some (.int .i64 0)∧W.frozen? ⟨w.heap.size+1,0,none⟩=false∧W.frozen? ⟨w.heap.size+1,1,none⟩=false∧w.heap.size<W.heap.size∧w.heap.size+1<W.heap.size :=
 ⟨by rw [Lib.cell_of_heap h.word];rfl,by rw [Lib.cell_of_heap h.res];rfl,by rw [Lib.cell_of_heap h.res];rfl,blk_free h.res 0,blk_free h.res 1,lt_of_block h.word,lt_of_block h.res⟩
set_option maxRecDepth 100000 in
set_option maxHeartbeats 2000000 in
theorem wfrac_any (p:List UInt8×Bool) (w:World) (hn:p.1.length≤1099511627776):Calls Tryz.prog 53 #[.agg #[.string (bstr p.1),.bool p.2]] w fun e w'=>FracWIs p e∧Below w.heap.size w w':=by
 obtain ⟨t,q⟩:=p
 have HP:=Lib.hid (fun W=>parse_any t W hn)
 have hb0:=below_new w (.cells #[.string (bstr t),.bool q] 71)
 have hb1:=hb0.alloc (by simp) (.cells #[.int .i64 0,.int .i64 0] 24)
 have HB:=Lib.hid hb1
 have c0:=heap_old _ (.cells #[.int .i64 0,.int .i64 0] 24) _ (heap_alloc_at w (.cells #[.string (bstr t),.bool q] 71))
 have c1:=heap_alloc_at (w.alloc (.cells #[.string (bstr t),.bool q] 71)) (.cells #[.int .i64 0,.int .i64 0] 24)
 have hsz:(w.alloc (.cells #[.string (bstr t),.bool q] 71)).heap.size=w.heap.size+1:=by simp
 rw [hsz] at c1
 have HC0:=Lib.hid c0;have HC1:=Lib.hid c1
 clear hn hb0 hb1 c0 c1 hsz
 cases hf:sp.fracS t with
 | none =>
  have HF:Hid (FracWIs (t,q) (.panicked bar)):=Lib.hid (by
   cases q
   ·show (match (if false=true then none else sp.fracS t) with | some q=>_ | none=>_)
    rw [if_neg (by decide),hf]
   ·exact rfl)
  have HE:=Lib.hid hf
  clear hf
  cases q with
  | true =>
   go_enter Tryz.func53,Tryz.ntmps53
   go_wp2_with (first
    | (go_at_call 93;refine (HP.out _).mono ?_;rintro e w2 ⟨he,hb2⟩;unfold FracIs at he;rw [HE.out] at he;subst he;have HW2:=Lib.hid (FrW.of HB.out HC0.out HC1.out hb2);obtain ⟨g0,g1,g2,g3,g4,g5,g6⟩:=HW2.out.cells;clear hb2)
    | (go_at_call 23;refine (must_no _).mono ?_;rintro e w3 ⟨rfl,rfl⟩))
   exact ⟨rfl,HF.out,HW2.out.bel.alloc (by have:=HW2.out.bel.size;omega) _⟩
  | false =>
   go_enter Tryz.func53,Tryz.ntmps53
   go_wp2_with (first
    | (go_at_call 93;refine (HP.out _).mono ?_;rintro e w2 ⟨he,hb2⟩;unfold FracIs at he;rw [HE.out] at he;subst he;have HW2:=Lib.hid (FrW.of HB.out HC0.out HC1.out hb2);obtain ⟨g0,g1,g2,g3,g4,g5,g6⟩:=HW2.out.cells;clear hb2)
    | (go_at_call 23;refine (must_no _).mono ?_;rintro e w3 ⟨rfl,rfl⟩))
   exact ⟨rfl,HF.out,HW2.out.bel.alloc (by have:=HW2.out.bel.size;omega) _⟩
 | some r =>
  have HE:=Lib.hid hf
  cases q with
  | true =>
   have HF:Hid (FracWIs (t,true) (.panicked bar)):=Lib.hid rfl
   clear hf
   go_enter Tryz.func53,Tryz.ntmps53
   go_wp2_with (first
    | (go_at_call 93;refine (HP.out _).mono ?_;rintro e w2 ⟨he,hb2⟩;unfold FracIs at he;rw [HE.out] at he;subst he;have HW2:=Lib.hid (FrW.of HB.out HC0.out HC1.out hb2);obtain ⟨g0,g1,g2,g3,g4,g5,g6⟩:=HW2.out.cells;clear hb2)
    | (go_at_call 23;refine (must_no _).mono ?_;rintro e w3 ⟨rfl,rfl⟩))
   exact ⟨rfl,HF.out,HW2.out.bel.alloc (by have:=HW2.out.bel.size;omega) _⟩
  | false =>
   have HF:Hid (FracWIs (t,false) (.returned (.agg #[.int .i64 r.1,.int .i64 r.2]))):=Lib.hid (by
    unfold FracWIs sp.wFrac
    simp only [hf]
    exact rfl)
   clear hf
   go_enter Tryz.func53,Tryz.ntmps53
   go_wp2_with (first
    | (go_at_call 93;refine (HP.out _).mono ?_;rintro e w2 ⟨he,hb2⟩;unfold FracIs at he;rw [HE.out] at he;subst he;have HW2:=Lib.hid (FrW.of HB.out HC0.out HC1.out hb2);obtain ⟨g0,g1,g2,g3,g4,g5,g6⟩:=HW2.out.cells;clear hb2)
    | (go_at_call 23;refine (must_yes _).mono ?_;rintro e w3 ⟨rfl,rfl⟩))
   refine ret_fr1 rfl rfl (heap_old _ _ _ (two_set HW2.out.res _ _)) ⟨HF.out,?_⟩
   exact ((HW2.out.bel.setCell (Nat.le_succ _) _).setCell (Nat.le_succ _) _).alloc (by have:=HW2.out.bel.size;simp;omega) _
/-! ### A line that says nothing -/
theorem trimLeft_any (t:List UInt8) (w:World):Calls Tryz.prog 45 #[.string (bstr t),.string ⟨#[32]⟩] w fun e w'=>e=.returned (.string (bstr (t.dropWhile (· == 32))))∧w'=w :=
 (Any.strings_TrimLeft_one Tryz.laysTrim (bstr t) 32 (by decide) w).mono fun e w' ⟨h1,h2⟩=>⟨by
  rw [h1]
  have:Lib.trimLeftB (bstr t).data.toList 32=t.dropWhile (· == 32):=by rw [bstr_toList];rfl
  rw [this];rfl,h2⟩
set_option maxRecDepth 100000 in
set_option maxHeartbeats 1000000 in
theorem silent_any (t:List UInt8) (w:World):Calls Tryz.prog 25 #[.string (bstr t)] w fun e w'=>e=.returned (.bool (sp.silentB t))∧w'=w:=by
 have HT:=Lib.hid (fun W=>trimLeft_any t W)
 have hd:sp.silentB t=((t.dropWhile (· == 32)).head?==none||(t.dropWhile (· == 32)).head?==some 35):=rfl
 generalize t.dropWhile (· == 32)=u at HT hd
 have HD:=Lib.hid hd
 clear hd
 match u with
 | [] =>
  have e1:(bstr []).toList.isEmpty=true:=by rw [Lib.toList_data];rfl
  go_enter Tryz.func25,Tryz.ntmps25
  go_wp2_with (go_at_call 45;refine (HT.out _).mono ?_;rintro e w1 ⟨rfl,rfl⟩)
  go_ret
  exact ⟨by rw [HD.out];rfl,rfl⟩
 | c :: r =>
  have e1:(bstr (c :: r)).toList.isEmpty=false:=by rw [Lib.toList_data,bstr_toList];rfl
  have e0:0<(bstr (c :: r)).size:=by rw [bstr_size];simp
  have ei:∀p,(bstr (c :: r))[0]'p=c:=fun p=>rfl
  by_cases h:c=35
  ·subst h
   go_enter Tryz.func25,Tryz.ntmps25
   go_wp2_with (go_at_call 45;refine (HT.out _).mono ?_;rintro e w1 ⟨rfl,rfl⟩)
   go_ret
   exact ⟨by rw [HD.out];rfl,rfl⟩
  ·have t1:((c.toNat:Int)==35)=false:=u8ne c 35 h
   have HD2:Hid (sp.silentB t=false):=Lib.hid (by rw [HD.out];simp [h])
   clear h
   go_enter Tryz.func25,Tryz.ntmps25
   go_wp2_with (go_at_call 45;refine (HT.out _).mono ?_;rintro e w1 ⟨rfl,rfl⟩)
   go_ret
   exact ⟨by rw [HD2.out];rfl,rfl⟩
theorem contains_nl (t:List UInt8) (w:World):Calls Tryz.prog 24 #[.string (bstr t),.string ⟨#[10]⟩] w fun e w'=>e=.returned (.bool (decide (10∈t)))∧w'=w :=
 (Any.strings_Contains_one Tryz.laysContains (bstr t) 10 w).mono fun e w' ⟨h1,h2⟩=>⟨by
  rw [h1,bstr_toList,←Lib.contains_iff_indexByte,List.contains_eq_mem],h2⟩
structure RowS (w:World) (B g:Nat) (ws:List (List UInt8×Bool)) (cs:Array Value) (W:World):Prop where
 op:W.heap[B]?=some (.cells cs 28 (0,0))
 size:cs.size=18
 words:W.rangeAt g 2 (wdCells ws)
 glt:g<W.heap.size
 ne:g≠B
 fr:Fr w W B none
section
variable {w W W':World} {B g:Nat} {ws:List (List UInt8×Bool)} {cs:Array Value}
theorem RowS.on (h:RowS w B g ws cs W) (hb:Below W.heap.size W W'):RowS w B g ws cs W' :=
 ⟨(hb.block _ (lt_of_block h.op)).trans h.op,h.size,rangeAt_below hb h.glt h.words,by have:=hb.size;have:=h.glt;omega,h.ne,h.fr.trans (Fr.of_below hb) (Own.refl _ _)⟩
theorem range_other {g B off:Nat} {xs:List Value} (h:W.rangeAt g off xs) (hne:g≠B) (k:Nat) (v:Value):(W.setCell ⟨B,k,none⟩ v).rangeAt g off xs:=fun j u hu=>by
 have:=h j u hu
 rw [World.cell?_setCell_far W _ _ v (by simpa using Ne.symm hne)]
 exact this
theorem RowS.set (h:RowS w B g ws cs W) (k:Nat) (v:Value):RowS w B g ws (cs.setIfInBounds k v) (W.setCell ⟨B,k,none⟩ v) :=
 ⟨blk_set h.op k v,by rw [Array.size_setIfInBounds];exact h.size,range_other h.words h.ne k v,by simpa using h.glt,h.ne,h.fr.trans (Fr.set k v) (Own.refl _ _)⟩
theorem RowS.cell (h:RowS w B g ws cs W) (k:Nat) (v:Value) (hk:cs[k]?=some v):W.cell? ⟨B,k,none⟩=some v:=blk_cell h.op k v hk
theorem RowS.free (h:RowS w B g ws cs W) (k:Nat):W.frozen? ⟨B,k,none⟩=false:=blk_free h.op k
theorem RowS.w0 {x:List UInt8×Bool} {r:List (List UInt8×Bool)} (h:RowS w B g (x :: r) cs W):W.cell? ⟨g,2,none⟩=some (.string (bstr x.1))∧W.cell? ⟨g,3,none⟩=some (.bool x.2):=⟨h.words 0 _ rfl,h.words 1 _ rfl⟩
theorem RowS.w1 {x y:List UInt8×Bool} {r:List (List UInt8×Bool)} (h:RowS w B g (x :: y :: r) cs W):W.cell? ⟨g,4,none⟩=some (.string (bstr y.1))∧W.cell? ⟨g,5,none⟩=some (.bool y.2):=⟨h.words 2 _ rfl,h.words 3 _ rfl⟩
theorem RowS.w2 {x y z:List UInt8×Bool} {r:List (List UInt8×Bool)} (h:RowS w B g (x :: y :: z :: r) cs W):W.cell? ⟨g,6,none⟩=some (.string (bstr z.1))∧W.cell? ⟨g,7,none⟩=some (.bool z.2):=⟨h.words 4 _ rfl,h.words 5 _ rfl⟩
theorem RowS.w3 {x y z u:List UInt8×Bool} {r:List (List UInt8×Bool)} (h:RowS w B g (x :: y :: z :: u :: r) cs W):W.cell? ⟨g,8,none⟩=some (.string (bstr u.1))∧W.cell? ⟨g,9,none⟩=some (.bool u.2):=⟨h.words 6 _ rfl,h.words 7 _ rfl⟩
theorem RowS.w4 {x y z u v:List UInt8×Bool} {r:List (List UInt8×Bool)} (h:RowS w B g (x :: y :: z :: u :: v :: r) cs W):W.cell? ⟨g,10,none⟩=some (.string (bstr v.1))∧W.cell? ⟨g,11,none⟩=some (.bool v.2):=⟨h.words 8 _ rfl,h.words 9 _ rfl⟩
end
def RowIs (w:World) (B:Nat) (res:Option sp.Op) (e:Ending) (w':World):Prop:=match res with
 | some o=>e=.returned (.tuple #[])∧Fr w w' B none∧∃tv,w'.heap[B]?=some (.cells (opCells o tv) 28 (0,0))∧RowAt w'.heap.size w' tv o.text.length (Lib.byteCells o.text)∧(∀g,tv.ownBlock=some g→w.heap.size≤g)
 | none=>e=.panicked bar∧Fr w w' B none∧∃cs,w'.heap[B]?=some (.cells cs 28 (0,0))∧cs.size=18
theorem RowS.bad {w W:World} {B g:Nat} {ws:List (List UInt8×Bool)} {cs:Array Value} (h:RowS w B g ws cs W):RowIs w B none (.panicked bar) W:=⟨rfl,h.fr,_,h.op,h.size⟩
theorem rowAt_nil (B:Nat) (w:World):RowAt B w (.slice none 0 0) ([]:List UInt8).length (Lib.byteCells []):=⟨none,0,rfl,Nat.le_refl _,by unfold maxLen;omega,.inl ⟨rfl,rfl,fun _=>rfl⟩⟩
theorem RowS.good {w W:World} {B g:Nat} {ws:List (List UInt8×Bool)} {cs:Array Value} (h:RowS w B g ws cs W) (o:sp.Op) (ho:o.text = []) (hc:cs=opCells o (.slice none 0 0)):RowIs w B (some o) (.returned (.tuple #[])) W :=
 ⟨rfl,h.fr,_,hc ▸ h.op,by rw [ho];exact rowAt_nil _ _,fun g hg=>by cases hg⟩
theorem conv_bytes2 (w:World) (t:List UInt8):∃W2 cp,(convert 9 22 (.string (bstr t))).run Tryz.prog w=.ok (.slice (some ⟨w.heap.size,0,none⟩) t.length cp) W2∧Below w.heap.size w W2∧W2.heap.size=w.heap.size+1∧W2.rangeAt w.heap.size 0 (Lib.byteCells t)∧t.length≤cp∧(t.length≤maxLen→cp≤maxLen):=by
 have h:=Lib.run_convert_string_bytes (P:=Tryz.prog) w 9 22 5 (bstr t) Tryz.underlying9 Tryz.underlying22 Tryz.underlying5
 refine ⟨_,_,by rw [←bstr_size t];exact h,below_bytes w _,Lib.bytesWorld_size _ _ _,fun j u hu => ?_,by rw [bstr_size];exact grownCap_ge _ _ _ _,fun hm=>by rw [bstr_size];exact grownCap_le_maxLen _ _ _ _ hm⟩
 obtain ⟨b,hb,rfl⟩:=byteCells_get hu
 have hj:j<t.length:=(List.getElem?_eq_some_iff.1 hb).1
 have:=Lib.bytesWorld_cell w 5 (bstr t) j (by rw [bstr_size];exact hj)
 rw [bstr_toList] at this
 rw [Nat.zero_add,this]
 simp [List.getD,hb]
theorem rowAt_of {W:World} {q n cp:Nat} {t:List UInt8} (hr:W.rangeAt q 0 (Lib.byteCells t)) (hn:n=t.length) (h1:t.length≤cp) (h2:cp≤maxLen) (hq:q<W.heap.size):RowAt W.heap.size W (.slice (some ⟨q,0,none⟩) n cp) t.length (Lib.byteCells t):=by
 subst hn
 refine ⟨_,_,rfl,h1,h2,?_⟩
 by_cases h0:t.length=0
 ·left
  have:=List.length_eq_zero_iff.1 h0
  subst this
  exact ⟨rfl,rfl,fun e=>by cases e⟩
 ·right
  exact ⟨by omega,q,0,rfl,hq,hr⟩
theorem RowS.goodT {w W:World} {B g q n cp:Nat} {ws:List (List UInt8×Bool)} {cs:Array Value} (h:RowS w B g ws cs W) (o:sp.Op) (hr:W.rangeAt q 0 (Lib.byteCells o.text)) (hn:n=o.text.length) (h1:o.text.length≤cp) (h2:cp≤maxLen) (hq:q<W.heap.size) (hB:w.heap.size≤q) (hc:cs=opCells o (.slice (some ⟨q,0,none⟩) n cp)):RowIs w B (some o) (.returned (.tuple #[])) W :=
 ⟨rfl,h.fr,_,hc ▸ h.op,rowAt_of hr hn h1 h2 hq,fun g hg=>by cases hg;exact hB⟩
def zeroC (k:Int):Array Value:=opCells { kind:=k } (.slice none 0 0)
set_option maxRecDepth 100000 in
set_option maxHeartbeats 2000000 in
theorem row_node (k:Int) (w0 w:World) (B g c:Nat) (x:List UInt8×Bool) (h:RowS w0 B g [x] (zeroC k) w):Calls Tryz.prog 49 #[.pointer (some ⟨B,0,none⟩),.slice (some ⟨g,2,none⟩) 1 c] w fun e w'=>RowIs w0 B ((sp.wNum x).map fun n=>{ kind:=k,node:=n }) e w':=by
 have HN:=Lib.hid (fun W=>wnum_any x W)
 obtain ⟨a0,a1⟩:=h.w0
 have HH:=Lib.hid h
 clear h
 cases hx:sp.wNum x with
 | none =>
  have HX:=Lib.hid hx
  clear hx
  go_enter Tryz.func49,Tryz.ntmps49
  go_wp2_with (go_at_call 50;refine (HN.out _).mono ?_;rintro e w1 ⟨he,hb⟩;unfold NumIs at he;rw [HX.out] at he;subst he)
  exact ⟨rfl,(HH.out.on hb).bad⟩
 | some n =>
  have HX:=Lib.hid hx
  clear hx
  go_enter Tryz.func49,Tryz.ntmps49
  go_wp2_with (go_at_call 50;refine (HN.out _).mono ?_;rintro e w1 ⟨he,hb⟩;unfold NumIs at he;rw [HX.out] at he;subst he;have H1:=Lib.hid (HH.out.on hb);have f1:=H1.out.free 1;have c1:=H1.out.cell 1 (.int .i64 0) rfl;clear hb)
  go_end0
  exact (H1.out.set 1 _).good _ rfl rfl
section
variable {P:Program} {md:Region.Mode} {ops:Array Oper} {Q:Exit→Act→World→Prop} {S:World→Prop}
theorem tk {oi:Oper} {fuel:Nat} {listed:Array Bool} {a:Act} {w:World} (i:Nat) (v:Value) (hi:ops[i]?=some oi) (hS:S w) (hy:∀s,S s→(execOp a.eval oi).run P s=.ok (.value v) s)
  (h:wpAnyH P md ops Q S fuel (listed.setIfInBounds i true) (a.put oi.dst v) w) (h1:Region.noSelect ops=true:=by kernel_rfl) (h2:Region.free md ops listed i=true:=by kernel_rfl) (h3:(Region.ready md ops listed).contains i=true:=by kernel_rfl)
  (h4:Region.wanted oi (yielded ops a.tmps)=true:=by kernel_rfl) (hQ:∀c a w,Q (.panic c) (a.put oi.dst v) w→Q (.panic c) a w:=by exact fun _ _ _ h=>h):wpAnyH P md ops Q S (fuel+1) listed a w :=
 wpAnyH_take hi h1 h2 h3 hQ (Or.inl ⟨h4,hy⟩) hS h
theorem rd1 {o:Oper} {fuel:Nat} {listed:Array Bool} {a:Act} {w:World} (i:Nat) (ho:ops[i]?=some o)
  (h:∀K':Act→World→Prop,Shut (∀a w,S w→(S w→wpAnyH P md ops Q S fuel (listed.setIfInBounds i true) a w)→K' a w)→Oper.wp P o a w K' Q)
  (hr:Region.ready md ops listed = [i]:=by kernel_rfl) (hw:Region.wanted o (yielded ops a.tmps)=true:=by kernel_rfl):wpAnyH P md ops Q S (fuel+1) listed a w :=
 wpAnyH_ready hr (by simp) (AllReadyH.cons ho (fun K hK=>by rw [if_pos hw];exact h K hK) AllReadyH.nil)
end
section
variable {w:World} {B g:Nat} {x y z u v:List UInt8×Bool} {r:List (List UInt8×Bool)} {s:World}
theorem rc2 (h:∃cs,RowS w B g (x :: y :: r) cs s):s.cell? ⟨g,2,none⟩=some (.string (bstr x.1))∧s.cell? ⟨g,3,none⟩=some (.bool x.2)∧s.cell? ⟨g,4,none⟩=some (.string (bstr y.1))∧s.cell? ⟨g,5,none⟩=some (.bool y.2):=by
 obtain ⟨cs,h⟩:=h
 exact ⟨h.w0.1,h.w0.2,h.w1.1,h.w1.2⟩
theorem rc3 (h:∃cs,RowS w B g (x :: y :: z :: r) cs s):s.cell? ⟨g,2,none⟩=some (.string (bstr x.1))∧s.cell? ⟨g,3,none⟩=some (.bool x.2)∧s.cell? ⟨g,4,none⟩=some (.string (bstr y.1))∧s.cell? ⟨g,5,none⟩=some (.bool y.2)∧s.cell? ⟨g,6,none⟩=some (.string (bstr z.1))∧s.cell? ⟨g,7,none⟩=some (.bool z.2):=by
 obtain ⟨cs,h⟩:=h
 exact ⟨h.w0.1,h.w0.2,h.w1.1,h.w1.2,h.w2.1,h.w2.2⟩
theorem rc5 (h:∃cs,RowS w B g (x :: y :: z :: u :: v :: r) cs s):s.cell? ⟨g,2,none⟩=some (.string (bstr x.1))∧s.cell? ⟨g,3,none⟩=some (.bool x.2)∧s.cell? ⟨g,4,none⟩=some (.string (bstr y.1))∧s.cell? ⟨g,5,none⟩=some (.bool y.2)∧s.cell? ⟨g,6,none⟩=some (.string (bstr z.1))∧s.cell? ⟨g,7,none⟩=some (.bool z.2)∧s.cell? ⟨g,8,none⟩=some (.string (bstr u.1))∧s.cell? ⟨g,9,none⟩=some (.bool u.2)∧s.cell? ⟨g,10,none⟩=some (.string (bstr v.1))∧s.cell? ⟨g,11,none⟩=some (.bool v.2):=by
 obtain ⟨cs,h⟩:=h
 exact ⟨h.w0.1,h.w0.2,h.w1.1,h.w1.2,h.w2.1,h.w2.2,h.w3.1,h.w3.2,h.w4.1,h.w4.2⟩
end
end Go.Proofs.YtihlneenajlhoaaGreatDoor
