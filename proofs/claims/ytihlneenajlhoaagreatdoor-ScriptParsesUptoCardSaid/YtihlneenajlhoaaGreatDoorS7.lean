/-
 Plain law of the document's reader: its words taken one by one are an operation just if the line's words are one. No condition.
-/
import Derived.Test.YtihlneenajlhoaaGreatDoorS6
import Derived.Test.YtihlneenajlhoaaGreatDoorS2
import Derived.Test.YtihlneenajlhoaaGreatDoorS4
set_option linter.unusedSimpArgs false
set_option linter.unusedVariables false
namespace Go.Proofs.YtihlneenajlhoaaGreatDoor
open Go
abbrev RSt:=List (List UInt8×Bool)×Bool
def vW (s:RSt):List UInt8:=(nextW s.1).1
def vN (s:RSt):Int:=numOr (nextW s.1).1
noncomputable def vF (s:RSt):Int×Int:=fracOr (nextW s.1).1
def sW (s:RSt):RSt:=(s.1.tail,s.2||s.1.isEmpty||(nextW s.1).2)
def sT (s:RSt):RSt:=(s.1.tail,s.2||s.1.isEmpty || !(nextW s.1).2)
def sN (s:RSt):RSt:=(s.1.tail,s.2||s.1.isEmpty||(nextW s.1).2||(sp.num (nextW s.1).1).isNone)
noncomputable def sF (s:RSt):RSt:=(s.1.tail,s.2||s.1.isEmpty||(nextW s.1).2||(sp.fracS (nextW s.1).1).isNone)
def sP (s:RSt):RSt:=((sW s).1,(sW s).2 || !(vW s==sp.kOn||vW s==sp.kOff))
def sK (s:RSt):RSt:=((sW s).1,(sW s).2||(sp.boxOf (vW s)).isNone)
noncomputable def sB (s:RSt):RSt:=sF (sF (sW (sK s)))
noncomputable def opR (s:RSt):sp.Op×RSt :=
 if vW s=sp.kSheet then ({ kind:=1,origin:=vN (sW s),text:=vW (sN (sW s)) },(sT (sN (sW s))))
 else if vW s=sp.kView then ({ kind:=2,w:=vF (sW s),h:=vF (sF (sW s)) },(sF (sF (sW s))))
 else if vW s=sp.kFont then ({ kind:=3,w:=vF (sW s) },(sF (sW s)))
 else if vW s=sp.kColor then ({ kind:=13,w:=vF (sW s) },(sF (sW s)))
 else if vW s=sp.kPrint then ({ kind:=14,on:=vW (sW s)==sp.kOn },(sP (sW s)))
 else if vW s=sp.kWord then ({ kind:=4,name:=vW (sW s),word:=vW (sW (sW s)) },(sW (sW (sW s))))
 else if vW s=sp.kInsert then ({ kind:=5,node:=vN (sW s),at_:=vN (sN (sW s)),name:=vW (sN (sN (sW s))) },(sW (sN (sN (sW s)))))
 else if vW s=sp.kRemove then ({ kind:=6,node:=vN (sW s) },(sN (sW s)))
 else if vW s=sp.kSet then ({ kind:=7,node:=vN (sW s),name:=vW (sN (sW s)),word:=vW (sW (sN (sW s))) },(sT (sW (sN (sW s)))))
 else if vW s=sp.kUnset then ({ kind:=8,node:=vN (sW s),name:=vW (sN (sW s)) },(sW (sN (sW s))))
 else if vW s=sp.kBox then ({ kind:=9,node:=vN (sW s),bt:=(sp.boxOf (vW (sN (sW s)))).getD 0,bn:=sp.boxName (vW (sK (sN (sW s)))),bw:=vF (sW (sK (sN (sW s)))),bh:=vF (sF (sW (sK (sN (sW s))))) },(sB (sN (sW s))))
 else if vW s=sp.kAsk then ({ kind:=10,node:=vN (sW s),name:=vW (sN (sW s)) },(sW (sN (sW s))))
 else if vW s=sp.kCustom then ({ kind:=11,node:=vN (sW s),name:=vW (sN (sW s)) },(sW (sN (sW s))))
 else if vW s=sp.kRules then ({ kind:=12,node:=vN (sW s) },(sN (sW s)))
 else if vW s=sp.kCount then ({ kind:=15 },(sW s))
 else ({ },((sW s).1,true))
section
variable (l:List (List UInt8×Bool)) (x:List UInt8×Bool) (b:Bool)
theorem sW_bad:sW (l,true)=(l.tail,true):=by simp [sW]
theorem sT_bad:sT (l,true)=(l.tail,true):=by simp [sT]
theorem sN_bad:sN (l,true)=(l.tail,true):=by simp [sN]
theorem sF_bad:sF (l,true)=(l.tail,true):=by simp [sF]
theorem sP_bad:sP (l,true)=(l.tail,true):=by simp [sP,sW]
theorem sK_bad:sK (l,true)=(l.tail,true):=by simp [sK,sW]
theorem sB_bad:sB (l,true)=(l.tail.tail.tail.tail,true):=by simp [sB,sK_bad,sW_bad,sF_bad]
theorem sW_nil:sW ([],b)=([],true):=by simp [sW]
theorem sT_nil:sT ([],b)=([],true):=by simp [sT]
theorem sN_nil:sN ([],b)=([],true):=by simp [sN]
theorem sF_nil:sF ([],b)=([],true):=by simp [sF]
theorem sP_nil:sP ([],b)=([],true):=by simp [sP,sW]
theorem sK_nil:sK ([],b)=([],true):=by simp [sK,sW]
end
section
variable {l:List (List UInt8×Bool)} {x:List UInt8×Bool}
theorem sW_some {v:List UInt8} (h:sp.wPlain x=some v):sW (x :: l,false)=(l,false)∧vW (x :: l,false)=v:=by
 obtain ⟨t,q⟩:=x
 cases q<;>simp [sp.wPlain] at h
 exact ⟨by simp [sW,nextW],by simpa [vW,nextW] using h⟩
theorem sW_none (h:sp.wPlain x=none):sW (x :: l,false)=(l,true):=by
 obtain ⟨t,q⟩:=x
 cases q<;>simp [sp.wPlain] at h
 simp [sW,nextW]
theorem sT_some {v:List UInt8} (h:sp.wText x=some v):sT (x :: l,false)=(l,false)∧vW (x :: l,false)=v:=by
 obtain ⟨t,q⟩:=x
 cases q<;>simp [sp.wText] at h
 exact ⟨by simp [sT,nextW],by simpa [vW,nextW] using h⟩
theorem sT_none (h:sp.wText x=none):sT (x :: l,false)=(l,true):=by
 obtain ⟨t,q⟩:=x
 cases q<;>simp [sp.wText] at h
 simp [sT,nextW]
theorem sN_some {v:Int} (h:sp.wNum x=some v):sN (x :: l,false)=(l,false)∧vN (x :: l,false)=v:=by
 obtain ⟨t,q⟩:=x
 cases q<;>simp [sp.wNum] at h
 exact ⟨by simp [sN,nextW,h],by simp [vN,nextW,numOr,h]⟩
theorem sN_none (h:sp.wNum x=none):sN (x :: l,false)=(l,true):=by
 obtain ⟨t,q⟩:=x
 cases q
 ·have h':sp.num t=none:=by simpa [sp.wNum] using h
  simp [sN,nextW,h']
 ·simp [sN,nextW]
theorem sF_some {v:Int×Int} (h:sp.wFrac x=some v):sF (x :: l,false)=(l,false)∧vF (x :: l,false)=v:=by
 obtain ⟨t,q⟩:=x
 cases q<;>simp [sp.wFrac] at h
 exact ⟨by simp [sF,nextW,h],by simp [vF,nextW,fracOr,h]⟩
theorem sF_none (h:sp.wFrac x=none):sF (x :: l,false)=(l,true):=by
 obtain ⟨t,q⟩:=x
 cases q
 ·have h':sp.fracS t=none:=by simpa [sp.wFrac] using h
  simp [sF,nextW,h']
 ·simp [sF,nextW]
end
def OpOk (res:Option sp.Op) (p:sp.Op×RSt):Prop:=match res with
 | some o=>p=(o,([],false))
 | none=>p.2.2=true∨p.2.1≠[]
theorem opOk_none2 {r:Option sp.Op} (hr:r=none) {p:sp.Op×RSt} (h:p.2.2=true∨p.2.1≠[]):OpOk r p:=by subst hr;exact h
theorem opOk_none {p:sp.Op×RSt} (h:p.2.2=true∨p.2.1≠[]):OpOk none p:=h
theorem sP_on {l:List (List UInt8×Bool)} {x:List UInt8×Bool} {v:List UInt8} (h:sp.wPlain x=some v):sP (x :: l,false)=(l,!(v==sp.kOn||v==sp.kOff))∧vW (x :: l,false)=v:=by
 obtain ⟨e1,e2⟩:=sW_some (l:=l) h
 exact ⟨by simp only [sP,e1,e2,Bool.false_or],e2⟩
theorem sP_none {l:List (List UInt8×Bool)} {x:List UInt8×Bool} (h:sp.wPlain x=none):sP (x :: l,false)=(l,true):=by
 simp only [sP,sW_none h,Bool.true_or]
theorem sK_some {l:List (List UInt8×Bool)} {x:List UInt8×Bool} {v:List UInt8} (h:sp.wPlain x=some v):sK (x :: l,false)=(l,(sp.boxOf v).isNone)∧vW (x :: l,false)=v:=by
 obtain ⟨e1,e2⟩:=sW_some (l:=l) h
 exact ⟨by simp only [sK,e1,e2,Bool.false_or],e2⟩
theorem sK_none {l:List (List UInt8×Bool)} {x:List UInt8×Bool} (h:sp.wPlain x=none):sK (x :: l,false)=(l,true):=by
 simp only [sK,sW_none h,Bool.true_or]
theorem opR_Sheet (a:List (List UInt8×Bool)):OpOk (sp.opS sp.kSheet a) (opR ((sp.kSheet,false) :: a,false)):=by
 have e:opR ((sp.kSheet,false) :: a,false)=({ kind:=1,origin:=vN (a,false),text:=vW (sN (a,false)) },(sT (sN (a,false)))):=by
  unfold opR
  rw [show vW ((sp.kSheet,false) :: a,false)=sp.kSheet from rfl,if_pos rfl]
  rfl
 unfold sp.opS
 rw [e,if_pos rfl]
 clear e
 match a with
 | []=>exact opOk_none (.inl (by simp [sW,sT,sN,sF,sP,sK,sB,nextW]))
 | [x]=>exact opOk_none (.inl (by simp [sW,sT,sN,sF,sP,sK,sB,nextW]))
 | x :: y :: y1 :: t=>exact opOk_none (.inr (by simp [sW,sT,sN,sF,sP,sK,sB,nextW]))
 | [x,y] =>
  dsimp only
  cases h0:sp.wNum x with
  | none =>
   show OpOk none _
   exact opOk_none (.inl (by simp only [sN_none h0,sW_bad,sT_bad,sN_bad,sF_bad,sP_bad,sK_bad,sW_nil,sT_nil,sN_nil,sF_nil,sP_nil,sK_nil]))
  | some v0 =>
   cases h1:sp.wText y with
   | none =>
    show OpOk none _
    exact opOk_none (.inl (by simp only [(sN_some h0).1,(sN_some h0).2,sT_none h1,sW_bad,sT_bad,sN_bad,sF_bad,sP_bad,sK_bad,sW_nil,sT_nil,sN_nil,sF_nil,sP_nil,sK_nil]))
   | some v1 =>
    simp only [OpOk,(sN_some h0).1,(sN_some h0).2,(sT_some h1).1,(sT_some h1).2,Option.bind_some]
theorem opR_View (a:List (List UInt8×Bool)):OpOk (sp.opS sp.kView a) (opR ((sp.kView,false) :: a,false)):=by
 have e:opR ((sp.kView,false) :: a,false)=({ kind:=2,w:=vF (a,false),h:=vF (sF (a,false)) },(sF (sF (a,false)))):=by
  unfold opR
  rw [show vW ((sp.kView,false) :: a,false)=sp.kView from rfl,if_neg (show ¬sp.kView=sp.kSheet from by decide),if_pos rfl]
  rfl
 unfold sp.opS
 rw [e,if_neg (show ¬sp.kView=sp.kSheet from by decide),if_pos rfl]
 clear e
 match a with
 | []=>exact opOk_none (.inl (by simp [sW,sT,sN,sF,sP,sK,sB,nextW]))
 | [x]=>exact opOk_none (.inl (by simp [sW,sT,sN,sF,sP,sK,sB,nextW]))
 | x :: y :: y1 :: t=>exact opOk_none (.inr (by simp [sW,sT,sN,sF,sP,sK,sB,nextW]))
 | [x,y] =>
  dsimp only
  cases h0:sp.wFrac x with
  | none =>
   show OpOk none _
   exact opOk_none (.inl (by simp only [sF_none h0,sW_bad,sT_bad,sN_bad,sF_bad,sP_bad,sK_bad,sW_nil,sT_nil,sN_nil,sF_nil,sP_nil,sK_nil]))
  | some v0 =>
   cases h1:sp.wFrac y with
   | none =>
    show OpOk none _
    exact opOk_none (.inl (by simp only [(sF_some h0).1,(sF_some h0).2,sF_none h1,sW_bad,sT_bad,sN_bad,sF_bad,sP_bad,sK_bad,sW_nil,sT_nil,sN_nil,sF_nil,sP_nil,sK_nil]))
   | some v1 =>
    simp only [OpOk,(sF_some h0).1,(sF_some h0).2,(sF_some h1).1,(sF_some h1).2,Option.bind_some]
theorem opR_Font (a:List (List UInt8×Bool)):OpOk (sp.opS sp.kFont a) (opR ((sp.kFont,false) :: a,false)):=by
 have e:opR ((sp.kFont,false) :: a,false)=({ kind:=3,w:=vF (a,false) },(sF (a,false))):=by
  unfold opR
  rw [show vW ((sp.kFont,false) :: a,false)=sp.kFont from rfl,if_neg (show ¬sp.kFont=sp.kSheet from by decide),if_neg (show ¬sp.kFont=sp.kView from by decide),if_pos rfl]
  rfl
 unfold sp.opS
 rw [e,if_neg (show ¬sp.kFont=sp.kSheet from by decide),if_neg (show ¬sp.kFont=sp.kView from by decide),if_pos rfl]
 clear e
 match a with
 | []=>exact opOk_none (.inl (by simp [sW,sT,sN,sF,sP,sK,sB,nextW]))
 | x :: y1 :: t=>exact opOk_none (.inr (by simp [sW,sT,sN,sF,sP,sK,sB,nextW]))
 | [x] =>
  dsimp only
  cases h0:sp.wFrac x with
  | none =>
   show OpOk none _
   exact opOk_none (.inl (by simp only [sF_none h0,sW_bad,sT_bad,sN_bad,sF_bad,sP_bad,sK_bad,sW_nil,sT_nil,sN_nil,sF_nil,sP_nil,sK_nil]))
  | some v0 =>
   simp only [OpOk,(sF_some h0).1,(sF_some h0).2,Option.bind_some]
theorem opR_Color (a:List (List UInt8×Bool)):OpOk (sp.opS sp.kColor a) (opR ((sp.kColor,false) :: a,false)):=by
 have e:opR ((sp.kColor,false) :: a,false)=({ kind:=13,w:=vF (a,false) },(sF (a,false))):=by
  unfold opR
  rw [show vW ((sp.kColor,false) :: a,false)=sp.kColor from rfl,if_neg (show ¬sp.kColor=sp.kSheet from by decide),if_neg (show ¬sp.kColor=sp.kView from by decide),if_neg (show ¬sp.kColor=sp.kFont from by decide),if_pos rfl]
  rfl
 unfold sp.opS
 rw [e,if_neg (show ¬sp.kColor=sp.kSheet from by decide),if_neg (show ¬sp.kColor=sp.kView from by decide),if_neg (show ¬sp.kColor=sp.kFont from by decide),if_pos rfl]
 clear e
 match a with
 | []=>exact opOk_none (.inl (by simp [sW,sT,sN,sF,sP,sK,sB,nextW]))
 | x :: y1 :: t=>exact opOk_none (.inr (by simp [sW,sT,sN,sF,sP,sK,sB,nextW]))
 | [x] =>
  dsimp only
  cases h0:sp.wFrac x with
  | none =>
   show OpOk none _
   exact opOk_none (.inl (by simp only [sF_none h0,sW_bad,sT_bad,sN_bad,sF_bad,sP_bad,sK_bad,sW_nil,sT_nil,sN_nil,sF_nil,sP_nil,sK_nil]))
  | some v0 =>
   simp only [OpOk,(sF_some h0).1,(sF_some h0).2,Option.bind_some]
theorem opR_Print (a:List (List UInt8×Bool)):OpOk (sp.opS sp.kPrint a) (opR ((sp.kPrint,false) :: a,false)):=by
 have e:opR ((sp.kPrint,false) :: a,false)=({ kind:=14,on:=vW (a,false)==sp.kOn },(sP (a,false))):=by
  unfold opR
  rw [show vW ((sp.kPrint,false) :: a,false)=sp.kPrint from rfl,if_neg (show ¬sp.kPrint=sp.kSheet from by decide),if_neg (show ¬sp.kPrint=sp.kView from by decide),if_neg (show ¬sp.kPrint=sp.kFont from by decide),if_neg (show ¬sp.kPrint=sp.kColor from by decide),if_pos rfl]
  rfl
 unfold sp.opS
 rw [e,if_neg (show ¬sp.kPrint=sp.kSheet from by decide),if_neg (show ¬sp.kPrint=sp.kView from by decide),if_neg (show ¬sp.kPrint=sp.kFont from by decide),if_neg (show ¬sp.kPrint=sp.kColor from by decide),if_pos rfl]
 clear e
 match a with
 | []=>exact opOk_none (.inl (by simp [sW,sT,sN,sF,sP,sK,sB,nextW]))
 | x :: y1 :: t=>exact opOk_none (.inr (by simp [sW,sT,sN,sF,sP,sK,sB,nextW]))
 | [x] =>
  dsimp only
  cases h0:sp.wPlain x with
  | none =>
   show OpOk none _
   exact opOk_none (.inl (by simp only [sP_none h0,sW_bad,sT_bad,sN_bad,sF_bad,sP_bad,sK_bad,sW_nil,sT_nil,sN_nil,sF_nil,sP_nil,sK_nil]))
  | some v0 =>
   obtain ⟨e1,e2⟩:=sP_on (l:=[]) h0
   rw [e1,e2]
   by_cases g1:v0=sp.kOn
   ·subst g1;rfl
   by_cases g2:v0=sp.kOff
   ·subst g2;rfl
   have g1b:(v0==sp.kOn)=false:=by simpa using g1
   have g2b:(v0==sp.kOff)=false:=by simpa using g2
   show OpOk (if v0=sp.kOn then _ else if v0=sp.kOff then _ else none) _
   rw [if_neg g1,if_neg g2,g1b,g2b]
   exact opOk_none (.inl rfl)
theorem opR_Word (a:List (List UInt8×Bool)):OpOk (sp.opS sp.kWord a) (opR ((sp.kWord,false) :: a,false)):=by
 have e:opR ((sp.kWord,false) :: a,false)=({ kind:=4,name:=vW (a,false),word:=vW (sW (a,false)) },(sW (sW (a,false)))):=by
  unfold opR
  rw [show vW ((sp.kWord,false) :: a,false)=sp.kWord from rfl,if_neg (show ¬sp.kWord=sp.kSheet from by decide),if_neg (show ¬sp.kWord=sp.kView from by decide),if_neg (show ¬sp.kWord=sp.kFont from by decide),if_neg (show ¬sp.kWord=sp.kColor from by decide),if_neg (show ¬sp.kWord=sp.kPrint from by decide),if_pos rfl]
  rfl
 unfold sp.opS
 rw [e,if_neg (show ¬sp.kWord=sp.kSheet from by decide),if_neg (show ¬sp.kWord=sp.kView from by decide),if_neg (show ¬sp.kWord=sp.kFont from by decide),if_neg (show ¬sp.kWord=sp.kColor from by decide),if_neg (show ¬sp.kWord=sp.kPrint from by decide),if_pos rfl]
 clear e
 match a with
 | []=>exact opOk_none (.inl (by simp [sW,sT,sN,sF,sP,sK,sB,nextW]))
 | [x]=>exact opOk_none (.inl (by simp [sW,sT,sN,sF,sP,sK,sB,nextW]))
 | x :: y :: y1 :: t=>exact opOk_none (.inr (by simp [sW,sT,sN,sF,sP,sK,sB,nextW]))
 | [x,y] =>
  dsimp only
  cases h0:sp.wPlain x with
  | none =>
   show OpOk none _
   exact opOk_none (.inl (by simp only [sW_none h0,sW_bad,sT_bad,sN_bad,sF_bad,sP_bad,sK_bad,sW_nil,sT_nil,sN_nil,sF_nil,sP_nil,sK_nil]))
  | some v0 =>
   cases h1:sp.wPlain y with
   | none =>
    show OpOk none _
    exact opOk_none (.inl (by simp only [(sW_some h0).1,(sW_some h0).2,sW_none h1,sW_bad,sT_bad,sN_bad,sF_bad,sP_bad,sK_bad,sW_nil,sT_nil,sN_nil,sF_nil,sP_nil,sK_nil]))
   | some v1 =>
    simp only [OpOk,(sW_some h0).1,(sW_some h0).2,(sW_some h1).1,(sW_some h1).2,Option.bind_some]
theorem opR_Insert (a:List (List UInt8×Bool)):OpOk (sp.opS sp.kInsert a) (opR ((sp.kInsert,false) :: a,false)):=by
 have e:opR ((sp.kInsert,false) :: a,false)=({ kind:=5,node:=vN (a,false),at_:=vN (sN (a,false)),name:=vW (sN (sN (a,false))) },(sW (sN (sN (a,false))))):=by
  unfold opR
  rw [show vW ((sp.kInsert,false) :: a,false)=sp.kInsert from rfl,if_neg (show ¬sp.kInsert=sp.kSheet from by decide),if_neg (show ¬sp.kInsert=sp.kView from by decide),if_neg (show ¬sp.kInsert=sp.kFont from by decide),if_neg (show ¬sp.kInsert=sp.kColor from by decide),if_neg (show ¬sp.kInsert=sp.kPrint from by decide),if_neg (show ¬sp.kInsert=sp.kWord from by decide),if_pos rfl]
  rfl
 unfold sp.opS
 rw [e,if_neg (show ¬sp.kInsert=sp.kSheet from by decide),if_neg (show ¬sp.kInsert=sp.kView from by decide),if_neg (show ¬sp.kInsert=sp.kFont from by decide),if_neg (show ¬sp.kInsert=sp.kColor from by decide),if_neg (show ¬sp.kInsert=sp.kPrint from by decide),if_neg (show ¬sp.kInsert=sp.kWord from by decide),if_pos rfl]
 clear e
 match a with
 | []=>exact opOk_none (.inl (by simp [sW,sT,sN,sF,sP,sK,sB,nextW]))
 | [x]=>exact opOk_none (.inl (by simp [sW,sT,sN,sF,sP,sK,sB,nextW]))
 | [x,y]=>exact opOk_none (.inl (by simp [sW,sT,sN,sF,sP,sK,sB,nextW]))
 | x :: y :: z :: y1 :: t=>exact opOk_none (.inr (by simp [sW,sT,sN,sF,sP,sK,sB,nextW]))
 | [x,y,z] =>
  dsimp only
  cases h0:sp.wNum x with
  | none =>
   show OpOk none _
   exact opOk_none (.inl (by simp only [sN_none h0,sW_bad,sT_bad,sN_bad,sF_bad,sP_bad,sK_bad,sW_nil,sT_nil,sN_nil,sF_nil,sP_nil,sK_nil]))
  | some v0 =>
   cases h1:sp.wNum y with
   | none =>
    show OpOk none _
    exact opOk_none (.inl (by simp only [(sN_some h0).1,(sN_some h0).2,sN_none h1,sW_bad,sT_bad,sN_bad,sF_bad,sP_bad,sK_bad,sW_nil,sT_nil,sN_nil,sF_nil,sP_nil,sK_nil]))
   | some v1 =>
    cases h2:sp.wPlain z with
    | none =>
     show OpOk none _
     exact opOk_none (.inl (by simp only [(sN_some h0).1,(sN_some h0).2,(sN_some h1).1,(sN_some h1).2,sW_none h2,sW_bad,sT_bad,sN_bad,sF_bad,sP_bad,sK_bad,sW_nil,sT_nil,sN_nil,sF_nil,sP_nil,sK_nil]))
    | some v2 =>
     simp only [OpOk,(sN_some h0).1,(sN_some h0).2,(sN_some h1).1,(sN_some h1).2,(sW_some h2).1,(sW_some h2).2,Option.bind_some]
theorem opR_Remove (a:List (List UInt8×Bool)):OpOk (sp.opS sp.kRemove a) (opR ((sp.kRemove,false) :: a,false)):=by
 have e:opR ((sp.kRemove,false) :: a,false)=({ kind:=6,node:=vN (a,false) },(sN (a,false))):=by
  unfold opR
  rw [show vW ((sp.kRemove,false) :: a,false)=sp.kRemove from rfl,if_neg (show ¬sp.kRemove=sp.kSheet from by decide),if_neg (show ¬sp.kRemove=sp.kView from by decide),if_neg (show ¬sp.kRemove=sp.kFont from by decide),if_neg (show ¬sp.kRemove=sp.kColor from by decide),if_neg (show ¬sp.kRemove=sp.kPrint from by decide),if_neg (show ¬sp.kRemove=sp.kWord from by decide),if_neg (show ¬sp.kRemove=sp.kInsert from by decide),if_pos rfl]
  rfl
 unfold sp.opS
 rw [e,if_neg (show ¬sp.kRemove=sp.kSheet from by decide),if_neg (show ¬sp.kRemove=sp.kView from by decide),if_neg (show ¬sp.kRemove=sp.kFont from by decide),if_neg (show ¬sp.kRemove=sp.kColor from by decide),if_neg (show ¬sp.kRemove=sp.kPrint from by decide),if_neg (show ¬sp.kRemove=sp.kWord from by decide),if_neg (show ¬sp.kRemove=sp.kInsert from by decide),if_pos rfl]
 clear e
 match a with
 | []=>exact opOk_none (.inl (by simp [sW,sT,sN,sF,sP,sK,sB,nextW]))
 | x :: y1 :: t=>exact opOk_none (.inr (by simp [sW,sT,sN,sF,sP,sK,sB,nextW]))
 | [x] =>
  dsimp only
  cases h0:sp.wNum x with
  | none =>
   show OpOk none _
   exact opOk_none (.inl (by simp only [sN_none h0,sW_bad,sT_bad,sN_bad,sF_bad,sP_bad,sK_bad,sW_nil,sT_nil,sN_nil,sF_nil,sP_nil,sK_nil]))
  | some v0 =>
   simp only [OpOk,(sN_some h0).1,(sN_some h0).2,Option.bind_some]
theorem opR_Set (a:List (List UInt8×Bool)):OpOk (sp.opS sp.kSet a) (opR ((sp.kSet,false) :: a,false)):=by
 have e:opR ((sp.kSet,false) :: a,false)=({ kind:=7,node:=vN (a,false),name:=vW (sN (a,false)),word:=vW (sW (sN (a,false))) },(sT (sW (sN (a,false))))):=by
  unfold opR
  rw [show vW ((sp.kSet,false) :: a,false)=sp.kSet from rfl,if_neg (show ¬sp.kSet=sp.kSheet from by decide),if_neg (show ¬sp.kSet=sp.kView from by decide),if_neg (show ¬sp.kSet=sp.kFont from by decide),if_neg (show ¬sp.kSet=sp.kColor from by decide),if_neg (show ¬sp.kSet=sp.kPrint from by decide),if_neg (show ¬sp.kSet=sp.kWord from by decide),if_neg (show ¬sp.kSet=sp.kInsert from by decide),if_neg (show ¬sp.kSet=sp.kRemove from by decide),if_pos rfl]
  rfl
 unfold sp.opS
 rw [e,if_neg (show ¬sp.kSet=sp.kSheet from by decide),if_neg (show ¬sp.kSet=sp.kView from by decide),if_neg (show ¬sp.kSet=sp.kFont from by decide),if_neg (show ¬sp.kSet=sp.kColor from by decide),if_neg (show ¬sp.kSet=sp.kPrint from by decide),if_neg (show ¬sp.kSet=sp.kWord from by decide),if_neg (show ¬sp.kSet=sp.kInsert from by decide),if_neg (show ¬sp.kSet=sp.kRemove from by decide),if_pos rfl]
 clear e
 match a with
 | []=>exact opOk_none (.inl (by simp [sW,sT,sN,sF,sP,sK,sB,nextW]))
 | [x]=>exact opOk_none (.inl (by simp [sW,sT,sN,sF,sP,sK,sB,nextW]))
 | [x,y]=>exact opOk_none (.inl (by simp [sW,sT,sN,sF,sP,sK,sB,nextW]))
 | x :: y :: z :: y1 :: t=>exact opOk_none (.inr (by simp [sW,sT,sN,sF,sP,sK,sB,nextW]))
 | [x,y,z] =>
  dsimp only
  cases h0:sp.wNum x with
  | none =>
   show OpOk none _
   exact opOk_none (.inl (by simp only [sN_none h0,sW_bad,sT_bad,sN_bad,sF_bad,sP_bad,sK_bad,sW_nil,sT_nil,sN_nil,sF_nil,sP_nil,sK_nil]))
  | some v0 =>
   cases h1:sp.wPlain y with
   | none =>
    show OpOk none _
    exact opOk_none (.inl (by simp only [(sN_some h0).1,(sN_some h0).2,sW_none h1,sW_bad,sT_bad,sN_bad,sF_bad,sP_bad,sK_bad,sW_nil,sT_nil,sN_nil,sF_nil,sP_nil,sK_nil]))
   | some v1 =>
    cases h2:sp.wText z with
    | none =>
     show OpOk none _
     exact opOk_none (.inl (by simp only [(sN_some h0).1,(sN_some h0).2,(sW_some h1).1,(sW_some h1).2,sT_none h2,sW_bad,sT_bad,sN_bad,sF_bad,sP_bad,sK_bad,sW_nil,sT_nil,sN_nil,sF_nil,sP_nil,sK_nil]))
    | some v2 =>
     simp only [OpOk,(sN_some h0).1,(sN_some h0).2,(sW_some h1).1,(sW_some h1).2,(sT_some h2).1,(sT_some h2).2,Option.bind_some]
theorem opR_Unset (a:List (List UInt8×Bool)):OpOk (sp.opS sp.kUnset a) (opR ((sp.kUnset,false) :: a,false)):=by
 have e:opR ((sp.kUnset,false) :: a,false)=({ kind:=8,node:=vN (a,false),name:=vW (sN (a,false)) },(sW (sN (a,false)))):=by
  unfold opR
  rw [show vW ((sp.kUnset,false) :: a,false)=sp.kUnset from rfl,if_neg (show ¬sp.kUnset=sp.kSheet from by decide),if_neg (show ¬sp.kUnset=sp.kView from by decide),if_neg (show ¬sp.kUnset=sp.kFont from by decide),if_neg (show ¬sp.kUnset=sp.kColor from by decide),if_neg (show ¬sp.kUnset=sp.kPrint from by decide),if_neg (show ¬sp.kUnset=sp.kWord from by decide),if_neg (show ¬sp.kUnset=sp.kInsert from by decide),if_neg (show ¬sp.kUnset=sp.kRemove from by decide),if_neg (show ¬sp.kUnset=sp.kSet from by decide),if_pos rfl]
  rfl
 unfold sp.opS
 rw [e,if_neg (show ¬sp.kUnset=sp.kSheet from by decide),if_neg (show ¬sp.kUnset=sp.kView from by decide),if_neg (show ¬sp.kUnset=sp.kFont from by decide),if_neg (show ¬sp.kUnset=sp.kColor from by decide),if_neg (show ¬sp.kUnset=sp.kPrint from by decide),if_neg (show ¬sp.kUnset=sp.kWord from by decide),if_neg (show ¬sp.kUnset=sp.kInsert from by decide),if_neg (show ¬sp.kUnset=sp.kRemove from by decide),if_neg (show ¬sp.kUnset=sp.kSet from by decide),if_pos rfl]
 clear e
 match a with
 | []=>exact opOk_none (.inl (by simp [sW,sT,sN,sF,sP,sK,sB,nextW]))
 | [x]=>exact opOk_none (.inl (by simp [sW,sT,sN,sF,sP,sK,sB,nextW]))
 | x :: y :: y1 :: t=>exact opOk_none (.inr (by simp [sW,sT,sN,sF,sP,sK,sB,nextW]))
 | [x,y] =>
  dsimp only
  cases h0:sp.wNum x with
  | none =>
   show OpOk none _
   exact opOk_none (.inl (by simp only [sN_none h0,sW_bad,sT_bad,sN_bad,sF_bad,sP_bad,sK_bad,sW_nil,sT_nil,sN_nil,sF_nil,sP_nil,sK_nil]))
  | some v0 =>
   cases h1:sp.wPlain y with
   | none =>
    show OpOk none _
    exact opOk_none (.inl (by simp only [(sN_some h0).1,(sN_some h0).2,sW_none h1,sW_bad,sT_bad,sN_bad,sF_bad,sP_bad,sK_bad,sW_nil,sT_nil,sN_nil,sF_nil,sP_nil,sK_nil]))
   | some v1 =>
    simp only [OpOk,(sN_some h0).1,(sN_some h0).2,(sW_some h1).1,(sW_some h1).2,Option.bind_some]
theorem opR_Box (a:List (List UInt8×Bool)):OpOk (sp.opS sp.kBox a) (opR ((sp.kBox,false) :: a,false)):=by
 have e:opR ((sp.kBox,false) :: a,false)=({ kind:=9,node:=vN (a,false),bt:=(sp.boxOf (vW (sN (a,false)))).getD 0,bn:=sp.boxName (vW (sK (sN (a,false)))),bw:=vF (sW (sK (sN (a,false)))),bh:=vF (sF (sW (sK (sN (a,false))))) },(sB (sN (a,false)))):=by
  unfold opR
  rw [show vW ((sp.kBox,false) :: a,false)=sp.kBox from rfl,if_neg (show ¬sp.kBox=sp.kSheet from by decide),if_neg (show ¬sp.kBox=sp.kView from by decide),if_neg (show ¬sp.kBox=sp.kFont from by decide),if_neg (show ¬sp.kBox=sp.kColor from by decide),if_neg (show ¬sp.kBox=sp.kPrint from by decide),if_neg (show ¬sp.kBox=sp.kWord from by decide),if_neg (show ¬sp.kBox=sp.kInsert from by decide),if_neg (show ¬sp.kBox=sp.kRemove from by decide),if_neg (show ¬sp.kBox=sp.kSet from by decide),if_neg (show ¬sp.kBox=sp.kUnset from by decide),if_pos rfl]
  rfl
 unfold sp.opS
 rw [e,if_neg (show ¬sp.kBox=sp.kSheet from by decide),if_neg (show ¬sp.kBox=sp.kView from by decide),if_neg (show ¬sp.kBox=sp.kFont from by decide),if_neg (show ¬sp.kBox=sp.kColor from by decide),if_neg (show ¬sp.kBox=sp.kPrint from by decide),if_neg (show ¬sp.kBox=sp.kWord from by decide),if_neg (show ¬sp.kBox=sp.kInsert from by decide),if_neg (show ¬sp.kBox=sp.kRemove from by decide),if_neg (show ¬sp.kBox=sp.kSet from by decide),if_neg (show ¬sp.kBox=sp.kUnset from by decide),if_pos rfl]
 clear e
 match a with
 | []=>exact opOk_none (.inl (by simp [sW,sT,sN,sF,sP,sK,sB,nextW]))
 | [x]=>exact opOk_none (.inl (by simp [sW,sT,sN,sF,sP,sK,sB,nextW]))
 | [x,y]=>exact opOk_none (.inl (by simp [sW,sT,sN,sF,sP,sK,sB,nextW]))
 | [x,y,z]=>exact opOk_none (.inl (by simp [sW,sT,sN,sF,sP,sK,sB,nextW]))
 | [x,y,z,u]=>exact opOk_none (.inl (by simp [sW,sT,sN,sF,sP,sK,sB,nextW]))
 | x :: y :: z :: u :: v :: y1 :: t=>exact opOk_none (.inr (by simp [sW,sT,sN,sF,sP,sK,sB,nextW]))
 | [x,y,z,u,v] =>
  dsimp only
  unfold sB
  cases h0:sp.wNum x with
  | none =>
   show OpOk none _
   exact opOk_none (.inl (by simp only [sN_none h0,sW_bad,sT_bad,sN_bad,sF_bad,sP_bad,sK_bad,sW_nil,sT_nil,sN_nil,sF_nil,sP_nil,sK_nil]))
  | some v0 =>
   cases h1:sp.wPlain y with
   | none =>
    show OpOk none _
    exact opOk_none (.inl (by simp only [(sN_some h0).1,(sN_some h0).2,sK_none h1,sW_bad,sT_bad,sN_bad,sF_bad,sP_bad,sK_bad,sW_nil,sT_nil,sN_nil,sF_nil,sP_nil,sK_nil]))
   | some v1 =>
    have ek:=fun l=>(sK_some (l:=l) h1).1
    have ev:=fun l=>(sK_some (l:=l) h1).2
    cases g1:sp.boxOf v1 with
    | none=>exact opOk_none2 (by show (sp.boxOf v1).bind _=none;rw [g1];rfl) (.inl (by simp only [(sN_some h0).1,(sN_some h0).2,ek,g1,Option.isNone_none,sW_bad,sT_bad,sN_bad,sF_bad,sP_bad,sK_bad,sW_nil,sT_nil,sN_nil,sF_nil,sP_nil,sK_nil]))
    | some k1 =>
     simp only [Option.bind_some,g1]
     have ek2:∀l,sK (y :: l,false)=(l,false):=fun l=>by rw [ek,g1];rfl
     cases h2:sp.wPlain z with
     | none =>
      show OpOk none _
      exact opOk_none (.inl (by simp only [(sN_some h0).1,(sN_some h0).2,ek2,ev,g1,Option.getD_some,sW_none h2,sW_bad,sT_bad,sN_bad,sF_bad,sP_bad,sK_bad,sW_nil,sT_nil,sN_nil,sF_nil,sP_nil,sK_nil]))
     | some v2 =>
      cases h3:sp.wFrac u with
      | none =>
       show OpOk none _
       exact opOk_none (.inl (by simp only [(sN_some h0).1,(sN_some h0).2,ek2,ev,g1,Option.getD_some,(sW_some h2).1,(sW_some h2).2,sF_none h3,sW_bad,sT_bad,sN_bad,sF_bad,sP_bad,sK_bad,sW_nil,sT_nil,sN_nil,sF_nil,sP_nil,sK_nil]))
      | some v3 =>
       cases h4:sp.wFrac v with
       | none =>
        show OpOk none _
        exact opOk_none (.inl (by simp only [(sN_some h0).1,(sN_some h0).2,ek2,ev,g1,Option.getD_some,(sW_some h2).1,(sW_some h2).2,(sF_some h3).1,(sF_some h3).2,sF_none h4,sW_bad,sT_bad,sN_bad,sF_bad,sP_bad,sK_bad,sW_nil,sT_nil,sN_nil,sF_nil,sP_nil,sK_nil]))
       | some v4 =>
        simp only [OpOk,(sN_some h0).1,(sN_some h0).2,ek2,ev,g1,Option.getD_some,(sW_some h2).1,(sW_some h2).2,(sF_some h3).1,(sF_some h3).2,(sF_some h4).1,(sF_some h4).2,g1,Option.bind_some]
theorem opR_Ask (a:List (List UInt8×Bool)):OpOk (sp.opS sp.kAsk a) (opR ((sp.kAsk,false) :: a,false)):=by
 have e:opR ((sp.kAsk,false) :: a,false)=({ kind:=10,node:=vN (a,false),name:=vW (sN (a,false)) },(sW (sN (a,false)))):=by
  unfold opR
  rw [show vW ((sp.kAsk,false) :: a,false)=sp.kAsk from rfl,if_neg (show ¬sp.kAsk=sp.kSheet from by decide),if_neg (show ¬sp.kAsk=sp.kView from by decide),if_neg (show ¬sp.kAsk=sp.kFont from by decide),if_neg (show ¬sp.kAsk=sp.kColor from by decide),if_neg (show ¬sp.kAsk=sp.kPrint from by decide),if_neg (show ¬sp.kAsk=sp.kWord from by decide),if_neg (show ¬sp.kAsk=sp.kInsert from by decide),if_neg (show ¬sp.kAsk=sp.kRemove from by decide),if_neg (show ¬sp.kAsk=sp.kSet from by decide),if_neg (show ¬sp.kAsk=sp.kUnset from by decide),if_neg (show ¬sp.kAsk=sp.kBox from by decide),if_pos rfl]
  rfl
 unfold sp.opS
 rw [e,if_neg (show ¬sp.kAsk=sp.kSheet from by decide),if_neg (show ¬sp.kAsk=sp.kView from by decide),if_neg (show ¬sp.kAsk=sp.kFont from by decide),if_neg (show ¬sp.kAsk=sp.kColor from by decide),if_neg (show ¬sp.kAsk=sp.kPrint from by decide),if_neg (show ¬sp.kAsk=sp.kWord from by decide),if_neg (show ¬sp.kAsk=sp.kInsert from by decide),if_neg (show ¬sp.kAsk=sp.kRemove from by decide),if_neg (show ¬sp.kAsk=sp.kSet from by decide),if_neg (show ¬sp.kAsk=sp.kUnset from by decide),if_neg (show ¬sp.kAsk=sp.kBox from by decide),if_pos rfl]
 clear e
 match a with
 | []=>exact opOk_none (.inl (by simp [sW,sT,sN,sF,sP,sK,sB,nextW]))
 | [x]=>exact opOk_none (.inl (by simp [sW,sT,sN,sF,sP,sK,sB,nextW]))
 | x :: y :: y1 :: t=>exact opOk_none (.inr (by simp [sW,sT,sN,sF,sP,sK,sB,nextW]))
 | [x,y] =>
  dsimp only
  cases h0:sp.wNum x with
  | none =>
   show OpOk none _
   exact opOk_none (.inl (by simp only [sN_none h0,sW_bad,sT_bad,sN_bad,sF_bad,sP_bad,sK_bad,sW_nil,sT_nil,sN_nil,sF_nil,sP_nil,sK_nil]))
  | some v0 =>
   cases h1:sp.wPlain y with
   | none =>
    show OpOk none _
    exact opOk_none (.inl (by simp only [(sN_some h0).1,(sN_some h0).2,sW_none h1,sW_bad,sT_bad,sN_bad,sF_bad,sP_bad,sK_bad,sW_nil,sT_nil,sN_nil,sF_nil,sP_nil,sK_nil]))
   | some v1 =>
    simp only [OpOk,(sN_some h0).1,(sN_some h0).2,(sW_some h1).1,(sW_some h1).2,Option.bind_some]
theorem opR_Custom (a:List (List UInt8×Bool)):OpOk (sp.opS sp.kCustom a) (opR ((sp.kCustom,false) :: a,false)):=by
 have e:opR ((sp.kCustom,false) :: a,false)=({ kind:=11,node:=vN (a,false),name:=vW (sN (a,false)) },(sW (sN (a,false)))):=by
  unfold opR
  rw [show vW ((sp.kCustom,false) :: a,false)=sp.kCustom from rfl,if_neg (show ¬sp.kCustom=sp.kSheet from by decide),if_neg (show ¬sp.kCustom=sp.kView from by decide),if_neg (show ¬sp.kCustom=sp.kFont from by decide),if_neg (show ¬sp.kCustom=sp.kColor from by decide),if_neg (show ¬sp.kCustom=sp.kPrint from by decide),if_neg (show ¬sp.kCustom=sp.kWord from by decide),if_neg (show ¬sp.kCustom=sp.kInsert from by decide),if_neg (show ¬sp.kCustom=sp.kRemove from by decide),if_neg (show ¬sp.kCustom=sp.kSet from by decide),if_neg (show ¬sp.kCustom=sp.kUnset from by decide),if_neg (show ¬sp.kCustom=sp.kBox from by decide),if_neg (show ¬sp.kCustom=sp.kAsk from by decide),if_pos rfl]
  rfl
 unfold sp.opS
 rw [e,if_neg (show ¬sp.kCustom=sp.kSheet from by decide),if_neg (show ¬sp.kCustom=sp.kView from by decide),if_neg (show ¬sp.kCustom=sp.kFont from by decide),if_neg (show ¬sp.kCustom=sp.kColor from by decide),if_neg (show ¬sp.kCustom=sp.kPrint from by decide),if_neg (show ¬sp.kCustom=sp.kWord from by decide),if_neg (show ¬sp.kCustom=sp.kInsert from by decide),if_neg (show ¬sp.kCustom=sp.kRemove from by decide),if_neg (show ¬sp.kCustom=sp.kSet from by decide),if_neg (show ¬sp.kCustom=sp.kUnset from by decide),if_neg (show ¬sp.kCustom=sp.kBox from by decide),if_neg (show ¬sp.kCustom=sp.kAsk from by decide),if_pos rfl]
 clear e
 match a with
 | []=>exact opOk_none (.inl (by simp [sW,sT,sN,sF,sP,sK,sB,nextW]))
 | [x]=>exact opOk_none (.inl (by simp [sW,sT,sN,sF,sP,sK,sB,nextW]))
 | x :: y :: y1 :: t=>exact opOk_none (.inr (by simp [sW,sT,sN,sF,sP,sK,sB,nextW]))
 | [x,y] =>
  dsimp only
  cases h0:sp.wNum x with
  | none =>
   show OpOk none _
   exact opOk_none (.inl (by simp only [sN_none h0,sW_bad,sT_bad,sN_bad,sF_bad,sP_bad,sK_bad,sW_nil,sT_nil,sN_nil,sF_nil,sP_nil,sK_nil]))
  | some v0 =>
   cases h1:sp.wPlain y with
   | none =>
    show OpOk none _
    exact opOk_none (.inl (by simp only [(sN_some h0).1,(sN_some h0).2,sW_none h1,sW_bad,sT_bad,sN_bad,sF_bad,sP_bad,sK_bad,sW_nil,sT_nil,sN_nil,sF_nil,sP_nil,sK_nil]))
   | some v1 =>
    simp only [OpOk,(sN_some h0).1,(sN_some h0).2,(sW_some h1).1,(sW_some h1).2,Option.bind_some]
theorem opR_Rules (a:List (List UInt8×Bool)):OpOk (sp.opS sp.kRules a) (opR ((sp.kRules,false) :: a,false)):=by
 have e:opR ((sp.kRules,false) :: a,false)=({ kind:=12,node:=vN (a,false) },(sN (a,false))):=by
  unfold opR
  rw [show vW ((sp.kRules,false) :: a,false)=sp.kRules from rfl,if_neg (show ¬sp.kRules=sp.kSheet from by decide),if_neg (show ¬sp.kRules=sp.kView from by decide),if_neg (show ¬sp.kRules=sp.kFont from by decide),if_neg (show ¬sp.kRules=sp.kColor from by decide),if_neg (show ¬sp.kRules=sp.kPrint from by decide),if_neg (show ¬sp.kRules=sp.kWord from by decide),if_neg (show ¬sp.kRules=sp.kInsert from by decide),if_neg (show ¬sp.kRules=sp.kRemove from by decide),if_neg (show ¬sp.kRules=sp.kSet from by decide),if_neg (show ¬sp.kRules=sp.kUnset from by decide),if_neg (show ¬sp.kRules=sp.kBox from by decide),if_neg (show ¬sp.kRules=sp.kAsk from by decide),if_neg (show ¬sp.kRules=sp.kCustom from by decide),if_pos rfl]
  rfl
 unfold sp.opS
 rw [e,if_neg (show ¬sp.kRules=sp.kSheet from by decide),if_neg (show ¬sp.kRules=sp.kView from by decide),if_neg (show ¬sp.kRules=sp.kFont from by decide),if_neg (show ¬sp.kRules=sp.kColor from by decide),if_neg (show ¬sp.kRules=sp.kPrint from by decide),if_neg (show ¬sp.kRules=sp.kWord from by decide),if_neg (show ¬sp.kRules=sp.kInsert from by decide),if_neg (show ¬sp.kRules=sp.kRemove from by decide),if_neg (show ¬sp.kRules=sp.kSet from by decide),if_neg (show ¬sp.kRules=sp.kUnset from by decide),if_neg (show ¬sp.kRules=sp.kBox from by decide),if_neg (show ¬sp.kRules=sp.kAsk from by decide),if_neg (show ¬sp.kRules=sp.kCustom from by decide),if_pos rfl]
 clear e
 match a with
 | []=>exact opOk_none (.inl (by simp [sW,sT,sN,sF,sP,sK,sB,nextW]))
 | x :: y1 :: t=>exact opOk_none (.inr (by simp [sW,sT,sN,sF,sP,sK,sB,nextW]))
 | [x] =>
  dsimp only
  cases h0:sp.wNum x with
  | none =>
   show OpOk none _
   exact opOk_none (.inl (by simp only [sN_none h0,sW_bad,sT_bad,sN_bad,sF_bad,sP_bad,sK_bad,sW_nil,sT_nil,sN_nil,sF_nil,sP_nil,sK_nil]))
  | some v0 =>
   simp only [OpOk,(sN_some h0).1,(sN_some h0).2,Option.bind_some]
theorem opR_Count (a:List (List UInt8×Bool)):OpOk (sp.opS sp.kCount a) (opR ((sp.kCount,false) :: a,false)):=by
 have e:opR ((sp.kCount,false) :: a,false)=({ kind:=15 },(a,false)):=by
  unfold opR
  rw [show vW ((sp.kCount,false) :: a,false)=sp.kCount from rfl,if_neg (show ¬sp.kCount=sp.kSheet from by decide),if_neg (show ¬sp.kCount=sp.kView from by decide),if_neg (show ¬sp.kCount=sp.kFont from by decide),if_neg (show ¬sp.kCount=sp.kColor from by decide),if_neg (show ¬sp.kCount=sp.kPrint from by decide),if_neg (show ¬sp.kCount=sp.kWord from by decide),if_neg (show ¬sp.kCount=sp.kInsert from by decide),if_neg (show ¬sp.kCount=sp.kRemove from by decide),if_neg (show ¬sp.kCount=sp.kSet from by decide),if_neg (show ¬sp.kCount=sp.kUnset from by decide),if_neg (show ¬sp.kCount=sp.kBox from by decide),if_neg (show ¬sp.kCount=sp.kAsk from by decide),if_neg (show ¬sp.kCount=sp.kCustom from by decide),if_neg (show ¬sp.kCount=sp.kRules from by decide),if_pos rfl]
  rfl
 unfold sp.opS
 rw [e,if_neg (show ¬sp.kCount=sp.kSheet from by decide),if_neg (show ¬sp.kCount=sp.kView from by decide),if_neg (show ¬sp.kCount=sp.kFont from by decide),if_neg (show ¬sp.kCount=sp.kColor from by decide),if_neg (show ¬sp.kCount=sp.kPrint from by decide),if_neg (show ¬sp.kCount=sp.kWord from by decide),if_neg (show ¬sp.kCount=sp.kInsert from by decide),if_neg (show ¬sp.kCount=sp.kRemove from by decide),if_neg (show ¬sp.kCount=sp.kSet from by decide),if_neg (show ¬sp.kCount=sp.kUnset from by decide),if_neg (show ¬sp.kCount=sp.kBox from by decide),if_neg (show ¬sp.kCount=sp.kAsk from by decide),if_neg (show ¬sp.kCount=sp.kCustom from by decide),if_neg (show ¬sp.kCount=sp.kRules from by decide),if_pos rfl]
 clear e
 match a with
 | y1 :: t=>exact opOk_none (.inr (by simp [sW,sT,sN,sF,sP,sK,sB,nextW]))
 | [] =>
  dsimp only
  rfl
end Go.Proofs.YtihlneenajlhoaaGreatDoor
set_option linter.unusedSimpArgs false
set_option linter.unusedVariables false
namespace Go.Proofs.YtihlneenajlhoaaGreatDoor
open Go Go.RowKit
structure OpR (w0:World) (m b g n cap:Nat) (s:RSt) (W:World):Prop where
 rd:RdR w0 b g n cap s.1 s.2 W
 res:W.heap[m]?=some (.cells (zeroC 0) 28 (0,0))
 n1:m≠b
 n3:m≠g
 lo:w0.heap.size≤m
section
variable {w0 w W W':World} {m b g n cap:Nat} {s s':RSt}
theorem OpR.read (h:OpR w0 m b g n cap s W) (h2:RdR W b g n cap s'.1 s'.2 W'):OpR w0 m b g n cap s' W' :=
 ⟨h.rd.back h2,(h2.fr.block _ (lt_of_block h.res) h.n1 (by simp)).trans h.res,h.n1,h.n3,h.lo⟩
theorem OpR.on (h:OpR w0 m b g n cap s W) (hb:Below W.heap.size W W'):OpR w0 m b g n cap s W' :=
 ⟨h.rd.on hb,(hb.block _ (lt_of_block h.res)).trans h.res,h.n1,h.n3,h.lo⟩
theorem OpR.setBad (h:OpR w0 m b g n cap s W) (v:Bool):OpR w0 m b g n cap (s.1,v) (W.setCell ⟨b,2,none⟩ (.bool v)) :=
 ⟨h.rd.setBad v,(Below.heap_setCell _ _ _ _ (show m≠b from h.n1)).trans h.res,h.n1,h.n3,h.lo⟩
theorem OpR.start (h:RdR w0 b g n cap s.1 s.2 w):OpR w0 w.heap.size b g n cap s (w.alloc (.cells (zeroC 0) 28)):=by
 have hb:=lt_of_block h.blk
 have hg:=h.glt
 exact ⟨h.on (below_new w _),heap_alloc_at _ _,by omega,by omega,h.fr.size⟩
theorem OpR.fin (h:OpR w0 m b g n cap s W) (xs:Array Value):RdR w0 b g n cap s.1 s.2 (W.setRow m xs)∧(W.setRow m xs).heap[m]?=some (.cells xs 28 (0,0)):=⟨h.rd.row h.n1 h.n3 h.lo _,setRow_at h.res _⟩
theorem stW (w0 w:World) (b g n cap:Nat) (s:RSt) (h:RdR w0 b g n cap s.1 s.2 w):Calls Tryz.prog 64 #[.pointer (some ⟨b,0,none⟩)] w fun e w'=>e=.returned (.string (bstr (vW s)))∧RdR w0 b g n cap (sW s).1 (sW s).2 w':=rword_any w0 w b g n cap _ _ h
theorem stT (w0 w:World) (b g n cap:Nat) (s:RSt) (h:RdR w0 b g n cap s.1 s.2 w):Calls Tryz.prog 66 #[.pointer (some ⟨b,0,none⟩)] w fun e w'=>e=.returned (.string (bstr (vW s)))∧RdR w0 b g n cap (sT s).1 (sT s).2 w':=rtext_word w0 w b g n cap _ _ h
theorem stN (w0 w:World) (b g n cap:Nat) (s:RSt) (h:RdR w0 b g n cap s.1 s.2 w):Calls Tryz.prog 65 #[.pointer (some ⟨b,0,none⟩)] w fun e w'=>e=.returned (.int .i64 (vN s))∧RdR w0 b g n cap (sN s).1 (sN s).2 w':=rnum_word w0 w b g n cap _ _ h
theorem stF (w0 w:World) (b g n cap:Nat) (s:RSt) (h:RdR w0 b g n cap s.1 s.2 w):Calls Tryz.prog 67 #[.pointer (some ⟨b,0,none⟩)] w fun e w'=>e=.returned (.agg #[.int .i64 (vF s).1,.int .i64 (vF s).2])∧RdR w0 b g n cap (sF s).1 (sF s).2 w':=rrat_word w0 w b g n cap _ _ h
end
theorem stB (w0 w:World) (b g n cap:Nat) (s:RSt) (h:RdR w0 b g n cap s.1 s.2 w):Calls Tryz.prog 68 #[.pointer (some ⟨b,0,none⟩)] w fun e w'=>e=.returned (.agg #[.int .i64 ((sp.boxOf (vW s)).getD 0),.string (bstr (sp.boxName (vW (sK s)))),.int .i64 (vF (sW (sK s))).1,.int .i64 (vF (sW (sK s))).2,.int .i64 (vF (sF (sW (sK s)))).1,.int .i64 (vF (sF (sW (sK s)))).2])∧RdR w0 b g n cap (sB s).1 (sB s).2 w':=by
 have hn:vW (sK s)=(nextW s.1.tail).1:=rfl
 have hname:∀t,(t = [45]→sp.boxName t = [])∧(t≠[45]→sp.boxName t=t):=fun t=>⟨fun e=>by unfold sp.boxName;rw [if_pos e],fun e=>by unfold sp.boxName;rw [if_neg e]⟩
 have hB:(sB s).1=s.1.tail.tail.tail.tail:=rfl
 have hB2:∀k,(sp.boxOf (nextW s.1).1).isNone=k→(sB s).2=((((s.2||s.1.isEmpty||(nextW s.1).2)||k)||s.1.tail.isEmpty||(nextW s.1.tail).2)||s.1.tail.tail.isEmpty||(nextW s.1.tail.tail).2||(sp.fracS (nextW s.1.tail.tail).1).isNone||s.1.tail.tail.tail.isEmpty||(nextW s.1.tail.tail.tail).2||(sp.fracS (nextW s.1.tail.tail.tail).1).isNone):=fun k hk=>by rw [←hk];rfl
 rw [hn,hB]
 by_cases h1:(nextW s.1).1=sp.kNone
 ·have hb:sp.boxOf (nextW s.1).1=some 0:=by unfold sp.boxOf;rw [if_pos h1]
  rw [hB2 false (by rw [hb];rfl),show vW s=(nextW s.1).1 from rfl,hb,Bool.or_false]
  by_cases hd:(nextW s.1.tail).1 = [45]
  ·rw [(hname _).1 hd];exact rbox_none_dash w0 w b g n cap _ _ h h1 hd
  ·rw [(hname _).2 hd];exact rbox_none_named w0 w b g n cap _ _ h h1 hd
 by_cases h2:(nextW s.1).1=sp.kInline
 ·have hb:sp.boxOf (nextW s.1).1=some 1:=by unfold sp.boxOf;rw [if_neg h1,if_pos h2]
  rw [hB2 false (by rw [hb];rfl),show vW s=(nextW s.1).1 from rfl,hb,Bool.or_false]
  by_cases hd:(nextW s.1.tail).1 = [45]
  ·rw [(hname _).1 hd];exact rbox_inline_dash w0 w b g n cap _ _ h h2 hd
  ·rw [(hname _).2 hd];exact rbox_inline_named w0 w b g n cap _ _ h h2 hd
 by_cases h3:(nextW s.1).1=sp.kSize
 ·have hb:sp.boxOf (nextW s.1).1=some 2:=by unfold sp.boxOf;rw [if_neg h1,if_neg h2,if_pos h3]
  rw [hB2 false (by rw [hb];rfl),show vW s=(nextW s.1).1 from rfl,hb,Bool.or_false]
  by_cases hd:(nextW s.1.tail).1 = [45]
  ·rw [(hname _).1 hd];exact rbox_size_dash w0 w b g n cap _ _ h h3 hd
  ·rw [(hname _).2 hd];exact rbox_size_named w0 w b g n cap _ _ h h3 hd
 have hb:sp.boxOf (nextW s.1).1=none:=by unfold sp.boxOf;rw [if_neg h1,if_neg h2,if_neg h3]
 rw [hB2 true (by rw [hb];rfl),show vW s=(nextW s.1).1 from rfl,hb,Bool.or_true]
 by_cases hd:(nextW s.1.tail).1 = [45]
 ·rw [(hname _).1 hd];exact rbox_other_dash w0 w b g n cap _ _ h h1 h2 h3 hd
 ·rw [(hname _).2 hd];exact rbox_other_named w0 w b g n cap _ _ h h1 h2 h3 hd
theorem ret_op {W:World} {g:Nat} {cs:Array Value} {fn:Func} {tmps:Array Value} {R:Ending→World→Prop} (hr:fn.results=#[.cell 2 28]) (hp:tmps.getD 2 undef=.pointer (some ⟨g,0,none⟩)) (hg:W.heap[g]?=some (.cells cs 28 (0,0))) (hc:cs.size=18)
  (h:R (.returned (.agg cs)) W):bodyPost Tryz.prog fn R .ret ⟨tmps,[]⟩ W :=
 bodyPost_ret (results_cell_row hr tmps W g 28 cs (0,0) _ hp hg Tryz.underlying28 rfl (by rw [hc];exact size28')) rfl h
theorem rowAt_row2 {W:World} {B b n:Nat} {v:Value} {cs:List Value} (h:RowAt B W v n cs) (hne:∀g,v.ownBlock=some g→g≠b) (xs:Array Value):RowAt B (W.setRow b xs) v n cs:=by
 obtain ⟨a,cap,h1,h2,h3,h4⟩:=h
 exact ⟨a,cap,h1,h2,h3,h4.imp id fun ⟨x1,g,off,y1,y2,y3⟩=>⟨x1,g,off,y1,y2,fun j u hu=>(cell_heap (setRow_far xs (Ne.symm (hne g (by rw [h1,y1];rfl)))) _).trans (y3 j u hu)⟩⟩
def OpIs (w0:World) (b g n cap:Nat) (o:sp.Op) (s:RSt) (e:Ending) (w':World):Prop :=
 ∃tv,e=.returned (.agg (opCells o tv))∧RowAt w'.heap.size w' tv o.text.length (Lib.byteCells o.text)∧RdR w0 b g n cap s.1 s.2 w'∧∀x,tv.ownBlock=some x→w0.heap.size≤x
theorem opIs_plain {w0 W:World} {b g n cap:Nat} {o:sp.Op} {s:RSt} (ho:o.text = []) (h:RdR w0 b g n cap s.1 s.2 W):OpIs w0 b g n cap o s (.returned (.agg (opCells o (.slice none 0 0)))) W :=
 ⟨_,rfl,by rw [ho];exact rowAt_nil _ _,h,fun x hx=>by cases hx⟩
set_option maxRecDepth 100000 in
set_option maxHeartbeats 4000000 in
theorem rop_Sheet (w0 w:World) (b g n cap:Nat) (s:RSt) (h:RdR w0 b g n cap s.1 s.2 w) (hlen:(vW (sN (sW s))).length≤1099511627776) (hk:vW s=sp.kSheet):Calls Tryz.prog 30 #[.pointer (some ⟨b,0,none⟩)] w fun e w'=>OpIs w0 b g n cap { kind:=1,origin:=vN (sW s),text:=vW (sN (sW s)) } (sT (sN (sW s))) e w':=by
 have H0:=Lib.hid (OpR.start h)
 have s0:((bstr (vW s)).toList==[115,104,101,101,116])=true:=str_eq hk
 have HLEN:=Lib.hid hlen
 clear h hk hlen
 go_enter Tryz.func30,Tryz.ntmps30
 go_wp2_with (first
  | (have hgd:=H0;clear hgd;go_at_call 64;refine (stW _ _ b g n cap s H0.out.rd.base).mono ?_;rintro e w1 ⟨rfl,h1⟩;have H1:=Lib.hid (H0.out.read h1);clear h1 H0)
  | (have hgd:=H1;clear hgd;go_at_call 65;refine (stN _ _ b g n cap (sW s) H1.out.rd.base).mono ?_;rintro e w2 ⟨rfl,h2⟩;have H2:=Lib.hid (H1.out.read h2);clear h2 H1)
  | (have hgd:=H2;clear hgd;go_at_call 66;refine (stT _ _ b g n cap (sN (sW s)) H2.out.rd.base).mono ?_;rintro e w3 ⟨rfl,h3⟩;have H3:=Lib.hid (H2.out.read h3);obtain ⟨wc,cp,hcv,hbc,hsz,hrow,hc1,hc2⟩:=conv_bytes2 w3 (vW (sN (sW s)));have HCV:=Lib.hid (And.intro hsz (And.intro hrow (And.intro hc1 hc2)));have HZ:=Lib.hid (H3.out.on hbc);have HLT:=Lib.hid (lt_of_block H3.out.res);clear hsz hrow hc1 hc2 hbc;clear h3 H2)
  | (have hgd:=HZ;clear hgd;refine wpList_store_row rfl 28 _ _ rfl w.heap.size #[.int .i64 1,.int .i64 0,.int .i64 0,.int .i64 (vN (sW s)),.string ⟨#[]⟩,.string ⟨#[]⟩,.slice (some ⟨w3.heap.size,0,none⟩) (vW (sN (sW s))).length cp,.int .i64 0,.int .i64 0,.int .i64 0,.int .i64 0,.int .i64 0,.string ⟨#[]⟩,.int .i64 0,.int .i64 0,.int .i64 0,.int .i64 0,.bool false] rfl rfl 28 _ HZ.out.res size28' rfl (by simp [Value.oneCell']) ?_))
 obtain ⟨q1,q2⟩:=HZ.out.fin #[.int .i64 1,.int .i64 0,.int .i64 0,.int .i64 (vN (sW s)),.string ⟨#[]⟩,.string ⟨#[]⟩,.slice (some ⟨w3.heap.size,0,none⟩) (vW (sN (sW s))).length cp,.int .i64 0,.int .i64 0,.int .i64 0,.int .i64 0,.int .i64 0,.string ⟨#[]⟩,.int .i64 0,.int .i64 0,.int .i64 0,.int .i64 0,.bool false]
 obtain ⟨k1,k2,k3,k4⟩:=HCV.out
 have hrow:=rowAt_row2 (rowAt_of k2 rfl k3 (k4 (by unfold maxLen;have:=HLEN.out;omega)) (by omega)) (b:=w.heap.size) (fun g hg=>by have:=HLT.out;cases hg;exact Nat.ne_of_gt this) #[.int .i64 1,.int .i64 0,.int .i64 0,.int .i64 (vN (sW s)),.string ⟨#[]⟩,.string ⟨#[]⟩,.slice (some ⟨w3.heap.size,0,none⟩) (vW (sN (sW s))).length cp,.int .i64 0,.int .i64 0,.int .i64 0,.int .i64 0,.int .i64 0,.string ⟨#[]⟩,.int .i64 0,.int .i64 0,.int .i64 0,.int .i64 0,.bool false]
 exact ret_op rfl rfl q2 rfl ⟨_,rfl,by simpa [World.setRow] using hrow,q1,fun x hx=>by have h1:=HLT.out;have h2:=HZ.out.lo;cases hx;exact Nat.le_trans h2 (Nat.le_of_lt h1)⟩
set_option maxRecDepth 100000 in
set_option maxHeartbeats 4000000 in
theorem rop_View (w0 w:World) (b g n cap:Nat) (s:RSt) (h:RdR w0 b g n cap s.1 s.2 w) (hk:vW s=sp.kView):Calls Tryz.prog 30 #[.pointer (some ⟨b,0,none⟩)] w fun e w'=>OpIs w0 b g n cap { kind:=2,w:=vF (sW s),h:=vF (sF (sW s)) } (sF (sF (sW s))) e w':=by
 have H0:=Lib.hid (OpR.start h)
 have s0:((bstr (vW s)).toList==[115,104,101,101,116])=false:=str_ne (by rw [hk];decide)
 have s1:((bstr (vW s)).toList==[118,105,101,119])=true:=str_eq hk
 clear h hk
 go_enter Tryz.func30,Tryz.ntmps30
 go_wp2_with (first
  | (have hgd:=H0;clear hgd;go_at_call 64;refine (stW _ _ b g n cap s H0.out.rd.base).mono ?_;rintro e w1 ⟨rfl,h1⟩;have H1:=Lib.hid (H0.out.read h1);clear h1 H0)
  | (have hgd:=H1;clear hgd;go_at_call 67;refine (stF _ _ b g n cap (sW s) H1.out.rd.base).mono ?_;rintro e w2 ⟨rfl,h2⟩;have H2:=Lib.hid (H1.out.read h2);clear h2 H1)
  | (have hgd:=H2;clear hgd;go_at_call 67;refine (stF _ _ b g n cap (sF (sW s)) H2.out.rd.base).mono ?_;rintro e w3 ⟨rfl,h3⟩;have H3:=Lib.hid (H2.out.read h3);clear h3 H2)
  | (have hgd:=H3;clear hgd;refine wpList_store_row rfl 28 _ _ rfl w.heap.size #[.int .i64 2,.int .i64 0,.int .i64 0,.int .i64 0,.string ⟨#[]⟩,.string ⟨#[]⟩,.slice none 0 0,.int .i64 (vF (sW s)).1,.int .i64 (vF (sW s)).2,.int .i64 (vF (sF (sW s))).1,.int .i64 (vF (sF (sW s))).2,.int .i64 0,.string ⟨#[]⟩,.int .i64 0,.int .i64 0,.int .i64 0,.int .i64 0,.bool false] rfl rfl 28 _ H3.out.res size28' rfl (by simp [Value.oneCell']) ?_))
 exact ret_op rfl rfl (H3.out.fin _).2 rfl (opIs_plain rfl (H3.out.fin _).1)
set_option maxRecDepth 100000 in
set_option maxHeartbeats 4000000 in
theorem rop_Font (w0 w:World) (b g n cap:Nat) (s:RSt) (h:RdR w0 b g n cap s.1 s.2 w) (hk:vW s=sp.kFont):Calls Tryz.prog 30 #[.pointer (some ⟨b,0,none⟩)] w fun e w'=>OpIs w0 b g n cap { kind:=3,w:=vF (sW s) } (sF (sW s)) e w':=by
 have H0:=Lib.hid (OpR.start h)
 have s0:((bstr (vW s)).toList==[115,104,101,101,116])=false:=str_ne (by rw [hk];decide)
 have s1:((bstr (vW s)).toList==[118,105,101,119])=false:=str_ne (by rw [hk];decide)
 have s2:((bstr (vW s)).toList==[102,111,110,116])=true:=str_eq hk
 clear h hk
 go_enter Tryz.func30,Tryz.ntmps30
 go_wp2_with (first
  | (have hgd:=H0;clear hgd;go_at_call 64;refine (stW _ _ b g n cap s H0.out.rd.base).mono ?_;rintro e w1 ⟨rfl,h1⟩;have H1:=Lib.hid (H0.out.read h1);clear h1 H0)
  | (have hgd:=H1;clear hgd;go_at_call 67;refine (stF _ _ b g n cap (sW s) H1.out.rd.base).mono ?_;rintro e w2 ⟨rfl,h2⟩;have H2:=Lib.hid (H1.out.read h2);clear h2 H1)
  | (have hgd:=H2;clear hgd;refine wpList_store_row rfl 28 _ _ rfl w.heap.size #[.int .i64 3,.int .i64 0,.int .i64 0,.int .i64 0,.string ⟨#[]⟩,.string ⟨#[]⟩,.slice none 0 0,.int .i64 (vF (sW s)).1,.int .i64 (vF (sW s)).2,.int .i64 0,.int .i64 0,.int .i64 0,.string ⟨#[]⟩,.int .i64 0,.int .i64 0,.int .i64 0,.int .i64 0,.bool false] rfl rfl 28 _ H2.out.res size28' rfl (by simp [Value.oneCell']) ?_))
 exact ret_op rfl rfl (H2.out.fin _).2 rfl (opIs_plain rfl (H2.out.fin _).1)
set_option maxRecDepth 100000 in
set_option maxHeartbeats 4000000 in
theorem rop_Color (w0 w:World) (b g n cap:Nat) (s:RSt) (h:RdR w0 b g n cap s.1 s.2 w) (hk:vW s=sp.kColor):Calls Tryz.prog 30 #[.pointer (some ⟨b,0,none⟩)] w fun e w'=>OpIs w0 b g n cap { kind:=13,w:=vF (sW s) } (sF (sW s)) e w':=by
 have H0:=Lib.hid (OpR.start h)
 have s0:((bstr (vW s)).toList==[115,104,101,101,116])=false:=str_ne (by rw [hk];decide)
 have s1:((bstr (vW s)).toList==[118,105,101,119])=false:=str_ne (by rw [hk];decide)
 have s2:((bstr (vW s)).toList==[102,111,110,116])=false:=str_ne (by rw [hk];decide)
 have s3:((bstr (vW s)).toList==[99,111,108,111,114])=true:=str_eq hk
 clear h hk
 go_enter Tryz.func30,Tryz.ntmps30
 go_wp2_with (first
  | (have hgd:=H0;clear hgd;go_at_call 64;refine (stW _ _ b g n cap s H0.out.rd.base).mono ?_;rintro e w1 ⟨rfl,h1⟩;have H1:=Lib.hid (H0.out.read h1);clear h1 H0)
  | (have hgd:=H1;clear hgd;go_at_call 67;refine (stF _ _ b g n cap (sW s) H1.out.rd.base).mono ?_;rintro e w2 ⟨rfl,h2⟩;have H2:=Lib.hid (H1.out.read h2);clear h2 H1)
  | (have hgd:=H2;clear hgd;refine wpList_store_row rfl 28 _ _ rfl w.heap.size #[.int .i64 13,.int .i64 0,.int .i64 0,.int .i64 0,.string ⟨#[]⟩,.string ⟨#[]⟩,.slice none 0 0,.int .i64 (vF (sW s)).1,.int .i64 (vF (sW s)).2,.int .i64 0,.int .i64 0,.int .i64 0,.string ⟨#[]⟩,.int .i64 0,.int .i64 0,.int .i64 0,.int .i64 0,.bool false] rfl rfl 28 _ H2.out.res size28' rfl (by simp [Value.oneCell']) ?_))
 exact ret_op rfl rfl (H2.out.fin _).2 rfl (opIs_plain rfl (H2.out.fin _).1)
set_option maxRecDepth 100000 in
set_option maxHeartbeats 4000000 in
theorem rop_Print_on_false (w0 w:World) (b g n cap:Nat) (s:RSt) (h:RdR w0 b g n cap s.1 s.2 w) (hk:vW s=sp.kPrint) (hbd:(sW (sW s)).2=false) (hw:vW (sW s)=sp.kOn):Calls Tryz.prog 30 #[.pointer (some ⟨b,0,none⟩)] w fun e w'=>OpIs w0 b g n cap { kind:=14,on:=vW (sW s)==sp.kOn } (sP (sW s)) e w':=by
 have H0:=Lib.hid (OpR.start h)
 have s0:((bstr (vW s)).toList==[115,104,101,101,116])=false:=str_ne (by rw [hk];decide)
 have s1:((bstr (vW s)).toList==[118,105,101,119])=false:=str_ne (by rw [hk];decide)
 have s2:((bstr (vW s)).toList==[102,111,110,116])=false:=str_ne (by rw [hk];decide)
 have s3:((bstr (vW s)).toList==[99,111,108,111,114])=false:=str_ne (by rw [hk];decide)
 have s4:((bstr (vW s)).toList==[112,114,105,110,116])=true:=str_eq hk
 have t0:((bstr (vW (sW s))).toList==[111,110])=true:=str_eq hw
 have t1:((bstr (vW (sW s))).toList==[111,102,102])=false:=str_ne (by rw [hw];decide)
 have e1:(vW (sW s)==sp.kOn)=true:=by rw [hw];decide
 have e2:(vW (sW s)==sp.kOn||vW (sW s)==sp.kOff)=true:=by rw [hw];decide
 have HBD:=Lib.hid hbd
 have HEQ:Hid (sP (sW s)=((sW (sW s)).1,false)∧({ kind:=14,on:=vW (sW s)==sp.kOn }:sp.Op)={ kind:=14,on:=true }):=Lib.hid ⟨by unfold sP;rw [hbd,e2];rfl,by rw [e1]⟩
 clear e1 e2 hbd hw
 clear h hk
 go_enter Tryz.func30,Tryz.ntmps30
 go_wp2_with (first
  | (have hgd:=H0;clear hgd;go_at_call 64;refine (stW _ _ b g n cap s H0.out.rd.base).mono ?_;rintro e w1 ⟨rfl,h1⟩;have H1:=Lib.hid (H0.out.read h1);clear h1 H0)
  | (have hgd:=H1;clear hgd;go_at_call 64;refine (stW _ _ b g n cap (sW s) H1.out.rd.base).mono ?_;rintro e w2 ⟨rfl,h2⟩;have H2:=Lib.hid (H1.out.read h2);have c2:=H2.out.rd.c2;rw [HBD.out] at c2;have z2:=H2.out.rd.z 2;clear h2 H1)
  | (have hgd:=H2;clear hgd;refine wpList_store_row rfl 28 _ _ rfl w.heap.size #[.int .i64 14,.int .i64 0,.int .i64 0,.int .i64 0,.string ⟨#[]⟩,.string ⟨#[]⟩,.slice none 0 0,.int .i64 0,.int .i64 0,.int .i64 0,.int .i64 0,.int .i64 0,.string ⟨#[]⟩,.int .i64 0,.int .i64 0,.int .i64 0,.int .i64 0,.bool true] rfl rfl 28 _ (H2.out.setBad false).res size28' rfl (by simp [Value.oneCell']) ?_))
 rw [HEQ.out.1,HEQ.out.2]
 exact ret_op rfl rfl ((H2.out.setBad false).fin _).2 rfl (opIs_plain rfl ((H2.out.setBad false).fin _).1)
set_option maxRecDepth 100000 in
set_option maxHeartbeats 4000000 in
theorem rop_Print_off_false (w0 w:World) (b g n cap:Nat) (s:RSt) (h:RdR w0 b g n cap s.1 s.2 w) (hk:vW s=sp.kPrint) (hbd:(sW (sW s)).2=false) (hw:vW (sW s)=sp.kOff):Calls Tryz.prog 30 #[.pointer (some ⟨b,0,none⟩)] w fun e w'=>OpIs w0 b g n cap { kind:=14,on:=vW (sW s)==sp.kOn } (sP (sW s)) e w':=by
 have H0:=Lib.hid (OpR.start h)
 have s0:((bstr (vW s)).toList==[115,104,101,101,116])=false:=str_ne (by rw [hk];decide)
 have s1:((bstr (vW s)).toList==[118,105,101,119])=false:=str_ne (by rw [hk];decide)
 have s2:((bstr (vW s)).toList==[102,111,110,116])=false:=str_ne (by rw [hk];decide)
 have s3:((bstr (vW s)).toList==[99,111,108,111,114])=false:=str_ne (by rw [hk];decide)
 have s4:((bstr (vW s)).toList==[112,114,105,110,116])=true:=str_eq hk
 have t0:((bstr (vW (sW s))).toList==[111,110])=false:=str_ne (by rw [hw];decide)
 have t1:((bstr (vW (sW s))).toList==[111,102,102])=true:=str_eq hw
 have e1:(vW (sW s)==sp.kOn)=false:=by rw [hw];decide
 have e2:(vW (sW s)==sp.kOn||vW (sW s)==sp.kOff)=true:=by rw [hw];decide
 have HBD:=Lib.hid hbd
 have HEQ:Hid (sP (sW s)=((sW (sW s)).1,false)∧({ kind:=14,on:=vW (sW s)==sp.kOn }:sp.Op)={ kind:=14,on:=false }):=Lib.hid ⟨by unfold sP;rw [hbd,e2];rfl,by rw [e1]⟩
 clear e1 e2 hbd hw
 clear h hk
 go_enter Tryz.func30,Tryz.ntmps30
 go_wp2_with (first
  | (have hgd:=H0;clear hgd;go_at_call 64;refine (stW _ _ b g n cap s H0.out.rd.base).mono ?_;rintro e w1 ⟨rfl,h1⟩;have H1:=Lib.hid (H0.out.read h1);clear h1 H0)
  | (have hgd:=H1;clear hgd;go_at_call 64;refine (stW _ _ b g n cap (sW s) H1.out.rd.base).mono ?_;rintro e w2 ⟨rfl,h2⟩;have H2:=Lib.hid (H1.out.read h2);have c2:=H2.out.rd.c2;rw [HBD.out] at c2;have z2:=H2.out.rd.z 2;clear h2 H1)
  | (have hgd:=H2;clear hgd;refine wpList_store_row rfl 28 _ _ rfl w.heap.size #[.int .i64 14,.int .i64 0,.int .i64 0,.int .i64 0,.string ⟨#[]⟩,.string ⟨#[]⟩,.slice none 0 0,.int .i64 0,.int .i64 0,.int .i64 0,.int .i64 0,.int .i64 0,.string ⟨#[]⟩,.int .i64 0,.int .i64 0,.int .i64 0,.int .i64 0,.bool false] rfl rfl 28 _ (H2.out.setBad false).res size28' rfl (by simp [Value.oneCell']) ?_))
 rw [HEQ.out.1,HEQ.out.2]
 exact ret_op rfl rfl ((H2.out.setBad false).fin _).2 rfl (opIs_plain rfl ((H2.out.setBad false).fin _).1)
set_option maxRecDepth 100000 in
set_option maxHeartbeats 4000000 in
theorem rop_Print_other_false (w0 w:World) (b g n cap:Nat) (s:RSt) (h:RdR w0 b g n cap s.1 s.2 w) (hk:vW s=sp.kPrint) (hbd:(sW (sW s)).2=false) (hw1:vW (sW s)≠sp.kOn) (hw2:vW (sW s)≠sp.kOff):Calls Tryz.prog 30 #[.pointer (some ⟨b,0,none⟩)] w fun e w'=>OpIs w0 b g n cap { kind:=14,on:=vW (sW s)==sp.kOn } (sP (sW s)) e w':=by
 have H0:=Lib.hid (OpR.start h)
 have s0:((bstr (vW s)).toList==[115,104,101,101,116])=false:=str_ne (by rw [hk];decide)
 have s1:((bstr (vW s)).toList==[118,105,101,119])=false:=str_ne (by rw [hk];decide)
 have s2:((bstr (vW s)).toList==[102,111,110,116])=false:=str_ne (by rw [hk];decide)
 have s3:((bstr (vW s)).toList==[99,111,108,111,114])=false:=str_ne (by rw [hk];decide)
 have s4:((bstr (vW s)).toList==[112,114,105,110,116])=true:=str_eq hk
 have t0:((bstr (vW (sW s))).toList==[111,110])=false:=str_ne hw1
 have t1:((bstr (vW (sW s))).toList==[111,102,102])=false:=str_ne hw2
 have e1:(vW (sW s)==sp.kOn)=false:=by simp [hw1]
 have e2:(vW (sW s)==sp.kOn||vW (sW s)==sp.kOff)=false:=by simp [hw1,hw2]
 have HBD:=Lib.hid hbd
 have HEQ:Hid (sP (sW s)=((sW (sW s)).1,true)∧({ kind:=14,on:=vW (sW s)==sp.kOn }:sp.Op)={ kind:=14,on:=false }):=Lib.hid ⟨by unfold sP;rw [hbd,e2];rfl,by rw [e1]⟩
 clear e1 e2 hbd hw1 hw2
 clear h hk
 go_enter Tryz.func30,Tryz.ntmps30
 go_wp2_with (first
  | (have hgd:=H0;clear hgd;go_at_call 64;refine (stW _ _ b g n cap s H0.out.rd.base).mono ?_;rintro e w1 ⟨rfl,h1⟩;have H1:=Lib.hid (H0.out.read h1);clear h1 H0)
  | (have hgd:=H1;clear hgd;go_at_call 64;refine (stW _ _ b g n cap (sW s) H1.out.rd.base).mono ?_;rintro e w2 ⟨rfl,h2⟩;have H2:=Lib.hid (H1.out.read h2);have c2:=H2.out.rd.c2;rw [HBD.out] at c2;have z2:=H2.out.rd.z 2;clear h2 H1)
  | (have hgd:=H2;clear hgd;refine wpList_store_row rfl 28 _ _ rfl w.heap.size #[.int .i64 14,.int .i64 0,.int .i64 0,.int .i64 0,.string ⟨#[]⟩,.string ⟨#[]⟩,.slice none 0 0,.int .i64 0,.int .i64 0,.int .i64 0,.int .i64 0,.int .i64 0,.string ⟨#[]⟩,.int .i64 0,.int .i64 0,.int .i64 0,.int .i64 0,.bool false] rfl rfl 28 _ (H2.out.setBad true).res size28' rfl (by simp [Value.oneCell']) ?_))
 rw [HEQ.out.1,HEQ.out.2]
 exact ret_op rfl rfl ((H2.out.setBad true).fin _).2 rfl (opIs_plain rfl ((H2.out.setBad true).fin _).1)
set_option maxRecDepth 100000 in
set_option maxHeartbeats 4000000 in
theorem rop_Print_on_true (w0 w:World) (b g n cap:Nat) (s:RSt) (h:RdR w0 b g n cap s.1 s.2 w) (hk:vW s=sp.kPrint) (hbd:(sW (sW s)).2=true) (hw:vW (sW s)=sp.kOn):Calls Tryz.prog 30 #[.pointer (some ⟨b,0,none⟩)] w fun e w'=>OpIs w0 b g n cap { kind:=14,on:=vW (sW s)==sp.kOn } (sP (sW s)) e w':=by
 have H0:=Lib.hid (OpR.start h)
 have s0:((bstr (vW s)).toList==[115,104,101,101,116])=false:=str_ne (by rw [hk];decide)
 have s1:((bstr (vW s)).toList==[118,105,101,119])=false:=str_ne (by rw [hk];decide)
 have s2:((bstr (vW s)).toList==[102,111,110,116])=false:=str_ne (by rw [hk];decide)
 have s3:((bstr (vW s)).toList==[99,111,108,111,114])=false:=str_ne (by rw [hk];decide)
 have s4:((bstr (vW s)).toList==[112,114,105,110,116])=true:=str_eq hk
 have t0:((bstr (vW (sW s))).toList==[111,110])=true:=str_eq hw
 have t1:((bstr (vW (sW s))).toList==[111,102,102])=false:=str_ne (by rw [hw];decide)
 have e1:(vW (sW s)==sp.kOn)=true:=by rw [hw];decide
 have e2:(vW (sW s)==sp.kOn||vW (sW s)==sp.kOff)=true:=by rw [hw];decide
 have HBD:=Lib.hid hbd
 have HEQ:Hid (sP (sW s)=((sW (sW s)).1,true)∧({ kind:=14,on:=vW (sW s)==sp.kOn }:sp.Op)={ kind:=14,on:=true }):=Lib.hid ⟨by unfold sP;rw [hbd,e2];rfl,by rw [e1]⟩
 clear e1 e2 hbd hw
 clear h hk
 go_enter Tryz.func30,Tryz.ntmps30
 go_wp2_with (first
  | (have hgd:=H0;clear hgd;go_at_call 64;refine (stW _ _ b g n cap s H0.out.rd.base).mono ?_;rintro e w1 ⟨rfl,h1⟩;have H1:=Lib.hid (H0.out.read h1);clear h1 H0)
  | (have hgd:=H1;clear hgd;go_at_call 64;refine (stW _ _ b g n cap (sW s) H1.out.rd.base).mono ?_;rintro e w2 ⟨rfl,h2⟩;have H2:=Lib.hid (H1.out.read h2);have c2:=H2.out.rd.c2;rw [HBD.out] at c2;have z2:=H2.out.rd.z 2;clear h2 H1)
  | (have hgd:=H2;clear hgd;refine wpList_store_row rfl 28 _ _ rfl w.heap.size #[.int .i64 14,.int .i64 0,.int .i64 0,.int .i64 0,.string ⟨#[]⟩,.string ⟨#[]⟩,.slice none 0 0,.int .i64 0,.int .i64 0,.int .i64 0,.int .i64 0,.int .i64 0,.string ⟨#[]⟩,.int .i64 0,.int .i64 0,.int .i64 0,.int .i64 0,.bool true] rfl rfl 28 _ (H2.out.setBad true).res size28' rfl (by simp [Value.oneCell']) ?_))
 rw [HEQ.out.1,HEQ.out.2]
 exact ret_op rfl rfl ((H2.out.setBad true).fin _).2 rfl (opIs_plain rfl ((H2.out.setBad true).fin _).1)
set_option maxRecDepth 100000 in
set_option maxHeartbeats 4000000 in
theorem rop_Print_off_true (w0 w:World) (b g n cap:Nat) (s:RSt) (h:RdR w0 b g n cap s.1 s.2 w) (hk:vW s=sp.kPrint) (hbd:(sW (sW s)).2=true) (hw:vW (sW s)=sp.kOff):Calls Tryz.prog 30 #[.pointer (some ⟨b,0,none⟩)] w fun e w'=>OpIs w0 b g n cap { kind:=14,on:=vW (sW s)==sp.kOn } (sP (sW s)) e w':=by
 have H0:=Lib.hid (OpR.start h)
 have s0:((bstr (vW s)).toList==[115,104,101,101,116])=false:=str_ne (by rw [hk];decide)
 have s1:((bstr (vW s)).toList==[118,105,101,119])=false:=str_ne (by rw [hk];decide)
 have s2:((bstr (vW s)).toList==[102,111,110,116])=false:=str_ne (by rw [hk];decide)
 have s3:((bstr (vW s)).toList==[99,111,108,111,114])=false:=str_ne (by rw [hk];decide)
 have s4:((bstr (vW s)).toList==[112,114,105,110,116])=true:=str_eq hk
 have t0:((bstr (vW (sW s))).toList==[111,110])=false:=str_ne (by rw [hw];decide)
 have t1:((bstr (vW (sW s))).toList==[111,102,102])=true:=str_eq hw
 have e1:(vW (sW s)==sp.kOn)=false:=by rw [hw];decide
 have e2:(vW (sW s)==sp.kOn||vW (sW s)==sp.kOff)=true:=by rw [hw];decide
 have HBD:=Lib.hid hbd
 have HEQ:Hid (sP (sW s)=((sW (sW s)).1,true)∧({ kind:=14,on:=vW (sW s)==sp.kOn }:sp.Op)={ kind:=14,on:=false }):=Lib.hid ⟨by unfold sP;rw [hbd,e2];rfl,by rw [e1]⟩
 clear e1 e2 hbd hw
 clear h hk
 go_enter Tryz.func30,Tryz.ntmps30
 go_wp2_with (first
  | (have hgd:=H0;clear hgd;go_at_call 64;refine (stW _ _ b g n cap s H0.out.rd.base).mono ?_;rintro e w1 ⟨rfl,h1⟩;have H1:=Lib.hid (H0.out.read h1);clear h1 H0)
  | (have hgd:=H1;clear hgd;go_at_call 64;refine (stW _ _ b g n cap (sW s) H1.out.rd.base).mono ?_;rintro e w2 ⟨rfl,h2⟩;have H2:=Lib.hid (H1.out.read h2);have c2:=H2.out.rd.c2;rw [HBD.out] at c2;have z2:=H2.out.rd.z 2;clear h2 H1)
  | (have hgd:=H2;clear hgd;refine wpList_store_row rfl 28 _ _ rfl w.heap.size #[.int .i64 14,.int .i64 0,.int .i64 0,.int .i64 0,.string ⟨#[]⟩,.string ⟨#[]⟩,.slice none 0 0,.int .i64 0,.int .i64 0,.int .i64 0,.int .i64 0,.int .i64 0,.string ⟨#[]⟩,.int .i64 0,.int .i64 0,.int .i64 0,.int .i64 0,.bool false] rfl rfl 28 _ (H2.out.setBad true).res size28' rfl (by simp [Value.oneCell']) ?_))
 rw [HEQ.out.1,HEQ.out.2]
 exact ret_op rfl rfl ((H2.out.setBad true).fin _).2 rfl (opIs_plain rfl ((H2.out.setBad true).fin _).1)
set_option maxRecDepth 100000 in
set_option maxHeartbeats 4000000 in
theorem rop_Print_other_true (w0 w:World) (b g n cap:Nat) (s:RSt) (h:RdR w0 b g n cap s.1 s.2 w) (hk:vW s=sp.kPrint) (hbd:(sW (sW s)).2=true) (hw1:vW (sW s)≠sp.kOn) (hw2:vW (sW s)≠sp.kOff):Calls Tryz.prog 30 #[.pointer (some ⟨b,0,none⟩)] w fun e w'=>OpIs w0 b g n cap { kind:=14,on:=vW (sW s)==sp.kOn } (sP (sW s)) e w':=by
 have H0:=Lib.hid (OpR.start h)
 have s0:((bstr (vW s)).toList==[115,104,101,101,116])=false:=str_ne (by rw [hk];decide)
 have s1:((bstr (vW s)).toList==[118,105,101,119])=false:=str_ne (by rw [hk];decide)
 have s2:((bstr (vW s)).toList==[102,111,110,116])=false:=str_ne (by rw [hk];decide)
 have s3:((bstr (vW s)).toList==[99,111,108,111,114])=false:=str_ne (by rw [hk];decide)
 have s4:((bstr (vW s)).toList==[112,114,105,110,116])=true:=str_eq hk
 have t0:((bstr (vW (sW s))).toList==[111,110])=false:=str_ne hw1
 have t1:((bstr (vW (sW s))).toList==[111,102,102])=false:=str_ne hw2
 have e1:(vW (sW s)==sp.kOn)=false:=by simp [hw1]
 have e2:(vW (sW s)==sp.kOn||vW (sW s)==sp.kOff)=false:=by simp [hw1,hw2]
 have HBD:=Lib.hid hbd
 have HEQ:Hid (sP (sW s)=((sW (sW s)).1,true)∧({ kind:=14,on:=vW (sW s)==sp.kOn }:sp.Op)={ kind:=14,on:=false }):=Lib.hid ⟨by unfold sP;rw [hbd,e2];rfl,by rw [e1]⟩
 clear e1 e2 hbd hw1 hw2
 clear h hk
 go_enter Tryz.func30,Tryz.ntmps30
 go_wp2_with (first
  | (have hgd:=H0;clear hgd;go_at_call 64;refine (stW _ _ b g n cap s H0.out.rd.base).mono ?_;rintro e w1 ⟨rfl,h1⟩;have H1:=Lib.hid (H0.out.read h1);clear h1 H0)
  | (have hgd:=H1;clear hgd;go_at_call 64;refine (stW _ _ b g n cap (sW s) H1.out.rd.base).mono ?_;rintro e w2 ⟨rfl,h2⟩;have H2:=Lib.hid (H1.out.read h2);have c2:=H2.out.rd.c2;rw [HBD.out] at c2;have z2:=H2.out.rd.z 2;clear h2 H1)
  | (have hgd:=H2;clear hgd;refine wpList_store_row rfl 28 _ _ rfl w.heap.size #[.int .i64 14,.int .i64 0,.int .i64 0,.int .i64 0,.string ⟨#[]⟩,.string ⟨#[]⟩,.slice none 0 0,.int .i64 0,.int .i64 0,.int .i64 0,.int .i64 0,.int .i64 0,.string ⟨#[]⟩,.int .i64 0,.int .i64 0,.int .i64 0,.int .i64 0,.bool false] rfl rfl 28 _ (H2.out.setBad true).res size28' rfl (by simp [Value.oneCell']) ?_))
 rw [HEQ.out.1,HEQ.out.2]
 exact ret_op rfl rfl ((H2.out.setBad true).fin _).2 rfl (opIs_plain rfl ((H2.out.setBad true).fin _).1)
set_option maxRecDepth 100000 in
set_option maxHeartbeats 4000000 in
theorem rop_Word (w0 w:World) (b g n cap:Nat) (s:RSt) (h:RdR w0 b g n cap s.1 s.2 w) (hk:vW s=sp.kWord):Calls Tryz.prog 30 #[.pointer (some ⟨b,0,none⟩)] w fun e w'=>OpIs w0 b g n cap { kind:=4,name:=vW (sW s),word:=vW (sW (sW s)) } (sW (sW (sW s))) e w':=by
 have H0:=Lib.hid (OpR.start h)
 have s0:((bstr (vW s)).toList==[115,104,101,101,116])=false:=str_ne (by rw [hk];decide)
 have s1:((bstr (vW s)).toList==[118,105,101,119])=false:=str_ne (by rw [hk];decide)
 have s2:((bstr (vW s)).toList==[102,111,110,116])=false:=str_ne (by rw [hk];decide)
 have s3:((bstr (vW s)).toList==[99,111,108,111,114])=false:=str_ne (by rw [hk];decide)
 have s4:((bstr (vW s)).toList==[112,114,105,110,116])=false:=str_ne (by rw [hk];decide)
 have s5:((bstr (vW s)).toList==[119,111,114,100])=true:=str_eq hk
 clear h hk
 go_enter Tryz.func30,Tryz.ntmps30
 go_wp2_with (first
  | (have hgd:=H0;clear hgd;go_at_call 64;refine (stW _ _ b g n cap s H0.out.rd.base).mono ?_;rintro e w1 ⟨rfl,h1⟩;have H1:=Lib.hid (H0.out.read h1);clear h1 H0)
  | (have hgd:=H1;clear hgd;go_at_call 64;refine (stW _ _ b g n cap (sW s) H1.out.rd.base).mono ?_;rintro e w2 ⟨rfl,h2⟩;have H2:=Lib.hid (H1.out.read h2);clear h2 H1)
  | (have hgd:=H2;clear hgd;go_at_call 64;refine (stW _ _ b g n cap (sW (sW s)) H2.out.rd.base).mono ?_;rintro e w3 ⟨rfl,h3⟩;have H3:=Lib.hid (H2.out.read h3);clear h3 H2)
  | (have hgd:=H3;clear hgd;refine wpList_store_row rfl 28 _ _ rfl w.heap.size #[.int .i64 4,.int .i64 0,.int .i64 0,.int .i64 0,.string (bstr (vW (sW s))),.string (bstr (vW (sW (sW s)))),.slice none 0 0,.int .i64 0,.int .i64 0,.int .i64 0,.int .i64 0,.int .i64 0,.string ⟨#[]⟩,.int .i64 0,.int .i64 0,.int .i64 0,.int .i64 0,.bool false] rfl rfl 28 _ H3.out.res size28' rfl (by simp [Value.oneCell']) ?_))
 exact ret_op rfl rfl (H3.out.fin _).2 rfl (opIs_plain rfl (H3.out.fin _).1)
set_option maxRecDepth 100000 in
set_option maxHeartbeats 4000000 in
theorem rop_Insert (w0 w:World) (b g n cap:Nat) (s:RSt) (h:RdR w0 b g n cap s.1 s.2 w) (hk:vW s=sp.kInsert):Calls Tryz.prog 30 #[.pointer (some ⟨b,0,none⟩)] w fun e w'=>OpIs w0 b g n cap { kind:=5,node:=vN (sW s),at_:=vN (sN (sW s)),name:=vW (sN (sN (sW s))) } (sW (sN (sN (sW s)))) e w':=by
 have H0:=Lib.hid (OpR.start h)
 have s0:((bstr (vW s)).toList==[115,104,101,101,116])=false:=str_ne (by rw [hk];decide)
 have s1:((bstr (vW s)).toList==[118,105,101,119])=false:=str_ne (by rw [hk];decide)
 have s2:((bstr (vW s)).toList==[102,111,110,116])=false:=str_ne (by rw [hk];decide)
 have s3:((bstr (vW s)).toList==[99,111,108,111,114])=false:=str_ne (by rw [hk];decide)
 have s4:((bstr (vW s)).toList==[112,114,105,110,116])=false:=str_ne (by rw [hk];decide)
 have s5:((bstr (vW s)).toList==[119,111,114,100])=false:=str_ne (by rw [hk];decide)
 have s6:((bstr (vW s)).toList==[105,110,115,101,114,116])=true:=str_eq hk
 clear h hk
 go_enter Tryz.func30,Tryz.ntmps30
 go_wp2_with (first
  | (have hgd:=H0;clear hgd;go_at_call 64;refine (stW _ _ b g n cap s H0.out.rd.base).mono ?_;rintro e w1 ⟨rfl,h1⟩;have H1:=Lib.hid (H0.out.read h1);clear h1 H0)
  | (have hgd:=H1;clear hgd;go_at_call 65;refine (stN _ _ b g n cap (sW s) H1.out.rd.base).mono ?_;rintro e w2 ⟨rfl,h2⟩;have H2:=Lib.hid (H1.out.read h2);clear h2 H1)
  | (have hgd:=H2;clear hgd;go_at_call 65;refine (stN _ _ b g n cap (sN (sW s)) H2.out.rd.base).mono ?_;rintro e w3 ⟨rfl,h3⟩;have H3:=Lib.hid (H2.out.read h3);clear h3 H2)
  | (have hgd:=H3;clear hgd;go_at_call 64;refine (stW _ _ b g n cap (sN (sN (sW s))) H3.out.rd.base).mono ?_;rintro e w4 ⟨rfl,h4⟩;have H4:=Lib.hid (H3.out.read h4);clear h4 H3)
  | (have hgd:=H4;clear hgd;refine wpList_store_row rfl 28 _ _ rfl w.heap.size #[.int .i64 5,.int .i64 (vN (sW s)),.int .i64 (vN (sN (sW s))),.int .i64 0,.string (bstr (vW (sN (sN (sW s))))),.string ⟨#[]⟩,.slice none 0 0,.int .i64 0,.int .i64 0,.int .i64 0,.int .i64 0,.int .i64 0,.string ⟨#[]⟩,.int .i64 0,.int .i64 0,.int .i64 0,.int .i64 0,.bool false] rfl rfl 28 _ H4.out.res size28' rfl (by simp [Value.oneCell']) ?_))
 exact ret_op rfl rfl (H4.out.fin _).2 rfl (opIs_plain rfl (H4.out.fin _).1)
set_option maxRecDepth 100000 in
set_option maxHeartbeats 4000000 in
theorem rop_Remove (w0 w:World) (b g n cap:Nat) (s:RSt) (h:RdR w0 b g n cap s.1 s.2 w) (hk:vW s=sp.kRemove):Calls Tryz.prog 30 #[.pointer (some ⟨b,0,none⟩)] w fun e w'=>OpIs w0 b g n cap { kind:=6,node:=vN (sW s) } (sN (sW s)) e w':=by
 have H0:=Lib.hid (OpR.start h)
 have s0:((bstr (vW s)).toList==[115,104,101,101,116])=false:=str_ne (by rw [hk];decide)
 have s1:((bstr (vW s)).toList==[118,105,101,119])=false:=str_ne (by rw [hk];decide)
 have s2:((bstr (vW s)).toList==[102,111,110,116])=false:=str_ne (by rw [hk];decide)
 have s3:((bstr (vW s)).toList==[99,111,108,111,114])=false:=str_ne (by rw [hk];decide)
 have s4:((bstr (vW s)).toList==[112,114,105,110,116])=false:=str_ne (by rw [hk];decide)
 have s5:((bstr (vW s)).toList==[119,111,114,100])=false:=str_ne (by rw [hk];decide)
 have s6:((bstr (vW s)).toList==[105,110,115,101,114,116])=false:=str_ne (by rw [hk];decide)
 have s7:((bstr (vW s)).toList==[114,101,109,111,118,101])=true:=str_eq hk
 clear h hk
 go_enter Tryz.func30,Tryz.ntmps30
 go_wp2_with (first
  | (have hgd:=H0;clear hgd;go_at_call 64;refine (stW _ _ b g n cap s H0.out.rd.base).mono ?_;rintro e w1 ⟨rfl,h1⟩;have H1:=Lib.hid (H0.out.read h1);clear h1 H0)
  | (have hgd:=H1;clear hgd;go_at_call 65;refine (stN _ _ b g n cap (sW s) H1.out.rd.base).mono ?_;rintro e w2 ⟨rfl,h2⟩;have H2:=Lib.hid (H1.out.read h2);clear h2 H1)
  | (have hgd:=H2;clear hgd;refine wpList_store_row rfl 28 _ _ rfl w.heap.size #[.int .i64 6,.int .i64 (vN (sW s)),.int .i64 0,.int .i64 0,.string ⟨#[]⟩,.string ⟨#[]⟩,.slice none 0 0,.int .i64 0,.int .i64 0,.int .i64 0,.int .i64 0,.int .i64 0,.string ⟨#[]⟩,.int .i64 0,.int .i64 0,.int .i64 0,.int .i64 0,.bool false] rfl rfl 28 _ H2.out.res size28' rfl (by simp [Value.oneCell']) ?_))
 exact ret_op rfl rfl (H2.out.fin _).2 rfl (opIs_plain rfl (H2.out.fin _).1)
set_option maxRecDepth 100000 in
set_option maxHeartbeats 4000000 in
theorem rop_Set (w0 w:World) (b g n cap:Nat) (s:RSt) (h:RdR w0 b g n cap s.1 s.2 w) (hk:vW s=sp.kSet):Calls Tryz.prog 30 #[.pointer (some ⟨b,0,none⟩)] w fun e w'=>OpIs w0 b g n cap { kind:=7,node:=vN (sW s),name:=vW (sN (sW s)),word:=vW (sW (sN (sW s))) } (sT (sW (sN (sW s)))) e w':=by
 have H0:=Lib.hid (OpR.start h)
 have s0:((bstr (vW s)).toList==[115,104,101,101,116])=false:=str_ne (by rw [hk];decide)
 have s1:((bstr (vW s)).toList==[118,105,101,119])=false:=str_ne (by rw [hk];decide)
 have s2:((bstr (vW s)).toList==[102,111,110,116])=false:=str_ne (by rw [hk];decide)
 have s3:((bstr (vW s)).toList==[99,111,108,111,114])=false:=str_ne (by rw [hk];decide)
 have s4:((bstr (vW s)).toList==[112,114,105,110,116])=false:=str_ne (by rw [hk];decide)
 have s5:((bstr (vW s)).toList==[119,111,114,100])=false:=str_ne (by rw [hk];decide)
 have s6:((bstr (vW s)).toList==[105,110,115,101,114,116])=false:=str_ne (by rw [hk];decide)
 have s7:((bstr (vW s)).toList==[114,101,109,111,118,101])=false:=str_ne (by rw [hk];decide)
 have s8:((bstr (vW s)).toList==[115,101,116])=true:=str_eq hk
 clear h hk
 go_enter Tryz.func30,Tryz.ntmps30
 go_wp2_with (first
  | (have hgd:=H0;clear hgd;go_at_call 64;refine (stW _ _ b g n cap s H0.out.rd.base).mono ?_;rintro e w1 ⟨rfl,h1⟩;have H1:=Lib.hid (H0.out.read h1);clear h1 H0)
  | (have hgd:=H1;clear hgd;go_at_call 65;refine (stN _ _ b g n cap (sW s) H1.out.rd.base).mono ?_;rintro e w2 ⟨rfl,h2⟩;have H2:=Lib.hid (H1.out.read h2);clear h2 H1)
  | (have hgd:=H2;clear hgd;go_at_call 64;refine (stW _ _ b g n cap (sN (sW s)) H2.out.rd.base).mono ?_;rintro e w3 ⟨rfl,h3⟩;have H3:=Lib.hid (H2.out.read h3);clear h3 H2)
  | (have hgd:=H3;clear hgd;go_at_call 66;refine (stT _ _ b g n cap (sW (sN (sW s))) H3.out.rd.base).mono ?_;rintro e w4 ⟨rfl,h4⟩;have H4:=Lib.hid (H3.out.read h4);clear h4 H3)
  | (have hgd:=H4;clear hgd;refine wpList_store_row rfl 28 _ _ rfl w.heap.size #[.int .i64 7,.int .i64 (vN (sW s)),.int .i64 0,.int .i64 0,.string (bstr (vW (sN (sW s)))),.string (bstr (vW (sW (sN (sW s))))),.slice none 0 0,.int .i64 0,.int .i64 0,.int .i64 0,.int .i64 0,.int .i64 0,.string ⟨#[]⟩,.int .i64 0,.int .i64 0,.int .i64 0,.int .i64 0,.bool false] rfl rfl 28 _ H4.out.res size28' rfl (by simp [Value.oneCell']) ?_))
 exact ret_op rfl rfl (H4.out.fin _).2 rfl (opIs_plain rfl (H4.out.fin _).1)
set_option maxRecDepth 100000 in
set_option maxHeartbeats 4000000 in
theorem rop_Unset (w0 w:World) (b g n cap:Nat) (s:RSt) (h:RdR w0 b g n cap s.1 s.2 w) (hk:vW s=sp.kUnset):Calls Tryz.prog 30 #[.pointer (some ⟨b,0,none⟩)] w fun e w'=>OpIs w0 b g n cap { kind:=8,node:=vN (sW s),name:=vW (sN (sW s)) } (sW (sN (sW s))) e w':=by
 have H0:=Lib.hid (OpR.start h)
 have s0:((bstr (vW s)).toList==[115,104,101,101,116])=false:=str_ne (by rw [hk];decide)
 have s1:((bstr (vW s)).toList==[118,105,101,119])=false:=str_ne (by rw [hk];decide)
 have s2:((bstr (vW s)).toList==[102,111,110,116])=false:=str_ne (by rw [hk];decide)
 have s3:((bstr (vW s)).toList==[99,111,108,111,114])=false:=str_ne (by rw [hk];decide)
 have s4:((bstr (vW s)).toList==[112,114,105,110,116])=false:=str_ne (by rw [hk];decide)
 have s5:((bstr (vW s)).toList==[119,111,114,100])=false:=str_ne (by rw [hk];decide)
 have s6:((bstr (vW s)).toList==[105,110,115,101,114,116])=false:=str_ne (by rw [hk];decide)
 have s7:((bstr (vW s)).toList==[114,101,109,111,118,101])=false:=str_ne (by rw [hk];decide)
 have s8:((bstr (vW s)).toList==[115,101,116])=false:=str_ne (by rw [hk];decide)
 have s9:((bstr (vW s)).toList==[117,110,115,101,116])=true:=str_eq hk
 clear h hk
 go_enter Tryz.func30,Tryz.ntmps30
 go_wp2_with (first
  | (have hgd:=H0;clear hgd;go_at_call 64;refine (stW _ _ b g n cap s H0.out.rd.base).mono ?_;rintro e w1 ⟨rfl,h1⟩;have H1:=Lib.hid (H0.out.read h1);clear h1 H0)
  | (have hgd:=H1;clear hgd;go_at_call 65;refine (stN _ _ b g n cap (sW s) H1.out.rd.base).mono ?_;rintro e w2 ⟨rfl,h2⟩;have H2:=Lib.hid (H1.out.read h2);clear h2 H1)
  | (have hgd:=H2;clear hgd;go_at_call 64;refine (stW _ _ b g n cap (sN (sW s)) H2.out.rd.base).mono ?_;rintro e w3 ⟨rfl,h3⟩;have H3:=Lib.hid (H2.out.read h3);clear h3 H2)
  | (have hgd:=H3;clear hgd;refine wpList_store_row rfl 28 _ _ rfl w.heap.size #[.int .i64 8,.int .i64 (vN (sW s)),.int .i64 0,.int .i64 0,.string (bstr (vW (sN (sW s)))),.string ⟨#[]⟩,.slice none 0 0,.int .i64 0,.int .i64 0,.int .i64 0,.int .i64 0,.int .i64 0,.string ⟨#[]⟩,.int .i64 0,.int .i64 0,.int .i64 0,.int .i64 0,.bool false] rfl rfl 28 _ H3.out.res size28' rfl (by simp [Value.oneCell']) ?_))
 exact ret_op rfl rfl (H3.out.fin _).2 rfl (opIs_plain rfl (H3.out.fin _).1)
set_option maxRecDepth 100000 in
set_option maxHeartbeats 4000000 in
theorem rop_Box (w0 w:World) (b g n cap:Nat) (s:RSt) (h:RdR w0 b g n cap s.1 s.2 w) (hk:vW s=sp.kBox):Calls Tryz.prog 30 #[.pointer (some ⟨b,0,none⟩)] w fun e w'=>OpIs w0 b g n cap { kind:=9,node:=vN (sW s),bt:=(sp.boxOf (vW (sN (sW s)))).getD 0,bn:=sp.boxName (vW (sK (sN (sW s)))),bw:=vF (sW (sK (sN (sW s)))),bh:=vF (sF (sW (sK (sN (sW s))))) } (sB (sN (sW s))) e w':=by
 have H0:=Lib.hid (OpR.start h)
 have s0:((bstr (vW s)).toList==[115,104,101,101,116])=false:=str_ne (by rw [hk];decide)
 have s1:((bstr (vW s)).toList==[118,105,101,119])=false:=str_ne (by rw [hk];decide)
 have s2:((bstr (vW s)).toList==[102,111,110,116])=false:=str_ne (by rw [hk];decide)
 have s3:((bstr (vW s)).toList==[99,111,108,111,114])=false:=str_ne (by rw [hk];decide)
 have s4:((bstr (vW s)).toList==[112,114,105,110,116])=false:=str_ne (by rw [hk];decide)
 have s5:((bstr (vW s)).toList==[119,111,114,100])=false:=str_ne (by rw [hk];decide)
 have s6:((bstr (vW s)).toList==[105,110,115,101,114,116])=false:=str_ne (by rw [hk];decide)
 have s7:((bstr (vW s)).toList==[114,101,109,111,118,101])=false:=str_ne (by rw [hk];decide)
 have s8:((bstr (vW s)).toList==[115,101,116])=false:=str_ne (by rw [hk];decide)
 have s9:((bstr (vW s)).toList==[117,110,115,101,116])=false:=str_ne (by rw [hk];decide)
 have s10:((bstr (vW s)).toList==[98,111,120])=true:=str_eq hk
 clear h hk
 go_enter Tryz.func30,Tryz.ntmps30
 go_wp2_with (first
  | (have hgd:=H0;clear hgd;go_at_call 64;refine (stW _ _ b g n cap s H0.out.rd.base).mono ?_;rintro e w1 ⟨rfl,h1⟩;have H1:=Lib.hid (H0.out.read h1);clear h1 H0)
  | (have hgd:=H1;clear hgd;go_at_call 65;refine (stN _ _ b g n cap (sW s) H1.out.rd.base).mono ?_;rintro e w2 ⟨rfl,h2⟩;have H2:=Lib.hid (H1.out.read h2);clear h2 H1)
  | (have hgd:=H2;clear hgd;go_at_call 68;refine (stB _ _ b g n cap (sN (sW s)) H2.out.rd.base).mono ?_;rintro e w3 ⟨rfl,h3⟩;have H3:=Lib.hid (H2.out.read h3);clear h3 H2)
  | (have hgd:=H3;clear hgd;refine wpList_store_row rfl 28 _ _ rfl w.heap.size #[.int .i64 9,.int .i64 (vN (sW s)),.int .i64 0,.int .i64 0,.string ⟨#[]⟩,.string ⟨#[]⟩,.slice none 0 0,.int .i64 0,.int .i64 0,.int .i64 0,.int .i64 0,.int .i64 ((sp.boxOf (vW (sN (sW s)))).getD 0),.string (bstr (sp.boxName (vW (sK (sN (sW s)))))),.int .i64 (vF (sW (sK (sN (sW s))))).1,.int .i64 (vF (sW (sK (sN (sW s))))).2,.int .i64 (vF (sF (sW (sK (sN (sW s)))))).1,.int .i64 (vF (sF (sW (sK (sN (sW s)))))).2,.bool false] rfl rfl 28 _ H3.out.res size28' rfl (by simp [Value.oneCell']) ?_))
 exact ret_op rfl rfl (H3.out.fin _).2 rfl (opIs_plain rfl (H3.out.fin _).1)
set_option maxRecDepth 100000 in
set_option maxHeartbeats 4000000 in
theorem rop_Ask (w0 w:World) (b g n cap:Nat) (s:RSt) (h:RdR w0 b g n cap s.1 s.2 w) (hk:vW s=sp.kAsk):Calls Tryz.prog 30 #[.pointer (some ⟨b,0,none⟩)] w fun e w'=>OpIs w0 b g n cap { kind:=10,node:=vN (sW s),name:=vW (sN (sW s)) } (sW (sN (sW s))) e w':=by
 have H0:=Lib.hid (OpR.start h)
 have s0:((bstr (vW s)).toList==[115,104,101,101,116])=false:=str_ne (by rw [hk];decide)
 have s1:((bstr (vW s)).toList==[118,105,101,119])=false:=str_ne (by rw [hk];decide)
 have s2:((bstr (vW s)).toList==[102,111,110,116])=false:=str_ne (by rw [hk];decide)
 have s3:((bstr (vW s)).toList==[99,111,108,111,114])=false:=str_ne (by rw [hk];decide)
 have s4:((bstr (vW s)).toList==[112,114,105,110,116])=false:=str_ne (by rw [hk];decide)
 have s5:((bstr (vW s)).toList==[119,111,114,100])=false:=str_ne (by rw [hk];decide)
 have s6:((bstr (vW s)).toList==[105,110,115,101,114,116])=false:=str_ne (by rw [hk];decide)
 have s7:((bstr (vW s)).toList==[114,101,109,111,118,101])=false:=str_ne (by rw [hk];decide)
 have s8:((bstr (vW s)).toList==[115,101,116])=false:=str_ne (by rw [hk];decide)
 have s9:((bstr (vW s)).toList==[117,110,115,101,116])=false:=str_ne (by rw [hk];decide)
 have s10:((bstr (vW s)).toList==[98,111,120])=false:=str_ne (by rw [hk];decide)
 have s11:((bstr (vW s)).toList==[97,115,107])=true:=str_eq hk
 clear h hk
 go_enter Tryz.func30,Tryz.ntmps30
 go_wp2_with (first
  | (have hgd:=H0;clear hgd;go_at_call 64;refine (stW _ _ b g n cap s H0.out.rd.base).mono ?_;rintro e w1 ⟨rfl,h1⟩;have H1:=Lib.hid (H0.out.read h1);clear h1 H0)
  | (have hgd:=H1;clear hgd;go_at_call 65;refine (stN _ _ b g n cap (sW s) H1.out.rd.base).mono ?_;rintro e w2 ⟨rfl,h2⟩;have H2:=Lib.hid (H1.out.read h2);clear h2 H1)
  | (have hgd:=H2;clear hgd;go_at_call 64;refine (stW _ _ b g n cap (sN (sW s)) H2.out.rd.base).mono ?_;rintro e w3 ⟨rfl,h3⟩;have H3:=Lib.hid (H2.out.read h3);clear h3 H2)
  | (have hgd:=H3;clear hgd;refine wpList_store_row rfl 28 _ _ rfl w.heap.size #[.int .i64 10,.int .i64 (vN (sW s)),.int .i64 0,.int .i64 0,.string (bstr (vW (sN (sW s)))),.string ⟨#[]⟩,.slice none 0 0,.int .i64 0,.int .i64 0,.int .i64 0,.int .i64 0,.int .i64 0,.string ⟨#[]⟩,.int .i64 0,.int .i64 0,.int .i64 0,.int .i64 0,.bool false] rfl rfl 28 _ H3.out.res size28' rfl (by simp [Value.oneCell']) ?_))
 exact ret_op rfl rfl (H3.out.fin _).2 rfl (opIs_plain rfl (H3.out.fin _).1)
set_option maxRecDepth 100000 in
set_option maxHeartbeats 4000000 in
theorem rop_Custom (w0 w:World) (b g n cap:Nat) (s:RSt) (h:RdR w0 b g n cap s.1 s.2 w) (hk:vW s=sp.kCustom):Calls Tryz.prog 30 #[.pointer (some ⟨b,0,none⟩)] w fun e w'=>OpIs w0 b g n cap { kind:=11,node:=vN (sW s),name:=vW (sN (sW s)) } (sW (sN (sW s))) e w':=by
 have H0:=Lib.hid (OpR.start h)
 have s0:((bstr (vW s)).toList==[115,104,101,101,116])=false:=str_ne (by rw [hk];decide)
 have s1:((bstr (vW s)).toList==[118,105,101,119])=false:=str_ne (by rw [hk];decide)
 have s2:((bstr (vW s)).toList==[102,111,110,116])=false:=str_ne (by rw [hk];decide)
 have s3:((bstr (vW s)).toList==[99,111,108,111,114])=false:=str_ne (by rw [hk];decide)
 have s4:((bstr (vW s)).toList==[112,114,105,110,116])=false:=str_ne (by rw [hk];decide)
 have s5:((bstr (vW s)).toList==[119,111,114,100])=false:=str_ne (by rw [hk];decide)
 have s6:((bstr (vW s)).toList==[105,110,115,101,114,116])=false:=str_ne (by rw [hk];decide)
 have s7:((bstr (vW s)).toList==[114,101,109,111,118,101])=false:=str_ne (by rw [hk];decide)
 have s8:((bstr (vW s)).toList==[115,101,116])=false:=str_ne (by rw [hk];decide)
 have s9:((bstr (vW s)).toList==[117,110,115,101,116])=false:=str_ne (by rw [hk];decide)
 have s10:((bstr (vW s)).toList==[98,111,120])=false:=str_ne (by rw [hk];decide)
 have s11:((bstr (vW s)).toList==[97,115,107])=false:=str_ne (by rw [hk];decide)
 have s12:((bstr (vW s)).toList==[99,117,115,116,111,109])=true:=str_eq hk
 clear h hk
 go_enter Tryz.func30,Tryz.ntmps30
 go_wp2_with (first
  | (have hgd:=H0;clear hgd;go_at_call 64;refine (stW _ _ b g n cap s H0.out.rd.base).mono ?_;rintro e w1 ⟨rfl,h1⟩;have H1:=Lib.hid (H0.out.read h1);clear h1 H0)
  | (have hgd:=H1;clear hgd;go_at_call 65;refine (stN _ _ b g n cap (sW s) H1.out.rd.base).mono ?_;rintro e w2 ⟨rfl,h2⟩;have H2:=Lib.hid (H1.out.read h2);clear h2 H1)
  | (have hgd:=H2;clear hgd;go_at_call 64;refine (stW _ _ b g n cap (sN (sW s)) H2.out.rd.base).mono ?_;rintro e w3 ⟨rfl,h3⟩;have H3:=Lib.hid (H2.out.read h3);clear h3 H2)
  | (have hgd:=H3;clear hgd;refine wpList_store_row rfl 28 _ _ rfl w.heap.size #[.int .i64 11,.int .i64 (vN (sW s)),.int .i64 0,.int .i64 0,.string (bstr (vW (sN (sW s)))),.string ⟨#[]⟩,.slice none 0 0,.int .i64 0,.int .i64 0,.int .i64 0,.int .i64 0,.int .i64 0,.string ⟨#[]⟩,.int .i64 0,.int .i64 0,.int .i64 0,.int .i64 0,.bool false] rfl rfl 28 _ H3.out.res size28' rfl (by simp [Value.oneCell']) ?_))
 exact ret_op rfl rfl (H3.out.fin _).2 rfl (opIs_plain rfl (H3.out.fin _).1)
set_option maxRecDepth 100000 in
set_option maxHeartbeats 4000000 in
theorem rop_Rules (w0 w:World) (b g n cap:Nat) (s:RSt) (h:RdR w0 b g n cap s.1 s.2 w) (hk:vW s=sp.kRules):Calls Tryz.prog 30 #[.pointer (some ⟨b,0,none⟩)] w fun e w'=>OpIs w0 b g n cap { kind:=12,node:=vN (sW s) } (sN (sW s)) e w':=by
 have H0:=Lib.hid (OpR.start h)
 have s0:((bstr (vW s)).toList==[115,104,101,101,116])=false:=str_ne (by rw [hk];decide)
 have s1:((bstr (vW s)).toList==[118,105,101,119])=false:=str_ne (by rw [hk];decide)
 have s2:((bstr (vW s)).toList==[102,111,110,116])=false:=str_ne (by rw [hk];decide)
 have s3:((bstr (vW s)).toList==[99,111,108,111,114])=false:=str_ne (by rw [hk];decide)
 have s4:((bstr (vW s)).toList==[112,114,105,110,116])=false:=str_ne (by rw [hk];decide)
 have s5:((bstr (vW s)).toList==[119,111,114,100])=false:=str_ne (by rw [hk];decide)
 have s6:((bstr (vW s)).toList==[105,110,115,101,114,116])=false:=str_ne (by rw [hk];decide)
 have s7:((bstr (vW s)).toList==[114,101,109,111,118,101])=false:=str_ne (by rw [hk];decide)
 have s8:((bstr (vW s)).toList==[115,101,116])=false:=str_ne (by rw [hk];decide)
 have s9:((bstr (vW s)).toList==[117,110,115,101,116])=false:=str_ne (by rw [hk];decide)
 have s10:((bstr (vW s)).toList==[98,111,120])=false:=str_ne (by rw [hk];decide)
 have s11:((bstr (vW s)).toList==[97,115,107])=false:=str_ne (by rw [hk];decide)
 have s12:((bstr (vW s)).toList==[99,117,115,116,111,109])=false:=str_ne (by rw [hk];decide)
 have s13:((bstr (vW s)).toList==[114,117,108,101,115])=true:=str_eq hk
 clear h hk
 go_enter Tryz.func30,Tryz.ntmps30
 go_wp2_with (first
  | (have hgd:=H0;clear hgd;go_at_call 64;refine (stW _ _ b g n cap s H0.out.rd.base).mono ?_;rintro e w1 ⟨rfl,h1⟩;have H1:=Lib.hid (H0.out.read h1);clear h1 H0)
  | (have hgd:=H1;clear hgd;go_at_call 65;refine (stN _ _ b g n cap (sW s) H1.out.rd.base).mono ?_;rintro e w2 ⟨rfl,h2⟩;have H2:=Lib.hid (H1.out.read h2);clear h2 H1)
  | (have hgd:=H2;clear hgd;refine wpList_store_row rfl 28 _ _ rfl w.heap.size #[.int .i64 12,.int .i64 (vN (sW s)),.int .i64 0,.int .i64 0,.string ⟨#[]⟩,.string ⟨#[]⟩,.slice none 0 0,.int .i64 0,.int .i64 0,.int .i64 0,.int .i64 0,.int .i64 0,.string ⟨#[]⟩,.int .i64 0,.int .i64 0,.int .i64 0,.int .i64 0,.bool false] rfl rfl 28 _ H2.out.res size28' rfl (by simp [Value.oneCell']) ?_))
 exact ret_op rfl rfl (H2.out.fin _).2 rfl (opIs_plain rfl (H2.out.fin _).1)
set_option maxRecDepth 100000 in
set_option maxHeartbeats 4000000 in
theorem rop_Count (w0 w:World) (b g n cap:Nat) (s:RSt) (h:RdR w0 b g n cap s.1 s.2 w) (hk:vW s=sp.kCount):Calls Tryz.prog 30 #[.pointer (some ⟨b,0,none⟩)] w fun e w'=>OpIs w0 b g n cap { kind:=15 } (sW s) e w':=by
 have H0:=Lib.hid (OpR.start h)
 have s0:((bstr (vW s)).toList==[115,104,101,101,116])=false:=str_ne (by rw [hk];decide)
 have s1:((bstr (vW s)).toList==[118,105,101,119])=false:=str_ne (by rw [hk];decide)
 have s2:((bstr (vW s)).toList==[102,111,110,116])=false:=str_ne (by rw [hk];decide)
 have s3:((bstr (vW s)).toList==[99,111,108,111,114])=false:=str_ne (by rw [hk];decide)
 have s4:((bstr (vW s)).toList==[112,114,105,110,116])=false:=str_ne (by rw [hk];decide)
 have s5:((bstr (vW s)).toList==[119,111,114,100])=false:=str_ne (by rw [hk];decide)
 have s6:((bstr (vW s)).toList==[105,110,115,101,114,116])=false:=str_ne (by rw [hk];decide)
 have s7:((bstr (vW s)).toList==[114,101,109,111,118,101])=false:=str_ne (by rw [hk];decide)
 have s8:((bstr (vW s)).toList==[115,101,116])=false:=str_ne (by rw [hk];decide)
 have s9:((bstr (vW s)).toList==[117,110,115,101,116])=false:=str_ne (by rw [hk];decide)
 have s10:((bstr (vW s)).toList==[98,111,120])=false:=str_ne (by rw [hk];decide)
 have s11:((bstr (vW s)).toList==[97,115,107])=false:=str_ne (by rw [hk];decide)
 have s12:((bstr (vW s)).toList==[99,117,115,116,111,109])=false:=str_ne (by rw [hk];decide)
 have s13:((bstr (vW s)).toList==[114,117,108,101,115])=false:=str_ne (by rw [hk];decide)
 have s14:((bstr (vW s)).toList==[99,111,117,110,116])=true:=str_eq hk
 clear h hk
 go_enter Tryz.func30,Tryz.ntmps30
 go_wp2_with (first
  | (have hgd:=H0;clear hgd;go_at_call 64;refine (stW _ _ b g n cap s H0.out.rd.base).mono ?_;rintro e w1 ⟨rfl,h1⟩;have H1:=Lib.hid (H0.out.read h1);clear h1 H0)
  | (have hgd:=H1;clear hgd;refine wpList_store_row rfl 28 _ _ rfl w.heap.size #[.int .i64 15,.int .i64 0,.int .i64 0,.int .i64 0,.string ⟨#[]⟩,.string ⟨#[]⟩,.slice none 0 0,.int .i64 0,.int .i64 0,.int .i64 0,.int .i64 0,.int .i64 0,.string ⟨#[]⟩,.int .i64 0,.int .i64 0,.int .i64 0,.int .i64 0,.bool false] rfl rfl 28 _ H1.out.res size28' rfl (by simp [Value.oneCell']) ?_))
 exact ret_op rfl rfl (H1.out.fin _).2 rfl (opIs_plain rfl (H1.out.fin _).1)
set_option maxRecDepth 100000 in
set_option maxHeartbeats 4000000 in
theorem rop_None (w0 w:World) (b g n cap:Nat) (s:RSt) (h:RdR w0 b g n cap s.1 s.2 w) (h0:vW s≠sp.kSheet) (h1:vW s≠sp.kView) (h2:vW s≠sp.kFont) (h3:vW s≠sp.kColor) (h4:vW s≠sp.kPrint) (h5:vW s≠sp.kWord) (h6:vW s≠sp.kInsert) (h7:vW s≠sp.kRemove) (h8:vW s≠sp.kSet) (h9:vW s≠sp.kUnset) (h10:vW s≠sp.kBox) (h11:vW s≠sp.kAsk) (h12:vW s≠sp.kCustom) (h13:vW s≠sp.kRules) (h14:vW s≠sp.kCount):Calls Tryz.prog 30 #[.pointer (some ⟨b,0,none⟩)] w fun e w'=>OpIs w0 b g n cap { } ((sW s).1,true) e w':=by
 have H0:=Lib.hid (OpR.start h)
 have s0:((bstr (vW s)).toList==[115,104,101,101,116])=false:=str_ne h0
 have s1:((bstr (vW s)).toList==[118,105,101,119])=false:=str_ne h1
 have s2:((bstr (vW s)).toList==[102,111,110,116])=false:=str_ne h2
 have s3:((bstr (vW s)).toList==[99,111,108,111,114])=false:=str_ne h3
 have s4:((bstr (vW s)).toList==[112,114,105,110,116])=false:=str_ne h4
 have s5:((bstr (vW s)).toList==[119,111,114,100])=false:=str_ne h5
 have s6:((bstr (vW s)).toList==[105,110,115,101,114,116])=false:=str_ne h6
 have s7:((bstr (vW s)).toList==[114,101,109,111,118,101])=false:=str_ne h7
 have s8:((bstr (vW s)).toList==[115,101,116])=false:=str_ne h8
 have s9:((bstr (vW s)).toList==[117,110,115,101,116])=false:=str_ne h9
 have s10:((bstr (vW s)).toList==[98,111,120])=false:=str_ne h10
 have s11:((bstr (vW s)).toList==[97,115,107])=false:=str_ne h11
 have s12:((bstr (vW s)).toList==[99,117,115,116,111,109])=false:=str_ne h12
 have s13:((bstr (vW s)).toList==[114,117,108,101,115])=false:=str_ne h13
 have s14:((bstr (vW s)).toList==[99,111,117,110,116])=false:=str_ne h14
 clear h h0 h1 h2 h3 h4 h5 h6 h7 h8 h9 h10 h11 h12 h13 h14
 go_enter Tryz.func30,Tryz.ntmps30
 go_wp2_with (first
  | (have hgd:=H0;clear hgd;go_at_call 64;refine (stW _ _ b g n cap s H0.out.rd.base).mono ?_;rintro e w1 ⟨rfl,h1⟩;have H1:=Lib.hid (H0.out.read h1);have c2:=H1.out.rd.c2;have z2:=H1.out.rd.z 2;have H2:=Lib.hid (H1.out.setBad true);clear h1 H0)
  | (have hgd:=H2;clear hgd;refine wpList_store_row rfl 28 _ _ rfl w.heap.size #[.int .i64 0,.int .i64 0,.int .i64 0,.int .i64 0,.string ⟨#[]⟩,.string ⟨#[]⟩,.slice none 0 0,.int .i64 0,.int .i64 0,.int .i64 0,.int .i64 0,.int .i64 0,.string ⟨#[]⟩,.int .i64 0,.int .i64 0,.int .i64 0,.int .i64 0,.bool false] rfl rfl 28 _ H2.out.res size28' rfl (by simp [Value.oneCell']) ?_))
 exact ret_op rfl rfl (H2.out.fin _).2 rfl (opIs_plain rfl (H2.out.fin _).1)
theorem next_short {w W:World} {b g n cap:Nat} {r:List (List UInt8×Bool)} {bad:Bool} (h:RdR w b g n cap r bad W):(nextW r.tail.tail).1.length≤1099511627776:=by
 match r,h with
 | [],_=>simp [nextW]
 | [_],_=>simp [nextW]
 | [_,_],_=>simp [nextW]
 | _ :: _ :: x :: _,h=>exact h.short x (by simp)
theorem rop_print (w0 w:World) (b g n cap:Nat) (s:RSt) (h:RdR w0 b g n cap s.1 s.2 w) (hk:vW s=sp.kPrint):Calls Tryz.prog 30 #[.pointer (some ⟨b,0,none⟩)] w fun e w'=>OpIs w0 b g n cap { kind:=14,on:=vW (sW s)==sp.kOn } (sP (sW s)) e w':=by
 by_cases h1:vW (sW s)=sp.kOn
 ·cases hb:(sW (sW s)).2 with
  | false=>exact rop_Print_on_false w0 w b g n cap s h hk hb h1
  | true=>exact rop_Print_on_true w0 w b g n cap s h hk hb h1
 by_cases h2:vW (sW s)=sp.kOff
 ·cases hb:(sW (sW s)).2 with
  | false=>exact rop_Print_off_false w0 w b g n cap s h hk hb h2
  | true=>exact rop_Print_off_true w0 w b g n cap s h hk hb h2
 cases hb:(sW (sW s)).2 with
 | false=>exact rop_Print_other_false w0 w b g n cap s h hk hb h1 h2
 | true=>exact rop_Print_other_true w0 w b g n cap s h hk hb h1 h2
theorem rop_any (w0 w:World) (b g n cap:Nat) (s:RSt) (h:RdR w0 b g n cap s.1 s.2 w):Calls Tryz.prog 30 #[.pointer (some ⟨b,0,none⟩)] w fun e w'=>OpIs w0 b g n cap (opR s).1 (opR s).2 e w':=by
 by_cases h0:vW s=sp.kSheet
 ·rw [show opR s=({ kind:=1,origin:=vN (sW s),text:=vW (sN (sW s)) },(sT (sN (sW s)))) from by unfold opR;rw [if_pos h0]]
  exact rop_Sheet w0 w b g n cap s h (next_short h) h0
 by_cases h1:vW s=sp.kView
 ·rw [show opR s=({ kind:=2,w:=vF (sW s),h:=vF (sF (sW s)) },(sF (sF (sW s)))) from by unfold opR;rw [if_neg h0,if_pos h1]]
  exact rop_View w0 w b g n cap s h h1
 by_cases h2:vW s=sp.kFont
 ·rw [show opR s=({ kind:=3,w:=vF (sW s) },(sF (sW s))) from by unfold opR;rw [if_neg h0,if_neg h1,if_pos h2]]
  exact rop_Font w0 w b g n cap s h h2
 by_cases h3:vW s=sp.kColor
 ·rw [show opR s=({ kind:=13,w:=vF (sW s) },(sF (sW s))) from by unfold opR;rw [if_neg h0,if_neg h1,if_neg h2,if_pos h3]]
  exact rop_Color w0 w b g n cap s h h3
 by_cases h4:vW s=sp.kPrint
 ·rw [show opR s=({ kind:=14,on:=vW (sW s)==sp.kOn },(sP (sW s))) from by unfold opR;rw [if_neg h0,if_neg h1,if_neg h2,if_neg h3,if_pos h4]]
  exact rop_print w0 w b g n cap s h h4
 by_cases h5:vW s=sp.kWord
 ·rw [show opR s=({ kind:=4,name:=vW (sW s),word:=vW (sW (sW s)) },(sW (sW (sW s)))) from by unfold opR;rw [if_neg h0,if_neg h1,if_neg h2,if_neg h3,if_neg h4,if_pos h5]]
  exact rop_Word w0 w b g n cap s h h5
 by_cases h6:vW s=sp.kInsert
 ·rw [show opR s=({ kind:=5,node:=vN (sW s),at_:=vN (sN (sW s)),name:=vW (sN (sN (sW s))) },(sW (sN (sN (sW s))))) from by unfold opR;rw [if_neg h0,if_neg h1,if_neg h2,if_neg h3,if_neg h4,if_neg h5,if_pos h6]]
  exact rop_Insert w0 w b g n cap s h h6
 by_cases h7:vW s=sp.kRemove
 ·rw [show opR s=({ kind:=6,node:=vN (sW s) },(sN (sW s))) from by unfold opR;rw [if_neg h0,if_neg h1,if_neg h2,if_neg h3,if_neg h4,if_neg h5,if_neg h6,if_pos h7]]
  exact rop_Remove w0 w b g n cap s h h7
 by_cases h8:vW s=sp.kSet
 ·rw [show opR s=({ kind:=7,node:=vN (sW s),name:=vW (sN (sW s)),word:=vW (sW (sN (sW s))) },(sT (sW (sN (sW s))))) from by unfold opR;rw [if_neg h0,if_neg h1,if_neg h2,if_neg h3,if_neg h4,if_neg h5,if_neg h6,if_neg h7,if_pos h8]]
  exact rop_Set w0 w b g n cap s h h8
 by_cases h9:vW s=sp.kUnset
 ·rw [show opR s=({ kind:=8,node:=vN (sW s),name:=vW (sN (sW s)) },(sW (sN (sW s)))) from by unfold opR;rw [if_neg h0,if_neg h1,if_neg h2,if_neg h3,if_neg h4,if_neg h5,if_neg h6,if_neg h7,if_neg h8,if_pos h9]]
  exact rop_Unset w0 w b g n cap s h h9
 by_cases h10:vW s=sp.kBox
 ·rw [show opR s=({ kind:=9,node:=vN (sW s),bt:=(sp.boxOf (vW (sN (sW s)))).getD 0,bn:=sp.boxName (vW (sK (sN (sW s)))),bw:=vF (sW (sK (sN (sW s)))),bh:=vF (sF (sW (sK (sN (sW s))))) },(sB (sN (sW s)))) from by unfold opR;rw [if_neg h0,if_neg h1,if_neg h2,if_neg h3,if_neg h4,if_neg h5,if_neg h6,if_neg h7,if_neg h8,if_neg h9,if_pos h10]]
  exact rop_Box w0 w b g n cap s h h10
 by_cases h11:vW s=sp.kAsk
 ·rw [show opR s=({ kind:=10,node:=vN (sW s),name:=vW (sN (sW s)) },(sW (sN (sW s)))) from by unfold opR;rw [if_neg h0,if_neg h1,if_neg h2,if_neg h3,if_neg h4,if_neg h5,if_neg h6,if_neg h7,if_neg h8,if_neg h9,if_neg h10,if_pos h11]]
  exact rop_Ask w0 w b g n cap s h h11
 by_cases h12:vW s=sp.kCustom
 ·rw [show opR s=({ kind:=11,node:=vN (sW s),name:=vW (sN (sW s)) },(sW (sN (sW s)))) from by unfold opR;rw [if_neg h0,if_neg h1,if_neg h2,if_neg h3,if_neg h4,if_neg h5,if_neg h6,if_neg h7,if_neg h8,if_neg h9,if_neg h10,if_neg h11,if_pos h12]]
  exact rop_Custom w0 w b g n cap s h h12
 by_cases h13:vW s=sp.kRules
 ·rw [show opR s=({ kind:=12,node:=vN (sW s) },(sN (sW s))) from by unfold opR;rw [if_neg h0,if_neg h1,if_neg h2,if_neg h3,if_neg h4,if_neg h5,if_neg h6,if_neg h7,if_neg h8,if_neg h9,if_neg h10,if_neg h11,if_neg h12,if_pos h13]]
  exact rop_Rules w0 w b g n cap s h h13
 by_cases h14:vW s=sp.kCount
 ·rw [show opR s=({ kind:=15 },(sW s)) from by unfold opR;rw [if_neg h0,if_neg h1,if_neg h2,if_neg h3,if_neg h4,if_neg h5,if_neg h6,if_neg h7,if_neg h8,if_neg h9,if_neg h10,if_neg h11,if_neg h12,if_neg h13,if_pos h14]]
  exact rop_Count w0 w b g n cap s h h14
 rw [show opR s=({ },((sW s).1,true)) from by unfold opR;rw [if_neg h0,if_neg h1,if_neg h2,if_neg h3,if_neg h4,if_neg h5,if_neg h6,if_neg h7,if_neg h8,if_neg h9,if_neg h10,if_neg h11,if_neg h12,if_neg h13,if_neg h14]]
 exact rop_None w0 w b g n cap s h h0 h1 h2 h3 h4 h5 h6 h7 h8 h9 h10 h11 h12 h13 h14
theorem opR_line (w:List UInt8) (a:List (List UInt8×Bool)):OpOk (sp.opS w a) (opR ((w,false) :: a,false)):=by
 by_cases h0:w=sp.kSheet
 ·subst h0;exact opR_Sheet a
 by_cases h1:w=sp.kView
 ·subst h1;exact opR_View a
 by_cases h2:w=sp.kFont
 ·subst h2;exact opR_Font a
 by_cases h3:w=sp.kColor
 ·subst h3;exact opR_Color a
 by_cases h4:w=sp.kPrint
 ·subst h4;exact opR_Print a
 by_cases h5:w=sp.kWord
 ·subst h5;exact opR_Word a
 by_cases h6:w=sp.kInsert
 ·subst h6;exact opR_Insert a
 by_cases h7:w=sp.kRemove
 ·subst h7;exact opR_Remove a
 by_cases h8:w=sp.kSet
 ·subst h8;exact opR_Set a
 by_cases h9:w=sp.kUnset
 ·subst h9;exact opR_Unset a
 by_cases h10:w=sp.kBox
 ·subst h10;exact opR_Box a
 by_cases h11:w=sp.kAsk
 ·subst h11;exact opR_Ask a
 by_cases h12:w=sp.kCustom
 ·subst h12;exact opR_Custom a
 by_cases h13:w=sp.kRules
 ·subst h13;exact opR_Rules a
 by_cases h14:w=sp.kCount
 ·subst h14;exact opR_Count a
 unfold sp.opS opR
 rw [show vW ((w,false) :: a,false)=w from rfl]
 rw [if_neg h0,if_neg h1,if_neg h2,if_neg h3,if_neg h4,if_neg h5,if_neg h6,if_neg h7,if_neg h8,if_neg h9,if_neg h10,if_neg h11,if_neg h12,if_neg h13,if_neg h14]
 rw [if_neg h0,if_neg h1,if_neg h2,if_neg h3,if_neg h4,if_neg h5,if_neg h6,if_neg h7,if_neg h8,if_neg h9,if_neg h10,if_neg h11,if_neg h12,if_neg h13,if_neg h14]
 exact opOk_none (.inl rfl)
theorem opR_quoted (w:List UInt8) (a:List (List UInt8×Bool)):(opR ((w,true) :: a,false)).2.2=true:=by
 have e:sW ((w,true) :: a,false)=(a,true):=by simp [sW,nextW]
 unfold opR
 rw [e]
 have key:∀(c:Prop) [Decidable c] (p q:sp.Op×RSt),p.2.2=true→q.2.2=true→(if c then p else q).2.2=true:=fun c _ p q hp hq=>by split<;>assumption
 repeat' apply key
 all_goals simp only [sW_bad,sT_bad,sN_bad,sF_bad,sP_bad,sK_bad,sB_bad]
noncomputable def resOf (l:List (List UInt8×Bool)):Option sp.Op:=match l with
 | (w,false) :: a=>sp.opS w a
 | _=>none
theorem opR_words (l:List (List UInt8×Bool)) (h0:l≠[]):OpOk (resOf l) (opR (l,false)):=by
 match l with
 | []=>exact absurd rfl h0
 | (w,false) :: a=>exact opR_line w a
 | (w,true) :: a=>exact opOk_none (.inl (opR_quoted w a))
theorem words_spc {p:List UInt8} (h:∀x∈p,x=32) (r:List UInt8):sp.words (p++r)=sp.words r:=by
 induction p with
 | nil=>rfl
 | cons x p ih =>
  rw [h x List.mem_cons_self,List.cons_append,sp.words_space]
  exact ih fun y hy=>h y (List.mem_cons_of_mem _ hy)
theorem drop_spc {p:List UInt8} (h:∀x∈p,x=32) (r:List UInt8):(p++r).dropWhile (· == 32)=r.dropWhile (· == 32):=by
 rw [List.dropWhile_append_of_pos fun x hx=>by simp [h x hx]]
theorem silent_hash {p:List UInt8} (h:∀x∈p,x=32) (r:List UInt8):sp.silentB (p++35 :: r)=true:=by
 unfold sp.silentB
 rw [drop_spc h]
 simp
theorem silent_spc {p:List UInt8} (h:∀x∈p,x=32):sp.silentB p=true:=by
 have:=drop_spc h []
 rw [List.append_nil] at this
 unfold sp.silentB
 rw [this]
 rfl
theorem silent_not {p:List UInt8} (h:∀x∈p,x=32) {c:UInt8} (h1:c≠32) (h2:c≠35) (r:List UInt8):sp.silentB (p++c :: r)=false:=by
 unfold sp.silentB
 rw [drop_spc h]
 simp [h1,h2]
theorem results_rline {n:Nat} {fn:Func} {tmps:Array Value} {W:World} {cs:Array Value} {y e:Value} (hr:fn.results=#[.cell 2 28,.tmp 3,.tmp 4]) (h2:tmps.getD 2 undef=.pointer (some ⟨n,0,none⟩)) (h3:tmps.getD 3 undef=y) (h4:tmps.getD 4 undef=e) (hg:W.heap[n]?=some (.cells cs 28 (0,0))) (hc:cs.size=18) :
  (results fn tmps).run Tryz.prog W=.ok (.tuple #[.agg cs,y,e]) W:=by
 have hl:=run_loadVar_row (P:=Tryz.prog) W n 28 28 cs (0,0) _ hg Tryz.underlying28 rfl (by rw [hc];exact size28')
 have h2':tmps[2]?.getD undef=.pointer (some ⟨n,0,none⟩):=by simpa using h2
 have h3':tmps[3]?.getD undef=y:=by simpa using h3
 have h4':tmps[4]?.getD undef=e:=by simpa using h4
 simp only [results,hr]
 simp [Sem.run_bind,Result.andThen,h2',h3',h4',asAddr,hl]
theorem ret_rline {n:Nat} {fn:Func} {tmps:Array Value} {W:World} {cs:Array Value} {y e:Value} {R:Ending→World→Prop} (hr:fn.results=#[.cell 2 28,.tmp 3,.tmp 4]) (h2:tmps.getD 2 undef=.pointer (some ⟨n,0,none⟩)) (h3:tmps.getD 3 undef=y) (h4:tmps.getD 4 undef=e) (hg:W.heap[n]?=some (.cells cs 28 (0,0))) (hc:cs.size=18)
  (h:R (.returned (.tuple #[.agg cs,y,e])) W):bodyPost Tryz.prog fn R .ret ⟨tmps,[]⟩ W :=
 bodyPost_ret (results_rline hr h2 h3 h4 hg hc) rfl h
theorem rd_start {W:World} {l:List (List UInt8×Bool)} {g cap:Nat} {cur:Array Value} (hg:W.heap[g]?=some (.cells cur 110 (0,0))) (ht:cur.toList.take (l.length*2)=wdCells l) (hn:l.length≤1099511627776) (hs:∀p∈l,p.1.length≤1099511627776) :
  RdR (W.alloc (.cells #[.slice (some ⟨g,0,none⟩) l.length cap,.int .i64 0,.bool false] 78)) W.heap.size g l.length cap l false (W.alloc (.cells #[.slice (some ⟨g,0,none⟩) l.length cap,.int .i64 0,.bool false] 78)) :=
 ⟨by rw [Nat.sub_self];exact heap_alloc_at _ _,Nat.le_refl _,fun j u hu=>by
   rw [Nat.sub_self,Nat.mul_zero,Nat.zero_add]
   have h2:=heap_old W (.cells #[.slice (some ⟨g,0,none⟩) l.length cap,.int .i64 0,.bool false] 78) _ hg
   refine blk_cell h2 j u ?_
   rw [←ht] at hu
   have hj:j<l.length*2:=by
    have:=(List.getElem?_eq_some_iff.1 hu).1
    rw [List.length_take] at this
    omega
   rw [List.getElem?_take_of_lt hj] at hu
   simpa using hu,by have:=lt_of_block hg;simp;omega,Nat.ne_of_lt (lt_of_block hg),by simp,Fr.refl _ _ _,hn,hs⟩
end Go.Proofs.YtihlneenajlhoaaGreatDoor
