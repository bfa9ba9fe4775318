/-
 Plain law of the document's reader: its words taken one by one are an operation just if the line's words are one. No condition.
-/
import Derived.Test.YtihlneenajlhoaaGreatDoorS8
import Derived.Test.YtihlneenajlhoaaGreatDoorS4
import Derived.Test.YtihlneenajlhoaaGreatDoorS2
import Derived.Test.YtihlneenajlhoaaGreatDoorS5
set_option linter.unusedSimpArgs false
set_option linter.unusedVariables false
namespace Go.Proofs.YtihlneenajlhoaaGreatDoor
open Go
abbrev RSt:=List (List UInt8×Bool)×Bool
def vW (s:RSt):List UInt8:=(AC s.1).1
def vN (s:RSt):Int:=LH (AC s.1).1
noncomputable def vF (s:RSt):Int×Int:=AO (AC s.1).1
def sW (s:RSt):RSt:=(s.1.tail,s.2||s.1.isEmpty||(AC s.1).2)
def sT (s:RSt):RSt:=(s.1.tail,s.2||s.1.isEmpty || !(AC s.1).2)
def sN (s:RSt):RSt:=(s.1.tail,s.2||s.1.isEmpty||(AC s.1).2||(sp.num (AC s.1).1).isNone)
noncomputable def sF (s:RSt):RSt:=(s.1.tail,s.2||s.1.isEmpty||(AC s.1).2||(sp.Cc (AC s.1).1).isNone)
def sP (s:RSt):RSt:=((sW s).1,(sW s).2 || !(vW s==sp.Ar||vW s==sp.Bl))
def sK (s:RSt):RSt:=((sW s).1,(sW s).2||(sp.D5 (vW s)).isNone)
noncomputable def sB (s:RSt):RSt:=sF (sF (sW (sK s)))
noncomputable def opR (s:RSt):sp.Op×RSt :=
 if vW s=sp.BX then ({ kind:=1,origin:=vN (sW s),text:=vW (sN (sW s)) },(sT (sN (sW s))))
 else if vW s=sp.BA then ({ kind:=2,w:=vF (sW s),h:=vF (sF (sW s)) },(sF (sF (sW s))))
 else if vW s=sp.BB then ({ kind:=3,w:=vF (sW s) },(sF (sW s)))
 else if vW s=sp.BC then ({ kind:=13,w:=vF (sW s) },(sF (sW s)))
 else if vW s=sp.Au then ({ kind:=14,on:=vW (sW s)==sp.Ar },(sP (sW s)))
 else if vW s=sp.BZ then ({ kind:=4,name:=vW (sW s),word:=vW (sW (sW s)) },(sW (sW (sW s))))
 else if vW s=sp.Ba then ({ kind:=5,node:=vN (sW s),at_:=vN (sN (sW s)),name:=vW (sN (sN (sW s))) },(sW (sN (sN (sW s)))))
 else if vW s=sp.BD then ({ kind:=6,node:=vN (sW s) },(sN (sW s)))
 else if vW s=sp.Bc then ({ kind:=7,node:=vN (sW s),name:=vW (sN (sW s)),word:=vW (sW (sN (sW s))) },(sT (sW (sN (sW s)))))
 else if vW s=sp.BF then ({ kind:=8,node:=vN (sW s),name:=vW (sN (sW s)) },(sW (sN (sW s))))
 else if vW s=sp.kBox then ({ kind:=9,node:=vN (sW s),bt:=(sp.D5 (vW (sN (sW s)))).getD 0,bn:=sp.Fe (vW (sK (sN (sW s)))),bw:=vF (sW (sK (sN (sW s)))),bh:=vF (sF (sW (sK (sN (sW s))))) },(sB (sN (sW s))))
 else if vW s=sp.BG then ({ kind:=10,node:=vN (sW s),name:=vW (sN (sW s)) },(sW (sN (sW s))))
 else if vW s=sp.BH then ({ kind:=11,node:=vN (sW s),name:=vW (sN (sW s)) },(sW (sN (sW s))))
 else if vW s=sp.BI then ({ kind:=12,node:=vN (sW s) },(sN (sW s)))
 else if vW s=sp.BJ then ({ kind:=15 },(sW s))
 else ({ },((sW s).1,true))
section
variable (l:List (List UInt8×Bool)) (x:List UInt8×Bool) (b:Bool)
theorem C9:sW (l,true)=(l.tail,true):=by simp [sW]
theorem DU:sT (l,true)=(l.tail,true):=by simp [sT]
theorem DW:sN (l,true)=(l.tail,true):=by simp [sN]
theorem DC:sF (l,true)=(l.tail,true):=by simp [sF]
theorem DX:sP (l,true)=(l.tail,true):=by simp [sP,sW]
theorem DD:sK (l,true)=(l.tail,true):=by simp [sK,sW]
theorem ABM:sB (l,true)=(l.tail.tail.tail.tail,true):=by simp [sB,DD,C9,DC]
theorem Df:sW ([],b)=([],true):=by simp [sW]
theorem Dh:sT ([],b)=([],true):=by simp [sT]
theorem Di:sN ([],b)=([],true):=by simp [sN]
theorem Dj:sF ([],b)=([],true):=by simp [sF]
theorem Dk:sP ([],b)=([],true):=by simp [sP,sW]
theorem Dl:sK ([],b)=([],true):=by simp [sK,sW]
end
section
variable {l:List (List UInt8×Bool)} {x:List UInt8×Bool}
theorem Dy {v:List UInt8} (h:sp.A7 x=some v):sW (x :: l,false)=(l,false)∧vW (x :: l,false)=v:=by
 obtain ⟨t,q⟩:=x
 cases q<;>simp [sp.A7] at h
 exact ⟨by simp [sW,AC],by simpa [vW,AC] using h⟩
theorem Ig (h:sp.A7 x=none):sW (x :: l,false)=(l,true):=by
 obtain ⟨t,q⟩:=x
 cases q<;>simp [sp.A7] at h
 simp [sW,AC]
theorem Qw {v:List UInt8} (h:sp.wText x=some v):sT (x :: l,false)=(l,false)∧vW (x :: l,false)=v:=by
 obtain ⟨t,q⟩:=x
 cases q<;>simp [sp.wText] at h
 exact ⟨by simp [sT,AC],by simpa [vW,AC] using h⟩
theorem Zm (h:sp.wText x=none):sT (x :: l,false)=(l,true):=by
 obtain ⟨t,q⟩:=x
 cases q<;>simp [sp.wText] at h
 simp [sT,AC]
theorem Be {v:Int} (h:sp.Bf x=some v):sN (x :: l,false)=(l,false)∧vN (x :: l,false)=v:=by
 obtain ⟨t,q⟩:=x
 cases q<;>simp [sp.Bf] at h
 exact ⟨by simp [sN,AC,h],by simp [vN,AC,LH,h]⟩
theorem Ih (h:sp.Bf x=none):sN (x :: l,false)=(l,true):=by
 obtain ⟨t,q⟩:=x
 cases q
 ·have h':sp.num t=none:=by simpa [sp.Bf] using h
  simp [sN,AC,h']
 ·simp [sN,AC]
theorem Fq {v:Int×Int} (h:sp.CW x=some v):sF (x :: l,false)=(l,false)∧vF (x :: l,false)=v:=by
 obtain ⟨t,q⟩:=x
 cases q<;>simp [sp.CW] at h
 exact ⟨by simp [sF,AC,h],by simp [vF,AC,AO,h]⟩
theorem NQ (h:sp.CW x=none):sF (x :: l,false)=(l,true):=by
 obtain ⟨t,q⟩:=x
 cases q
 ·have h':sp.Cc t=none:=by simpa [sp.CW] using h
  simp [sF,AC,h']
 ·simp [sF,AC]
end
def Aq (res:Option sp.Op) (p:sp.Op×RSt):Prop:=match res with
 | some o=>p=(o,([],false))
 | none=>p.2.2=true∨p.2.1≠[]
theorem ABN {r:Option sp.Op} (hr:r=none) {p:sp.Op×RSt} (h:p.2.2=true∨p.2.1≠[]):Aq r p:=by subst hr;exact h
theorem Ak {p:sp.Op×RSt} (h:p.2.2=true∨p.2.1≠[]):Aq none p:=h
theorem ABO {l:List (List UInt8×Bool)} {x:List UInt8×Bool} {v:List UInt8} (h:sp.A7 x=some v):sP (x :: l,false)=(l,!(v==sp.Ar||v==sp.Bl))∧vW (x :: l,false)=v:=by
 obtain ⟨e1,e2⟩:=Dy (l:=l) h
 exact ⟨by simp only [sP,e1,e2,Bool.false_or],e2⟩
theorem ABP {l:List (List UInt8×Bool)} {x:List UInt8×Bool} (h:sp.A7 x=none):sP (x :: l,false)=(l,true):=by
 simp only [sP,Ig h,Bool.true_or]
theorem Zn {l:List (List UInt8×Bool)} {x:List UInt8×Bool} {v:List UInt8} (h:sp.A7 x=some v):sK (x :: l,false)=(l,(sp.D5 v).isNone)∧vW (x :: l,false)=v:=by
 obtain ⟨e1,e2⟩:=Dy (l:=l) h
 exact ⟨by simp only [sK,e1,e2,Bool.false_or],e2⟩
theorem ABQ {l:List (List UInt8×Bool)} {x:List UInt8×Bool} (h:sp.A7 x=none):sK (x :: l,false)=(l,true):=by
 simp only [sK,Ig h,Bool.true_or]
theorem ABR (a:List (List UInt8×Bool)):Aq (sp.Ai sp.BX a) (opR ((sp.BX,false) :: a,false)):=by
 have e:opR ((sp.BX,false) :: a,false)=({ kind:=1,origin:=vN (a,false),text:=vW (sN (a,false)) },(sT (sN (a,false)))):=by
  unfold opR
  rw [show vW ((sp.BX,false) :: a,false)=sp.BX from rfl,if_pos rfl]
  rfl
 unfold sp.Ai
 rw [e,if_pos rfl]
 clear e
 match a with
 | []=>exact Ak (.inl (by simp [sW,sT,sN,sF,sP,sK,sB,AC]))
 | [x]=>exact Ak (.inl (by simp [sW,sT,sN,sF,sP,sK,sB,AC]))
 | x :: y :: y1 :: t=>exact Ak (.inr (by simp [sW,sT,sN,sF,sP,sK,sB,AC]))
 | [x,y] =>
  dsimp only
  cases h0:sp.Bf x with
  | none =>
   show Aq none _
   exact Ak (.inl (by simp only [Ih h0,C9,DU,DW,DC,DX,DD,Df,Dh,Di,Dj,Dk,Dl]))
  | some v0 =>
   cases h1:sp.wText y with
   | none =>
    show Aq none _
    exact Ak (.inl (by simp only [(Be h0).1,(Be h0).2,Zm h1,C9,DU,DW,DC,DX,DD,Df,Dh,Di,Dj,Dk,Dl]))
   | some v1 =>
    simp only [Aq,(Be h0).1,(Be h0).2,(Qw h1).1,(Qw h1).2,Option.bind_some]
theorem ABS (a:List (List UInt8×Bool)):Aq (sp.Ai sp.BA a) (opR ((sp.BA,false) :: a,false)):=by
 have e:opR ((sp.BA,false) :: a,false)=({ kind:=2,w:=vF (a,false),h:=vF (sF (a,false)) },(sF (sF (a,false)))):=by
  unfold opR
  rw [show vW ((sp.BA,false) :: a,false)=sp.BA from rfl,if_neg (show ¬sp.BA=sp.BX from by decide),if_pos rfl]
  rfl
 unfold sp.Ai
 rw [e,if_neg (show ¬sp.BA=sp.BX from by decide),if_pos rfl]
 clear e
 match a with
 | []=>exact Ak (.inl (by simp [sW,sT,sN,sF,sP,sK,sB,AC]))
 | [x]=>exact Ak (.inl (by simp [sW,sT,sN,sF,sP,sK,sB,AC]))
 | x :: y :: y1 :: t=>exact Ak (.inr (by simp [sW,sT,sN,sF,sP,sK,sB,AC]))
 | [x,y] =>
  dsimp only
  cases h0:sp.CW x with
  | none =>
   show Aq none _
   exact Ak (.inl (by simp only [NQ h0,C9,DU,DW,DC,DX,DD,Df,Dh,Di,Dj,Dk,Dl]))
  | some v0 =>
   cases h1:sp.CW y with
   | none =>
    show Aq none _
    exact Ak (.inl (by simp only [(Fq h0).1,(Fq h0).2,NQ h1,C9,DU,DW,DC,DX,DD,Df,Dh,Di,Dj,Dk,Dl]))
   | some v1 =>
    simp only [Aq,(Fq h0).1,(Fq h0).2,(Fq h1).1,(Fq h1).2,Option.bind_some]
theorem ABT (a:List (List UInt8×Bool)):Aq (sp.Ai sp.BB a) (opR ((sp.BB,false) :: a,false)):=by
 have e:opR ((sp.BB,false) :: a,false)=({ kind:=3,w:=vF (a,false) },(sF (a,false))):=by
  unfold opR
  rw [show vW ((sp.BB,false) :: a,false)=sp.BB from rfl,if_neg (show ¬sp.BB=sp.BX from by decide),if_neg (show ¬sp.BB=sp.BA from by decide),if_pos rfl]
  rfl
 unfold sp.Ai
 rw [e,if_neg (show ¬sp.BB=sp.BX from by decide),if_neg (show ¬sp.BB=sp.BA from by decide),if_pos rfl]
 clear e
 match a with
 | []=>exact Ak (.inl (by simp [sW,sT,sN,sF,sP,sK,sB,AC]))
 | x :: y1 :: t=>exact Ak (.inr (by simp [sW,sT,sN,sF,sP,sK,sB,AC]))
 | [x] =>
  dsimp only
  cases h0:sp.CW x with
  | none =>
   show Aq none _
   exact Ak (.inl (by simp only [NQ h0,C9,DU,DW,DC,DX,DD,Df,Dh,Di,Dj,Dk,Dl]))
  | some v0 =>
   simp only [Aq,(Fq h0).1,(Fq h0).2,Option.bind_some]
theorem ABU (a:List (List UInt8×Bool)):Aq (sp.Ai sp.BC a) (opR ((sp.BC,false) :: a,false)):=by
 have e:opR ((sp.BC,false) :: a,false)=({ kind:=13,w:=vF (a,false) },(sF (a,false))):=by
  unfold opR
  rw [show vW ((sp.BC,false) :: a,false)=sp.BC from rfl,if_neg (show ¬sp.BC=sp.BX from by decide),if_neg (show ¬sp.BC=sp.BA from by decide),if_neg (show ¬sp.BC=sp.BB from by decide),if_pos rfl]
  rfl
 unfold sp.Ai
 rw [e,if_neg (show ¬sp.BC=sp.BX from by decide),if_neg (show ¬sp.BC=sp.BA from by decide),if_neg (show ¬sp.BC=sp.BB from by decide),if_pos rfl]
 clear e
 match a with
 | []=>exact Ak (.inl (by simp [sW,sT,sN,sF,sP,sK,sB,AC]))
 | x :: y1 :: t=>exact Ak (.inr (by simp [sW,sT,sN,sF,sP,sK,sB,AC]))
 | [x] =>
  dsimp only
  cases h0:sp.CW x with
  | none =>
   show Aq none _
   exact Ak (.inl (by simp only [NQ h0,C9,DU,DW,DC,DX,DD,Df,Dh,Di,Dj,Dk,Dl]))
  | some v0 =>
   simp only [Aq,(Fq h0).1,(Fq h0).2,Option.bind_some]
theorem ABV (a:List (List UInt8×Bool)):Aq (sp.Ai sp.Au a) (opR ((sp.Au,false) :: a,false)):=by
 have e:opR ((sp.Au,false) :: a,false)=({ kind:=14,on:=vW (a,false)==sp.Ar },(sP (a,false))):=by
  unfold opR
  rw [show vW ((sp.Au,false) :: a,false)=sp.Au from rfl,if_neg (show ¬sp.Au=sp.BX from by decide),if_neg (show ¬sp.Au=sp.BA from by decide),if_neg (show ¬sp.Au=sp.BB from by decide),if_neg (show ¬sp.Au=sp.BC from by decide),if_pos rfl]
  rfl
 unfold sp.Ai
 rw [e,if_neg (show ¬sp.Au=sp.BX from by decide),if_neg (show ¬sp.Au=sp.BA from by decide),if_neg (show ¬sp.Au=sp.BB from by decide),if_neg (show ¬sp.Au=sp.BC from by decide),if_pos rfl]
 clear e
 match a with
 | []=>exact Ak (.inl (by simp [sW,sT,sN,sF,sP,sK,sB,AC]))
 | x :: y1 :: t=>exact Ak (.inr (by simp [sW,sT,sN,sF,sP,sK,sB,AC]))
 | [x] =>
  dsimp only
  cases h0:sp.A7 x with
  | none =>
   show Aq none _
   exact Ak (.inl (by simp only [ABP h0,C9,DU,DW,DC,DX,DD,Df,Dh,Di,Dj,Dk,Dl]))
  | some v0 =>
   obtain ⟨e1,e2⟩:=ABO (l:=[]) h0
   rw [e1,e2]
   by_cases g1:v0=sp.Ar
   ·subst g1;rfl
   by_cases g2:v0=sp.Bl
   ·subst g2;rfl
   have g1b:(v0==sp.Ar)=false:=by simpa using g1
   have g2b:(v0==sp.Bl)=false:=by simpa using g2
   show Aq (if v0=sp.Ar then _ else if v0=sp.Bl then _ else none) _
   rw [if_neg g1,if_neg g2,g1b,g2b]
   exact Ak (.inl rfl)
theorem ABX (a:List (List UInt8×Bool)):Aq (sp.Ai sp.BZ a) (opR ((sp.BZ,false) :: a,false)):=by
 have e:opR ((sp.BZ,false) :: a,false)=({ kind:=4,name:=vW (a,false),word:=vW (sW (a,false)) },(sW (sW (a,false)))):=by
  unfold opR
  rw [show vW ((sp.BZ,false) :: a,false)=sp.BZ from rfl,if_neg (show ¬sp.BZ=sp.BX from by decide),if_neg (show ¬sp.BZ=sp.BA from by decide),if_neg (show ¬sp.BZ=sp.BB from by decide),if_neg (show ¬sp.BZ=sp.BC from by decide),if_neg (show ¬sp.BZ=sp.Au from by decide),if_pos rfl]
  rfl
 unfold sp.Ai
 rw [e,if_neg (show ¬sp.BZ=sp.BX from by decide),if_neg (show ¬sp.BZ=sp.BA from by decide),if_neg (show ¬sp.BZ=sp.BB from by decide),if_neg (show ¬sp.BZ=sp.BC from by decide),if_neg (show ¬sp.BZ=sp.Au from by decide),if_pos rfl]
 clear e
 match a with
 | []=>exact Ak (.inl (by simp [sW,sT,sN,sF,sP,sK,sB,AC]))
 | [x]=>exact Ak (.inl (by simp [sW,sT,sN,sF,sP,sK,sB,AC]))
 | x :: y :: y1 :: t=>exact Ak (.inr (by simp [sW,sT,sN,sF,sP,sK,sB,AC]))
 | [x,y] =>
  dsimp only
  cases h0:sp.A7 x with
  | none =>
   show Aq none _
   exact Ak (.inl (by simp only [Ig h0,C9,DU,DW,DC,DX,DD,Df,Dh,Di,Dj,Dk,Dl]))
  | some v0 =>
   cases h1:sp.A7 y with
   | none =>
    show Aq none _
    exact Ak (.inl (by simp only [(Dy h0).1,(Dy h0).2,Ig h1,C9,DU,DW,DC,DX,DD,Df,Dh,Di,Dj,Dk,Dl]))
   | some v1 =>
    simp only [Aq,(Dy h0).1,(Dy h0).2,(Dy h1).1,(Dy h1).2,Option.bind_some]
theorem ABY (a:List (List UInt8×Bool)):Aq (sp.Ai sp.Ba a) (opR ((sp.Ba,false) :: a,false)):=by
 have e:opR ((sp.Ba,false) :: a,false)=({ kind:=5,node:=vN (a,false),at_:=vN (sN (a,false)),name:=vW (sN (sN (a,false))) },(sW (sN (sN (a,false))))):=by
  unfold opR
  rw [show vW ((sp.Ba,false) :: a,false)=sp.Ba from rfl,if_neg (show ¬sp.Ba=sp.BX from by decide),if_neg (show ¬sp.Ba=sp.BA from by decide),if_neg (show ¬sp.Ba=sp.BB from by decide),if_neg (show ¬sp.Ba=sp.BC from by decide),if_neg (show ¬sp.Ba=sp.Au from by decide),if_neg (show ¬sp.Ba=sp.BZ from by decide),if_pos rfl]
  rfl
 unfold sp.Ai
 rw [e,if_neg (show ¬sp.Ba=sp.BX from by decide),if_neg (show ¬sp.Ba=sp.BA from by decide),if_neg (show ¬sp.Ba=sp.BB from by decide),if_neg (show ¬sp.Ba=sp.BC from by decide),if_neg (show ¬sp.Ba=sp.Au from by decide),if_neg (show ¬sp.Ba=sp.BZ from by decide),if_pos rfl]
 clear e
 match a with
 | []=>exact Ak (.inl (by simp [sW,sT,sN,sF,sP,sK,sB,AC]))
 | [x]=>exact Ak (.inl (by simp [sW,sT,sN,sF,sP,sK,sB,AC]))
 | [x,y]=>exact Ak (.inl (by simp [sW,sT,sN,sF,sP,sK,sB,AC]))
 | x :: y :: z :: y1 :: t=>exact Ak (.inr (by simp [sW,sT,sN,sF,sP,sK,sB,AC]))
 | [x,y,z] =>
  dsimp only
  cases h0:sp.Bf x with
  | none =>
   show Aq none _
   exact Ak (.inl (by simp only [Ih h0,C9,DU,DW,DC,DX,DD,Df,Dh,Di,Dj,Dk,Dl]))
  | some v0 =>
   cases h1:sp.Bf y with
   | none =>
    show Aq none _
    exact Ak (.inl (by simp only [(Be h0).1,(Be h0).2,Ih h1,C9,DU,DW,DC,DX,DD,Df,Dh,Di,Dj,Dk,Dl]))
   | some v1 =>
    cases h2:sp.A7 z with
    | none =>
     show Aq none _
     exact Ak (.inl (by simp only [(Be h0).1,(Be h0).2,(Be h1).1,(Be h1).2,Ig h2,C9,DU,DW,DC,DX,DD,Df,Dh,Di,Dj,Dk,Dl]))
    | some v2 =>
     simp only [Aq,(Be h0).1,(Be h0).2,(Be h1).1,(Be h1).2,(Dy h2).1,(Dy h2).2,Option.bind_some]
theorem ABZ (a:List (List UInt8×Bool)):Aq (sp.Ai sp.BD a) (opR ((sp.BD,false) :: a,false)):=by
 have e:opR ((sp.BD,false) :: a,false)=({ kind:=6,node:=vN (a,false) },(sN (a,false))):=by
  unfold opR
  rw [show vW ((sp.BD,false) :: a,false)=sp.BD from rfl,if_neg (show ¬sp.BD=sp.BX from by decide),if_neg (show ¬sp.BD=sp.BA from by decide),if_neg (show ¬sp.BD=sp.BB from by decide),if_neg (show ¬sp.BD=sp.BC from by decide),if_neg (show ¬sp.BD=sp.Au from by decide),if_neg (show ¬sp.BD=sp.BZ from by decide),if_neg (show ¬sp.BD=sp.Ba from by decide),if_pos rfl]
  rfl
 unfold sp.Ai
 rw [e,if_neg (show ¬sp.BD=sp.BX from by decide),if_neg (show ¬sp.BD=sp.BA from by decide),if_neg (show ¬sp.BD=sp.BB from by decide),if_neg (show ¬sp.BD=sp.BC from by decide),if_neg (show ¬sp.BD=sp.Au from by decide),if_neg (show ¬sp.BD=sp.BZ from by decide),if_neg (show ¬sp.BD=sp.Ba from by decide),if_pos rfl]
 clear e
 match a with
 | []=>exact Ak (.inl (by simp [sW,sT,sN,sF,sP,sK,sB,AC]))
 | x :: y1 :: t=>exact Ak (.inr (by simp [sW,sT,sN,sF,sP,sK,sB,AC]))
 | [x] =>
  dsimp only
  cases h0:sp.Bf x with
  | none =>
   show Aq none _
   exact Ak (.inl (by simp only [Ih h0,C9,DU,DW,DC,DX,DD,Df,Dh,Di,Dj,Dk,Dl]))
  | some v0 =>
   simp only [Aq,(Be h0).1,(Be h0).2,Option.bind_some]
theorem ABa (a:List (List UInt8×Bool)):Aq (sp.Ai sp.Bc a) (opR ((sp.Bc,false) :: a,false)):=by
 have e:opR ((sp.Bc,false) :: a,false)=({ kind:=7,node:=vN (a,false),name:=vW (sN (a,false)),word:=vW (sW (sN (a,false))) },(sT (sW (sN (a,false))))):=by
  unfold opR
  rw [show vW ((sp.Bc,false) :: a,false)=sp.Bc from rfl,if_neg (show ¬sp.Bc=sp.BX from by decide),if_neg (show ¬sp.Bc=sp.BA from by decide),if_neg (show ¬sp.Bc=sp.BB from by decide),if_neg (show ¬sp.Bc=sp.BC from by decide),if_neg (show ¬sp.Bc=sp.Au from by decide),if_neg (show ¬sp.Bc=sp.BZ from by decide),if_neg (show ¬sp.Bc=sp.Ba from by decide),if_neg (show ¬sp.Bc=sp.BD from by decide),if_pos rfl]
  rfl
 unfold sp.Ai
 rw [e,if_neg (show ¬sp.Bc=sp.BX from by decide),if_neg (show ¬sp.Bc=sp.BA from by decide),if_neg (show ¬sp.Bc=sp.BB from by decide),if_neg (show ¬sp.Bc=sp.BC from by decide),if_neg (show ¬sp.Bc=sp.Au from by decide),if_neg (show ¬sp.Bc=sp.BZ from by decide),if_neg (show ¬sp.Bc=sp.Ba from by decide),if_neg (show ¬sp.Bc=sp.BD from by decide),if_pos rfl]
 clear e
 match a with
 | []=>exact Ak (.inl (by simp [sW,sT,sN,sF,sP,sK,sB,AC]))
 | [x]=>exact Ak (.inl (by simp [sW,sT,sN,sF,sP,sK,sB,AC]))
 | [x,y]=>exact Ak (.inl (by simp [sW,sT,sN,sF,sP,sK,sB,AC]))
 | x :: y :: z :: y1 :: t=>exact Ak (.inr (by simp [sW,sT,sN,sF,sP,sK,sB,AC]))
 | [x,y,z] =>
  dsimp only
  cases h0:sp.Bf x with
  | none =>
   show Aq none _
   exact Ak (.inl (by simp only [Ih h0,C9,DU,DW,DC,DX,DD,Df,Dh,Di,Dj,Dk,Dl]))
  | some v0 =>
   cases h1:sp.A7 y with
   | none =>
    show Aq none _
    exact Ak (.inl (by simp only [(Be h0).1,(Be h0).2,Ig h1,C9,DU,DW,DC,DX,DD,Df,Dh,Di,Dj,Dk,Dl]))
   | some v1 =>
    cases h2:sp.wText z with
    | none =>
     show Aq none _
     exact Ak (.inl (by simp only [(Be h0).1,(Be h0).2,(Dy h1).1,(Dy h1).2,Zm h2,C9,DU,DW,DC,DX,DD,Df,Dh,Di,Dj,Dk,Dl]))
    | some v2 =>
     simp only [Aq,(Be h0).1,(Be h0).2,(Dy h1).1,(Dy h1).2,(Qw h2).1,(Qw h2).2,Option.bind_some]
theorem ABb (a:List (List UInt8×Bool)):Aq (sp.Ai sp.BF a) (opR ((sp.BF,false) :: a,false)):=by
 have e:opR ((sp.BF,false) :: a,false)=({ kind:=8,node:=vN (a,false),name:=vW (sN (a,false)) },(sW (sN (a,false)))):=by
  unfold opR
  rw [show vW ((sp.BF,false) :: a,false)=sp.BF from rfl,if_neg (show ¬sp.BF=sp.BX from by decide),if_neg (show ¬sp.BF=sp.BA from by decide),if_neg (show ¬sp.BF=sp.BB from by decide),if_neg (show ¬sp.BF=sp.BC from by decide),if_neg (show ¬sp.BF=sp.Au from by decide),if_neg (show ¬sp.BF=sp.BZ from by decide),if_neg (show ¬sp.BF=sp.Ba from by decide),if_neg (show ¬sp.BF=sp.BD from by decide),if_neg (show ¬sp.BF=sp.Bc from by decide),if_pos rfl]
  rfl
 unfold sp.Ai
 rw [e,if_neg (show ¬sp.BF=sp.BX from by decide),if_neg (show ¬sp.BF=sp.BA from by decide),if_neg (show ¬sp.BF=sp.BB from by decide),if_neg (show ¬sp.BF=sp.BC from by decide),if_neg (show ¬sp.BF=sp.Au from by decide),if_neg (show ¬sp.BF=sp.BZ from by decide),if_neg (show ¬sp.BF=sp.Ba from by decide),if_neg (show ¬sp.BF=sp.BD from by decide),if_neg (show ¬sp.BF=sp.Bc from by decide),if_pos rfl]
 clear e
 match a with
 | []=>exact Ak (.inl (by simp [sW,sT,sN,sF,sP,sK,sB,AC]))
 | [x]=>exact Ak (.inl (by simp [sW,sT,sN,sF,sP,sK,sB,AC]))
 | x :: y :: y1 :: t=>exact Ak (.inr (by simp [sW,sT,sN,sF,sP,sK,sB,AC]))
 | [x,y] =>
  dsimp only
  cases h0:sp.Bf x with
  | none =>
   show Aq none _
   exact Ak (.inl (by simp only [Ih h0,C9,DU,DW,DC,DX,DD,Df,Dh,Di,Dj,Dk,Dl]))
  | some v0 =>
   cases h1:sp.A7 y with
   | none =>
    show Aq none _
    exact Ak (.inl (by simp only [(Be h0).1,(Be h0).2,Ig h1,C9,DU,DW,DC,DX,DD,Df,Dh,Di,Dj,Dk,Dl]))
   | some v1 =>
    simp only [Aq,(Be h0).1,(Be h0).2,(Dy h1).1,(Dy h1).2,Option.bind_some]
theorem ABc (a:List (List UInt8×Bool)):Aq (sp.Ai sp.kBox a) (opR ((sp.kBox,false) :: a,false)):=by
 have e:opR ((sp.kBox,false) :: a,false)=({ kind:=9,node:=vN (a,false),bt:=(sp.D5 (vW (sN (a,false)))).getD 0,bn:=sp.Fe (vW (sK (sN (a,false)))),bw:=vF (sW (sK (sN (a,false)))),bh:=vF (sF (sW (sK (sN (a,false))))) },(sB (sN (a,false)))):=by
  unfold opR
  rw [show vW ((sp.kBox,false) :: a,false)=sp.kBox from rfl,if_neg (show ¬sp.kBox=sp.BX from by decide),if_neg (show ¬sp.kBox=sp.BA from by decide),if_neg (show ¬sp.kBox=sp.BB from by decide),if_neg (show ¬sp.kBox=sp.BC from by decide),if_neg (show ¬sp.kBox=sp.Au from by decide),if_neg (show ¬sp.kBox=sp.BZ from by decide),if_neg (show ¬sp.kBox=sp.Ba from by decide),if_neg (show ¬sp.kBox=sp.BD from by decide),if_neg (show ¬sp.kBox=sp.Bc from by decide),if_neg (show ¬sp.kBox=sp.BF from by decide),if_pos rfl]
  rfl
 unfold sp.Ai
 rw [e,if_neg (show ¬sp.kBox=sp.BX from by decide),if_neg (show ¬sp.kBox=sp.BA from by decide),if_neg (show ¬sp.kBox=sp.BB from by decide),if_neg (show ¬sp.kBox=sp.BC from by decide),if_neg (show ¬sp.kBox=sp.Au from by decide),if_neg (show ¬sp.kBox=sp.BZ from by decide),if_neg (show ¬sp.kBox=sp.Ba from by decide),if_neg (show ¬sp.kBox=sp.BD from by decide),if_neg (show ¬sp.kBox=sp.Bc from by decide),if_neg (show ¬sp.kBox=sp.BF from by decide),if_pos rfl]
 clear e
 match a with
 | []=>exact Ak (.inl (by simp [sW,sT,sN,sF,sP,sK,sB,AC]))
 | [x]=>exact Ak (.inl (by simp [sW,sT,sN,sF,sP,sK,sB,AC]))
 | [x,y]=>exact Ak (.inl (by simp [sW,sT,sN,sF,sP,sK,sB,AC]))
 | [x,y,z]=>exact Ak (.inl (by simp [sW,sT,sN,sF,sP,sK,sB,AC]))
 | [x,y,z,u]=>exact Ak (.inl (by simp [sW,sT,sN,sF,sP,sK,sB,AC]))
 | x :: y :: z :: u :: v :: y1 :: t=>exact Ak (.inr (by simp [sW,sT,sN,sF,sP,sK,sB,AC]))
 | [x,y,z,u,v] =>
  dsimp only
  unfold sB
  cases h0:sp.Bf x with
  | none =>
   show Aq none _
   exact Ak (.inl (by simp only [Ih h0,C9,DU,DW,DC,DX,DD,Df,Dh,Di,Dj,Dk,Dl]))
  | some v0 =>
   cases h1:sp.A7 y with
   | none =>
    show Aq none _
    exact Ak (.inl (by simp only [(Be h0).1,(Be h0).2,ABQ h1,C9,DU,DW,DC,DX,DD,Df,Dh,Di,Dj,Dk,Dl]))
   | some v1 =>
    have ek:=fun l=>(Zn (l:=l) h1).1
    have ev:=fun l=>(Zn (l:=l) h1).2
    cases g1:sp.D5 v1 with
    | none=>exact ABN (by show (sp.D5 v1).bind _=none;rw [g1];rfl) (.inl (by simp only [(Be h0).1,(Be h0).2,ek,g1,Option.isNone_none,C9,DU,DW,DC,DX,DD,Df,Dh,Di,Dj,Dk,Dl]))
    | some k1 =>
     simp only [Option.bind_some,g1]
     have ek2:∀l,sK (y :: l,false)=(l,false):=fun l=>by rw [ek,g1];rfl
     cases h2:sp.A7 z with
     | none =>
      show Aq none _
      exact Ak (.inl (by simp only [(Be h0).1,(Be h0).2,ek2,ev,g1,Option.getD_some,Ig h2,C9,DU,DW,DC,DX,DD,Df,Dh,Di,Dj,Dk,Dl]))
     | some v2 =>
      cases h3:sp.CW u with
      | none =>
       show Aq none _
       exact Ak (.inl (by simp only [(Be h0).1,(Be h0).2,ek2,ev,g1,Option.getD_some,(Dy h2).1,(Dy h2).2,NQ h3,C9,DU,DW,DC,DX,DD,Df,Dh,Di,Dj,Dk,Dl]))
      | some v3 =>
       cases h4:sp.CW v with
       | none =>
        show Aq none _
        exact Ak (.inl (by simp only [(Be h0).1,(Be h0).2,ek2,ev,g1,Option.getD_some,(Dy h2).1,(Dy h2).2,(Fq h3).1,(Fq h3).2,NQ h4,C9,DU,DW,DC,DX,DD,Df,Dh,Di,Dj,Dk,Dl]))
       | some v4 =>
        simp only [Aq,(Be h0).1,(Be h0).2,ek2,ev,g1,Option.getD_some,(Dy h2).1,(Dy h2).2,(Fq h3).1,(Fq h3).2,(Fq h4).1,(Fq h4).2,g1,Option.bind_some]
theorem ABd (a:List (List UInt8×Bool)):Aq (sp.Ai sp.BG a) (opR ((sp.BG,false) :: a,false)):=by
 have e:opR ((sp.BG,false) :: a,false)=({ kind:=10,node:=vN (a,false),name:=vW (sN (a,false)) },(sW (sN (a,false)))):=by
  unfold opR
  rw [show vW ((sp.BG,false) :: a,false)=sp.BG from rfl,if_neg (show ¬sp.BG=sp.BX from by decide),if_neg (show ¬sp.BG=sp.BA from by decide),if_neg (show ¬sp.BG=sp.BB from by decide),if_neg (show ¬sp.BG=sp.BC from by decide),if_neg (show ¬sp.BG=sp.Au from by decide),if_neg (show ¬sp.BG=sp.BZ from by decide),if_neg (show ¬sp.BG=sp.Ba from by decide),if_neg (show ¬sp.BG=sp.BD from by decide),if_neg (show ¬sp.BG=sp.Bc from by decide),if_neg (show ¬sp.BG=sp.BF from by decide),if_neg (show ¬sp.BG=sp.kBox from by decide),if_pos rfl]
  rfl
 unfold sp.Ai
 rw [e,if_neg (show ¬sp.BG=sp.BX from by decide),if_neg (show ¬sp.BG=sp.BA from by decide),if_neg (show ¬sp.BG=sp.BB from by decide),if_neg (show ¬sp.BG=sp.BC from by decide),if_neg (show ¬sp.BG=sp.Au from by decide),if_neg (show ¬sp.BG=sp.BZ from by decide),if_neg (show ¬sp.BG=sp.Ba from by decide),if_neg (show ¬sp.BG=sp.BD from by decide),if_neg (show ¬sp.BG=sp.Bc from by decide),if_neg (show ¬sp.BG=sp.BF from by decide),if_neg (show ¬sp.BG=sp.kBox from by decide),if_pos rfl]
 clear e
 match a with
 | []=>exact Ak (.inl (by simp [sW,sT,sN,sF,sP,sK,sB,AC]))
 | [x]=>exact Ak (.inl (by simp [sW,sT,sN,sF,sP,sK,sB,AC]))
 | x :: y :: y1 :: t=>exact Ak (.inr (by simp [sW,sT,sN,sF,sP,sK,sB,AC]))
 | [x,y] =>
  dsimp only
  cases h0:sp.Bf x with
  | none =>
   show Aq none _
   exact Ak (.inl (by simp only [Ih h0,C9,DU,DW,DC,DX,DD,Df,Dh,Di,Dj,Dk,Dl]))
  | some v0 =>
   cases h1:sp.A7 y with
   | none =>
    show Aq none _
    exact Ak (.inl (by simp only [(Be h0).1,(Be h0).2,Ig h1,C9,DU,DW,DC,DX,DD,Df,Dh,Di,Dj,Dk,Dl]))
   | some v1 =>
    simp only [Aq,(Be h0).1,(Be h0).2,(Dy h1).1,(Dy h1).2,Option.bind_some]
theorem ABe (a:List (List UInt8×Bool)):Aq (sp.Ai sp.BH a) (opR ((sp.BH,false) :: a,false)):=by
 have e:opR ((sp.BH,false) :: a,false)=({ kind:=11,node:=vN (a,false),name:=vW (sN (a,false)) },(sW (sN (a,false)))):=by
  unfold opR
  rw [show vW ((sp.BH,false) :: a,false)=sp.BH from rfl,if_neg (show ¬sp.BH=sp.BX from by decide),if_neg (show ¬sp.BH=sp.BA from by decide),if_neg (show ¬sp.BH=sp.BB from by decide),if_neg (show ¬sp.BH=sp.BC from by decide),if_neg (show ¬sp.BH=sp.Au from by decide),if_neg (show ¬sp.BH=sp.BZ from by decide),if_neg (show ¬sp.BH=sp.Ba from by decide),if_neg (show ¬sp.BH=sp.BD from by decide),if_neg (show ¬sp.BH=sp.Bc from by decide),if_neg (show ¬sp.BH=sp.BF from by decide),if_neg (show ¬sp.BH=sp.kBox from by decide),if_neg (show ¬sp.BH=sp.BG from by decide),if_pos rfl]
  rfl
 unfold sp.Ai
 rw [e,if_neg (show ¬sp.BH=sp.BX from by decide),if_neg (show ¬sp.BH=sp.BA from by decide),if_neg (show ¬sp.BH=sp.BB from by decide),if_neg (show ¬sp.BH=sp.BC from by decide),if_neg (show ¬sp.BH=sp.Au from by decide),if_neg (show ¬sp.BH=sp.BZ from by decide),if_neg (show ¬sp.BH=sp.Ba from by decide),if_neg (show ¬sp.BH=sp.BD from by decide),if_neg (show ¬sp.BH=sp.Bc from by decide),if_neg (show ¬sp.BH=sp.BF from by decide),if_neg (show ¬sp.BH=sp.kBox from by decide),if_neg (show ¬sp.BH=sp.BG from by decide),if_pos rfl]
 clear e
 match a with
 | []=>exact Ak (.inl (by simp [sW,sT,sN,sF,sP,sK,sB,AC]))
 | [x]=>exact Ak (.inl (by simp [sW,sT,sN,sF,sP,sK,sB,AC]))
 | x :: y :: y1 :: t=>exact Ak (.inr (by simp [sW,sT,sN,sF,sP,sK,sB,AC]))
 | [x,y] =>
  dsimp only
  cases h0:sp.Bf x with
  | none =>
   show Aq none _
   exact Ak (.inl (by simp only [Ih h0,C9,DU,DW,DC,DX,DD,Df,Dh,Di,Dj,Dk,Dl]))
  | some v0 =>
   cases h1:sp.A7 y with
   | none =>
    show Aq none _
    exact Ak (.inl (by simp only [(Be h0).1,(Be h0).2,Ig h1,C9,DU,DW,DC,DX,DD,Df,Dh,Di,Dj,Dk,Dl]))
   | some v1 =>
    simp only [Aq,(Be h0).1,(Be h0).2,(Dy h1).1,(Dy h1).2,Option.bind_some]
theorem ABf (a:List (List UInt8×Bool)):Aq (sp.Ai sp.BI a) (opR ((sp.BI,false) :: a,false)):=by
 have e:opR ((sp.BI,false) :: a,false)=({ kind:=12,node:=vN (a,false) },(sN (a,false))):=by
  unfold opR
  rw [show vW ((sp.BI,false) :: a,false)=sp.BI from rfl,if_neg (show ¬sp.BI=sp.BX from by decide),if_neg (show ¬sp.BI=sp.BA from by decide),if_neg (show ¬sp.BI=sp.BB from by decide),if_neg (show ¬sp.BI=sp.BC from by decide),if_neg (show ¬sp.BI=sp.Au from by decide),if_neg (show ¬sp.BI=sp.BZ from by decide),if_neg (show ¬sp.BI=sp.Ba from by decide),if_neg (show ¬sp.BI=sp.BD from by decide),if_neg (show ¬sp.BI=sp.Bc from by decide),if_neg (show ¬sp.BI=sp.BF from by decide),if_neg (show ¬sp.BI=sp.kBox from by decide),if_neg (show ¬sp.BI=sp.BG from by decide),if_neg (show ¬sp.BI=sp.BH from by decide),if_pos rfl]
  rfl
 unfold sp.Ai
 rw [e,if_neg (show ¬sp.BI=sp.BX from by decide),if_neg (show ¬sp.BI=sp.BA from by decide),if_neg (show ¬sp.BI=sp.BB from by decide),if_neg (show ¬sp.BI=sp.BC from by decide),if_neg (show ¬sp.BI=sp.Au from by decide),if_neg (show ¬sp.BI=sp.BZ from by decide),if_neg (show ¬sp.BI=sp.Ba from by decide),if_neg (show ¬sp.BI=sp.BD from by decide),if_neg (show ¬sp.BI=sp.Bc from by decide),if_neg (show ¬sp.BI=sp.BF from by decide),if_neg (show ¬sp.BI=sp.kBox from by decide),if_neg (show ¬sp.BI=sp.BG from by decide),if_neg (show ¬sp.BI=sp.BH from by decide),if_pos rfl]
 clear e
 match a with
 | []=>exact Ak (.inl (by simp [sW,sT,sN,sF,sP,sK,sB,AC]))
 | x :: y1 :: t=>exact Ak (.inr (by simp [sW,sT,sN,sF,sP,sK,sB,AC]))
 | [x] =>
  dsimp only
  cases h0:sp.Bf x with
  | none =>
   show Aq none _
   exact Ak (.inl (by simp only [Ih h0,C9,DU,DW,DC,DX,DD,Df,Dh,Di,Dj,Dk,Dl]))
  | some v0 =>
   simp only [Aq,(Be h0).1,(Be h0).2,Option.bind_some]
theorem ABg (a:List (List UInt8×Bool)):Aq (sp.Ai sp.BJ a) (opR ((sp.BJ,false) :: a,false)):=by
 have e:opR ((sp.BJ,false) :: a,false)=({ kind:=15 },(a,false)):=by
  unfold opR
  rw [show vW ((sp.BJ,false) :: a,false)=sp.BJ from rfl,if_neg (show ¬sp.BJ=sp.BX from by decide),if_neg (show ¬sp.BJ=sp.BA from by decide),if_neg (show ¬sp.BJ=sp.BB from by decide),if_neg (show ¬sp.BJ=sp.BC from by decide),if_neg (show ¬sp.BJ=sp.Au from by decide),if_neg (show ¬sp.BJ=sp.BZ from by decide),if_neg (show ¬sp.BJ=sp.Ba from by decide),if_neg (show ¬sp.BJ=sp.BD from by decide),if_neg (show ¬sp.BJ=sp.Bc from by decide),if_neg (show ¬sp.BJ=sp.BF from by decide),if_neg (show ¬sp.BJ=sp.kBox from by decide),if_neg (show ¬sp.BJ=sp.BG from by decide),if_neg (show ¬sp.BJ=sp.BH from by decide),if_neg (show ¬sp.BJ=sp.BI from by decide),if_pos rfl]
  rfl
 unfold sp.Ai
 rw [e,if_neg (show ¬sp.BJ=sp.BX from by decide),if_neg (show ¬sp.BJ=sp.BA from by decide),if_neg (show ¬sp.BJ=sp.BB from by decide),if_neg (show ¬sp.BJ=sp.BC from by decide),if_neg (show ¬sp.BJ=sp.Au from by decide),if_neg (show ¬sp.BJ=sp.BZ from by decide),if_neg (show ¬sp.BJ=sp.Ba from by decide),if_neg (show ¬sp.BJ=sp.BD from by decide),if_neg (show ¬sp.BJ=sp.Bc from by decide),if_neg (show ¬sp.BJ=sp.BF from by decide),if_neg (show ¬sp.BJ=sp.kBox from by decide),if_neg (show ¬sp.BJ=sp.BG from by decide),if_neg (show ¬sp.BJ=sp.BH from by decide),if_neg (show ¬sp.BJ=sp.BI from by decide),if_pos rfl]
 clear e
 match a with
 | y1 :: t=>exact Ak (.inr (by simp [sW,sT,sN,sF,sP,sK,sB,AC]))
 | [] =>
  dsimp only
  rfl
end Go.Proofs.YtihlneenajlhoaaGreatDoor
set_option linter.unusedSimpArgs false
set_option linter.unusedVariables false
namespace Go.Proofs.YtihlneenajlhoaaGreatDoor
open Go Go.RowKit
structure CX (w0:World) (m b g n cap:Nat) (s:RSt) (W:World):Prop where
 rd:RdR w0 b g n cap s.1 s.2 W
 res:W.heap[m]?=some (.cells (Ap 0) 28 (0,0))
 n1:m≠b
 n3:m≠g
 lo:w0.heap.size≤m
section
variable {w0 w W W':World} {m b g n cap:Nat} {s s':RSt}
theorem CX.read (h:CX w0 m b g n cap s W) (h2:RdR W b g n cap s'.1 s'.2 W'):CX w0 m b g n cap s' W' :=
 ⟨h.rd.back h2,(h2.fr.block _ (lt_of_block h.res) h.n1 (by simp)).trans h.res,h.n1,h.n3,h.lo⟩
theorem CX.on (h:CX w0 m b g n cap s W) (hb:Below W.heap.size W W'):CX w0 m b g n cap s W' :=
 ⟨h.rd.on hb,(hb.block _ (lt_of_block h.res)).trans h.res,h.n1,h.n3,h.lo⟩
theorem CX.Bi (h:CX w0 m b g n cap s W) (v:Bool):CX w0 m b g n cap (s.1,v) (W.setCell ⟨b,2,none⟩ (.bool v)) :=
 ⟨h.rd.Bi v,(Below.heap_setCell _ _ _ _ (show m≠b from h.n1)).trans h.res,h.n1,h.n3,h.lo⟩
theorem CX.start (h:RdR w0 b g n cap s.1 s.2 w):CX w0 w.heap.size b g n cap s (w.alloc (.cells (Ap 0) 28)):=by
 have hb:=lt_of_block h.blk
 have hg:=h.glt
 exact ⟨h.on (AZ w _),AX _ _,by omega,by omega,h.fr.size⟩
theorem CX.fin (h:CX w0 m b g n cap s W) (xs:Array Value):RdR w0 b g n cap s.1 s.2 (W.setRow m xs)∧(W.setRow m xs).heap[m]?=some (.cells xs 28 (0,0)):=⟨h.rd.row h.n1 h.n3 h.lo _,Ee h.res _⟩
theorem stW (w0 w:World) (b g n cap:Nat) (s:RSt) (h:RdR w0 b g n cap s.1 s.2 w):Calls Tryz.prog 64 #[.pointer (some ⟨b,0,none⟩)] w fun e w'=>e=.returned (.string (AA (vW s)))∧RdR w0 b g n cap (sW s).1 (sW s).2 w':=FH w0 w b g n cap _ _ h
theorem stT (w0 w:World) (b g n cap:Nat) (s:RSt) (h:RdR w0 b g n cap s.1 s.2 w):Calls Tryz.prog 66 #[.pointer (some ⟨b,0,none⟩)] w fun e w'=>e=.returned (.string (AA (vW s)))∧RdR w0 b g n cap (sT s).1 (sT s).2 w':=AA9 w0 w b g n cap _ _ h
theorem stN (w0 w:World) (b g n cap:Nat) (s:RSt) (h:RdR w0 b g n cap s.1 s.2 w):Calls Tryz.prog 65 #[.pointer (some ⟨b,0,none⟩)] w fun e w'=>e=.returned (.int .i64 (vN s))∧RdR w0 b g n cap (sN s).1 (sN s).2 w':=ABA w0 w b g n cap _ _ h
theorem stF (w0 w:World) (b g n cap:Nat) (s:RSt) (h:RdR w0 b g n cap s.1 s.2 w):Calls Tryz.prog 67 #[.pointer (some ⟨b,0,none⟩)] w fun e w'=>e=.returned (.agg #[.int .i64 (vF s).1,.int .i64 (vF s).2])∧RdR w0 b g n cap (sF s).1 (sF s).2 w':=FV w0 w b g n cap _ _ h
end
theorem stB (w0 w:World) (b g n cap:Nat) (s:RSt) (h:RdR w0 b g n cap s.1 s.2 w):Calls Tryz.prog 68 #[.pointer (some ⟨b,0,none⟩)] w fun e w'=>e=.returned (.agg #[.int .i64 ((sp.D5 (vW s)).getD 0),.string (AA (sp.Fe (vW (sK s)))),.int .i64 (vF (sW (sK s))).1,.int .i64 (vF (sW (sK s))).2,.int .i64 (vF (sF (sW (sK s)))).1,.int .i64 (vF (sF (sW (sK s)))).2])∧RdR w0 b g n cap (sB s).1 (sB s).2 w':=by
 have hn:vW (sK s)=(AC s.1.tail).1:=rfl
 have hname:∀t,(t = [45]→sp.Fe t = [])∧(t≠[45]→sp.Fe t=t):=fun t=>⟨fun e=>by unfold sp.Fe;rw [if_pos e],fun e=>by unfold sp.Fe;rw [if_neg e]⟩
 have hB:(sB s).1=s.1.tail.tail.tail.tail:=rfl
 have hB2:∀k,(sp.D5 (AC s.1).1).isNone=k→(sB s).2=((((s.2||s.1.isEmpty||(AC s.1).2)||k)||s.1.tail.isEmpty||(AC s.1.tail).2)||s.1.tail.tail.isEmpty||(AC s.1.tail.tail).2||(sp.Cc (AC s.1.tail.tail).1).isNone||s.1.tail.tail.tail.isEmpty||(AC s.1.tail.tail.tail).2||(sp.Cc (AC s.1.tail.tail.tail).1).isNone):=fun k hk=>by rw [←hk];rfl
 rw [hn,hB]
 by_cases h1:(AC s.1).1=sp.Gv
 ·have hb:sp.D5 (AC s.1).1=some 0:=by unfold sp.D5;rw [if_pos h1]
  rw [hB2 false (by rw [hb];rfl),show vW s=(AC s.1).1 from rfl,hb,Bool.or_false]
  by_cases hd:(AC s.1.tail).1 = [45]
  ·rw [(hname _).1 hd];exact ABD w0 w b g n cap _ _ h h1 hd
  ·rw [(hname _).2 hd];exact ABE w0 w b g n cap _ _ h h1 hd
 by_cases h2:(AC s.1).1=sp.Gw
 ·have hb:sp.D5 (AC s.1).1=some 1:=by unfold sp.D5;rw [if_neg h1,if_pos h2]
  rw [hB2 false (by rw [hb];rfl),show vW s=(AC s.1).1 from rfl,hb,Bool.or_false]
  by_cases hd:(AC s.1.tail).1 = [45]
  ·rw [(hname _).1 hd];exact ABF w0 w b g n cap _ _ h h2 hd
  ·rw [(hname _).2 hd];exact ABG w0 w b g n cap _ _ h h2 hd
 by_cases h3:(AC s.1).1=sp.Gx
 ·have hb:sp.D5 (AC s.1).1=some 2:=by unfold sp.D5;rw [if_neg h1,if_neg h2,if_pos h3]
  rw [hB2 false (by rw [hb];rfl),show vW s=(AC s.1).1 from rfl,hb,Bool.or_false]
  by_cases hd:(AC s.1.tail).1 = [45]
  ·rw [(hname _).1 hd];exact ABH w0 w b g n cap _ _ h h3 hd
  ·rw [(hname _).2 hd];exact ABJ w0 w b g n cap _ _ h h3 hd
 have hb:sp.D5 (AC s.1).1=none:=by unfold sp.D5;rw [if_neg h1,if_neg h2,if_neg h3]
 rw [hB2 true (by rw [hb];rfl),show vW s=(AC s.1).1 from rfl,hb,Bool.or_true]
 by_cases hd:(AC s.1.tail).1 = [45]
 ·rw [(hname _).1 hd];exact ABK w0 w b g n cap _ _ h h1 h2 h3 hd
 ·rw [(hname _).2 hd];exact ABL w0 w b g n cap _ _ h h1 h2 h3 hd
theorem EU {W:World} {g:Nat} {cs:Array Value} {fn:Func} {tmps:Array Value} {R:Ending→World→Prop} (hr:fn.results=#[.cell 2 28]) (hp:tmps.getD 2 undef=.pointer (some ⟨g,0,none⟩)) (hg:W.heap[g]?=some (.cells cs 28 (0,0))) (hc:cs.size=18)
  (h:R (.returned (.agg cs)) W):bodyPost Tryz.prog fn R .ret ⟨tmps,[]⟩ W :=
 bodyPost_ret (results_cell_row hr tmps W g 28 cs (0,0) _ hp hg Tryz.underlying28 rfl (by rw [hc];exact BU)) rfl h
theorem Ue {W:World} {B b n:Nat} {v:Value} {cs:List Value} (h:BK B W v n cs) (hne:∀g,v.ownBlock=some g→g≠b) (xs:Array Value):BK B (W.setRow b xs) v n cs:=by
 obtain ⟨a,cap,h1,h2,h3,h4⟩:=h
 exact ⟨a,cap,h1,h2,h3,h4.imp id fun ⟨x1,g,off,y1,y2,y3⟩=>⟨x1,g,off,y1,y2,fun j u hu=>(Zk (JD xs (Ne.symm (hne g (by rw [h1,y1];rfl)))) _).trans (y3 j u hu)⟩⟩
def D6 (w0:World) (b g n cap:Nat) (o:sp.Op) (s:RSt) (e:Ending) (w':World):Prop :=
 ∃tv,e=.returned (.agg (AQ o tv))∧BK w'.heap.size w' tv o.text.length (Lib.byteCells o.text)∧RdR w0 b g n cap s.1 s.2 w'∧∀x,tv.ownBlock=some x→w0.heap.size≤x
theorem Ew {w0 W:World} {b g n cap:Nat} {o:sp.Op} {s:RSt} (ho:o.text = []) (h:RdR w0 b g n cap s.1 s.2 W):D6 w0 b g n cap o s (.returned (.agg (AQ o (.slice none 0 0)))) W :=
 ⟨_,rfl,by rw [ho];exact Y1 _ _,h,fun x hx=>by cases hx⟩
set_option maxRecDepth 100000 in
set_option maxHeartbeats 4000000 in
theorem ABh (w0 w:World) (b g n cap:Nat) (s:RSt) (h:RdR w0 b g n cap s.1 s.2 w) (hlen:(vW (sN (sW s))).length≤1099511627776) (hk:vW s=sp.BX):Calls Tryz.prog 30 #[.pointer (some ⟨b,0,none⟩)] w fun e w'=>D6 w0 b g n cap { kind:=1,origin:=vN (sW s),text:=vW (sN (sW s)) } (sT (sN (sW s))) e w':=by
 have H0:=Lib.hid (CX.start h)
 have s0:((AA (vW s)).toList==[115,104,101,101,116])=true:=str_eq hk
 have HLEN:=Lib.hid hlen
 clear h hk hlen
 go_enter Tryz.func30,Tryz.ntmps30
 go_wp2_with (first
  | (have hgd:=H0;clear hgd;go_at_call 64;refine (stW _ _ b g n cap s H0.out.rd.base).mono ?_;rintro e w1 ⟨rfl,h1⟩;have H1:=Lib.hid (H0.out.read h1);clear h1 H0)
  | (have hgd:=H1;clear hgd;go_at_call 65;refine (stN _ _ b g n cap (sW s) H1.out.rd.base).mono ?_;rintro e w2 ⟨rfl,h2⟩;have H2:=Lib.hid (H1.out.read h2);clear h2 H1)
  | (have hgd:=H2;clear hgd;go_at_call 66;refine (stT _ _ b g n cap (sN (sW s)) H2.out.rd.base).mono ?_;rintro e w3 ⟨rfl,h3⟩;have H3:=Lib.hid (H2.out.read h3);obtain ⟨wc,cp,hcv,hbc,hsz,hrow,hc1,hc2⟩:=Qc w3 (vW (sN (sW s)));have HCV:=Lib.hid (And.intro hsz (And.intro hrow (And.intro hc1 hc2)));have HZ:=Lib.hid (H3.out.on hbc);have HLT:=Lib.hid (lt_of_block H3.out.res);clear hsz hrow hc1 hc2 hbc;clear h3 H2)
  | (have hgd:=HZ;clear hgd;refine wpList_store_row rfl 28 _ _ rfl w.heap.size #[.int .i64 1,.int .i64 0,.int .i64 0,.int .i64 (vN (sW s)),.string ⟨#[]⟩,.string ⟨#[]⟩,.slice (some ⟨w3.heap.size,0,none⟩) (vW (sN (sW s))).length cp,.int .i64 0,.int .i64 0,.int .i64 0,.int .i64 0,.int .i64 0,.string ⟨#[]⟩,.int .i64 0,.int .i64 0,.int .i64 0,.int .i64 0,.bool false] rfl rfl 28 _ HZ.out.res BU rfl (by simp [Value.oneCell']) ?_))
 obtain ⟨q1,q2⟩:=HZ.out.fin #[.int .i64 1,.int .i64 0,.int .i64 0,.int .i64 (vN (sW s)),.string ⟨#[]⟩,.string ⟨#[]⟩,.slice (some ⟨w3.heap.size,0,none⟩) (vW (sN (sW s))).length cp,.int .i64 0,.int .i64 0,.int .i64 0,.int .i64 0,.int .i64 0,.string ⟨#[]⟩,.int .i64 0,.int .i64 0,.int .i64 0,.int .i64 0,.bool false]
 obtain ⟨k1,k2,k3,k4⟩:=HCV.out
 have hrow:=Ue (Uj k2 rfl k3 (k4 (by unfold maxLen;have:=HLEN.out;omega)) (by omega)) (b:=w.heap.size) (fun g hg=>by have:=HLT.out;cases hg;exact Nat.ne_of_gt this) #[.int .i64 1,.int .i64 0,.int .i64 0,.int .i64 (vN (sW s)),.string ⟨#[]⟩,.string ⟨#[]⟩,.slice (some ⟨w3.heap.size,0,none⟩) (vW (sN (sW s))).length cp,.int .i64 0,.int .i64 0,.int .i64 0,.int .i64 0,.int .i64 0,.string ⟨#[]⟩,.int .i64 0,.int .i64 0,.int .i64 0,.int .i64 0,.bool false]
 exact EU rfl rfl q2 rfl ⟨_,rfl,by simpa [World.setRow] using hrow,q1,fun x hx=>by have h1:=HLT.out;have h2:=HZ.out.lo;cases hx;exact Nat.le_trans h2 (Nat.le_of_lt h1)⟩
set_option maxRecDepth 100000 in
set_option maxHeartbeats 4000000 in
theorem ABi (w0 w:World) (b g n cap:Nat) (s:RSt) (h:RdR w0 b g n cap s.1 s.2 w) (hk:vW s=sp.BA):Calls Tryz.prog 30 #[.pointer (some ⟨b,0,none⟩)] w fun e w'=>D6 w0 b g n cap { kind:=2,w:=vF (sW s),h:=vF (sF (sW s)) } (sF (sF (sW s))) e w':=by
 have H0:=Lib.hid (CX.start h)
 have s0:((AA (vW s)).toList==[115,104,101,101,116])=false:=AL (by rw [hk];decide)
 have s1:((AA (vW s)).toList==[118,105,101,119])=true:=str_eq hk
 clear h hk
 go_enter Tryz.func30,Tryz.ntmps30
 go_wp2_with (first
  | (have hgd:=H0;clear hgd;go_at_call 64;refine (stW _ _ b g n cap s H0.out.rd.base).mono ?_;rintro e w1 ⟨rfl,h1⟩;have H1:=Lib.hid (H0.out.read h1);clear h1 H0)
  | (have hgd:=H1;clear hgd;go_at_call 67;refine (stF _ _ b g n cap (sW s) H1.out.rd.base).mono ?_;rintro e w2 ⟨rfl,h2⟩;have H2:=Lib.hid (H1.out.read h2);clear h2 H1)
  | (have hgd:=H2;clear hgd;go_at_call 67;refine (stF _ _ b g n cap (sF (sW s)) H2.out.rd.base).mono ?_;rintro e w3 ⟨rfl,h3⟩;have H3:=Lib.hid (H2.out.read h3);clear h3 H2)
  | (have hgd:=H3;clear hgd;refine wpList_store_row rfl 28 _ _ rfl w.heap.size #[.int .i64 2,.int .i64 0,.int .i64 0,.int .i64 0,.string ⟨#[]⟩,.string ⟨#[]⟩,.slice none 0 0,.int .i64 (vF (sW s)).1,.int .i64 (vF (sW s)).2,.int .i64 (vF (sF (sW s))).1,.int .i64 (vF (sF (sW s))).2,.int .i64 0,.string ⟨#[]⟩,.int .i64 0,.int .i64 0,.int .i64 0,.int .i64 0,.bool false] rfl rfl 28 _ H3.out.res BU rfl (by simp [Value.oneCell']) ?_))
 exact EU rfl rfl (H3.out.fin _).2 rfl (Ew rfl (H3.out.fin _).1)
set_option maxRecDepth 100000 in
set_option maxHeartbeats 4000000 in
theorem ABj (w0 w:World) (b g n cap:Nat) (s:RSt) (h:RdR w0 b g n cap s.1 s.2 w) (hk:vW s=sp.BB):Calls Tryz.prog 30 #[.pointer (some ⟨b,0,none⟩)] w fun e w'=>D6 w0 b g n cap { kind:=3,w:=vF (sW s) } (sF (sW s)) e w':=by
 have H0:=Lib.hid (CX.start h)
 have s0:((AA (vW s)).toList==[115,104,101,101,116])=false:=AL (by rw [hk];decide)
 have s1:((AA (vW s)).toList==[118,105,101,119])=false:=AL (by rw [hk];decide)
 have s2:((AA (vW s)).toList==[102,111,110,116])=true:=str_eq hk
 clear h hk
 go_enter Tryz.func30,Tryz.ntmps30
 go_wp2_with (first
  | (have hgd:=H0;clear hgd;go_at_call 64;refine (stW _ _ b g n cap s H0.out.rd.base).mono ?_;rintro e w1 ⟨rfl,h1⟩;have H1:=Lib.hid (H0.out.read h1);clear h1 H0)
  | (have hgd:=H1;clear hgd;go_at_call 67;refine (stF _ _ b g n cap (sW s) H1.out.rd.base).mono ?_;rintro e w2 ⟨rfl,h2⟩;have H2:=Lib.hid (H1.out.read h2);clear h2 H1)
  | (have hgd:=H2;clear hgd;refine wpList_store_row rfl 28 _ _ rfl w.heap.size #[.int .i64 3,.int .i64 0,.int .i64 0,.int .i64 0,.string ⟨#[]⟩,.string ⟨#[]⟩,.slice none 0 0,.int .i64 (vF (sW s)).1,.int .i64 (vF (sW s)).2,.int .i64 0,.int .i64 0,.int .i64 0,.string ⟨#[]⟩,.int .i64 0,.int .i64 0,.int .i64 0,.int .i64 0,.bool false] rfl rfl 28 _ H2.out.res BU rfl (by simp [Value.oneCell']) ?_))
 exact EU rfl rfl (H2.out.fin _).2 rfl (Ew rfl (H2.out.fin _).1)
set_option maxRecDepth 100000 in
set_option maxHeartbeats 4000000 in
theorem ABk (w0 w:World) (b g n cap:Nat) (s:RSt) (h:RdR w0 b g n cap s.1 s.2 w) (hk:vW s=sp.BC):Calls Tryz.prog 30 #[.pointer (some ⟨b,0,none⟩)] w fun e w'=>D6 w0 b g n cap { kind:=13,w:=vF (sW s) } (sF (sW s)) e w':=by
 have H0:=Lib.hid (CX.start h)
 have s0:((AA (vW s)).toList==[115,104,101,101,116])=false:=AL (by rw [hk];decide)
 have s1:((AA (vW s)).toList==[118,105,101,119])=false:=AL (by rw [hk];decide)
 have s2:((AA (vW s)).toList==[102,111,110,116])=false:=AL (by rw [hk];decide)
 have s3:((AA (vW s)).toList==[99,111,108,111,114])=true:=str_eq hk
 clear h hk
 go_enter Tryz.func30,Tryz.ntmps30
 go_wp2_with (first
  | (have hgd:=H0;clear hgd;go_at_call 64;refine (stW _ _ b g n cap s H0.out.rd.base).mono ?_;rintro e w1 ⟨rfl,h1⟩;have H1:=Lib.hid (H0.out.read h1);clear h1 H0)
  | (have hgd:=H1;clear hgd;go_at_call 67;refine (stF _ _ b g n cap (sW s) H1.out.rd.base).mono ?_;rintro e w2 ⟨rfl,h2⟩;have H2:=Lib.hid (H1.out.read h2);clear h2 H1)
  | (have hgd:=H2;clear hgd;refine wpList_store_row rfl 28 _ _ rfl w.heap.size #[.int .i64 13,.int .i64 0,.int .i64 0,.int .i64 0,.string ⟨#[]⟩,.string ⟨#[]⟩,.slice none 0 0,.int .i64 (vF (sW s)).1,.int .i64 (vF (sW s)).2,.int .i64 0,.int .i64 0,.int .i64 0,.string ⟨#[]⟩,.int .i64 0,.int .i64 0,.int .i64 0,.int .i64 0,.bool false] rfl rfl 28 _ H2.out.res BU rfl (by simp [Value.oneCell']) ?_))
 exact EU rfl rfl (H2.out.fin _).2 rfl (Ew rfl (H2.out.fin _).1)
set_option maxRecDepth 100000 in
set_option maxHeartbeats 4000000 in
theorem ABl (w0 w:World) (b g n cap:Nat) (s:RSt) (h:RdR w0 b g n cap s.1 s.2 w) (hk:vW s=sp.Au) (hbd:(sW (sW s)).2=false) (hw:vW (sW s)=sp.Ar):Calls Tryz.prog 30 #[.pointer (some ⟨b,0,none⟩)] w fun e w'=>D6 w0 b g n cap { kind:=14,on:=vW (sW s)==sp.Ar } (sP (sW s)) e w':=by
 have H0:=Lib.hid (CX.start h)
 have s0:((AA (vW s)).toList==[115,104,101,101,116])=false:=AL (by rw [hk];decide)
 have s1:((AA (vW s)).toList==[118,105,101,119])=false:=AL (by rw [hk];decide)
 have s2:((AA (vW s)).toList==[102,111,110,116])=false:=AL (by rw [hk];decide)
 have s3:((AA (vW s)).toList==[99,111,108,111,114])=false:=AL (by rw [hk];decide)
 have s4:((AA (vW s)).toList==[112,114,105,110,116])=true:=str_eq hk
 have t0:((AA (vW (sW s))).toList==[111,110])=true:=str_eq hw
 have t1:((AA (vW (sW s))).toList==[111,102,102])=false:=AL (by rw [hw];decide)
 have e1:(vW (sW s)==sp.Ar)=true:=by rw [hw];decide
 have e2:(vW (sW s)==sp.Ar||vW (sW s)==sp.Bl)=true:=by rw [hw];decide
 have HBD:=Lib.hid hbd
 have HEQ:Hid (sP (sW s)=((sW (sW s)).1,false)∧({ kind:=14,on:=vW (sW s)==sp.Ar }:sp.Op)={ kind:=14,on:=true }):=Lib.hid ⟨by unfold sP;rw [hbd,e2];rfl,by rw [e1]⟩
 clear e1 e2 hbd hw
 clear h hk
 go_enter Tryz.func30,Tryz.ntmps30
 go_wp2_with (first
  | (have hgd:=H0;clear hgd;go_at_call 64;refine (stW _ _ b g n cap s H0.out.rd.base).mono ?_;rintro e w1 ⟨rfl,h1⟩;have H1:=Lib.hid (H0.out.read h1);clear h1 H0)
  | (have hgd:=H1;clear hgd;go_at_call 64;refine (stW _ _ b g n cap (sW s) H1.out.rd.base).mono ?_;rintro e w2 ⟨rfl,h2⟩;have H2:=Lib.hid (H1.out.read h2);have c2:=H2.out.rd.c2;rw [HBD.out] at c2;have z2:=H2.out.rd.z 2;clear h2 H1)
  | (have hgd:=H2;clear hgd;refine wpList_store_row rfl 28 _ _ rfl w.heap.size #[.int .i64 14,.int .i64 0,.int .i64 0,.int .i64 0,.string ⟨#[]⟩,.string ⟨#[]⟩,.slice none 0 0,.int .i64 0,.int .i64 0,.int .i64 0,.int .i64 0,.int .i64 0,.string ⟨#[]⟩,.int .i64 0,.int .i64 0,.int .i64 0,.int .i64 0,.bool true] rfl rfl 28 _ (H2.out.Bi false).res BU rfl (by simp [Value.oneCell']) ?_))
 rw [HEQ.out.1,HEQ.out.2]
 exact EU rfl rfl ((H2.out.Bi false).fin _).2 rfl (Ew rfl ((H2.out.Bi false).fin _).1)
set_option maxRecDepth 100000 in
set_option maxHeartbeats 4000000 in
theorem ABm (w0 w:World) (b g n cap:Nat) (s:RSt) (h:RdR w0 b g n cap s.1 s.2 w) (hk:vW s=sp.Au) (hbd:(sW (sW s)).2=false) (hw:vW (sW s)=sp.Bl):Calls Tryz.prog 30 #[.pointer (some ⟨b,0,none⟩)] w fun e w'=>D6 w0 b g n cap { kind:=14,on:=vW (sW s)==sp.Ar } (sP (sW s)) e w':=by
 have H0:=Lib.hid (CX.start h)
 have s0:((AA (vW s)).toList==[115,104,101,101,116])=false:=AL (by rw [hk];decide)
 have s1:((AA (vW s)).toList==[118,105,101,119])=false:=AL (by rw [hk];decide)
 have s2:((AA (vW s)).toList==[102,111,110,116])=false:=AL (by rw [hk];decide)
 have s3:((AA (vW s)).toList==[99,111,108,111,114])=false:=AL (by rw [hk];decide)
 have s4:((AA (vW s)).toList==[112,114,105,110,116])=true:=str_eq hk
 have t0:((AA (vW (sW s))).toList==[111,110])=false:=AL (by rw [hw];decide)
 have t1:((AA (vW (sW s))).toList==[111,102,102])=true:=str_eq hw
 have e1:(vW (sW s)==sp.Ar)=false:=by rw [hw];decide
 have e2:(vW (sW s)==sp.Ar||vW (sW s)==sp.Bl)=true:=by rw [hw];decide
 have HBD:=Lib.hid hbd
 have HEQ:Hid (sP (sW s)=((sW (sW s)).1,false)∧({ kind:=14,on:=vW (sW s)==sp.Ar }:sp.Op)={ kind:=14,on:=false }):=Lib.hid ⟨by unfold sP;rw [hbd,e2];rfl,by rw [e1]⟩
 clear e1 e2 hbd hw
 clear h hk
 go_enter Tryz.func30,Tryz.ntmps30
 go_wp2_with (first
  | (have hgd:=H0;clear hgd;go_at_call 64;refine (stW _ _ b g n cap s H0.out.rd.base).mono ?_;rintro e w1 ⟨rfl,h1⟩;have H1:=Lib.hid (H0.out.read h1);clear h1 H0)
  | (have hgd:=H1;clear hgd;go_at_call 64;refine (stW _ _ b g n cap (sW s) H1.out.rd.base).mono ?_;rintro e w2 ⟨rfl,h2⟩;have H2:=Lib.hid (H1.out.read h2);have c2:=H2.out.rd.c2;rw [HBD.out] at c2;have z2:=H2.out.rd.z 2;clear h2 H1)
  | (have hgd:=H2;clear hgd;refine wpList_store_row rfl 28 _ _ rfl w.heap.size #[.int .i64 14,.int .i64 0,.int .i64 0,.int .i64 0,.string ⟨#[]⟩,.string ⟨#[]⟩,.slice none 0 0,.int .i64 0,.int .i64 0,.int .i64 0,.int .i64 0,.int .i64 0,.string ⟨#[]⟩,.int .i64 0,.int .i64 0,.int .i64 0,.int .i64 0,.bool false] rfl rfl 28 _ (H2.out.Bi false).res BU rfl (by simp [Value.oneCell']) ?_))
 rw [HEQ.out.1,HEQ.out.2]
 exact EU rfl rfl ((H2.out.Bi false).fin _).2 rfl (Ew rfl ((H2.out.Bi false).fin _).1)
set_option maxRecDepth 100000 in
set_option maxHeartbeats 4000000 in
theorem ABn (w0 w:World) (b g n cap:Nat) (s:RSt) (h:RdR w0 b g n cap s.1 s.2 w) (hk:vW s=sp.Au) (hbd:(sW (sW s)).2=false) (hw1:vW (sW s)≠sp.Ar) (hw2:vW (sW s)≠sp.Bl):Calls Tryz.prog 30 #[.pointer (some ⟨b,0,none⟩)] w fun e w'=>D6 w0 b g n cap { kind:=14,on:=vW (sW s)==sp.Ar } (sP (sW s)) e w':=by
 have H0:=Lib.hid (CX.start h)
 have s0:((AA (vW s)).toList==[115,104,101,101,116])=false:=AL (by rw [hk];decide)
 have s1:((AA (vW s)).toList==[118,105,101,119])=false:=AL (by rw [hk];decide)
 have s2:((AA (vW s)).toList==[102,111,110,116])=false:=AL (by rw [hk];decide)
 have s3:((AA (vW s)).toList==[99,111,108,111,114])=false:=AL (by rw [hk];decide)
 have s4:((AA (vW s)).toList==[112,114,105,110,116])=true:=str_eq hk
 have t0:((AA (vW (sW s))).toList==[111,110])=false:=AL hw1
 have t1:((AA (vW (sW s))).toList==[111,102,102])=false:=AL hw2
 have e1:(vW (sW s)==sp.Ar)=false:=by simp [hw1]
 have e2:(vW (sW s)==sp.Ar||vW (sW s)==sp.Bl)=false:=by simp [hw1,hw2]
 have HBD:=Lib.hid hbd
 have HEQ:Hid (sP (sW s)=((sW (sW s)).1,true)∧({ kind:=14,on:=vW (sW s)==sp.Ar }:sp.Op)={ kind:=14,on:=false }):=Lib.hid ⟨by unfold sP;rw [hbd,e2];rfl,by rw [e1]⟩
 clear e1 e2 hbd hw1 hw2
 clear h hk
 go_enter Tryz.func30,Tryz.ntmps30
 go_wp2_with (first
  | (have hgd:=H0;clear hgd;go_at_call 64;refine (stW _ _ b g n cap s H0.out.rd.base).mono ?_;rintro e w1 ⟨rfl,h1⟩;have H1:=Lib.hid (H0.out.read h1);clear h1 H0)
  | (have hgd:=H1;clear hgd;go_at_call 64;refine (stW _ _ b g n cap (sW s) H1.out.rd.base).mono ?_;rintro e w2 ⟨rfl,h2⟩;have H2:=Lib.hid (H1.out.read h2);have c2:=H2.out.rd.c2;rw [HBD.out] at c2;have z2:=H2.out.rd.z 2;clear h2 H1)
  | (have hgd:=H2;clear hgd;refine wpList_store_row rfl 28 _ _ rfl w.heap.size #[.int .i64 14,.int .i64 0,.int .i64 0,.int .i64 0,.string ⟨#[]⟩,.string ⟨#[]⟩,.slice none 0 0,.int .i64 0,.int .i64 0,.int .i64 0,.int .i64 0,.int .i64 0,.string ⟨#[]⟩,.int .i64 0,.int .i64 0,.int .i64 0,.int .i64 0,.bool false] rfl rfl 28 _ (H2.out.Bi true).res BU rfl (by simp [Value.oneCell']) ?_))
 rw [HEQ.out.1,HEQ.out.2]
 exact EU rfl rfl ((H2.out.Bi true).fin _).2 rfl (Ew rfl ((H2.out.Bi true).fin _).1)
set_option maxRecDepth 100000 in
set_option maxHeartbeats 4000000 in
theorem ABo (w0 w:World) (b g n cap:Nat) (s:RSt) (h:RdR w0 b g n cap s.1 s.2 w) (hk:vW s=sp.Au) (hbd:(sW (sW s)).2=true) (hw:vW (sW s)=sp.Ar):Calls Tryz.prog 30 #[.pointer (some ⟨b,0,none⟩)] w fun e w'=>D6 w0 b g n cap { kind:=14,on:=vW (sW s)==sp.Ar } (sP (sW s)) e w':=by
 have H0:=Lib.hid (CX.start h)
 have s0:((AA (vW s)).toList==[115,104,101,101,116])=false:=AL (by rw [hk];decide)
 have s1:((AA (vW s)).toList==[118,105,101,119])=false:=AL (by rw [hk];decide)
 have s2:((AA (vW s)).toList==[102,111,110,116])=false:=AL (by rw [hk];decide)
 have s3:((AA (vW s)).toList==[99,111,108,111,114])=false:=AL (by rw [hk];decide)
 have s4:((AA (vW s)).toList==[112,114,105,110,116])=true:=str_eq hk
 have t0:((AA (vW (sW s))).toList==[111,110])=true:=str_eq hw
 have t1:((AA (vW (sW s))).toList==[111,102,102])=false:=AL (by rw [hw];decide)
 have e1:(vW (sW s)==sp.Ar)=true:=by rw [hw];decide
 have e2:(vW (sW s)==sp.Ar||vW (sW s)==sp.Bl)=true:=by rw [hw];decide
 have HBD:=Lib.hid hbd
 have HEQ:Hid (sP (sW s)=((sW (sW s)).1,true)∧({ kind:=14,on:=vW (sW s)==sp.Ar }:sp.Op)={ kind:=14,on:=true }):=Lib.hid ⟨by unfold sP;rw [hbd,e2];rfl,by rw [e1]⟩
 clear e1 e2 hbd hw
 clear h hk
 go_enter Tryz.func30,Tryz.ntmps30
 go_wp2_with (first
  | (have hgd:=H0;clear hgd;go_at_call 64;refine (stW _ _ b g n cap s H0.out.rd.base).mono ?_;rintro e w1 ⟨rfl,h1⟩;have H1:=Lib.hid (H0.out.read h1);clear h1 H0)
  | (have hgd:=H1;clear hgd;go_at_call 64;refine (stW _ _ b g n cap (sW s) H1.out.rd.base).mono ?_;rintro e w2 ⟨rfl,h2⟩;have H2:=Lib.hid (H1.out.read h2);have c2:=H2.out.rd.c2;rw [HBD.out] at c2;have z2:=H2.out.rd.z 2;clear h2 H1)
  | (have hgd:=H2;clear hgd;refine wpList_store_row rfl 28 _ _ rfl w.heap.size #[.int .i64 14,.int .i64 0,.int .i64 0,.int .i64 0,.string ⟨#[]⟩,.string ⟨#[]⟩,.slice none 0 0,.int .i64 0,.int .i64 0,.int .i64 0,.int .i64 0,.int .i64 0,.string ⟨#[]⟩,.int .i64 0,.int .i64 0,.int .i64 0,.int .i64 0,.bool true] rfl rfl 28 _ (H2.out.Bi true).res BU rfl (by simp [Value.oneCell']) ?_))
 rw [HEQ.out.1,HEQ.out.2]
 exact EU rfl rfl ((H2.out.Bi true).fin _).2 rfl (Ew rfl ((H2.out.Bi true).fin _).1)
set_option maxRecDepth 100000 in
set_option maxHeartbeats 4000000 in
theorem ABp (w0 w:World) (b g n cap:Nat) (s:RSt) (h:RdR w0 b g n cap s.1 s.2 w) (hk:vW s=sp.Au) (hbd:(sW (sW s)).2=true) (hw:vW (sW s)=sp.Bl):Calls Tryz.prog 30 #[.pointer (some ⟨b,0,none⟩)] w fun e w'=>D6 w0 b g n cap { kind:=14,on:=vW (sW s)==sp.Ar } (sP (sW s)) e w':=by
 have H0:=Lib.hid (CX.start h)
 have s0:((AA (vW s)).toList==[115,104,101,101,116])=false:=AL (by rw [hk];decide)
 have s1:((AA (vW s)).toList==[118,105,101,119])=false:=AL (by rw [hk];decide)
 have s2:((AA (vW s)).toList==[102,111,110,116])=false:=AL (by rw [hk];decide)
 have s3:((AA (vW s)).toList==[99,111,108,111,114])=false:=AL (by rw [hk];decide)
 have s4:((AA (vW s)).toList==[112,114,105,110,116])=true:=str_eq hk
 have t0:((AA (vW (sW s))).toList==[111,110])=false:=AL (by rw [hw];decide)
 have t1:((AA (vW (sW s))).toList==[111,102,102])=true:=str_eq hw
 have e1:(vW (sW s)==sp.Ar)=false:=by rw [hw];decide
 have e2:(vW (sW s)==sp.Ar||vW (sW s)==sp.Bl)=true:=by rw [hw];decide
 have HBD:=Lib.hid hbd
 have HEQ:Hid (sP (sW s)=((sW (sW s)).1,true)∧({ kind:=14,on:=vW (sW s)==sp.Ar }:sp.Op)={ kind:=14,on:=false }):=Lib.hid ⟨by unfold sP;rw [hbd,e2];rfl,by rw [e1]⟩
 clear e1 e2 hbd hw
 clear h hk
 go_enter Tryz.func30,Tryz.ntmps30
 go_wp2_with (first
  | (have hgd:=H0;clear hgd;go_at_call 64;refine (stW _ _ b g n cap s H0.out.rd.base).mono ?_;rintro e w1 ⟨rfl,h1⟩;have H1:=Lib.hid (H0.out.read h1);clear h1 H0)
  | (have hgd:=H1;clear hgd;go_at_call 64;refine (stW _ _ b g n cap (sW s) H1.out.rd.base).mono ?_;rintro e w2 ⟨rfl,h2⟩;have H2:=Lib.hid (H1.out.read h2);have c2:=H2.out.rd.c2;rw [HBD.out] at c2;have z2:=H2.out.rd.z 2;clear h2 H1)
  | (have hgd:=H2;clear hgd;refine wpList_store_row rfl 28 _ _ rfl w.heap.size #[.int .i64 14,.int .i64 0,.int .i64 0,.int .i64 0,.string ⟨#[]⟩,.string ⟨#[]⟩,.slice none 0 0,.int .i64 0,.int .i64 0,.int .i64 0,.int .i64 0,.int .i64 0,.string ⟨#[]⟩,.int .i64 0,.int .i64 0,.int .i64 0,.int .i64 0,.bool false] rfl rfl 28 _ (H2.out.Bi true).res BU rfl (by simp [Value.oneCell']) ?_))
 rw [HEQ.out.1,HEQ.out.2]
 exact EU rfl rfl ((H2.out.Bi true).fin _).2 rfl (Ew rfl ((H2.out.Bi true).fin _).1)
set_option maxRecDepth 100000 in
set_option maxHeartbeats 4000000 in
theorem ABq (w0 w:World) (b g n cap:Nat) (s:RSt) (h:RdR w0 b g n cap s.1 s.2 w) (hk:vW s=sp.Au) (hbd:(sW (sW s)).2=true) (hw1:vW (sW s)≠sp.Ar) (hw2:vW (sW s)≠sp.Bl):Calls Tryz.prog 30 #[.pointer (some ⟨b,0,none⟩)] w fun e w'=>D6 w0 b g n cap { kind:=14,on:=vW (sW s)==sp.Ar } (sP (sW s)) e w':=by
 have H0:=Lib.hid (CX.start h)
 have s0:((AA (vW s)).toList==[115,104,101,101,116])=false:=AL (by rw [hk];decide)
 have s1:((AA (vW s)).toList==[118,105,101,119])=false:=AL (by rw [hk];decide)
 have s2:((AA (vW s)).toList==[102,111,110,116])=false:=AL (by rw [hk];decide)
 have s3:((AA (vW s)).toList==[99,111,108,111,114])=false:=AL (by rw [hk];decide)
 have s4:((AA (vW s)).toList==[112,114,105,110,116])=true:=str_eq hk
 have t0:((AA (vW (sW s))).toList==[111,110])=false:=AL hw1
 have t1:((AA (vW (sW s))).toList==[111,102,102])=false:=AL hw2
 have e1:(vW (sW s)==sp.Ar)=false:=by simp [hw1]
 have e2:(vW (sW s)==sp.Ar||vW (sW s)==sp.Bl)=false:=by simp [hw1,hw2]
 have HBD:=Lib.hid hbd
 have HEQ:Hid (sP (sW s)=((sW (sW s)).1,true)∧({ kind:=14,on:=vW (sW s)==sp.Ar }:sp.Op)={ kind:=14,on:=false }):=Lib.hid ⟨by unfold sP;rw [hbd,e2];rfl,by rw [e1]⟩
 clear e1 e2 hbd hw1 hw2
 clear h hk
 go_enter Tryz.func30,Tryz.ntmps30
 go_wp2_with (first
  | (have hgd:=H0;clear hgd;go_at_call 64;refine (stW _ _ b g n cap s H0.out.rd.base).mono ?_;rintro e w1 ⟨rfl,h1⟩;have H1:=Lib.hid (H0.out.read h1);clear h1 H0)
  | (have hgd:=H1;clear hgd;go_at_call 64;refine (stW _ _ b g n cap (sW s) H1.out.rd.base).mono ?_;rintro e w2 ⟨rfl,h2⟩;have H2:=Lib.hid (H1.out.read h2);have c2:=H2.out.rd.c2;rw [HBD.out] at c2;have z2:=H2.out.rd.z 2;clear h2 H1)
  | (have hgd:=H2;clear hgd;refine wpList_store_row rfl 28 _ _ rfl w.heap.size #[.int .i64 14,.int .i64 0,.int .i64 0,.int .i64 0,.string ⟨#[]⟩,.string ⟨#[]⟩,.slice none 0 0,.int .i64 0,.int .i64 0,.int .i64 0,.int .i64 0,.int .i64 0,.string ⟨#[]⟩,.int .i64 0,.int .i64 0,.int .i64 0,.int .i64 0,.bool false] rfl rfl 28 _ (H2.out.Bi true).res BU rfl (by simp [Value.oneCell']) ?_))
 rw [HEQ.out.1,HEQ.out.2]
 exact EU rfl rfl ((H2.out.Bi true).fin _).2 rfl (Ew rfl ((H2.out.Bi true).fin _).1)
set_option maxRecDepth 100000 in
set_option maxHeartbeats 4000000 in
theorem ABr (w0 w:World) (b g n cap:Nat) (s:RSt) (h:RdR w0 b g n cap s.1 s.2 w) (hk:vW s=sp.BZ):Calls Tryz.prog 30 #[.pointer (some ⟨b,0,none⟩)] w fun e w'=>D6 w0 b g n cap { kind:=4,name:=vW (sW s),word:=vW (sW (sW s)) } (sW (sW (sW s))) e w':=by
 have H0:=Lib.hid (CX.start h)
 have s0:((AA (vW s)).toList==[115,104,101,101,116])=false:=AL (by rw [hk];decide)
 have s1:((AA (vW s)).toList==[118,105,101,119])=false:=AL (by rw [hk];decide)
 have s2:((AA (vW s)).toList==[102,111,110,116])=false:=AL (by rw [hk];decide)
 have s3:((AA (vW s)).toList==[99,111,108,111,114])=false:=AL (by rw [hk];decide)
 have s4:((AA (vW s)).toList==[112,114,105,110,116])=false:=AL (by rw [hk];decide)
 have s5:((AA (vW s)).toList==[119,111,114,100])=true:=str_eq hk
 clear h hk
 go_enter Tryz.func30,Tryz.ntmps30
 go_wp2_with (first
  | (have hgd:=H0;clear hgd;go_at_call 64;refine (stW _ _ b g n cap s H0.out.rd.base).mono ?_;rintro e w1 ⟨rfl,h1⟩;have H1:=Lib.hid (H0.out.read h1);clear h1 H0)
  | (have hgd:=H1;clear hgd;go_at_call 64;refine (stW _ _ b g n cap (sW s) H1.out.rd.base).mono ?_;rintro e w2 ⟨rfl,h2⟩;have H2:=Lib.hid (H1.out.read h2);clear h2 H1)
  | (have hgd:=H2;clear hgd;go_at_call 64;refine (stW _ _ b g n cap (sW (sW s)) H2.out.rd.base).mono ?_;rintro e w3 ⟨rfl,h3⟩;have H3:=Lib.hid (H2.out.read h3);clear h3 H2)
  | (have hgd:=H3;clear hgd;refine wpList_store_row rfl 28 _ _ rfl w.heap.size #[.int .i64 4,.int .i64 0,.int .i64 0,.int .i64 0,.string (AA (vW (sW s))),.string (AA (vW (sW (sW s)))),.slice none 0 0,.int .i64 0,.int .i64 0,.int .i64 0,.int .i64 0,.int .i64 0,.string ⟨#[]⟩,.int .i64 0,.int .i64 0,.int .i64 0,.int .i64 0,.bool false] rfl rfl 28 _ H3.out.res BU rfl (by simp [Value.oneCell']) ?_))
 exact EU rfl rfl (H3.out.fin _).2 rfl (Ew rfl (H3.out.fin _).1)
set_option maxRecDepth 100000 in
set_option maxHeartbeats 4000000 in
theorem ABs (w0 w:World) (b g n cap:Nat) (s:RSt) (h:RdR w0 b g n cap s.1 s.2 w) (hk:vW s=sp.Ba):Calls Tryz.prog 30 #[.pointer (some ⟨b,0,none⟩)] w fun e w'=>D6 w0 b g n cap { kind:=5,node:=vN (sW s),at_:=vN (sN (sW s)),name:=vW (sN (sN (sW s))) } (sW (sN (sN (sW s)))) e w':=by
 have H0:=Lib.hid (CX.start h)
 have s0:((AA (vW s)).toList==[115,104,101,101,116])=false:=AL (by rw [hk];decide)
 have s1:((AA (vW s)).toList==[118,105,101,119])=false:=AL (by rw [hk];decide)
 have s2:((AA (vW s)).toList==[102,111,110,116])=false:=AL (by rw [hk];decide)
 have s3:((AA (vW s)).toList==[99,111,108,111,114])=false:=AL (by rw [hk];decide)
 have s4:((AA (vW s)).toList==[112,114,105,110,116])=false:=AL (by rw [hk];decide)
 have s5:((AA (vW s)).toList==[119,111,114,100])=false:=AL (by rw [hk];decide)
 have s6:((AA (vW s)).toList==[105,110,115,101,114,116])=true:=str_eq hk
 clear h hk
 go_enter Tryz.func30,Tryz.ntmps30
 go_wp2_with (first
  | (have hgd:=H0;clear hgd;go_at_call 64;refine (stW _ _ b g n cap s H0.out.rd.base).mono ?_;rintro e w1 ⟨rfl,h1⟩;have H1:=Lib.hid (H0.out.read h1);clear h1 H0)
  | (have hgd:=H1;clear hgd;go_at_call 65;refine (stN _ _ b g n cap (sW s) H1.out.rd.base).mono ?_;rintro e w2 ⟨rfl,h2⟩;have H2:=Lib.hid (H1.out.read h2);clear h2 H1)
  | (have hgd:=H2;clear hgd;go_at_call 65;refine (stN _ _ b g n cap (sN (sW s)) H2.out.rd.base).mono ?_;rintro e w3 ⟨rfl,h3⟩;have H3:=Lib.hid (H2.out.read h3);clear h3 H2)
  | (have hgd:=H3;clear hgd;go_at_call 64;refine (stW _ _ b g n cap (sN (sN (sW s))) H3.out.rd.base).mono ?_;rintro e w4 ⟨rfl,h4⟩;have H4:=Lib.hid (H3.out.read h4);clear h4 H3)
  | (have hgd:=H4;clear hgd;refine wpList_store_row rfl 28 _ _ rfl w.heap.size #[.int .i64 5,.int .i64 (vN (sW s)),.int .i64 (vN (sN (sW s))),.int .i64 0,.string (AA (vW (sN (sN (sW s))))),.string ⟨#[]⟩,.slice none 0 0,.int .i64 0,.int .i64 0,.int .i64 0,.int .i64 0,.int .i64 0,.string ⟨#[]⟩,.int .i64 0,.int .i64 0,.int .i64 0,.int .i64 0,.bool false] rfl rfl 28 _ H4.out.res BU rfl (by simp [Value.oneCell']) ?_))
 exact EU rfl rfl (H4.out.fin _).2 rfl (Ew rfl (H4.out.fin _).1)
set_option maxRecDepth 100000 in
set_option maxHeartbeats 4000000 in
theorem ABt (w0 w:World) (b g n cap:Nat) (s:RSt) (h:RdR w0 b g n cap s.1 s.2 w) (hk:vW s=sp.BD):Calls Tryz.prog 30 #[.pointer (some ⟨b,0,none⟩)] w fun e w'=>D6 w0 b g n cap { kind:=6,node:=vN (sW s) } (sN (sW s)) e w':=by
 have H0:=Lib.hid (CX.start h)
 have s0:((AA (vW s)).toList==[115,104,101,101,116])=false:=AL (by rw [hk];decide)
 have s1:((AA (vW s)).toList==[118,105,101,119])=false:=AL (by rw [hk];decide)
 have s2:((AA (vW s)).toList==[102,111,110,116])=false:=AL (by rw [hk];decide)
 have s3:((AA (vW s)).toList==[99,111,108,111,114])=false:=AL (by rw [hk];decide)
 have s4:((AA (vW s)).toList==[112,114,105,110,116])=false:=AL (by rw [hk];decide)
 have s5:((AA (vW s)).toList==[119,111,114,100])=false:=AL (by rw [hk];decide)
 have s6:((AA (vW s)).toList==[105,110,115,101,114,116])=false:=AL (by rw [hk];decide)
 have s7:((AA (vW s)).toList==[114,101,109,111,118,101])=true:=str_eq hk
 clear h hk
 go_enter Tryz.func30,Tryz.ntmps30
 go_wp2_with (first
  | (have hgd:=H0;clear hgd;go_at_call 64;refine (stW _ _ b g n cap s H0.out.rd.base).mono ?_;rintro e w1 ⟨rfl,h1⟩;have H1:=Lib.hid (H0.out.read h1);clear h1 H0)
  | (have hgd:=H1;clear hgd;go_at_call 65;refine (stN _ _ b g n cap (sW s) H1.out.rd.base).mono ?_;rintro e w2 ⟨rfl,h2⟩;have H2:=Lib.hid (H1.out.read h2);clear h2 H1)
  | (have hgd:=H2;clear hgd;refine wpList_store_row rfl 28 _ _ rfl w.heap.size #[.int .i64 6,.int .i64 (vN (sW s)),.int .i64 0,.int .i64 0,.string ⟨#[]⟩,.string ⟨#[]⟩,.slice none 0 0,.int .i64 0,.int .i64 0,.int .i64 0,.int .i64 0,.int .i64 0,.string ⟨#[]⟩,.int .i64 0,.int .i64 0,.int .i64 0,.int .i64 0,.bool false] rfl rfl 28 _ H2.out.res BU rfl (by simp [Value.oneCell']) ?_))
 exact EU rfl rfl (H2.out.fin _).2 rfl (Ew rfl (H2.out.fin _).1)
set_option maxRecDepth 100000 in
set_option maxHeartbeats 4000000 in
theorem ABu (w0 w:World) (b g n cap:Nat) (s:RSt) (h:RdR w0 b g n cap s.1 s.2 w) (hk:vW s=sp.Bc):Calls Tryz.prog 30 #[.pointer (some ⟨b,0,none⟩)] w fun e w'=>D6 w0 b g n cap { kind:=7,node:=vN (sW s),name:=vW (sN (sW s)),word:=vW (sW (sN (sW s))) } (sT (sW (sN (sW s)))) e w':=by
 have H0:=Lib.hid (CX.start h)
 have s0:((AA (vW s)).toList==[115,104,101,101,116])=false:=AL (by rw [hk];decide)
 have s1:((AA (vW s)).toList==[118,105,101,119])=false:=AL (by rw [hk];decide)
 have s2:((AA (vW s)).toList==[102,111,110,116])=false:=AL (by rw [hk];decide)
 have s3:((AA (vW s)).toList==[99,111,108,111,114])=false:=AL (by rw [hk];decide)
 have s4:((AA (vW s)).toList==[112,114,105,110,116])=false:=AL (by rw [hk];decide)
 have s5:((AA (vW s)).toList==[119,111,114,100])=false:=AL (by rw [hk];decide)
 have s6:((AA (vW s)).toList==[105,110,115,101,114,116])=false:=AL (by rw [hk];decide)
 have s7:((AA (vW s)).toList==[114,101,109,111,118,101])=false:=AL (by rw [hk];decide)
 have s8:((AA (vW s)).toList==[115,101,116])=true:=str_eq hk
 clear h hk
 go_enter Tryz.func30,Tryz.ntmps30
 go_wp2_with (first
  | (have hgd:=H0;clear hgd;go_at_call 64;refine (stW _ _ b g n cap s H0.out.rd.base).mono ?_;rintro e w1 ⟨rfl,h1⟩;have H1:=Lib.hid (H0.out.read h1);clear h1 H0)
  | (have hgd:=H1;clear hgd;go_at_call 65;refine (stN _ _ b g n cap (sW s) H1.out.rd.base).mono ?_;rintro e w2 ⟨rfl,h2⟩;have H2:=Lib.hid (H1.out.read h2);clear h2 H1)
  | (have hgd:=H2;clear hgd;go_at_call 64;refine (stW _ _ b g n cap (sN (sW s)) H2.out.rd.base).mono ?_;rintro e w3 ⟨rfl,h3⟩;have H3:=Lib.hid (H2.out.read h3);clear h3 H2)
  | (have hgd:=H3;clear hgd;go_at_call 66;refine (stT _ _ b g n cap (sW (sN (sW s))) H3.out.rd.base).mono ?_;rintro e w4 ⟨rfl,h4⟩;have H4:=Lib.hid (H3.out.read h4);clear h4 H3)
  | (have hgd:=H4;clear hgd;refine wpList_store_row rfl 28 _ _ rfl w.heap.size #[.int .i64 7,.int .i64 (vN (sW s)),.int .i64 0,.int .i64 0,.string (AA (vW (sN (sW s)))),.string (AA (vW (sW (sN (sW s))))),.slice none 0 0,.int .i64 0,.int .i64 0,.int .i64 0,.int .i64 0,.int .i64 0,.string ⟨#[]⟩,.int .i64 0,.int .i64 0,.int .i64 0,.int .i64 0,.bool false] rfl rfl 28 _ H4.out.res BU rfl (by simp [Value.oneCell']) ?_))
 exact EU rfl rfl (H4.out.fin _).2 rfl (Ew rfl (H4.out.fin _).1)
set_option maxRecDepth 100000 in
set_option maxHeartbeats 4000000 in
theorem ABv (w0 w:World) (b g n cap:Nat) (s:RSt) (h:RdR w0 b g n cap s.1 s.2 w) (hk:vW s=sp.BF):Calls Tryz.prog 30 #[.pointer (some ⟨b,0,none⟩)] w fun e w'=>D6 w0 b g n cap { kind:=8,node:=vN (sW s),name:=vW (sN (sW s)) } (sW (sN (sW s))) e w':=by
 have H0:=Lib.hid (CX.start h)
 have s0:((AA (vW s)).toList==[115,104,101,101,116])=false:=AL (by rw [hk];decide)
 have s1:((AA (vW s)).toList==[118,105,101,119])=false:=AL (by rw [hk];decide)
 have s2:((AA (vW s)).toList==[102,111,110,116])=false:=AL (by rw [hk];decide)
 have s3:((AA (vW s)).toList==[99,111,108,111,114])=false:=AL (by rw [hk];decide)
 have s4:((AA (vW s)).toList==[112,114,105,110,116])=false:=AL (by rw [hk];decide)
 have s5:((AA (vW s)).toList==[119,111,114,100])=false:=AL (by rw [hk];decide)
 have s6:((AA (vW s)).toList==[105,110,115,101,114,116])=false:=AL (by rw [hk];decide)
 have s7:((AA (vW s)).toList==[114,101,109,111,118,101])=false:=AL (by rw [hk];decide)
 have s8:((AA (vW s)).toList==[115,101,116])=false:=AL (by rw [hk];decide)
 have s9:((AA (vW s)).toList==[117,110,115,101,116])=true:=str_eq hk
 clear h hk
 go_enter Tryz.func30,Tryz.ntmps30
 go_wp2_with (first
  | (have hgd:=H0;clear hgd;go_at_call 64;refine (stW _ _ b g n cap s H0.out.rd.base).mono ?_;rintro e w1 ⟨rfl,h1⟩;have H1:=Lib.hid (H0.out.read h1);clear h1 H0)
  | (have hgd:=H1;clear hgd;go_at_call 65;refine (stN _ _ b g n cap (sW s) H1.out.rd.base).mono ?_;rintro e w2 ⟨rfl,h2⟩;have H2:=Lib.hid (H1.out.read h2);clear h2 H1)
  | (have hgd:=H2;clear hgd;go_at_call 64;refine (stW _ _ b g n cap (sN (sW s)) H2.out.rd.base).mono ?_;rintro e w3 ⟨rfl,h3⟩;have H3:=Lib.hid (H2.out.read h3);clear h3 H2)
  | (have hgd:=H3;clear hgd;refine wpList_store_row rfl 28 _ _ rfl w.heap.size #[.int .i64 8,.int .i64 (vN (sW s)),.int .i64 0,.int .i64 0,.string (AA (vW (sN (sW s)))),.string ⟨#[]⟩,.slice none 0 0,.int .i64 0,.int .i64 0,.int .i64 0,.int .i64 0,.int .i64 0,.string ⟨#[]⟩,.int .i64 0,.int .i64 0,.int .i64 0,.int .i64 0,.bool false] rfl rfl 28 _ H3.out.res BU rfl (by simp [Value.oneCell']) ?_))
 exact EU rfl rfl (H3.out.fin _).2 rfl (Ew rfl (H3.out.fin _).1)
set_option maxRecDepth 100000 in
set_option maxHeartbeats 4000000 in
theorem ABw (w0 w:World) (b g n cap:Nat) (s:RSt) (h:RdR w0 b g n cap s.1 s.2 w) (hk:vW s=sp.kBox):Calls Tryz.prog 30 #[.pointer (some ⟨b,0,none⟩)] w fun e w'=>D6 w0 b g n cap { kind:=9,node:=vN (sW s),bt:=(sp.D5 (vW (sN (sW s)))).getD 0,bn:=sp.Fe (vW (sK (sN (sW s)))),bw:=vF (sW (sK (sN (sW s)))),bh:=vF (sF (sW (sK (sN (sW s))))) } (sB (sN (sW s))) e w':=by
 have H0:=Lib.hid (CX.start h)
 have s0:((AA (vW s)).toList==[115,104,101,101,116])=false:=AL (by rw [hk];decide)
 have s1:((AA (vW s)).toList==[118,105,101,119])=false:=AL (by rw [hk];decide)
 have s2:((AA (vW s)).toList==[102,111,110,116])=false:=AL (by rw [hk];decide)
 have s3:((AA (vW s)).toList==[99,111,108,111,114])=false:=AL (by rw [hk];decide)
 have s4:((AA (vW s)).toList==[112,114,105,110,116])=false:=AL (by rw [hk];decide)
 have s5:((AA (vW s)).toList==[119,111,114,100])=false:=AL (by rw [hk];decide)
 have s6:((AA (vW s)).toList==[105,110,115,101,114,116])=false:=AL (by rw [hk];decide)
 have s7:((AA (vW s)).toList==[114,101,109,111,118,101])=false:=AL (by rw [hk];decide)
 have s8:((AA (vW s)).toList==[115,101,116])=false:=AL (by rw [hk];decide)
 have s9:((AA (vW s)).toList==[117,110,115,101,116])=false:=AL (by rw [hk];decide)
 have s10:((AA (vW s)).toList==[98,111,120])=true:=str_eq hk
 clear h hk
 go_enter Tryz.func30,Tryz.ntmps30
 go_wp2_with (first
  | (have hgd:=H0;clear hgd;go_at_call 64;refine (stW _ _ b g n cap s H0.out.rd.base).mono ?_;rintro e w1 ⟨rfl,h1⟩;have H1:=Lib.hid (H0.out.read h1);clear h1 H0)
  | (have hgd:=H1;clear hgd;go_at_call 65;refine (stN _ _ b g n cap (sW s) H1.out.rd.base).mono ?_;rintro e w2 ⟨rfl,h2⟩;have H2:=Lib.hid (H1.out.read h2);clear h2 H1)
  | (have hgd:=H2;clear hgd;go_at_call 68;refine (stB _ _ b g n cap (sN (sW s)) H2.out.rd.base).mono ?_;rintro e w3 ⟨rfl,h3⟩;have H3:=Lib.hid (H2.out.read h3);clear h3 H2)
  | (have hgd:=H3;clear hgd;refine wpList_store_row rfl 28 _ _ rfl w.heap.size #[.int .i64 9,.int .i64 (vN (sW s)),.int .i64 0,.int .i64 0,.string ⟨#[]⟩,.string ⟨#[]⟩,.slice none 0 0,.int .i64 0,.int .i64 0,.int .i64 0,.int .i64 0,.int .i64 ((sp.D5 (vW (sN (sW s)))).getD 0),.string (AA (sp.Fe (vW (sK (sN (sW s)))))),.int .i64 (vF (sW (sK (sN (sW s))))).1,.int .i64 (vF (sW (sK (sN (sW s))))).2,.int .i64 (vF (sF (sW (sK (sN (sW s)))))).1,.int .i64 (vF (sF (sW (sK (sN (sW s)))))).2,.bool false] rfl rfl 28 _ H3.out.res BU rfl (by simp [Value.oneCell']) ?_))
 exact EU rfl rfl (H3.out.fin _).2 rfl (Ew rfl (H3.out.fin _).1)
set_option maxRecDepth 100000 in
set_option maxHeartbeats 4000000 in
theorem ABx (w0 w:World) (b g n cap:Nat) (s:RSt) (h:RdR w0 b g n cap s.1 s.2 w) (hk:vW s=sp.BG):Calls Tryz.prog 30 #[.pointer (some ⟨b,0,none⟩)] w fun e w'=>D6 w0 b g n cap { kind:=10,node:=vN (sW s),name:=vW (sN (sW s)) } (sW (sN (sW s))) e w':=by
 have H0:=Lib.hid (CX.start h)
 have s0:((AA (vW s)).toList==[115,104,101,101,116])=false:=AL (by rw [hk];decide)
 have s1:((AA (vW s)).toList==[118,105,101,119])=false:=AL (by rw [hk];decide)
 have s2:((AA (vW s)).toList==[102,111,110,116])=false:=AL (by rw [hk];decide)
 have s3:((AA (vW s)).toList==[99,111,108,111,114])=false:=AL (by rw [hk];decide)
 have s4:((AA (vW s)).toList==[112,114,105,110,116])=false:=AL (by rw [hk];decide)
 have s5:((AA (vW s)).toList==[119,111,114,100])=false:=AL (by rw [hk];decide)
 have s6:((AA (vW s)).toList==[105,110,115,101,114,116])=false:=AL (by rw [hk];decide)
 have s7:((AA (vW s)).toList==[114,101,109,111,118,101])=false:=AL (by rw [hk];decide)
 have s8:((AA (vW s)).toList==[115,101,116])=false:=AL (by rw [hk];decide)
 have s9:((AA (vW s)).toList==[117,110,115,101,116])=false:=AL (by rw [hk];decide)
 have s10:((AA (vW s)).toList==[98,111,120])=false:=AL (by rw [hk];decide)
 have s11:((AA (vW s)).toList==[97,115,107])=true:=str_eq hk
 clear h hk
 go_enter Tryz.func30,Tryz.ntmps30
 go_wp2_with (first
  | (have hgd:=H0;clear hgd;go_at_call 64;refine (stW _ _ b g n cap s H0.out.rd.base).mono ?_;rintro e w1 ⟨rfl,h1⟩;have H1:=Lib.hid (H0.out.read h1);clear h1 H0)
  | (have hgd:=H1;clear hgd;go_at_call 65;refine (stN _ _ b g n cap (sW s) H1.out.rd.base).mono ?_;rintro e w2 ⟨rfl,h2⟩;have H2:=Lib.hid (H1.out.read h2);clear h2 H1)
  | (have hgd:=H2;clear hgd;go_at_call 64;refine (stW _ _ b g n cap (sN (sW s)) H2.out.rd.base).mono ?_;rintro e w3 ⟨rfl,h3⟩;have H3:=Lib.hid (H2.out.read h3);clear h3 H2)
  | (have hgd:=H3;clear hgd;refine wpList_store_row rfl 28 _ _ rfl w.heap.size #[.int .i64 10,.int .i64 (vN (sW s)),.int .i64 0,.int .i64 0,.string (AA (vW (sN (sW s)))),.string ⟨#[]⟩,.slice none 0 0,.int .i64 0,.int .i64 0,.int .i64 0,.int .i64 0,.int .i64 0,.string ⟨#[]⟩,.int .i64 0,.int .i64 0,.int .i64 0,.int .i64 0,.bool false] rfl rfl 28 _ H3.out.res BU rfl (by simp [Value.oneCell']) ?_))
 exact EU rfl rfl (H3.out.fin _).2 rfl (Ew rfl (H3.out.fin _).1)
set_option maxRecDepth 100000 in
set_option maxHeartbeats 4000000 in
theorem ABy (w0 w:World) (b g n cap:Nat) (s:RSt) (h:RdR w0 b g n cap s.1 s.2 w) (hk:vW s=sp.BH):Calls Tryz.prog 30 #[.pointer (some ⟨b,0,none⟩)] w fun e w'=>D6 w0 b g n cap { kind:=11,node:=vN (sW s),name:=vW (sN (sW s)) } (sW (sN (sW s))) e w':=by
 have H0:=Lib.hid (CX.start h)
 have s0:((AA (vW s)).toList==[115,104,101,101,116])=false:=AL (by rw [hk];decide)
 have s1:((AA (vW s)).toList==[118,105,101,119])=false:=AL (by rw [hk];decide)
 have s2:((AA (vW s)).toList==[102,111,110,116])=false:=AL (by rw [hk];decide)
 have s3:((AA (vW s)).toList==[99,111,108,111,114])=false:=AL (by rw [hk];decide)
 have s4:((AA (vW s)).toList==[112,114,105,110,116])=false:=AL (by rw [hk];decide)
 have s5:((AA (vW s)).toList==[119,111,114,100])=false:=AL (by rw [hk];decide)
 have s6:((AA (vW s)).toList==[105,110,115,101,114,116])=false:=AL (by rw [hk];decide)
 have s7:((AA (vW s)).toList==[114,101,109,111,118,101])=false:=AL (by rw [hk];decide)
 have s8:((AA (vW s)).toList==[115,101,116])=false:=AL (by rw [hk];decide)
 have s9:((AA (vW s)).toList==[117,110,115,101,116])=false:=AL (by rw [hk];decide)
 have s10:((AA (vW s)).toList==[98,111,120])=false:=AL (by rw [hk];decide)
 have s11:((AA (vW s)).toList==[97,115,107])=false:=AL (by rw [hk];decide)
 have s12:((AA (vW s)).toList==[99,117,115,116,111,109])=true:=str_eq hk
 clear h hk
 go_enter Tryz.func30,Tryz.ntmps30
 go_wp2_with (first
  | (have hgd:=H0;clear hgd;go_at_call 64;refine (stW _ _ b g n cap s H0.out.rd.base).mono ?_;rintro e w1 ⟨rfl,h1⟩;have H1:=Lib.hid (H0.out.read h1);clear h1 H0)
  | (have hgd:=H1;clear hgd;go_at_call 65;refine (stN _ _ b g n cap (sW s) H1.out.rd.base).mono ?_;rintro e w2 ⟨rfl,h2⟩;have H2:=Lib.hid (H1.out.read h2);clear h2 H1)
  | (have hgd:=H2;clear hgd;go_at_call 64;refine (stW _ _ b g n cap (sN (sW s)) H2.out.rd.base).mono ?_;rintro e w3 ⟨rfl,h3⟩;have H3:=Lib.hid (H2.out.read h3);clear h3 H2)
  | (have hgd:=H3;clear hgd;refine wpList_store_row rfl 28 _ _ rfl w.heap.size #[.int .i64 11,.int .i64 (vN (sW s)),.int .i64 0,.int .i64 0,.string (AA (vW (sN (sW s)))),.string ⟨#[]⟩,.slice none 0 0,.int .i64 0,.int .i64 0,.int .i64 0,.int .i64 0,.int .i64 0,.string ⟨#[]⟩,.int .i64 0,.int .i64 0,.int .i64 0,.int .i64 0,.bool false] rfl rfl 28 _ H3.out.res BU rfl (by simp [Value.oneCell']) ?_))
 exact EU rfl rfl (H3.out.fin _).2 rfl (Ew rfl (H3.out.fin _).1)
set_option maxRecDepth 100000 in
set_option maxHeartbeats 4000000 in
theorem ABz (w0 w:World) (b g n cap:Nat) (s:RSt) (h:RdR w0 b g n cap s.1 s.2 w) (hk:vW s=sp.BI):Calls Tryz.prog 30 #[.pointer (some ⟨b,0,none⟩)] w fun e w'=>D6 w0 b g n cap { kind:=12,node:=vN (sW s) } (sN (sW s)) e w':=by
 have H0:=Lib.hid (CX.start h)
 have s0:((AA (vW s)).toList==[115,104,101,101,116])=false:=AL (by rw [hk];decide)
 have s1:((AA (vW s)).toList==[118,105,101,119])=false:=AL (by rw [hk];decide)
 have s2:((AA (vW s)).toList==[102,111,110,116])=false:=AL (by rw [hk];decide)
 have s3:((AA (vW s)).toList==[99,111,108,111,114])=false:=AL (by rw [hk];decide)
 have s4:((AA (vW s)).toList==[112,114,105,110,116])=false:=AL (by rw [hk];decide)
 have s5:((AA (vW s)).toList==[119,111,114,100])=false:=AL (by rw [hk];decide)
 have s6:((AA (vW s)).toList==[105,110,115,101,114,116])=false:=AL (by rw [hk];decide)
 have s7:((AA (vW s)).toList==[114,101,109,111,118,101])=false:=AL (by rw [hk];decide)
 have s8:((AA (vW s)).toList==[115,101,116])=false:=AL (by rw [hk];decide)
 have s9:((AA (vW s)).toList==[117,110,115,101,116])=false:=AL (by rw [hk];decide)
 have s10:((AA (vW s)).toList==[98,111,120])=false:=AL (by rw [hk];decide)
 have s11:((AA (vW s)).toList==[97,115,107])=false:=AL (by rw [hk];decide)
 have s12:((AA (vW s)).toList==[99,117,115,116,111,109])=false:=AL (by rw [hk];decide)
 have s13:((AA (vW s)).toList==[114,117,108,101,115])=true:=str_eq hk
 clear h hk
 go_enter Tryz.func30,Tryz.ntmps30
 go_wp2_with (first
  | (have hgd:=H0;clear hgd;go_at_call 64;refine (stW _ _ b g n cap s H0.out.rd.base).mono ?_;rintro e w1 ⟨rfl,h1⟩;have H1:=Lib.hid (H0.out.read h1);clear h1 H0)
  | (have hgd:=H1;clear hgd;go_at_call 65;refine (stN _ _ b g n cap (sW s) H1.out.rd.base).mono ?_;rintro e w2 ⟨rfl,h2⟩;have H2:=Lib.hid (H1.out.read h2);clear h2 H1)
  | (have hgd:=H2;clear hgd;refine wpList_store_row rfl 28 _ _ rfl w.heap.size #[.int .i64 12,.int .i64 (vN (sW s)),.int .i64 0,.int .i64 0,.string ⟨#[]⟩,.string ⟨#[]⟩,.slice none 0 0,.int .i64 0,.int .i64 0,.int .i64 0,.int .i64 0,.int .i64 0,.string ⟨#[]⟩,.int .i64 0,.int .i64 0,.int .i64 0,.int .i64 0,.bool false] rfl rfl 28 _ H2.out.res BU rfl (by simp [Value.oneCell']) ?_))
 exact EU rfl rfl (H2.out.fin _).2 rfl (Ew rfl (H2.out.fin _).1)
set_option maxRecDepth 100000 in
set_option maxHeartbeats 4000000 in
theorem AB0 (w0 w:World) (b g n cap:Nat) (s:RSt) (h:RdR w0 b g n cap s.1 s.2 w) (hk:vW s=sp.BJ):Calls Tryz.prog 30 #[.pointer (some ⟨b,0,none⟩)] w fun e w'=>D6 w0 b g n cap { kind:=15 } (sW s) e w':=by
 have H0:=Lib.hid (CX.start h)
 have s0:((AA (vW s)).toList==[115,104,101,101,116])=false:=AL (by rw [hk];decide)
 have s1:((AA (vW s)).toList==[118,105,101,119])=false:=AL (by rw [hk];decide)
 have s2:((AA (vW s)).toList==[102,111,110,116])=false:=AL (by rw [hk];decide)
 have s3:((AA (vW s)).toList==[99,111,108,111,114])=false:=AL (by rw [hk];decide)
 have s4:((AA (vW s)).toList==[112,114,105,110,116])=false:=AL (by rw [hk];decide)
 have s5:((AA (vW s)).toList==[119,111,114,100])=false:=AL (by rw [hk];decide)
 have s6:((AA (vW s)).toList==[105,110,115,101,114,116])=false:=AL (by rw [hk];decide)
 have s7:((AA (vW s)).toList==[114,101,109,111,118,101])=false:=AL (by rw [hk];decide)
 have s8:((AA (vW s)).toList==[115,101,116])=false:=AL (by rw [hk];decide)
 have s9:((AA (vW s)).toList==[117,110,115,101,116])=false:=AL (by rw [hk];decide)
 have s10:((AA (vW s)).toList==[98,111,120])=false:=AL (by rw [hk];decide)
 have s11:((AA (vW s)).toList==[97,115,107])=false:=AL (by rw [hk];decide)
 have s12:((AA (vW s)).toList==[99,117,115,116,111,109])=false:=AL (by rw [hk];decide)
 have s13:((AA (vW s)).toList==[114,117,108,101,115])=false:=AL (by rw [hk];decide)
 have s14:((AA (vW s)).toList==[99,111,117,110,116])=true:=str_eq hk
 clear h hk
 go_enter Tryz.func30,Tryz.ntmps30
 go_wp2_with (first
  | (have hgd:=H0;clear hgd;go_at_call 64;refine (stW _ _ b g n cap s H0.out.rd.base).mono ?_;rintro e w1 ⟨rfl,h1⟩;have H1:=Lib.hid (H0.out.read h1);clear h1 H0)
  | (have hgd:=H1;clear hgd;refine wpList_store_row rfl 28 _ _ rfl w.heap.size #[.int .i64 15,.int .i64 0,.int .i64 0,.int .i64 0,.string ⟨#[]⟩,.string ⟨#[]⟩,.slice none 0 0,.int .i64 0,.int .i64 0,.int .i64 0,.int .i64 0,.int .i64 0,.string ⟨#[]⟩,.int .i64 0,.int .i64 0,.int .i64 0,.int .i64 0,.bool false] rfl rfl 28 _ H1.out.res BU rfl (by simp [Value.oneCell']) ?_))
 exact EU rfl rfl (H1.out.fin _).2 rfl (Ew rfl (H1.out.fin _).1)
set_option maxRecDepth 100000 in
set_option maxHeartbeats 4000000 in
theorem AB1 (w0 w:World) (b g n cap:Nat) (s:RSt) (h:RdR w0 b g n cap s.1 s.2 w) (h0:vW s≠sp.BX) (h1:vW s≠sp.BA) (h2:vW s≠sp.BB) (h3:vW s≠sp.BC) (h4:vW s≠sp.Au) (h5:vW s≠sp.BZ) (h6:vW s≠sp.Ba) (h7:vW s≠sp.BD) (h8:vW s≠sp.Bc) (h9:vW s≠sp.BF) (h10:vW s≠sp.kBox) (h11:vW s≠sp.BG) (h12:vW s≠sp.BH) (h13:vW s≠sp.BI) (h14:vW s≠sp.BJ):Calls Tryz.prog 30 #[.pointer (some ⟨b,0,none⟩)] w fun e w'=>D6 w0 b g n cap { } ((sW s).1,true) e w':=by
 have H0:=Lib.hid (CX.start h)
 have s0:((AA (vW s)).toList==[115,104,101,101,116])=false:=AL h0
 have s1:((AA (vW s)).toList==[118,105,101,119])=false:=AL h1
 have s2:((AA (vW s)).toList==[102,111,110,116])=false:=AL h2
 have s3:((AA (vW s)).toList==[99,111,108,111,114])=false:=AL h3
 have s4:((AA (vW s)).toList==[112,114,105,110,116])=false:=AL h4
 have s5:((AA (vW s)).toList==[119,111,114,100])=false:=AL h5
 have s6:((AA (vW s)).toList==[105,110,115,101,114,116])=false:=AL h6
 have s7:((AA (vW s)).toList==[114,101,109,111,118,101])=false:=AL h7
 have s8:((AA (vW s)).toList==[115,101,116])=false:=AL h8
 have s9:((AA (vW s)).toList==[117,110,115,101,116])=false:=AL h9
 have s10:((AA (vW s)).toList==[98,111,120])=false:=AL h10
 have s11:((AA (vW s)).toList==[97,115,107])=false:=AL h11
 have s12:((AA (vW s)).toList==[99,117,115,116,111,109])=false:=AL h12
 have s13:((AA (vW s)).toList==[114,117,108,101,115])=false:=AL h13
 have s14:((AA (vW s)).toList==[99,111,117,110,116])=false:=AL h14
 clear h h0 h1 h2 h3 h4 h5 h6 h7 h8 h9 h10 h11 h12 h13 h14
 go_enter Tryz.func30,Tryz.ntmps30
 go_wp2_with (first
  | (have hgd:=H0;clear hgd;go_at_call 64;refine (stW _ _ b g n cap s H0.out.rd.base).mono ?_;rintro e w1 ⟨rfl,h1⟩;have H1:=Lib.hid (H0.out.read h1);have c2:=H1.out.rd.c2;have z2:=H1.out.rd.z 2;have H2:=Lib.hid (H1.out.Bi true);clear h1 H0)
  | (have hgd:=H2;clear hgd;refine wpList_store_row rfl 28 _ _ rfl w.heap.size #[.int .i64 0,.int .i64 0,.int .i64 0,.int .i64 0,.string ⟨#[]⟩,.string ⟨#[]⟩,.slice none 0 0,.int .i64 0,.int .i64 0,.int .i64 0,.int .i64 0,.int .i64 0,.string ⟨#[]⟩,.int .i64 0,.int .i64 0,.int .i64 0,.int .i64 0,.bool false] rfl rfl 28 _ H2.out.res BU rfl (by simp [Value.oneCell']) ?_))
 exact EU rfl rfl (H2.out.fin _).2 rfl (Ew rfl (H2.out.fin _).1)
theorem AB2 {w W:World} {b g n cap:Nat} {r:List (List UInt8×Bool)} {bad:Bool} (h:RdR w b g n cap r bad W):(AC r.tail.tail).1.length≤1099511627776:=by
 match r,h with
 | [],_=>simp [AC]
 | [_],_=>simp [AC]
 | [_,_],_=>simp [AC]
 | _ :: _ :: x :: _,h=>exact h.short x (by simp)
theorem AB3 (w0 w:World) (b g n cap:Nat) (s:RSt) (h:RdR w0 b g n cap s.1 s.2 w) (hk:vW s=sp.Au):Calls Tryz.prog 30 #[.pointer (some ⟨b,0,none⟩)] w fun e w'=>D6 w0 b g n cap { kind:=14,on:=vW (sW s)==sp.Ar } (sP (sW s)) e w':=by
 by_cases h1:vW (sW s)=sp.Ar
 ·cases hb:(sW (sW s)).2 with
  | false=>exact ABl w0 w b g n cap s h hk hb h1
  | true=>exact ABo w0 w b g n cap s h hk hb h1
 by_cases h2:vW (sW s)=sp.Bl
 ·cases hb:(sW (sW s)).2 with
  | false=>exact ABm w0 w b g n cap s h hk hb h2
  | true=>exact ABp w0 w b g n cap s h hk hb h2
 cases hb:(sW (sW s)).2 with
 | false=>exact ABn w0 w b g n cap s h hk hb h1 h2
 | true=>exact ABq w0 w b g n cap s h hk hb h1 h2
theorem sO (w0 w:World) (b g n cap:Nat) (s:RSt) (h:RdR w0 b g n cap s.1 s.2 w):Calls Tryz.prog 30 #[.pointer (some ⟨b,0,none⟩)] w fun e w'=>D6 w0 b g n cap (opR s).1 (opR s).2 e w':=by
 by_cases h0:vW s=sp.BX
 ·rw [show opR s=({ kind:=1,origin:=vN (sW s),text:=vW (sN (sW s)) },(sT (sN (sW s)))) from by unfold opR;rw [if_pos h0]]
  exact ABh w0 w b g n cap s h (AB2 h) h0
 by_cases h1:vW s=sp.BA
 ·rw [show opR s=({ kind:=2,w:=vF (sW s),h:=vF (sF (sW s)) },(sF (sF (sW s)))) from by unfold opR;rw [if_neg h0,if_pos h1]]
  exact ABi w0 w b g n cap s h h1
 by_cases h2:vW s=sp.BB
 ·rw [show opR s=({ kind:=3,w:=vF (sW s) },(sF (sW s))) from by unfold opR;rw [if_neg h0,if_neg h1,if_pos h2]]
  exact ABj w0 w b g n cap s h h2
 by_cases h3:vW s=sp.BC
 ·rw [show opR s=({ kind:=13,w:=vF (sW s) },(sF (sW s))) from by unfold opR;rw [if_neg h0,if_neg h1,if_neg h2,if_pos h3]]
  exact ABk w0 w b g n cap s h h3
 by_cases h4:vW s=sp.Au
 ·rw [show opR s=({ kind:=14,on:=vW (sW s)==sp.Ar },(sP (sW s))) from by unfold opR;rw [if_neg h0,if_neg h1,if_neg h2,if_neg h3,if_pos h4]]
  exact AB3 w0 w b g n cap s h h4
 by_cases h5:vW s=sp.BZ
 ·rw [show opR s=({ kind:=4,name:=vW (sW s),word:=vW (sW (sW s)) },(sW (sW (sW s)))) from by unfold opR;rw [if_neg h0,if_neg h1,if_neg h2,if_neg h3,if_neg h4,if_pos h5]]
  exact ABr w0 w b g n cap s h h5
 by_cases h6:vW s=sp.Ba
 ·rw [show opR s=({ kind:=5,node:=vN (sW s),at_:=vN (sN (sW s)),name:=vW (sN (sN (sW s))) },(sW (sN (sN (sW s))))) from by unfold opR;rw [if_neg h0,if_neg h1,if_neg h2,if_neg h3,if_neg h4,if_neg h5,if_pos h6]]
  exact ABs w0 w b g n cap s h h6
 by_cases h7:vW s=sp.BD
 ·rw [show opR s=({ kind:=6,node:=vN (sW s) },(sN (sW s))) from by unfold opR;rw [if_neg h0,if_neg h1,if_neg h2,if_neg h3,if_neg h4,if_neg h5,if_neg h6,if_pos h7]]
  exact ABt w0 w b g n cap s h h7
 by_cases h8:vW s=sp.Bc
 ·rw [show opR s=({ kind:=7,node:=vN (sW s),name:=vW (sN (sW s)),word:=vW (sW (sN (sW s))) },(sT (sW (sN (sW s))))) from by unfold opR;rw [if_neg h0,if_neg h1,if_neg h2,if_neg h3,if_neg h4,if_neg h5,if_neg h6,if_neg h7,if_pos h8]]
  exact ABu w0 w b g n cap s h h8
 by_cases h9:vW s=sp.BF
 ·rw [show opR s=({ kind:=8,node:=vN (sW s),name:=vW (sN (sW s)) },(sW (sN (sW s)))) from by unfold opR;rw [if_neg h0,if_neg h1,if_neg h2,if_neg h3,if_neg h4,if_neg h5,if_neg h6,if_neg h7,if_neg h8,if_pos h9]]
  exact ABv w0 w b g n cap s h h9
 by_cases h10:vW s=sp.kBox
 ·rw [show opR s=({ kind:=9,node:=vN (sW s),bt:=(sp.D5 (vW (sN (sW s)))).getD 0,bn:=sp.Fe (vW (sK (sN (sW s)))),bw:=vF (sW (sK (sN (sW s)))),bh:=vF (sF (sW (sK (sN (sW s))))) },(sB (sN (sW s)))) from by unfold opR;rw [if_neg h0,if_neg h1,if_neg h2,if_neg h3,if_neg h4,if_neg h5,if_neg h6,if_neg h7,if_neg h8,if_neg h9,if_pos h10]]
  exact ABw w0 w b g n cap s h h10
 by_cases h11:vW s=sp.BG
 ·rw [show opR s=({ kind:=10,node:=vN (sW s),name:=vW (sN (sW s)) },(sW (sN (sW s)))) from by unfold opR;rw [if_neg h0,if_neg h1,if_neg h2,if_neg h3,if_neg h4,if_neg h5,if_neg h6,if_neg h7,if_neg h8,if_neg h9,if_neg h10,if_pos h11]]
  exact ABx w0 w b g n cap s h h11
 by_cases h12:vW s=sp.BH
 ·rw [show opR s=({ kind:=11,node:=vN (sW s),name:=vW (sN (sW s)) },(sW (sN (sW s)))) from by unfold opR;rw [if_neg h0,if_neg h1,if_neg h2,if_neg h3,if_neg h4,if_neg h5,if_neg h6,if_neg h7,if_neg h8,if_neg h9,if_neg h10,if_neg h11,if_pos h12]]
  exact ABy w0 w b g n cap s h h12
 by_cases h13:vW s=sp.BI
 ·rw [show opR s=({ kind:=12,node:=vN (sW s) },(sN (sW s))) from by unfold opR;rw [if_neg h0,if_neg h1,if_neg h2,if_neg h3,if_neg h4,if_neg h5,if_neg h6,if_neg h7,if_neg h8,if_neg h9,if_neg h10,if_neg h11,if_neg h12,if_pos h13]]
  exact ABz w0 w b g n cap s h h13
 by_cases h14:vW s=sp.BJ
 ·rw [show opR s=({ kind:=15 },(sW s)) from by unfold opR;rw [if_neg h0,if_neg h1,if_neg h2,if_neg h3,if_neg h4,if_neg h5,if_neg h6,if_neg h7,if_neg h8,if_neg h9,if_neg h10,if_neg h11,if_neg h12,if_neg h13,if_pos h14]]
  exact AB0 w0 w b g n cap s h h14
 rw [show opR s=({ },((sW s).1,true)) from by unfold opR;rw [if_neg h0,if_neg h1,if_neg h2,if_neg h3,if_neg h4,if_neg h5,if_neg h6,if_neg h7,if_neg h8,if_neg h9,if_neg h10,if_neg h11,if_neg h12,if_neg h13,if_neg h14]]
 exact AB1 w0 w b g n cap s h h0 h1 h2 h3 h4 h5 h6 h7 h8 h9 h10 h11 h12 h13 h14
theorem AB4 (w:List UInt8) (a:List (List UInt8×Bool)):Aq (sp.Ai w a) (opR ((w,false) :: a,false)):=by
 by_cases h0:w=sp.BX
 ·subst h0;exact ABR a
 by_cases h1:w=sp.BA
 ·subst h1;exact ABS a
 by_cases h2:w=sp.BB
 ·subst h2;exact ABT a
 by_cases h3:w=sp.BC
 ·subst h3;exact ABU a
 by_cases h4:w=sp.Au
 ·subst h4;exact ABV a
 by_cases h5:w=sp.BZ
 ·subst h5;exact ABX a
 by_cases h6:w=sp.Ba
 ·subst h6;exact ABY a
 by_cases h7:w=sp.BD
 ·subst h7;exact ABZ a
 by_cases h8:w=sp.Bc
 ·subst h8;exact ABa a
 by_cases h9:w=sp.BF
 ·subst h9;exact ABb a
 by_cases h10:w=sp.kBox
 ·subst h10;exact ABc a
 by_cases h11:w=sp.BG
 ·subst h11;exact ABd a
 by_cases h12:w=sp.BH
 ·subst h12;exact ABe a
 by_cases h13:w=sp.BI
 ·subst h13;exact ABf a
 by_cases h14:w=sp.BJ
 ·subst h14;exact ABg a
 unfold sp.Ai opR
 rw [show vW ((w,false) :: a,false)=w from rfl]
 rw [if_neg h0,if_neg h1,if_neg h2,if_neg h3,if_neg h4,if_neg h5,if_neg h6,if_neg h7,if_neg h8,if_neg h9,if_neg h10,if_neg h11,if_neg h12,if_neg h13,if_neg h14]
 rw [if_neg h0,if_neg h1,if_neg h2,if_neg h3,if_neg h4,if_neg h5,if_neg h6,if_neg h7,if_neg h8,if_neg h9,if_neg h10,if_neg h11,if_neg h12,if_neg h13,if_neg h14]
 exact Ak (.inl rfl)
theorem AB5 (w:List UInt8) (a:List (List UInt8×Bool)):(opR ((w,true) :: a,false)).2.2=true:=by
 have e:sW ((w,true) :: a,false)=(a,true):=by simp [sW,AC]
 unfold opR
 rw [e]
 have key:∀(c:Prop) [Decidable c] (p q:sp.Op×RSt),p.2.2=true→q.2.2=true→(if c then p else q).2.2=true:=fun c _ p q hp hq=>by split<;>assumption
 repeat' apply key
 all_goals simp only [C9,DU,DW,DC,DX,DD,ABM]
noncomputable def YM (l:List (List UInt8×Bool)):Option sp.Op:=match l with
 | (w,false) :: a=>sp.Ai w a
 | _=>none
theorem sJ (l:List (List UInt8×Bool)) (h0:l≠[]):Aq (YM l) (opR (l,false)):=by
 match l with
 | []=>exact absurd rfl h0
 | (w,false) :: a=>exact AB4 w a
 | (w,true) :: a=>exact Ak (.inl (AB5 w a))
theorem rZ {p:List UInt8} (h:∀x∈p,x=32) (r:List UInt8):sp.words (p++r)=sp.words r:=by
 induction p with
 | nil=>rfl
 | cons x p ih =>
  rw [h x List.mem_cons_self,List.cons_append,sp.OW]
  exact ih fun y hy=>h y (List.mem_cons_of_mem _ hy)
theorem VO {p:List UInt8} (h:∀x∈p,x=32) (r:List UInt8):(p++r).dropWhile (· == 32)=r.dropWhile (· == 32):=by
 rw [List.dropWhile_append_of_pos fun x hx=>by simp [h x hx]]
theorem sG {p:List UInt8} (h:∀x∈p,x=32) (r:List UInt8):sp.Dx (p++35 :: r)=true:=by
 unfold sp.Dx
 rw [VO h]
 simp
theorem sD {p:List UInt8} (h:∀x∈p,x=32):sp.Dx p=true:=by
 have:=VO h []
 rw [List.append_nil] at this
 unfold sp.Dx
 rw [this]
 rfl
theorem sH {p:List UInt8} (h:∀x∈p,x=32) {c:UInt8} (h1:c≠32) (h2:c≠35) (r:List UInt8):sp.Dx (p++c :: r)=false:=by
 unfold sp.Dx
 rw [VO h]
 simp [h1,h2]
theorem AB6 {n:Nat} {fn:Func} {tmps:Array Value} {W:World} {cs:Array Value} {y e:Value} (hr:fn.results=#[.cell 2 28,.tmp 3,.tmp 4]) (h2:tmps.getD 2 undef=.pointer (some ⟨n,0,none⟩)) (h3:tmps.getD 3 undef=y) (h4:tmps.getD 4 undef=e) (hg:W.heap[n]?=some (.cells cs 28 (0,0))) (hc:cs.size=18) :
  (results fn tmps).run Tryz.prog W=.ok (.tuple #[.agg cs,y,e]) W:=by
 have hl:=run_loadVar_row (P:=Tryz.prog) W n 28 28 cs (0,0) _ hg Tryz.underlying28 rfl (by rw [hc];exact BU)
 have h2':tmps[2]?.getD undef=.pointer (some ⟨n,0,none⟩):=by simpa using h2
 have h3':tmps[3]?.getD undef=y:=by simpa using h3
 have h4':tmps[4]?.getD undef=e:=by simpa using h4
 simp only [results,hr]
 simp [Sem.run_bind,Result.andThen,h2',h3',h4',asAddr,hl]
theorem KR {n:Nat} {fn:Func} {tmps:Array Value} {W:World} {cs:Array Value} {y e:Value} {R:Ending→World→Prop} (hr:fn.results=#[.cell 2 28,.tmp 3,.tmp 4]) (h2:tmps.getD 2 undef=.pointer (some ⟨n,0,none⟩)) (h3:tmps.getD 3 undef=y) (h4:tmps.getD 4 undef=e) (hg:W.heap[n]?=some (.cells cs 28 (0,0))) (hc:cs.size=18)
  (h:R (.returned (.tuple #[.agg cs,y,e])) W):bodyPost Tryz.prog fn R .ret ⟨tmps,[]⟩ W :=
 bodyPost_ret (AB6 hr h2 h3 h4 hg hc) rfl h
theorem Ud {W:World} {l:List (List UInt8×Bool)} {g cap:Nat} {cur:Array Value} (hg:W.heap[g]?=some (.cells cur 110 (0,0))) (ht:cur.toList.take (l.length*2)=Dc l) (hn:l.length≤1099511627776) (hs:∀p∈l,p.1.length≤1099511627776) :
  RdR (W.alloc (.cells #[.slice (some ⟨g,0,none⟩) l.length cap,.int .i64 0,.bool false] 78)) W.heap.size g l.length cap l false (W.alloc (.cells #[.slice (some ⟨g,0,none⟩) l.length cap,.int .i64 0,.bool false] 78)) :=
 ⟨by rw [Nat.sub_self];exact AX _ _,Nat.le_refl _,fun j u hu=>by
   rw [Nat.sub_self,Nat.mul_zero,Nat.zero_add]
   have h2:=Dt W (.cells #[.slice (some ⟨g,0,none⟩) l.length cap,.int .i64 0,.bool false] 78) _ hg
   refine Am h2 j u ?_
   rw [←ht] at hu
   have hj:j<l.length*2:=by
    have:=(List.getElem?_eq_some_iff.1 hu).1
    rw [List.length_take] at this
    omega
   rw [List.getElem?_take_of_lt hj] at hu
   simpa using hu,by have:=lt_of_block hg;simp;omega,Nat.ne_of_lt (lt_of_block hg),by simp,Fr.refl _ _ _,hn,hs⟩
end Go.Proofs.YtihlneenajlhoaaGreatDoor
