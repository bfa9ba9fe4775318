/-
 Contracts, for a run of one goroutine, of what looks at a fraction: rat.gcd, rat.size, rat.sure, rat.May; jalousieref1.small, mag, May, Is. Condition: the numbers are of their kinds.
-/
import Derived.Test.YtihlneenajlhoaaGreatDoorProg
import Derived.WalkKit
import Derived.WalkSpells
import Derived.Below
import Derived.OneCell
import Derived.LoopTactic
import Derived.Lib.Hide
import Derived.Lib.ConvBytes
import Derived.BigQuiet
import Derived.BigGuardPart
import Derived.Deep.QuietTactic
import Derived.Outline
import Derived.StillTailTactics
import Derived.WalkLawsBesides
import Derived.ChangeKeysEq
import Derived.Deep.RegionHeld3
import Derived.BigRegion
import Derived.Lib.AppendStr
import Derived.Lib.UnsafeStr
import Derived.Lib.Builder
import Derived.Maps.AppendAt
import Derived.Deep.Quiet
import Derived.RegionTactic
import Derived.ChangeAlike
import Derived.Shelf.Lay
import Derived.Shelf.LaysM
import Derived.Shelf.Strconv.Itoa3
import Derived.Shelf.Strconv.Itoa4
import Derived.Ground.NamesProg
import Derived.Lib.ItoaLen
import Derived.Laws.IdiomStrings
import Derived.Lib.AppendIntMem
set_option linter.unusedSimpArgs false
set_option linter.unusedVariables false
namespace Go.Proofs.YtihlneenajlhoaaGreatDoor
open Go Go.RowKit
theorem KE {B:Nat} {W w1:World} (hb:Below B W w1):(∀b o,b<B→w1.cell? ⟨b,o,none⟩=W.cell? ⟨b,o,none⟩)∧(∀b o,b<B→w1.frozen? ⟨b,o,none⟩=W.frozen? ⟨b,o,none⟩) :=
 ⟨fun b o h=>hb.cell (p:=⟨b,o,none⟩) h,fun b o h=>hb.frozen (p:=⟨b,o,none⟩) h⟩
theorem F5 {a b:Bool} (h:a=b):Ending.returned (.bool a)=.returned (.bool b):=by rw [h]
theorem Lt (w:World) (s:ByteArray):Below w.heap.size w (Lib.bytesWorld w 5 s) :=
 ⟨rfl,rfl,rfl,by rw [Lib.bytesWorld_size];omega,fun k hk=>Lib.bytesWorld_at_old w 5 s k hk⟩
theorem Lu {a b:Int} (h:a=b):Ending.returned (.int .u64 a)=.returned (.int .u64 b):=by rw [h]
set_option maxRecDepth 100000 in
theorem mO (x y:Nat) (w:World) (hx:x≤18446744073709551615) (hy:y≤18446744073709551615):Calls Tryz.prog 147 #[.int .u64 x,.int .u64 y] w fun e w'=>e=.returned (.int .u64 (Nat.gcd x y))∧w=w':=by
 have HX:=Lib.hid hx;have HY:=Lib.hid hy;clear hx hy
 go_enter Tryz.func147,Tryz.ntmps147
 go_wp2
 go_loop [0,1] (fun a b=>∃p q:Nat,p≤18446744073709551615∧q≤18446744073709551615∧a=.int .u64 p∧b=.int .u64 q∧Nat.gcd p q=Nat.gcd x y) (fun a _=>(intOf a).toNat)
 case atStart=>exact ⟨x,y,HX.out,HY.out,rfl,rfl,rfl⟩
 case round =>
  obtain ⟨p,q,hp,hq,rfl,rfl,hg⟩:=hrel
  have HG:=Lib.hid hg;have HP:=Lib.hid hp;have HQ:=Lib.hid hq;clear hg hp hq
  by_cases h0:p=0
  ·subst h0
   go_wp2
   go_ret
   exact ⟨Lu (by rw [←HG.out,Nat.gcd_zero_left]),rfl⟩
  ·have hp1:(1:Int)≤p:=by omega
   have hne:((p:Int) != 0)=true:=by simp;omega
   have hlt:q%p<p:=Nat.mod_lt _ (by omega)
   have HE:Hid (Nat.gcd (q%p) p=Nat.gcd x y):=Lib.hid (by rw [←Nat.gcd_rec];exact HG.out)
   clear h0
   go_wp2
   exact ⟨⟨q%p,p,by have:=HP.out;omega,HP.out,by simp,rfl,HE.out⟩,by simp [intOf];omega⟩
def I64 (n:Int):Prop := -9223372036854775808≤n∧n≤9223372036854775807
theorem L6 {n:Int} (h0:0≤n) (h:I64 n):IntKind.u64.wrap n=n:=by unfold I64 at h;simp [IntKind.wrap,IntKind.bits,IntKind.signed];omega
theorem size_pos (n:Int) (w:World) (hn:I64 n) (h0:0≤n):Calls Tryz.prog 108 #[.int .i64 n] w fun e w'=>e=.returned (.int .u64 (n.natAbs:Nat))∧w=w':=by
 have HN:=Lib.hid (show IntKind.u64.wrap n=(n.natAbs:Nat) by rw [L6 h0 hn];omega)
 clear hn
 go_enter Tryz.func108,Tryz.ntmps108
 go_wp2
 go_ret
 exact ⟨Lu (by first | exact HN.out | omega),rfl⟩
theorem mP {n:Int} (h0:n<0) (h:I64 n):IntKind.u64.wrap (-(IntKind.u64.wrap n)) = -n:=by unfold I64 at h;simp [IntKind.wrap,IntKind.bits,IntKind.signed];omega
theorem mQ (n:Int) (w:World) (hn:I64 n) (h0:n<0):Calls Tryz.prog 108 #[.int .i64 n] w fun e w'=>e=.returned (.int .u64 (n.natAbs:Nat))∧w=w':=by
 have HN:=Lib.hid (show IntKind.u64.wrap (-(IntKind.u64.wrap n))=(n.natAbs:Nat) by rw [mP h0 hn];omega)
 clear hn
 go_enter Tryz.func108,Tryz.ntmps108
 go_wp2
 go_ret
 exact ⟨Lu (by first | exact HN.out | (simpa using HN.out) | omega),rfl⟩
theorem size_any (n:Int) (w:World) (hn:I64 n):Calls Tryz.prog 108 #[.int .i64 n] w fun e w'=>e=.returned (.int .u64 (n.natAbs:Nat))∧w=w':=by
 by_cases h0:0≤n
 ·exact size_pos n w hn h0
 ·exact mQ n w hn (by omega)
def CJ (n d:Int):Prop:=1≤d∧n ≠ -9223372036854775808∧Nat.gcd n.natAbs d.toNat=1
noncomputable def Gu (n d:Int):Bool:=@decide (CJ n d) (Classical.propDecidable _)
theorem KG {n d:Int} (h:CJ n d):Gu n d=true:=by unfold Gu;exact @decide_eq_true _ (Classical.propDecidable _) h
theorem GY {n d:Int} (h:¬CJ n d):Gu n d=false:=by unfold Gu;exact @decide_eq_false _ (Classical.propDecidable _) h
theorem flip {P:Program} {f:FuncId} {args:Array Value} {w:World} {v:Ending} (h:Calls P f args w fun e w'=>e=v∧w=w'):Calls P f args w fun e w'=>e=v∧w'=w:=h.mono fun _ _ ⟨a,b⟩=>⟨a,b.symm⟩
theorem below_drewN {B:Nat} {a w:World} (h:Below B a w) (n:Nat):Below B a (w.drewN n):=⟨h.os,h.tape,h.output,h.size,h.block⟩
theorem UA {n:Int} {D:Nat} (h1:1≤(D:Int)) (h2:n ≠ -9223372036854775808):(((Nat.gcd n.natAbs D:Nat):Int)==1)=Gu n D:=by
 by_cases h:Nat.gcd n.natAbs D=1
 ·rw [KG ⟨h1,h2,by simpa using h⟩,h];rfl
 ·rw [GY fun k=>h (by simpa using k.2.2)]
  simp;omega
theorem QF {n:Int} (h:I64 n):n.natAbs≤18446744073709551615:=by unfold I64 at h;omega
set_option maxRecDepth 100000 in
set_option maxHeartbeats 2000000 in
theorem F6 (n d:Int) (w:World) (hn:I64 n) (hd:I64 d):Calls Tryz.prog 106 #[.agg #[.int .i64 n,.int .i64 d]] w fun e w'=>e=.returned (.bool (Gu n d))∧Below w.heap.size w w':=by
 by_cases h1:d<1
 ·have HS:=Lib.hid (GY (n:=n) (d:=d) fun h=>by have:=h.1;omega)
  have q1:decide (1≤d)=false:=by simp;omega
  clear hn hd
  go_enter Tryz.func106,Tryz.ntmps106
  go_wp2
  go_quiet (fail)
  go_wp2
  go_ret
  exact ⟨F5 HS.out.symm,below_drewN ((Below.refl _ _).alloc (Nat.le_refl _) _) _⟩
 obtain ⟨D,rfl⟩:=Int.eq_ofNat_of_zero_le (show 0≤d by omega)
 have q1:decide (1≤(D:Int))=true:=by simp;omega
 by_cases h2:n = -9223372036854775808
 ·have HS:=Lib.hid (GY (n:=n) (d:=D) fun h=>h.2.1 h2)
  have q2:(n != -9223372036854775808)=false:=by simpa using h2
  clear hn hd h2 h1
  go_enter Tryz.func106,Tryz.ntmps106
  go_wp2
  go_quiet (fail)
  go_wp2
  go_ret
  exact ⟨F5 HS.out.symm,below_drewN ((Below.refl _ _).alloc (Nat.le_refl _) _) _⟩
 have HS:=Lib.hid (UA (n:=n) (D:=D) (by omega) h2)
 have q2:(n != -9223372036854775808)=true:=by simpa using h2
 have HA:=Lib.hid (QF hn)
 have HN:=Lib.hid hn
 have HD:=Lib.hid (show D≤18446744073709551615 by unfold I64 at hd;omega)
 have hw:IntKind.u64.wrap (D:Int)=D:=L6 (by omega) hd
 clear hn hd h2 h1
 go_enter Tryz.func106,Tryz.ntmps106
 go_wp2
 go_quiet ((first | (go_at_call 108;exact Calls.quiet_of_same (flip (size_any _ _ HN.out))) | (go_at_call 147;exact Calls.quiet_of_same (flip (mO _ _ _ HA.out HD.out)))))
 go_wp2
 go_ret
 exact ⟨F5 HS.out,below_drewN ((Below.refl _ _).alloc (Nat.le_refl _) _) _⟩
def G9 (n d:Int):Bool:=(n==0)&&(d==0)
noncomputable def Cj (n d:Int):Bool:=G9 n d||Gu n d
theorem mV:(Tryz.prog.fieldsOf 24).toList.map (fun f=>(f.name == "_",f.type,f.offset)) = [(false,2,0),(false,2,1)]:=by kernel_rfl
theorem mW {A:Type} {B:Type} {f:A→B} {a b:B}:∀ {L:List A},L.map f = [a,b]→∃x y,L = [x,y]∧f x=a∧f y=b
 | [x,y],h=>⟨x,y,rfl,by simpa using h⟩
 | [],h=>by simp at h
 | [_],h=>by simp at h
 | _ :: _ :: _ :: _,h=>by simp at h
theorem L8:Tryz.prog.plainKey 2=true:=by kernel_rfl
theorem mX:Tryz.prog.underlying 24=some (.struct (Tryz.prog.fieldsOf 24)):=by kernel_rfl
theorem mY:Tryz.prog.stoodInHeld 24=false:=by kernel_rfl
theorem mZ (n d:Int) (w:World):(binOp .eql 24 (.agg #[.int .i64 n,.int .i64 d]) (.agg #[.int .i64 0,.int .i64 0])).run Tryz.prog w=.ok (.bool (G9 n d)) w:=by
 rw [run_eql_struct,run_equalIn_agg w 9999 24 _ _ mX mY]
 obtain ⟨f,g,hL,hf,hg⟩:=mW mV
 rw [hL]
 ·simp only [Prod.mk.injEq,beq_eq_false_iff_ne] at hf hg
  obtain ⟨h1,h2,h3⟩:=hf
  obtain ⟨h4,h5,h6⟩:=hg
  simp only [Op.eqFields,h1,h4,h2,h3,h5,h6,ne_eq,not_false_eq_true,if_true,Sem.run_bind]
  rw [run_part_plain w L8 (v:=.int .i64 n) rfl]
  simp only [Result.andThen_ok]
  rw [run_part_plain w L8 (v:=.int .i64 0) rfl]
  simp only [Result.andThen_ok]
  rw [run_equalIn_int w 9998 2 .i64 .i64 n 0 Tryz.underlying2]
  simp only [Result.andThen_ok]
  cases hn:(n==0) with
  | false=>simp [G9,hn,Result.andThen]
  | true =>
   simp only [Bool.not_true,Bool.false_eq_true,if_false,Sem.run_bind]
   rw [run_part_plain w L8 (v:=.int .i64 d) rfl]
   simp only [Result.andThen_ok]
   rw [run_part_plain w L8 (v:=.int .i64 0) rfl]
   simp only [Result.andThen_ok]
   rw [run_equalIn_int w 9998 2 .i64 .i64 d 0 Tryz.underlying2]
   cases hd:(d==0)<;>simp [G9,hn,hd,Result.andThen]
set_option maxRecDepth 100000 in
theorem nC (n d:Int) (w:World) (hn:I64 n) (hd:I64 d):Calls Tryz.prog 111 #[.agg #[.int .i64 n,.int .i64 d]] w fun e w'=>e=.returned (.bool (Cj n d))∧Below w.heap.size w w':=by
 have HN:=Lib.hid hn;have HD:=Lib.hid hd
 have he:=mZ n d
 cases hz:G9 n d with
 | true =>
  have HM:=Lib.hid (show Cj n d=true by unfold Cj;rw [hz];rfl)
  rw [hz] at he
  clear hz hn hd
  go_enter Tryz.func111,Tryz.ntmps111
  go_wp2_with fail
  go_ret
  exact ⟨F5 HM.out.symm,(Below.refl _ _).alloc (Nat.le_refl _) _⟩
 | false =>
  have HM:=Lib.hid (show Cj n d=Gu n d by unfold Cj;rw [hz];rfl)
  rw [hz] at he
  clear hz hn hd
  go_enter Tryz.func111,Tryz.ntmps111
  go_wp2_with (go_at_call 106;refine (F6 n d _ HN.out HD.out).mono ?_;rintro e w1 ⟨rfl,hb⟩;have HB:=Lib.hid hb;clear hb)
  go_ret
  exact ⟨F5 HM.out.symm,((Below.refl _ _).alloc (Nat.le_refl _) _).trans (HB.out.mono (by simp))⟩
set_option maxRecDepth 100000 in
theorem XV (x y:Nat) (w:World) (hx:x≤18446744073709551615) (hy:y≤18446744073709551615):Calls Tryz.prog 149 #[.int .u64 x,.int .u64 y] w fun e w'=>e=.returned (.int .u64 (Nat.gcd x y))∧∃m,w'=w.drewN m:=by
 have HX:=Lib.hid hx;have HY:=Lib.hid hy;clear hx hy
 go_enter Tryz.func149,Tryz.ntmps149
 go_wp2
 go_loopw [0,1] (fun a b wr=>∃p q:Nat,p≤18446744073709551615∧q≤18446744073709551615∧a=.int .u64 p∧b=.int .u64 q∧Nat.gcd p q=Nat.gcd x y∧∃m,wr=w.drewN m) (fun _ b _=>(intOf b).toNat)
 case atStart=>exact ⟨x,y,HX.out,HY.out,rfl,rfl,rfl,0,rfl⟩
 case round =>
  obtain ⟨p,q,hp,hq,rfl,rfl,hg,m,rfl⟩:=hrel
  have HG:=Lib.hid hg;have HP:=Lib.hid hp;have HQ:=Lib.hid hq;clear hg hp hq
  by_cases h0:q=0
  ·subst h0
   go_wp2
   go_ret
   exact ⟨Lu (by rw [←HG.out,Nat.gcd_zero_right]),m,rfl⟩
  ·have hp1:(1:Int)≤q:=by omega
   have hne:decide ((0:Int)<q)=true:=by simp;omega
   have hlt:p%q<q:=Nat.mod_lt _ (by omega)
   have HE:Hid (Nat.gcd q (p%q)=Nat.gcd x y):=Lib.hid (by rw [Nat.gcd_comm,←Nat.gcd_rec,Nat.gcd_comm];exact HG.out)
   clear h0
   go_wp2
   go_region
   go_wp2
   go_roundw
   case rel=>exact ⟨q,p%q,HQ.out,by have:=HQ.out;omega,rfl,by simp,HE.out,m+1,rfl⟩
   case measure=>simp [intOf];omega
theorem nD (n:Int) (w:World) (hn:I64 n) (h0:0≤n):Calls Tryz.prog 150 #[.int .i64 n] w fun e w'=>e=.returned (.int .u64 (n.natAbs:Nat))∧w'=w:=by
 have HN:=Lib.hid (show IntKind.u64.wrap n=(n.natAbs:Nat) by rw [L6 h0 hn];omega)
 clear hn
 go_enter Tryz.func150,Tryz.ntmps150
 go_wp2
 go_ret
 exact ⟨Lu (by first | exact HN.out | omega),rfl⟩
theorem QG {n:Int} (h:I64 n):IntKind.i64.wrap n=n:=by unfold I64 at h;simp [IntKind.wrap,IntKind.bits,IntKind.signed];omega
theorem XW {n:Int} (h0:0≤n) (h:n≤18446744073709551615):IntKind.u64.wrap n=n:=by simp [IntKind.wrap,IntKind.bits,IntKind.signed];omega
theorem nG (n:Int) (w:World) (hn:I64 n) (h0:n<0):Calls Tryz.prog 150 #[.int .i64 n] w fun e w'=>e=.returned (.int .u64 (n.natAbs:Nat))∧w'=w:=by
 have h1:IntKind.i64.wrap (n+1)=n+1:=QG (by unfold I64 at hn ⊢; omega)
 have h2:IntKind.i64.wrap (-(n+1)) = -(n+1):=QG (by unfold I64 at hn ⊢; omega)
 have h3:IntKind.u64.wrap (-(n+1)) = -(n+1):=XW (by omega) (by unfold I64 at hn;omega)
 have h4:IntKind.u64.wrap (-(n+1)+1) = -(n+1)+1:=XW (by omega) (by unfold I64 at hn;omega)
 have HN:Hid (-(n+1)+1=(n.natAbs:Nat)):=Lib.hid (by omega)
 clear hn
 go_enter Tryz.func150,Tryz.ntmps150
 go_wp2
 go_ret
 exact ⟨Lu (by first | exact HN.out | (simpa using HN.out) | omega),rfl⟩
theorem XX (n:Int) (w:World) (hn:I64 n):Calls Tryz.prog 150 #[.int .i64 n] w fun e w'=>e=.returned (.int .u64 (n.natAbs:Nat))∧w'=w:=by
 by_cases h0:0≤n
 ·exact nD n w hn h0
 ·exact nG n w hn (by omega)
set_option maxRecDepth 100000 in
theorem nH (n d:Int) (w:World) (z1:(n==0)=true) (z2:(d==0)=true):Calls Tryz.prog 114 #[.agg #[.int .i64 n,.int .i64 d]] w fun e w'=>e=.returned (.bool (Cj n d))∧Below w.heap.size w w':=by
 have HM:=Lib.hid (show Cj n d=true by unfold Cj G9;rw [z1,z2];rfl)
 go_enter Tryz.func114,Tryz.ntmps114
 go_wp2
 go_ret
 exact ⟨F5 HM.out.symm,(Below.refl _ _).alloc (Nat.le_refl _) _⟩
set_option maxRecDepth 100000 in
set_option maxHeartbeats 2000000 in
theorem nI (n d:Int) (w:World) (hn:I64 n) (hd:I64 d) (z1:(n==0)=false):Calls Tryz.prog 114 #[.agg #[.int .i64 n,.int .i64 d]] w fun e w'=>e=.returned (.bool (Cj n d))∧Below w.heap.size w w':=by
 have HM:=Lib.hid (show Cj n d=Gu n d by unfold Cj G9;rw [z1];simp)
 by_cases h1:d<1
 ·have HS:=Lib.hid (HM.out.trans (GY (n:=n) (d:=d) fun h=>by have:=h.1;omega))
  have q1:decide (1≤d)=false:=by simp;omega
  clear hn hd HM
  go_enter Tryz.func114,Tryz.ntmps114
  go_wp2
  go_quiet (fail)
  go_wp2
  go_ret
  exact ⟨F5 HS.out.symm,below_drewN ((Below.refl _ _).alloc (Nat.le_refl _) _) _⟩
 obtain ⟨D,rfl⟩:=Int.eq_ofNat_of_zero_le (show 0≤d by omega)
 have q1:decide (1≤(D:Int))=true:=by simp;omega
 by_cases h2:n = -9223372036854775808
 ·have HS:=Lib.hid (HM.out.trans (GY (n:=n) (d:=D) fun h=>h.2.1 h2))
  have q2:(n != -9223372036854775808)=false:=by simpa using h2
  clear hn hd h2 h1 HM
  go_enter Tryz.func114,Tryz.ntmps114
  go_wp2
  go_quiet (fail)
  go_wp2
  go_ret
  exact ⟨F5 HS.out.symm,below_drewN ((Below.refl _ _).alloc (Nat.le_refl _) _) _⟩
 have HS:=Lib.hid ((UA (n:=n) (D:=D) (by omega) h2).trans HM.out.symm)
 have q2:(n != -9223372036854775808)=true:=by simpa using h2
 have HA:=Lib.hid (QF hn)
 have HN:=Lib.hid hn
 have HD:=Lib.hid (show D≤18446744073709551615 by unfold I64 at hd;omega)
 have hw:IntKind.u64.wrap (D:Int)=D:=L6 (by omega) hd
 clear hn hd h2 h1 HM
 go_enter Tryz.func114,Tryz.ntmps114
 go_wp2
 go_quiet ((first | (go_at_call 150;exact Calls.quiet_of_same (XX _ _ HN.out)) | (go_at_call 149;exact Calls.quiet_of (XV _ _ _ HA.out HD.out))))
 go_wp2
 go_ret
 exact ⟨F5 HS.out,below_drewN ((Below.refl _ _).alloc (Nat.le_refl _) _) _⟩
set_option maxRecDepth 100000 in
set_option maxHeartbeats 2000000 in
theorem nJ (n d:Int) (w:World) (hn:I64 n) (hd:I64 d) (z1:(n==0)=true) (z2:(d==0)=false):Calls Tryz.prog 114 #[.agg #[.int .i64 n,.int .i64 d]] w fun e w'=>e=.returned (.bool (Cj n d))∧Below w.heap.size w w':=by
 have HM:=Lib.hid (show Cj n d=Gu n d by unfold Cj G9;rw [z1,z2];simp)
 by_cases h1:d<1
 ·have HS:=Lib.hid (HM.out.trans (GY (n:=n) (d:=d) fun h=>by have:=h.1;omega))
  have q1:decide (1≤d)=false:=by simp;omega
  clear hn hd HM
  go_enter Tryz.func114,Tryz.ntmps114
  go_wp2
  go_quiet (fail)
  go_wp2
  go_ret
  exact ⟨F5 HS.out.symm,below_drewN ((Below.refl _ _).alloc (Nat.le_refl _) _) _⟩
 obtain ⟨D,rfl⟩:=Int.eq_ofNat_of_zero_le (show 0≤d by omega)
 have q1:decide (1≤(D:Int))=true:=by simp;omega
 by_cases h2:n = -9223372036854775808
 ·have HS:=Lib.hid (HM.out.trans (GY (n:=n) (d:=D) fun h=>h.2.1 h2))
  have q2:(n != -9223372036854775808)=false:=by simpa using h2
  clear hn hd h2 h1 HM
  go_enter Tryz.func114,Tryz.ntmps114
  go_wp2
  go_quiet (fail)
  go_wp2
  go_ret
  exact ⟨F5 HS.out.symm,below_drewN ((Below.refl _ _).alloc (Nat.le_refl _) _) _⟩
 have HS:=Lib.hid ((UA (n:=n) (D:=D) (by omega) h2).trans HM.out.symm)
 have q2:(n != -9223372036854775808)=true:=by simpa using h2
 have HA:=Lib.hid (QF hn)
 have HN:=Lib.hid hn
 have HD:=Lib.hid (show D≤18446744073709551615 by unfold I64 at hd;omega)
 have hw:IntKind.u64.wrap (D:Int)=D:=L6 (by omega) hd
 clear hn hd h2 h1 HM
 go_enter Tryz.func114,Tryz.ntmps114
 go_wp2
 go_quiet ((first | (go_at_call 150;exact Calls.quiet_of_same (XX _ _ HN.out)) | (go_at_call 149;exact Calls.quiet_of (XV _ _ _ HA.out HD.out))))
 go_wp2
 go_ret
 exact ⟨F5 HS.out,below_drewN ((Below.refl _ _).alloc (Nat.le_refl _) _) _⟩
theorem Fb (n d:Int) (w:World) (hn:I64 n) (hd:I64 d):Calls Tryz.prog 114 #[.agg #[.int .i64 n,.int .i64 d]] w fun e w'=>e=.returned (.bool (Cj n d))∧Below w.heap.size w w':=by
 cases z1:(n==0) with
 | false=>exact nI n d w hn hd z1
 | true =>
  cases z2:(d==0) with
  | false=>exact nJ n d w hn hd z1 z2
  | true=>exact nH n d w z1 z2
noncomputable def isB (n d:Int):Bool:=Cj n d&&decide (0<d)
set_option maxRecDepth 100000 in
set_option maxHeartbeats 2000000 in
theorem XY (n d:Int) (w:World) (hn:I64 n) (hd:I64 d):Calls Tryz.prog 109 #[.agg #[.int .i64 n,.int .i64 d]] w fun e w'=>e=.returned (.bool (isB n d))∧Below w.heap.size w w':=by
 have HN:=Lib.hid hn;have HD:=Lib.hid hd
 have HS:=Lib.hid (show isB n d=(Cj n d&&decide (0<d)) from rfl)
 have hcell:∀j v,(#[Value.int .i64 n,.int .i64 d]:Array Value)[j]?=some v→(w.alloc (.cells #[.int .i64 n,.int .i64 d] 24)).cell? ⟨w.heap.size,j,none⟩=some v:=fun j v hv=>(World.cell?_alloc_at _ _ _ _ rfl).trans hv
 have HC0:=Lib.hid (hcell 0 _ rfl);have HC1:=Lib.hid (hcell 1 _ rfl)
 cases hm:Cj n d with
 | false =>
  have HM:=Lib.hid hm
  clear hn hd hcell
  go_enter Tryz.func109,Tryz.ntmps109
  go_wp2_with (go_at_call 114;refine (Fb n d _ HN.out HD.out).mono ?_;rintro e w1 ⟨rfl,hb⟩;have hc0:=((KE hb).1 w.heap.size 0 (by simp)).trans HC0.out;have hc1:=((KE hb).1 w.heap.size 1 (by simp)).trans HC1.out;have HB:=Lib.hid hb;clear hb)
  go_ret
  exact ⟨F5 (by rw [HS.out,HM.out];rfl),((Below.refl _ _).alloc (Nat.le_refl _) _).trans (HB.out.mono (by simp))⟩
 | true =>
  have HM:=Lib.hid hm
  by_cases h1:0<d
  ·have q1:decide (0<d)=true:=by simpa using h1
   clear hn hd hcell h1
   go_enter Tryz.func109,Tryz.ntmps109
   go_wp2_with (go_at_call 114;refine (Fb n d _ HN.out HD.out).mono ?_;rintro e w1 ⟨rfl,hb⟩;have hc0:=((KE hb).1 w.heap.size 0 (by simp)).trans HC0.out;have hc1:=((KE hb).1 w.heap.size 1 (by simp)).trans HC1.out;have HB:=Lib.hid hb;clear hb)
   go_ret
   exact ⟨F5 (by rw [HS.out,HM.out,q1];rfl),((Below.refl _ _).alloc (Nat.le_refl _) _).trans (HB.out.mono (by simp))⟩
  ·have q1:decide (0<d)=false:=by simpa using h1
   clear hn hd hcell h1
   go_enter Tryz.func109,Tryz.ntmps109
   go_wp2_with (go_at_call 114;refine (Fb n d _ HN.out HD.out).mono ?_;rintro e w1 ⟨rfl,hb⟩;have hc0:=((KE hb).1 w.heap.size 0 (by simp)).trans HC0.out;have hc1:=((KE hb).1 w.heap.size 1 (by simp)).trans HC1.out;have HB:=Lib.hid hb;clear hb)
   go_ret
   exact ⟨F5 (by rw [HS.out,HM.out,q1];rfl),((Below.refl _ _).alloc (Nat.le_refl _) _).trans (HB.out.mono (by simp))⟩
theorem D9 {w:World} {b:Nat} {c:Array Value} {t:TypeId} {fz:Nat×Nat} (h:w.heap[b]?=some (.cells c t fz)) (o:Nat) (v:Value):(w.setCell ⟨b,o,none⟩ v).heap[b]?=some (.cells (c.setIfInBounds o v) t fz):=by
 have hlt:=lt_of_block h
 have h':w.heap[b]=.cells c t fz:=by simpa [Array.getElem?_eq_getElem hlt] using h
 show (w.heap.modify b _)[b]?=_
 rw [Array.getElem?_eq_getElem (by simpa using hlt),Array.getElem_modify_self,h']
 rfl
theorem Am {w:World} {b:Nat} {c:Array Value} {t:TypeId} {fz:Nat×Nat} (h:w.heap[b]?=some (.cells c t fz)) (o:Nat) (v:Value) (hv:c[o]?=some v):w.cell? ⟨b,o,none⟩=some v:=by rw [cell_of_row w b o c t fz h,hv]
theorem Ag {w:World} {b:Nat} {c:Array Value} {t:TypeId} (h:w.heap[b]?=some (.cells c t (0,0))) (o:Nat):w.frozen? ⟨b,o,none⟩=false:=by simp [World.frozen?,h]
theorem Dt (w:World) (o x:Obj) {k:Nat} (h:w.heap[k]?=some x):(w.alloc o).heap[k]?=some x:=(Below.heap_alloc w o k (lt_of_block h)).trans h
theorem AX (w:World) (o:Obj):(w.alloc o).heap[w.heap.size]?=some o:=by
 show (w.heap.push o)[w.heap.size]?=some o
 simp
theorem AZ (w:World) (x:Obj):Below w.heap.size w (w.alloc x):=(Below.refl _ _).alloc (Nat.le_refl _) _
/-! ### append of a text's bytes: where the new row lies -/
section
variable {P:Program} (w:World)
theorem nK (base:Nat) (t u ty e:TypeId) (i:TypeInfo) (ht:P.underlying t=some (.slice e)) (hu:P.underlying u=some .string) (hi:P.info? e=some i) (hz:i.zero=some (.int .u8 0))
  (hsize:i.size=1) (hby:i.bytes=1)
  (v:Value) (n:Nat) (xs:List Value) (hown:w.ownsRow base e 1 v n xs) (s:ByteArray)
  (h63:n+s.size≤maxLen) (hbytes:n+s.size≤140737488355328) (hbase:base≤w.heap.size) :
  ∃v' w',(Builtin.append_ #[t,u] ty #[v,.string s]).run P w=.ok v' w'∧w'.ownsRow base e 1 v' (n+s.size) (xs++Lib.strCells s)∧w.grownBy w' v.ownBlock ∧
   (v'=.slice none 0 0↔v=.slice none 0 0∧s.size=0)∧(v'.ownBlock=v.ownBlock∨v'.ownBlock=some w.heap.size):=by
 obtain ⟨v',w',hr,h2,h3,h4⟩:=Lib.run_append_own_string (P:=P) w base t u ty e i ht hu hi hz hsize hby v n xs hown s h63 hbytes hbase
 refine ⟨v',w',hr,h2,h3,h4,?_⟩
 have hxl:xs.length=n:=by simpa using hown.1
 have hsmall:n+s.size≤9223372036854775807:=by simp only [maxLen] at h63;omega
 rcases hown.2 with ⟨rfl,rfl⟩ | ⟨g,cap,cur,rfl,hbg,hg,hnc,hcm,hcs,htake⟩
 ·by_cases hm:s.size=0
  ·left
   rw [h4.2 ⟨rfl,hm⟩]
  ·right
   have hr2:=run_append_nil_string (P:=P) w t u ty e i (.int .u8 0) ht hu hi hz s (by omega) (by omega) (by rw [hby];omega)
   rw [hr] at hr2
   obtain ⟨rfl,_⟩:=Result.ok.inj hr2
   rfl
 ·by_cases hroom:n+s.size≤cap
  ·left
   have hcs':cur.size=cap:=by simpa using hcs
   have hr2:=Lib.run_append_room_string (P:=P) w t u ty e i ht hu hi hsize g n cap cur hg s hroom (by omega)
   rw [hr] at hr2
   obtain ⟨rfl,_⟩:=Result.ok.inj hr2
   rfl
  ·right
   have holds:∀j u,xs[j]?=some u→w.cell? ((⟨g,0,none⟩:Addr).add j)=some u:=hown.cells (g:=g) rfl
   have hr2:=Lib.run_append_grow_string (P:=P) w t u ty e i (.int .u8 0) ht hu hi hz ⟨g,0,none⟩ n cap xs (by rw [hsize];simpa using hxl) holds s (by omega) (by omega) (by rw [hby];exact growslice_fits (by omega) (by omega))
   rw [hr] at hr2
   obtain ⟨rfl,_⟩:=Result.ok.inj hr2
   rfl
end
theorem info5:(Tryz.prog.info? 5).map (fun i=>(i.zero,i.size,i.bytes))=some (some (.int .u8 0),1,1):=by kernel_rfl
theorem nM {l:List UInt8} {j:Nat} {u:Value} (h:(Lib.byteCells l)[j]?=some u):∃b,l[j]?=some b∧u=.int .u8 b.toNat:=by
 unfold Lib.byteCells at h
 rw [List.getElem?_map] at h
 cases hl:l[j]? with
 | none=>rw [hl] at h;cases h
 | some b=>rw [hl] at h;exact ⟨b,rfl,by simpa using h.symm⟩
section
variable {ops:Array Oper} {rest:List Oper} {o:Oper} {a:Act} {Q:Exit→Act→World→Prop} {w:World}
theorem nN (hgd:o.guard=none) (s x:Operand) (ho:o.op=.call { callee:=.builtin .append,args:=#[s,x],argTypes:=#[22,9] }) (base:Nat) (l:List UInt8) (d:Value) (hs:a.eval s=d) (hown:w.ownsRow base 5 1 d l.length (Lib.byteCells l))
  (t:ByteArray) (hx:a.eval x=.string t) (hn:l.length+t.size≤140737488355328) (hbase:base≤w.heap.size)
  (h:∀v' w',w'.ownsRow base 5 1 v' (l++t.data.toList).length (Lib.byteCells (l++t.data.toList))→w.grownBy w' d.ownBlock→(v'=.slice none 0 0↔d=.slice none 0 0∧t.size=0)→(v'.ownBlock=d.ownBlock∨v'.ownBlock=some w.heap.size)→wpList Tryz.prog ops Q rest (a.put o.dst v') w'):wpList Tryz.prog ops Q (o :: rest) a w:=by
 obtain ⟨i,hi,hz,hsz,hby⟩:=info_parts info5
 refine wpList_plain hgd fun K hK => ?_
 obtain ⟨v',w',hr,h2,h3,h4,h5⟩:=nK (P:=Tryz.prog) w base 22 9 o.type 5 i Tryz.underlying22 Tryz.underlying9 hi hz hsz hby d l.length _ hown t (by unfold maxLen;omega) hn hbase
 unfold Oper.wp execOp
 simp only [ho,resolve,invoke,builtin,Sem.run_bind,Sem.run_pure,Result.andThen_ok,List.map_toArray,List.map_cons,List.map_nil,hs,hx,hr]
 refine hK _ _ (h v' w' ?_ h3 h4 h5)
 have e1:(l++t.data.toList).length=l.length+t.size:=by rw [List.length_append,Array.length_toList];rfl
 rw [e1,Lib.byteCells_append,←Lib.strCells_eq]
 exact h2
theorem Hg (hgd:o.guard=none) (s x:Operand) (ho:o.op=.call { callee:=.builtin .append,args:=#[s,x],argTypes:=#[22,22] }) (base:Nat) (l:List UInt8) (d:Value) (hs:a.eval s=d) (hown:w.ownsRow base 5 1 d l.length (Lib.byteCells l))
  (b m:Nat) (ys:List UInt8) (cs:Array Value) (fz:Nat×Nat) (hx:a.eval x=.slice (some ⟨b,0,none⟩) m m) (hm:ys.length=m) (hcs:cs=(Lib.byteCells ys).toArray) (hb:w.heap[b]?=some (.cells cs 5 fz)) (hn:l.length+m≤140737488355328) (hbase:base≤w.heap.size)
  (h:∀v' w',w'.ownsRow base 5 1 v' (l++ys).length (Lib.byteCells (l++ys))→w.grownBy w' d.ownBlock→(v'=.slice none 0 0↔d=.slice none 0 0∧m=0)→(v'.ownBlock=d.ownBlock∨v'.ownBlock=some w.heap.size)→wpList Tryz.prog ops Q rest (a.put o.dst v') w'):wpList Tryz.prog ops Q (o :: rest) a w:=by
 obtain ⟨i,hi,hz,hsz,hby⟩:=info_parts info5
 subst hm
 subst hcs
 refine Go.wpList_append_own_at w hgd s x 22 ho base 5 i _ 1 1 Tryz.underlying22 hi hz hsz hby rfl (by decide) d l.length (Lib.byteCells l) hs hown ⟨b,0,none⟩ ys.length ys.length (Lib.byteCells ys) hx (by rw [Lib.byteCells_length];omega) (fun j u hu => ?_) (fun u hu => ?_) (by unfold maxLen;omega) (by omega) hbase (fun v' w' k1 k2 k3 k4=>h v' w' ?_ k2 k3 k4)
 ·rw [Addr.add_mid,Nat.zero_add,cell_of_row w b j _ 5 fz hb]
  simpa using hu
 ·unfold Lib.byteCells at hu
  obtain ⟨y,_,rfl⟩:=List.mem_map.1 hu
  rfl
 ·rw [List.length_append,Lib.byteCells_append]
  exact k1
end
theorem nO {ops:Array Oper} {o:Oper} {a:Act} {K:Act→World→Prop} {Q:Exit→Act→World→Prop} {E:Prop} {w:World} (hgd:o.guard=none) (s x:Operand) (ho:o.op=.call { callee:=.builtin .append,args:=#[s,x],argTypes:=#[22,22] }) (base:Nat) (l:List UInt8) (d:Value) (hs:a.eval s=d) (hown:w.ownsRow base 5 1 d l.length (Lib.byteCells l))
  (b m:Nat) (ys:List UInt8) (cs:Array Value) (fz:Nat×Nat) (hx:a.eval x=.slice (some ⟨b,0,none⟩) m m) (hm:ys.length=m) (hb:w.heap[b]?=some (.cells cs 5 fz)) (hcs:cs=(Lib.byteCells ys).toArray) (hn:l.length+m≤140737488355328) (hbase:base≤w.heap.size)
  (h:∀v' w',w'.ownsRow base 5 1 v' (l++ys).length (Lib.byteCells (l++ys))→w.grownBy w' d.ownBlock→(v'.ownBlock=d.ownBlock∨v'.ownBlock=some w.heap.size)→K (a.put o.dst v') w'):if Region.wanted o (yielded ops a.tmps)=true then Oper.wp Tryz.prog o a w K Q else E:=by
 have hw:Region.wanted o (yielded ops a.tmps)=true:=by simp [Region.wanted,hgd]
 rw [if_pos hw]
 obtain ⟨i,hi,hz,hsz,hby⟩:=info_parts info5
 subst hm
 subst hcs
 obtain ⟨v',w',hr,h2,h3,_,h5⟩:=run_append_own_at (P:=Tryz.prog) w base 22 o.type 5 i _ 1 1 Tryz.underlying22 hi hz hsz hby rfl (by decide) d l.length (Lib.byteCells l) hown ⟨b,0,none⟩ ys.length ys.length (Lib.byteCells ys) (by rw [Lib.byteCells_length];omega) (fun j u hu=>by
  rw [Addr.add_mid,Nat.zero_add,cell_of_row w b j _ 5 fz hb]
  simpa using hu) (fun u hu=>by
  unfold Lib.byteCells at hu
  obtain ⟨y,_,rfl⟩:=List.mem_map.1 hu
  rfl) (by unfold maxLen;omega) (by omega) hbase
 unfold Oper.wp execOp
 simp only [ho,resolve,invoke,builtin,Sem.run_bind,Sem.run_pure,Result.andThen_ok,List.map_toArray,List.map_cons,List.map_nil,hs,hx,hr]
 refine h v' w' ?_ h3 h5
 rw [List.length_append,Lib.byteCells_append]
 exact h2
/-! ### The blocks that stand -/
structure Fr (w w':World) (b:Nat) (own:Option Nat):Prop where
 os:w'.os=w.os
 tape:w'.tape=w.tape
 output:w'.output=w.output
 size:w.heap.size≤w'.heap.size
 block:∀k,k<w.heap.size→k≠b→some k≠own→w'.heap[k]?=w.heap[k]?
def Own (w:World) (own own':Option Nat):Prop:=own'=own∨∃g,own'=some g∧w.heap.size≤g
section
variable {w w1 w2:World} {b:Nat} {own Az own2:Option Nat}
theorem Fr.refl (w:World) (b:Nat) (own:Option Nat):Fr w w b own:=⟨rfl,rfl,rfl,Nat.le_refl _,fun _ _ _ _=>rfl⟩
theorem Fr.trans (h1:Fr w w1 b own) (h2:Fr w1 w2 b Az) (ho:Own w own Az):Fr w w2 b own :=
 ⟨h2.os.trans h1.os,h2.tape.trans h1.tape,h2.output.trans h1.output,Nat.le_trans h1.size h2.size,fun k hk hb hn=>by
  rw [h2.block k (Nat.lt_of_lt_of_le hk h1.size) hb ?_,h1.block k hk hb hn]
  rcases ho with rfl | ⟨g,rfl,hg⟩
  ·exact hn
  ·intro e
   have:=Option.some.inj e
   omega⟩
theorem Own.refl (w:World) (own:Option Nat):Own w own own:=Or.inl rfl
theorem Own.trans (h1:Own w own Az) (hs:w.heap.size≤w1.heap.size) (h2:Own w1 Az own2):Own w own own2:=by
 rcases h2 with rfl | ⟨g,rfl,hg⟩
 ·exact h1
 ·exact .inr ⟨g,rfl,by omega⟩
theorem Own.ne {q:Nat} (h:Own w own Az) (hq:q<w.heap.size) (hn:some q≠own):some q≠Az:=by
 rcases h with rfl | ⟨g,rfl,hg⟩
 ·exact hn
 ·intro e
  have:=Option.some.inj e
  omega
theorem Fr.below {B:Nat} (h:Fr w w1 b own) (hb:B≤b) (ho:∀g,own=some g→B≤g) (hB:B≤w.heap.size):Below B w w1 :=
 ⟨h.os,h.tape,h.output,h.size,fun k hk=>h.block k (by omega) (by omega) fun e=>by have:=ho k e.symm;omega⟩
theorem Fr.of_below (h:Below w.heap.size w w1):Fr w w1 b own:=⟨h.os,h.tape,h.output,h.size,fun k hk _ _=>h.block k hk⟩
theorem Fr.XZ (h:w.grownBy w1 own):Fr w w1 b own:=⟨h.os,h.tape,h.output,h.size,fun k hk _ hn=>h.block k hk hn⟩
theorem Fr.set (o:Nat) (v:Value):Fr w (w.setCell ⟨b,o,none⟩ v) b own:=⟨rfl,rfl,rfl,by simp [World.setCell],fun k _ hb _=>Below.heap_setCell _ _ _ _ hb⟩
end
/-! ### A builder -/
structure BT (T:TypeId) (n:Nat):Prop where
 lies:liesAt Tryz.prog Tryz.prog.depth T (n / Tryz.prog.cellsOf T) 0 92 1=true
 pos:0<n
theorem JU:BT 92 2:=⟨by kernel_rfl,by decide⟩
theorem UB:BT 123 3:=⟨by kernel_rfl,by decide⟩
def EJ (w:World) (T:TypeId) (tail:List Value) (b:Nat) (p:Value) (own:Option Nat) (l:List UInt8):Prop :=
 ∃sl,w.heap[b]?=some (.cells (p :: sl :: tail).toArray T (0,0))∧w.ownsRow (b+1) 5 1 sl l.length (Lib.byteCells l)∧sl.ownBlock=own∧(l = []→sl=.slice none 0 0)
def KH (b:Nat):Value:=.pointer (some ⟨b,0,none⟩)
def Bld (w:World) (T:TypeId) (tail:List Value) (b:Nat) (own:Option Nat) (l:List UInt8):Prop:=EJ w T tail b (.pointer none) own l∨EJ w T tail b (KH b) own l
section
variable {w w':World} {T:TypeId} {tail:List Value} {b:Nat} {p:Value} {own:Option Nat} {l:List UInt8}
theorem EJ.lt (h:EJ w T tail b p own l):b<w.heap.size:=by obtain ⟨sl,h1,_⟩:=h;exact (Array.getElem?_eq_some_iff.1 h1).1
theorem EJ.FN (h:EJ w T tail b p own l):∀g,own=some g→b<g∧g<w.heap.size:=by
 obtain ⟨sl,h1,h2,h3,_⟩:=h
 intro g hg
 have:=h2.lt g (h3.trans hg)
 omega
theorem EJ.keep (h:EJ w T tail b p own l) (hb:w'.heap[b]?=w.heap[b]?) (ho:∀g,own=some g→w'.heap[g]?=w.heap[g]?):EJ w' T tail b p own l:=by
 obtain ⟨sl,h1,h2,h3,h4⟩:=h
 refine ⟨sl,hb.trans h1,?_,h3,h4⟩
 obtain ⟨hl,h5⟩:=h2
 refine ⟨hl,h5.imp id fun ⟨g,cap,cur,y1,y2,y3,y4⟩=>⟨g,cap,cur,y1,y2,(ho g (by rw [←h3,y1];rfl)).trans y3,y4⟩⟩
theorem Bld.lt (h:Bld w T tail b own l):b<w.heap.size:=by rcases h with h | h<;>exact h.lt
theorem Bld.FN (h:Bld w T tail b own l):∀g,own=some g→b<g∧g<w.heap.size:=by rcases h with h | h<;>exact h.FN
theorem Bld.keep (h:Bld w T tail b own l) (hb:w'.heap[b]?=w.heap[b]?) (ho:∀g,own=some g→w'.heap[g]?=w.heap[g]?):Bld w' T tail b own l:=h.imp (fun h=>h.keep hb ho) (fun h=>h.keep hb ho)
theorem Bld.below (h:Bld w T tail b own l) (hb:Below w.heap.size w w'):Bld w' T tail b own l:=h.keep (hb.block b h.lt) fun g hg=>hb.block g (h.FN g hg).2
theorem QH (T:TypeId) (tail:List Value) (b:Nat) (h:w.heap[b]?=some (.cells (.pointer none :: .slice none 0 0 :: tail).toArray T (0,0))):Bld w T tail b none [] :=
 .inl ⟨_,h,World.ownsRow_nil _ _ _ _,rfl,fun _=>rfl⟩
end
theorem nP:(Tryz.prog.info? 92).map (·.size)=some 2:=by kernel_rfl
set_option maxHeartbeats 1000000 in
set_option maxRecDepth 100000 in
theorem Xa (w:World) (T:TypeId) (tail:List Value) (b:Nat) (own:Option Nat) (l:List UInt8) (hT:BT T (tail.length+2)) (h:Bld w T tail b own l) :
  Calls Tryz.prog 81 #[.pointer (some ⟨b,0,none⟩)] w fun e w'=>e=.returned (.tuple #[])∧EJ w' T tail b (KH b) own l∧Fr w w' b own:=by
 obtain ⟨j,hj,hjs⟩:=Option.map_eq_some_iff.1 nP
 rcases h with h | h
 ·have h':=h
  obtain ⟨sl,h1,h2,h3,h4⟩:=h'
  have h0:w.cell? ⟨b,0,none⟩=some (.pointer none):=by rw [Lib.cell_of_heap h1];rfl
  have hsh:w.shape? b=some (T,tail.length+2):=by simp [World.shape?,h1]
  have hfz:w.frozen? ⟨b,0,none⟩=false:=Lib.frozen_of_heap h1 0
  have HB:=Lib.hid h
  have H1:=Lib.hid h1
  clear h h1 h2 h4
  go_enter Tryz.func81,Tryz.ntmps81
  go_wp2
  rw [Lib.run_to_unsafe w ⟨b,0,none⟩ Tryz.underlying90 Tryz.underlying170 hj (by rw [hjs];decide) hsh hT.pos]
  simp only [Result.andThen]
  rw [Oper.upon_value]
  go_wp2
  rw [run_callFunc_extern Tryz.func113 (by kernel_rfl) (by kernel_rfl) (by kernel_rfl) (e:=Extern.AbiNoEscape.same) (by kernel_rfl)]
  rw [Lib.run_noEscape]
  simp only [Result.andThen]
  rw [Oper.upon_value]
  go_wp2
  rw [Lib.run_from_unsafe w ⟨b,0,none⟩ Tryz.underlying170 Tryz.underlying90 hj hsh hT.lies]
  simp only [Result.andThen]
  rw [Oper.upon_value]
  go_wp2
  go_end0
  refine ⟨rfl,?_,Fr.set 0 _⟩
  obtain ⟨sl',k1,k2,k3,k4⟩:=HB.out
  refine ⟨sl',?_,?_,k3,k4⟩
  ·have:=D9 k1 0 (KH b)
   simp at this
   exact this
  ·exact ownsRow_setCell_below k2 (a:=⟨b,0,none⟩) (Nat.lt_succ_self b) _
 ·have h':=h
  obtain ⟨sl,h1,h2,h3,h4⟩:=h'
  have h0:w.cell? ⟨b,0,none⟩=some (.pointer (some ⟨b,0,none⟩)):=by rw [Lib.cell_of_heap h1];rfl
  have HB:=Lib.hid h
  clear h h1 h2 h4
  go_enter Tryz.func81,Tryz.ntmps81
  go_wp2
  rw [Lib.run_neq_ptr_same w _ Tryz.underlying90 hj]
  go_wp2
  go_end0
  exact ⟨rfl,HB.out,Fr.refl _ _ _⟩
theorem EJ.put {w:World} {T:TypeId} {tail:List Value} {b:Nat} {p:Value} {sl v:Value} {l':List UInt8} {own:Option Nat} (h1:w.heap[b]?=some (.cells (p :: sl :: tail).toArray T (0,0))) (h2:w.ownsRow (b+1) 5 1 v l'.length (Lib.byteCells l')) (h3:v.ownBlock=own) (h4:l' = []→v=.slice none 0 0):EJ (w.setCell ⟨b,1,none⟩ v) T tail b p own l':=by
 refine ⟨v,?_,ownsRow_setCell_below h2 (a:=⟨b,1,none⟩) (Nat.lt_succ_self b) _,h3,h4⟩
 have:=D9 h1 1 v
 simpa using this
theorem EJ.Xb {w:World} {T:TypeId} {tail:List Value} {b:Nat} {p:Value} {sl v:Value} {l':List UInt8} {own:Option Nat} {n:Nat} (h1:w.heap[b]?=some (.cells (p :: sl :: tail).toArray T (0,0))) (h2:w.ownsRow (b+1) 5 1 v n (Lib.byteCells l')) (hn:n=l'.length) (h3:v.ownBlock=own) (h4:l' = []→v=.slice none 0 0):EJ (w.setCell ⟨b,1,none⟩ v) T tail b p own l':=by
 subst hn
 exact EJ.put h1 h2 h3 h4
def UC (w:World) (T:TypeId) (tail:List Value) (b:Nat) (own:Option Nat) (l:List UInt8) (w':World):Prop :=
 ∃own',EJ w' T tail b (KH b) own' l∧Fr w w' b own∧Own w own own'
set_option maxHeartbeats 2000000 in
set_option maxRecDepth 100000 in
theorem KI (w:World) (T:TypeId) (tail:List Value) (b:Nat) (own:Option Nat) (l:List UInt8) (c:UInt8) (hT:BT T (tail.length+2)) (h:Bld w T tail b own l) (hn:l.length+1≤140737488355328) :
  Calls Tryz.prog 41 #[.pointer (some ⟨b,0,none⟩),.int .u8 c.toNat] w fun e w'=>e=.returned .nilIface∧UC w T tail b own (l++[c]) w':=by
 have HLT:=Lib.hid h.lt
 have HCC:=Lib.hid (Xa w T tail b own l hT h)
 have HN:=Lib.hid hn
 have hc5:∀W:World,∀x,(#[Value.int .u8 c.toNat]:Array Value)=x→x=(Lib.byteCells [c]).toArray:=fun _ x e=>by rw [←e];rfl
 clear h hn hT
 go_enter Tryz.func41,Tryz.ntmps41
 go_wp2_with (go_at_call 81;refine HCC.out.mono ?_)
 rintro e w1 ⟨rfl,h1,hf1⟩
 have H1:=Lib.hid h1
 have HF1:=Lib.hid hf1
 obtain ⟨sl,hbk,hown,ho,hnl⟩:=h1
 have c1:w1.cell? ⟨b,1,none⟩=some sl:=by rw [Lib.cell_of_heap hbk];rfl
 have hbn:(w1.alloc (.cells #[Value.int .u8 c.toNat] 5)).heap[w1.heap.size]?=some (.cells #[Value.int .u8 c.toNat] 5 (0,0)):=AX _ _
 have hown1:=hown.alloc (.cells #[Value.int .u8 c.toNat] 5)
 have hsz:b+1≤(w1.alloc (.cells #[Value.int .u8 c.toNat] 5)).heap.size:=by have:=H1.out.lt;simp;omega
 have HBK:=Lib.hid hbk;have HOWN:=Lib.hid hown;have HBN:=Lib.hid hbn;have nR:=Lib.hid hown1;have HSZ:=Lib.hid hsz;have HO:=Lib.hid ho
 clear hbk hown hbn hown1 hsz ho hnl hf1
 go_wp2_with (at_builtin;refine Hg rfl _ _ rfl (b+1) l _ rfl nR.out w1.heap.size 1 [c] _ (0,0) rfl rfl rfl HBN.out HN.out HSZ.out ?_)
 intro v' w2 hown' hgrow hnil hat
 have hlt:=H1.out.lt
 have hne:sl.ownBlock≠some b:=fun e=>by have:=HOWN.out.lt b e;omega
 have hb2:w2.heap[b]?=some (.cells (KH b :: sl :: tail).toArray T (0,0)):=by
  rw [hgrow.block b (by simp;omega) (fun e=>hne e.symm),Below.heap_alloc _ _ _ hlt]
  exact HBK.out
 have d1:w2.cell? ⟨b,1,none⟩=some sl:=by rw [Lib.cell_of_heap hb2];rfl
 have f1:w2.frozen? ⟨b,1,none⟩=false:=Lib.frozen_of_heap hb2 1
 obtain ⟨g,cap,hv⟩:∃g cap,v'=.slice (some ⟨g,0,none⟩) (l.length+1) cap:=by
  rcases hown'.2 with ⟨_,h0⟩ | ⟨g,cap,cur,hv,_⟩
  ·simp at h0
  ·exact ⟨g,cap,hv⟩
 have HB2:=Lib.hid hb2;have HOWN':=Lib.hid hown';have HG:=Lib.hid hgrow;have HAT:=Lib.hid hat
 have HV:=Lib.hid hv
 clear hb2 hown' hgrow hat hnil hne hlt
 subst hv
 clear HV
 go_wp2
 go_ret
 refine ⟨rfl,some g,EJ.Xb HB2.out HOWN'.out (by simp) rfl (fun e=>by simp at e),?_,?_⟩
 ·refine HF1.out.trans ((Fr.of_below (AZ w1 _)).trans (Fr.XZ (b:=b) HG.out) ?_ |>.trans (Fr.set 1 _) (Own.refl _ _)) (Own.refl _ _)
  rw [HO.out]
  exact Own.refl _ _
 ·have:=HF1.out.size
  rcases HAT.out with h | h
  ·left
   rw [←HO.out,←h]
   rfl
  ·right
   refine ⟨g,rfl,?_⟩
   have h2:some g=some (w1.heap.size+1):=h
   have h3:=Option.some.inj h2
   omega
set_option maxHeartbeats 2000000 in
set_option maxRecDepth 100000 in
theorem QI (w:World) (T:TypeId) (tail:List Value) (b:Nat) (own:Option Nat) (l:List UInt8) (t:ByteArray) (hT:BT T (tail.length+2)) (h:Bld w T tail b own l) (hn:l.length+t.size≤140737488355328) :
  Calls Tryz.prog 40 #[.pointer (some ⟨b,0,none⟩),.string t] w fun e w'=>e=.returned (.tuple #[.int .i64 t.size,.nilIface])∧UC w T tail b own (l++t.data.toList) w':=by
 have HLT:=Lib.hid h.lt
 have HCC:=Lib.hid (Xa w T tail b own l hT h)
 have HN:=Lib.hid hn
 clear h hn hT
 go_enter Tryz.func40,Tryz.ntmps40
 go_wp2_with (go_at_call 81;refine HCC.out.mono ?_)
 rintro e w1 ⟨rfl,h1,hf1⟩
 have H1:=Lib.hid h1
 have HF1:=Lib.hid hf1
 obtain ⟨sl,hbk,hown,ho,hnl⟩:=h1
 have c1:w1.cell? ⟨b,1,none⟩=some sl:=by rw [Lib.cell_of_heap hbk];rfl
 have hsz:b+1≤w1.heap.size:=by have:=H1.out.lt;omega
 have HBK:=Lib.hid hbk;have HOWN:=Lib.hid hown;have HSZ:=Lib.hid hsz;have HO:=Lib.hid ho;have HNL:=Lib.hid hnl
 clear hbk hown hsz ho hnl hf1
 go_wp2_with (at_builtin;refine nN rfl _ _ rfl (b+1) l _ rfl HOWN.out t rfl HN.out HSZ.out ?_)
 intro v' w2 hown' hgrow hnil hat
 have hlt:=H1.out.lt
 have hne:sl.ownBlock≠some b:=fun e=>by have:=HOWN.out.lt b e;omega
 have hb2:w2.heap[b]?=some (.cells (KH b :: sl :: tail).toArray T (0,0)):=by
  rw [hgrow.block b hlt (fun e=>hne e.symm)]
  exact HBK.out
 have d1:w2.cell? ⟨b,1,none⟩=some sl:=by rw [Lib.cell_of_heap hb2];rfl
 have f1:w2.frozen? ⟨b,1,none⟩=false:=Lib.frozen_of_heap hb2 1
 obtain ⟨ao,n',cap,hv⟩:∃ao n' cap,v'=.slice ao n' cap:=by
  rcases hown'.2 with ⟨hv,_⟩ | ⟨g,cap,cur,hv,_⟩
  ·exact ⟨_,_,_,hv⟩
  ·exact ⟨_,_,_,hv⟩
 have hnil2:l++t.data.toList = []→v'=.slice none 0 0:=fun e=>by
  obtain ⟨e1,e2⟩:=List.append_eq_nil_iff.1 e
  have e3:t.size=0:=by
   have:t.data.toList.length=0:=by rw [e2];rfl
   rw [Array.length_toList] at this
   exact this
  exact hnil.2 ⟨HNL.out e1,by first | exact e3 | exact ByteArray.ext (Array.eq_empty_of_size_eq_zero e3)⟩
 have HB2:=Lib.hid hb2;have HOWN':=Lib.hid hown';have HG:=Lib.hid hgrow;have HAT:=Lib.hid hat;have nS:=Lib.hid hnil2
 clear hb2 hown' hgrow hat hnil hne hlt hnil2
 subst hv
 go_wp2
 go_ret2
 refine ⟨rfl,(Value.slice ao n' cap).ownBlock,EJ.Xb HB2.out HOWN'.out (by rw [List.length_append,Array.length_toList];rfl) rfl nS.out,?_,?_⟩
 ·refine HF1.out.trans ((Fr.XZ (b:=b) HG.out).trans (Fr.set 1 _) (Own.refl _ _)) ?_
  rw [HO.out]
  exact Own.refl _ _
 ·have:=HF1.out.size
  rcases HAT.out with h | h
  ·left
   rw [h]
   exact HO.out
  ·right
   exact ⟨w1.heap.size,h,this⟩
theorem Xc:Tryz.prog.underlying 128=some (.pointer 5):=by kernel_rfl
theorem cells5:Tryz.prog.cellsOf 5=1:=by kernel_rfl
theorem Fr.drew {w w1:World} {b:Nat} {own:Option Nat} (h:Fr w w1 b own):Fr w w1.drew b own:=⟨h.os,h.tape,h.output,h.size,h.block⟩
set_option maxHeartbeats 2000000 in
set_option maxRecDepth 100000 in
theorem nT (w:World) (T:TypeId) (tail:List Value) (b:Nat) (own:Option Nat) (l:List UInt8) (h:Bld w T tail b own l) (h0:l≠[]) :
  Calls Tryz.prog 42 #[.pointer (some ⟨b,0,none⟩)] w fun e w'=>e=.returned (.string ⟨l.toArray⟩)∧Fr w w' b own:=by
 obtain ⟨p,sl,hbk,hown,ho,hnl⟩:∃p,EJ w T tail b p own l:=h.elim (fun h=>⟨_,h⟩) (fun h=>⟨_,h⟩)
 have hl0:l.length≠0:=by simpa using h0
 obtain ⟨g,cap,cur,rfl,hbg,hg,hnc,hcm,hcs,htake⟩:∃g cap cur,sl=.slice (some ⟨g,0,none⟩) l.length cap∧b+1≤g∧w.heap[g]?=some (.cells cur 5 (0,0))∧l.length≤cap∧cap≤maxLen∧cur.size=cap*1∧cur.toList.take (l.length*1)=Lib.byteCells l:=by
  rcases hown.2 with ⟨_,hz⟩ | ⟨g,cap,cur,hv,r⟩
  ·exact absurd hz hl0
  ·exact ⟨g,cap,cur,hv,r⟩
 have hbd:w.drew.heap[b]?=some (.cells (p :: .slice (some ⟨g,0,none⟩) l.length cap :: tail).toArray T (0,0)):=hbk
 have c1:w.drew.cell? ⟨b,1,none⟩=some (.slice (some ⟨g,0,none⟩) l.length cap):=by rw [Lib.cell_of_heap hbd];rfl
 have hSD:(Builtin.unsafeSliceData_ #[22] 128 #[.slice (some ⟨g,0,none⟩) l.length cap]).run Tryz.prog w.drew=.ok (.pointer (some ⟨g,0,none⟩)) w.drew :=
  Lib.run_unsafeSliceData_row _ _ _ _ _ _ (by omega)
 have hUS:(Builtin.unsafeString_ #[128,3] 9 #[.pointer (some ⟨g,0,none⟩),.int .i64 l.length]).run Tryz.prog w.drew=.ok (.string ⟨l.toArray⟩) (w.drew.freeze ⟨g,0,none⟩ l.length):=by
  refine Lib.run_unsafeString_row w.drew 128 3 9 5 Xc cells5 g cur.size (by have hg':w.drew.heap[g]?=some (.cells cur 5 (0,0)):=hg;simp [World.shape?,hg']) l h0 (by omega) (by unfold maxLen at hcm;omega) ?_
  intro j x hx
  have:=hown.cells (g:=g) rfl j (.int .u8 x.toNat) (by simp [Lib.byteCells,hx])
  exact this
 have hfz:Fr w (w.drew.freeze ⟨g,0,none⟩ l.length) b own:=by
  have hb:Below g w (w.drew.freeze ⟨g,0,none⟩ l.length):=Lib.below_freeze (Below.drew (Below.refl g w)) (p:=⟨g,0,none⟩) (Nat.le_refl _) _
  refine ⟨hb.os,hb.tape,hb.output,hb.size,fun k hk _ hne => ?_⟩
  have hkg:k≠g:=fun e=>hne (by rw [←ho,e];rfl)
  unfold World.freeze
  split
  ·rfl
  ·simp only [Array.getElem?_modify]
   rw [if_neg (fun e=>hkg e.symm)]
   rfl
 have HF:=Lib.hid hfz
 clear hbk hown ho hnl hg htake hbd hfz h
 go_enter Tryz.func42,Tryz.ntmps42
 go_wp2
 go_region
 all_goals (go_wp2;go_ret;exact ⟨rfl,HF.out⟩)
set_option maxHeartbeats 2000000 in
set_option maxRecDepth 100000 in
theorem nU (w:World) (T:TypeId) (tail:List Value) (b:Nat) (own:Option Nat) (h:Bld w T tail b own []) :
  Calls Tryz.prog 42 #[.pointer (some ⟨b,0,none⟩)] w fun e w'=>e=.returned (.string ⟨#[]⟩)∧Fr w w' b own:=by
 obtain ⟨p,sl,hbk,hown,ho,hnl⟩:∃p,EJ w T tail b p own []:=h.elim (fun h=>⟨_,h⟩) (fun h=>⟨_,h⟩)
 obtain rfl:=hnl rfl
 have hbd:w.drew.heap[b]?=some (.cells (p :: .slice none 0 0 :: tail).toArray T (0,0)):=hbk
 have c1:w.drew.cell? ⟨b,1,none⟩=some (.slice none 0 0):=by rw [Lib.cell_of_heap hbd];rfl
 have hSD:(Builtin.unsafeSliceData_ #[22] 128 #[.slice none 0 0]).run Tryz.prog w.drew=.ok (.pointer none) w.drew:=rfl
 have hUS:∀(W:World) (q:Option Addr),(Builtin.unsafeString_ #[128,3] 9 #[.pointer q,.int .i64 0]).run Tryz.prog W=.ok (.string .empty) W:=fun W q=>Lib.run_unsafeString_none W _ _ _ q
 clear hbk hown ho hnl hbd h
 go_enter Tryz.func42,Tryz.ntmps42
 go_wp2
 go_region
 all_goals (go_wp2;go_ret;exact ⟨rfl,(Fr.refl w b own).drew⟩)
theorem UD (w:World) (T:TypeId) (tail:List Value) (b:Nat) (own:Option Nat) (l:List UInt8) (h:Bld w T tail b own l) :
  Calls Tryz.prog 42 #[.pointer (some ⟨b,0,none⟩)] w fun e w'=>e=.returned (.string ⟨l.toArray⟩)∧Fr w w' b own:=by
 cases l with
 | nil=>exact nU w T tail b own h
 | cons x r=>exact nT w T tail b own (x :: r) h (by simp)
end Go.Proofs.YtihlneenajlhoaaGreatDoor
namespace Go.Proofs.YtihlneenajlhoaaGreatDoor
open Go Go.RowKit Go.Sort Go.Shelf
def Tryz.nV:Go.Shelf.Ren:=⟨fun | 171=>34 | 243=>72 | 246=>105 | 283=>143 | 284=>144 | 285=>145 | 286=>146 | 129=>207 | 317=>206 | 318=>208 | 319=>209 | 320=>210 | 337=>272 | 338=>273 | n=>n,fun | 3=>3 | 9=>9 | 2=>2 | 4=>4 | 171=>229 | 0=>0 | 53=>191 | 37=>22 | 5=>5 | 173=>232 | 212=>311 | 51=>236 | 20=>20 | 213=>312 | 46=>120 | 232=>532 | 233=>533 | n=>n,fun | 17=>1 | 18=>4 | 19=>5 | n=>n⟩
theorem Tryz.laysItoa:Go.Proofs.LaysM.n171 Tryz.prog Tryz.nV:={
 mixed:=by kernel_rfl,
 f129:=Tryz.func207.trans (congrArg some (by kernel_rfl)),
 f171:=Tryz.func34.trans (congrArg some (by kernel_rfl)),
 f243:=Tryz.func72.trans (congrArg some (by kernel_rfl)),
 f246:=Tryz.func105.trans (congrArg some (by kernel_rfl)),
 f283:=Tryz.func143.trans (congrArg some (by kernel_rfl)),
 f284:=Tryz.func144.trans (congrArg some (by kernel_rfl)),
 f285:=Tryz.func145.trans (congrArg some (by kernel_rfl)),
 f286:=Tryz.func146.trans (congrArg some (by kernel_rfl)),
 f317:=Tryz.func206.trans (congrArg some (by kernel_rfl)),
 f318:=Tryz.func208.trans (congrArg some (by kernel_rfl)),
 f319:=Tryz.func209.trans (congrArg some (by kernel_rfl)),
 f320:=Tryz.func210.trans (congrArg some (by kernel_rfl)),
 f337:=Tryz.func272.trans (congrArg some (by kernel_rfl)),
 f338:=Tryz.func273.trans (congrArg some (by kernel_rfl)),
 t0:=Tryz.underlying0,
 a0:=Tryz.isAgg0,
 z0:=Tryz.sizeOf0,
 v0:=Tryz.zeroValue0,
 t2:=Tryz.underlying2,
 a2:=Tryz.isAgg2,
 z2:=Tryz.sizeOf2,
 v2:=Tryz.zeroValue2,
 t3:=Tryz.underlying3,
 a3:=Tryz.isAgg3,
 z3:=Tryz.sizeOf3,
 v3:=Tryz.zeroValue3,
 t4:=Tryz.underlying4,
 a4:=Tryz.isAgg4,
 z4:=Tryz.sizeOf4,
 v4:=Tryz.zeroValue4,
 t5:=Tryz.underlying5,
 a5:=Tryz.isAgg5,
 z5:=Tryz.sizeOf5,
 v5:=Tryz.zeroValue5,
 t9:=Tryz.underlying9,
 a9:=Tryz.isAgg9,
 z9:=Tryz.sizeOf9,
 v9:=Tryz.zeroValue9,
 t20:=Tryz.underlying20,
 a20:=Tryz.isAgg20,
 z20:=Tryz.sizeOf20,
 v20:=Tryz.zeroValue20,
 t37:=Tryz.underlying22,
 a37:=Tryz.isAgg22,
 z37:=Tryz.sizeOf22,
 v37:=Tryz.zeroValue22,
 t46:=Tryz.underlying120,
 a46:=Tryz.isAgg120,
 z46:=Tryz.sizeOf120,
 v46:=Tryz.zeroValue120,
 t51:=Tryz.underlying236,
 a51:=Tryz.isAgg236,
 z51:=Tryz.sizeOf236,
 v51:=Tryz.zeroValue236,
 t53:=Tryz.underlying191,
 a53:=Tryz.isAgg191,
 z53:=Tryz.sizeOf191,
 v53:=Tryz.zeroValue191,
 t171:=Tryz.underlying229,
 a171:=Tryz.isAgg229,
 z171:=Tryz.sizeOf229,
 v171:=Tryz.zeroValue229,
 t173:=Tryz.underlying232,
 a173:=Tryz.isAgg232,
 z173:=Tryz.sizeOf232,
 v173:=Tryz.zeroValue232,
 t212:=Tryz.underlying311,
 a212:=Tryz.isAgg311,
 z212:=Tryz.sizeOf311,
 v212:=Tryz.zeroValue311,
 t213:=Tryz.underlying312,
 a213:=Tryz.isAgg312,
 z213:=Tryz.sizeOf312,
 t232:=Tryz.underlying532,
 a232:=Tryz.isAgg532,
 z232:=Tryz.sizeOf532,
 v232:=Tryz.zeroValue532,
 t233:=Tryz.underlying533,
 a233:=Tryz.isAgg533,
 z233:=Tryz.sizeOf533,
 v233:=Tryz.zeroValue533,
 g17:=by kernel_rfl,
 g18:=by kernel_rfl,
 g19:=by kernel_rfl,
 i0:=by kernel_rfl,
 i2:=by kernel_rfl,
 i3:=by kernel_rfl,
 i4:=by kernel_rfl,
 i5:=by kernel_rfl,
 i9:=by kernel_rfl,
 i20:=by kernel_rfl,
 i37:=by kernel_rfl,
 i46:=by kernel_rfl,
 i51:=by kernel_rfl,
 i53:=by kernel_rfl,
 i171:=by kernel_rfl,
 i173:=by kernel_rfl,
 i212:=by kernel_rfl,
 i232:=by kernel_rfl,
 i233:=by kernel_rfl,
 m17:=by kernel_rfl,
 m18:=by kernel_rfl,
 m19:=by kernel_rfl }
def Tryz.nX:Go.Shelf.Ren:=⟨fun | 173=>110 | 246=>105 | 283=>143 | 284=>144 | 285=>145 | 286=>146 | 129=>207 | 317=>206 | 318=>208 | 319=>209 | 320=>210 | 337=>272 | 338=>273 | n=>n,fun | 2=>2 | 3=>3 | 9=>9 | 4=>4 | 171=>229 | 0=>0 | 53=>191 | 37=>22 | 5=>5 | 173=>232 | 212=>311 | 51=>236 | 20=>20 | 213=>312 | 46=>120 | 232=>532 | 233=>533 | n=>n,fun | 17=>1 | 18=>4 | 19=>5 | n=>n⟩
theorem Tryz.nY:Go.Proofs.LaysM.n173 Tryz.prog Tryz.nX:={
 mixed:=by kernel_rfl,
 f129:=Tryz.func207.trans (congrArg some (by kernel_rfl)),
 f173:=Tryz.func110.trans (congrArg some (by kernel_rfl)),
 f246:=Tryz.func105.trans (congrArg some (by kernel_rfl)),
 f283:=Tryz.func143.trans (congrArg some (by kernel_rfl)),
 f284:=Tryz.func144.trans (congrArg some (by kernel_rfl)),
 f285:=Tryz.func145.trans (congrArg some (by kernel_rfl)),
 f286:=Tryz.func146.trans (congrArg some (by kernel_rfl)),
 f317:=Tryz.func206.trans (congrArg some (by kernel_rfl)),
 f318:=Tryz.func208.trans (congrArg some (by kernel_rfl)),
 f319:=Tryz.func209.trans (congrArg some (by kernel_rfl)),
 f320:=Tryz.func210.trans (congrArg some (by kernel_rfl)),
 f337:=Tryz.func272.trans (congrArg some (by kernel_rfl)),
 f338:=Tryz.func273.trans (congrArg some (by kernel_rfl)),
 t0:=Tryz.underlying0,
 a0:=Tryz.isAgg0,
 z0:=Tryz.sizeOf0,
 v0:=Tryz.zeroValue0,
 t2:=Tryz.underlying2,
 a2:=Tryz.isAgg2,
 z2:=Tryz.sizeOf2,
 v2:=Tryz.zeroValue2,
 t3:=Tryz.underlying3,
 a3:=Tryz.isAgg3,
 z3:=Tryz.sizeOf3,
 v3:=Tryz.zeroValue3,
 t4:=Tryz.underlying4,
 a4:=Tryz.isAgg4,
 z4:=Tryz.sizeOf4,
 v4:=Tryz.zeroValue4,
 t5:=Tryz.underlying5,
 a5:=Tryz.isAgg5,
 z5:=Tryz.sizeOf5,
 v5:=Tryz.zeroValue5,
 t9:=Tryz.underlying9,
 a9:=Tryz.isAgg9,
 z9:=Tryz.sizeOf9,
 v9:=Tryz.zeroValue9,
 t20:=Tryz.underlying20,
 a20:=Tryz.isAgg20,
 z20:=Tryz.sizeOf20,
 v20:=Tryz.zeroValue20,
 t37:=Tryz.underlying22,
 a37:=Tryz.isAgg22,
 z37:=Tryz.sizeOf22,
 v37:=Tryz.zeroValue22,
 t46:=Tryz.underlying120,
 a46:=Tryz.isAgg120,
 z46:=Tryz.sizeOf120,
 v46:=Tryz.zeroValue120,
 t51:=Tryz.underlying236,
 a51:=Tryz.isAgg236,
 z51:=Tryz.sizeOf236,
 v51:=Tryz.zeroValue236,
 t53:=Tryz.underlying191,
 a53:=Tryz.isAgg191,
 z53:=Tryz.sizeOf191,
 v53:=Tryz.zeroValue191,
 t171:=Tryz.underlying229,
 a171:=Tryz.isAgg229,
 z171:=Tryz.sizeOf229,
 v171:=Tryz.zeroValue229,
 t173:=Tryz.underlying232,
 a173:=Tryz.isAgg232,
 z173:=Tryz.sizeOf232,
 v173:=Tryz.zeroValue232,
 t212:=Tryz.underlying311,
 a212:=Tryz.isAgg311,
 z212:=Tryz.sizeOf311,
 v212:=Tryz.zeroValue311,
 t213:=Tryz.underlying312,
 a213:=Tryz.isAgg312,
 z213:=Tryz.sizeOf312,
 t232:=Tryz.underlying532,
 a232:=Tryz.isAgg532,
 z232:=Tryz.sizeOf532,
 v232:=Tryz.zeroValue532,
 t233:=Tryz.underlying533,
 a233:=Tryz.isAgg533,
 z233:=Tryz.sizeOf533,
 v233:=Tryz.zeroValue533,
 g17:=by kernel_rfl,
 g18:=by kernel_rfl,
 g19:=by kernel_rfl,
 i0:=by kernel_rfl,
 i2:=by kernel_rfl,
 i3:=by kernel_rfl,
 i4:=by kernel_rfl,
 i5:=by kernel_rfl,
 i9:=by kernel_rfl,
 i20:=by kernel_rfl,
 i37:=by kernel_rfl,
 i46:=by kernel_rfl,
 i51:=by kernel_rfl,
 i53:=by kernel_rfl,
 i171:=by kernel_rfl,
 i173:=by kernel_rfl,
 i212:=by kernel_rfl,
 i232:=by kernel_rfl,
 i233:=by kernel_rfl,
 m17:=by kernel_rfl,
 m18:=by kernel_rfl,
 m19:=by kernel_rfl }
end Go.Proofs.YtihlneenajlhoaaGreatDoor
set_option linter.unusedVariables false
namespace Go.Proofs.YtihlneenajlhoaaGreatDoor.sp
open Go
abbrev Bs:=List UInt8
/-! ### Numbers -/
def Ac (c:UInt8):Bool:=decide (48≤c.toNat)&&decide (c.toNat≤57)
def val (n:Nat) (s:Bs):Nat:=s.foldl (fun n c=>n*10+(c.toNat-48)) n
theorem KJ (n:Nat):val n []=n:=by unfold val;rw [List.foldl_nil]
theorem Iu (n:Nat) (c:UInt8) (s:Bs):val n (c :: s)=val (n*10+(c.toNat-48)) s:=by unfold val;rw [List.foldl_cons]
theorem val_append (n:Nat) (a b:Bs):val n (a++b)=val (val n a) b:=by unfold val;rw [List.foldl_append]
theorem L9 {d:Nat} (h:d<10):(UInt8.ofNat (48+d)).toNat=48+d:=by
 rw [UInt8.toNat_ofNat']
 exact Nat.mod_eq_of_lt (by omega)
theorem Xd {d:Nat} (h:d<10):Ac (UInt8.ofNat (48+d))=true:=by unfold Ac;rw [L9 h];simp;omega
theorem IJ {u:Nat} (h:u<10):Lib.decDigits u = [UInt8.ofNat (48+u)]:=by rw [Lib.decDigits,dif_pos h]
theorem OH {u:Nat} (h:¬u<10):Lib.decDigits u=Lib.decDigits (u / 10)++[UInt8.ofNat (48+u%10)]:=by rw [Lib.decDigits,dif_neg h]
theorem KN (u:Nat):∀c∈Lib.decDigits u,Ac c=true:=by
 induction u using Nat.strongRecOn with
 | _ u ih =>
  by_cases h:u<10
  ·rw [IJ h];intro c hc;simp only [List.mem_singleton] at hc;subst hc;exact Xd h
  ·rw [OH h]
   intro c hc
   rcases List.mem_append.1 hc with hc | hc
   ·exact ih (u / 10) (by omega) c hc
   ·simp only [List.mem_singleton] at hc;subst hc;exact Xd (by omega)
theorem JV (u:Nat):val 0 (Lib.decDigits u)=u:=by
 induction u using Nat.strongRecOn with
 | _ u ih =>
  by_cases h:u<10
  ·rw [IJ h,Iu,KJ,L9 h];omega
  ·rw [OH h,val_append,ih (u / 10) (by omega),Iu,KJ,L9 (by omega)];omega
theorem JW (u:Nat):Lib.decDigits u≠[]:=by
 intro h
 have:=Lib.decDigits_length u
 have h1:=Lib.nDigits_pos u
 rw [h] at this
 simp at this
 omega
theorem head_append {a b:Bs} (h:a≠[]):(a++b).head?=a.head?:=by
 cases a with
 | nil=>exact absurd rfl h
 | cons x a=>rfl
theorem OI (u:Nat) (h0:u≠0):(Lib.decDigits u).head?≠some 48:=by
 induction u using Nat.strongRecOn with
 | _ u ih =>
  by_cases h:u<10
  ·rw [IJ h]
   simp only [List.head?_cons,ne_eq,Option.some.injEq]
   intro hh
   have:=congrArg UInt8.toNat hh
   rw [L9 h] at this
   have e:(48:UInt8).toNat=48:=rfl
   omega
  ·rw [OH h,head_append (JW _)]
   exact ih (u / 10) (by omega) (by omega)
theorem UE (u:Nat):∃c r,Lib.decDigits u=c :: r∧Ac c=true:=by
 cases h:Lib.decDigits u with
 | nil=>exact absurd h (JW u)
 | cons c r=>exact ⟨c,r,rfl,KN u c (by rw [h];exact List.mem_cons_self)⟩
theorem UF (s:Bs):∀n,n*10 ^ s.length≤val n s:=by
 induction s with
 | nil=>intro n;simp [KJ]
 | cons c s ih =>
  intro n
  rw [Iu,List.length_cons,Nat.pow_succ]
  refine Nat.le_trans ?_ (ih _)
  rw [Nat.mul_comm (10 ^ s.length) 10,←Nat.mul_assoc]
  exact Nat.mul_le_mul_right _ (by omega)
theorem UG (s:Bs) (hs:∀c∈s,Ac c=true):∀n,val n s<(n+1)*10 ^ s.length:=by
 induction s with
 | nil=>intro n;simp [KJ]
 | cons c s ih =>
  intro n
  rw [Iu,List.length_cons,Nat.pow_succ]
  refine Nat.lt_of_lt_of_le (ih (fun d hd=>hs d (List.mem_cons_of_mem _ hd)) _) ?_
  rw [Nat.mul_comm (10 ^ s.length) 10,←Nat.mul_assoc]
  have:=hs c List.mem_cons_self
  simp only [Ac,Bool.and_eq_true,decide_eq_true_eq] at this
  exact Nat.mul_le_mul_right _ (by omega)
theorem nZ (s:Bs) (hs:∀c∈s,Ac c=true) (h0:s≠[]) (h1:s.head?=some 48→s = [48]):Lib.decDigits (val 0 s)=s:=by
 induction hn:s.length using Nat.strongRecOn generalizing s with
 | _ n ih =>
  rcases List.eq_nil_or_concat s with rfl | ⟨a,c,rfl⟩
  ·exact absurd rfl h0
  have hc:Ac c=true:=hs c (by simp)
  simp only [Ac,Bool.and_eq_true,decide_eq_true_eq] at hc
  have Xe:UInt8.ofNat (48+(c.toNat-48))=c:=by
   apply UInt8.toNat_inj.1
   rw [L9 (by omega)];omega
  rw [List.concat_eq_append] at *
  by_cases ha:a = []
  ·subst ha
   simp only [List.nil_append,Iu,KJ]
   rw [IJ (by omega)]
   simp only [Nat.zero_mul,Nat.zero_add,Xe]
  ·have hh:a.head?≠some 48:=fun h=>by
    have:=h1 (by rw [head_append ha];exact h)
    cases a with
    | nil=>exact ha rfl
    | cons x y=>simp at this
   have iha:=ih a.length (by simp at hn;omega) a (fun d hd=>hs d (by simp [hd])) ha (fun h=>absurd h hh) rfl
   rw [val_append,Iu,KJ]
   have hpos:1≤val 0 a:=by
    rcases Nat.eq_zero_or_pos (val 0 a) with h | h
    ·rw [h] at iha
     rw [IJ (by omega)] at iha
     rw [←iha] at hh
     exact absurd rfl hh
    ·exact h
   rw [OH (by omega),show (val 0 a*10+(c.toNat-48)) / 10=val 0 a by omega,show (val 0 a*10+(c.toNat-48))%10=c.toNat-48 by omega,iha,Xe]
def num (s:Bs):Option Int :=
 let t:=if s.head?=some 45 then s.tail else s
 if t = []∨9<t.length∨(t.head?=some 48∧s≠[48]) then none
 else if t.all Ac then some (if s.head?=some 45 then -(val 0 t:Int) else (val 0 t:Int)) else none
theorem KO (u:Nat):Lib.itoa (u:Int)=Lib.decDigits u:=Lib.itoa_nonneg u
theorem QJ (u:Nat) (h:1≤u):Lib.itoa (-(u:Int))=45 :: Lib.decDigits u:=Lib.itoa_neg u h
theorem Xf {u:Nat} (h:u<1000000000):Lib.nDigits u≤9:=by
 have h1:=UF (Lib.decDigits u).tail 1
 by_cases h0:u=0
 ·subst h0;rw [Lib.nDigits_small (by omega)];omega
 ·obtain ⟨c,r,e,hc⟩:=UE u
  have hv:=JV u
  have hh:=OI u h0
  have hl:=Lib.decDigits_length u
  rw [e] at hv hh hl
  simp only [Ac,Bool.and_eq_true,decide_eq_true_eq] at hc
  have hne:c.toNat≠48:=fun h=>hh (by simp only [List.head?_cons,Option.some.injEq];exact UInt8.toNat_inj.1 h)
  rw [Iu] at hv
  have h2:=UF r (0*10+(c.toNat-48))
  rw [hv] at h2
  simp only [List.length_cons] at hl
  by_cases hr:r.length≤8
  ·omega
  ·have h3:(10:Nat) ^ 9≤10 ^ r.length:=Nat.pow_le_pow_right (by decide) (by omega)
   have h4:1*10 ^ r.length≤(0*10+(c.toNat-48))*10 ^ r.length:=Nat.mul_le_mul_right _ (by omega)
   have h5:(10:Nat) ^ 9=1000000000:=by decide
   omega
theorem UH (u:Nat):(Lib.decDigits u).head?≠some 45:=by
 obtain ⟨c,r,e,hc⟩:=UE u
 rw [e]
 simp only [List.head?_cons,ne_eq,Option.some.injEq]
 intro h
 subst h
 exact absurd hc (by decide)
theorem oC {n:Int} (h0 : -1000000000<n) (h1:n<1000000000):num (Lib.itoa n)=some n:=by
 have hall:∀u,(Lib.decDigits u).all Ac=true:=fun u=>List.all_eq_true.2 (KN u)
 by_cases hn:0≤n
 ·obtain ⟨u,rfl⟩:=Int.eq_ofNat_of_zero_le hn
  rw [KO]
  unfold num
  simp only [if_neg (UH u),hall,if_true,JV]
  rw [if_neg]
  rintro (h | h | ⟨h,h'⟩)
  ·exact JW u h
  ·rw [Lib.decDigits_length] at h
   have:=Xf (u:=u) (by omega)
   omega
  ·by_cases hu:u=0
   ·subst hu;exact h' (by rw [IJ (by omega)];rfl)
   ·exact OI u hu h
 ·obtain ⟨u,rfl⟩:∃u:Nat,n = -(u:Int):=⟨n.natAbs,by omega⟩
  rw [QJ u (by omega)]
  unfold num
  simp only [List.head?_cons,if_true,List.tail_cons,hall,JV]
  rw [if_neg]
  rintro (h | h | ⟨h,h'⟩)
  ·exact JW u h
  ·rw [Lib.decDigits_length] at h
   have:=Xf (u:=u) (by omega)
   omega
  ·exact OI u (by omega) h
/-! ### Quoted texts -/
def GK (k:Nat):UInt8:=if k<10 then UInt8.ofNat (48+k) else UInt8.ofNat (87+k)
def Bz (c:UInt8):Option Nat:=if 48≤c.toNat∧c.toNat≤57 then some (c.toNat-48) else if 97≤c.toNat∧c.toNat≤102 then some (c.toNat-87) else none
theorem Xg {c:UInt8} {k:Nat} (h:Bz c=some k):k<16:=by
 unfold Bz at h
 split at h
 ·simp only [Option.some.injEq] at h;omega
 ·split at h
  ·simp only [Option.some.injEq] at h;omega
  ·cases h
theorem Xh:∀k:Fin 16,Bz (GK k.val)=some k.val:=by decide
def Bj (c:UInt8):Bs:=if c=34∨c=92 then [92,c] else if c=10 then [92,110] else if c.toNat<32∨127≤c.toNat then [92,120,GK (c.toNat / 16),GK (c.toNat%16)] else [c]
def DJ (s:Bs):Bs:=34 :: (s.flatMap Bj++[34])
def Aj (s:Bs):Option (Bs×Bs) :=
 match s with
 | []=>none
 | c :: r =>
  if c=34 then some ([],r)
  else if c=92 then
   match r with
   | []=>none
   | d :: r1 =>
    if d=92∨d=34 then (Aj r1).map fun p=>(d :: p.1,p.2)
    else if d=110 then (Aj r1).map fun p=>(10 :: p.1,p.2)
    else if d=120 then
     match r1 with
     | a :: b :: r2 =>
      match Bz a,Bz b with
      | some x,some y=>(Aj r2).map fun p=>(UInt8.ofNat (16*x+y) :: p.1,p.2)
      | _,_=>none
     | _=>none
    else none
  else (Aj r).map fun p=>(c :: p.1,p.2)
termination_by s.length
theorem MB:Aj []=none:=by rw [Aj.eq_def]
theorem OJ (r:Bs):Aj (34 :: r)=some ([],r):=by rw [Aj.eq_def];rfl
theorem OL {c:UInt8} (h1:c≠34) (h2:c≠92) (r:Bs):Aj (c :: r)=(Aj r).map fun p=>(c :: p.1,p.2):=by rw [Aj.eq_def];simp only [if_neg h1,if_neg h2]
theorem oD:Aj [92]=none:=by rw [Aj.eq_def];rfl
theorem Xi {d:UInt8} (h:d=92∨d=34) (r:Bs):Aj (92 :: d :: r)=(Aj r).map fun p=>(d :: p.1,p.2):=by
 rw [Aj.eq_def]
 simp only [if_neg (by decide:¬(92:UInt8)=34),if_pos h,if_true]
theorem Xj (r:Bs):Aj (92 :: 110 :: r)=(Aj r).map fun p=>(10 :: p.1,p.2):=by rw [Aj.eq_def];rfl
theorem oG {d:UInt8} (h1:¬(d=92∨d=34)) (h2:d≠110) (h3:d≠120) (r:Bs):Aj (92 :: d :: r)=none:=by
 rw [Aj.eq_def]
 simp only [if_neg (by decide:¬(92:UInt8)=34),if_neg h1,if_neg h2,if_neg h3,if_true]
theorem Xk {a b:UInt8} {x y:Nat} (hx:Bz a=some x) (hy:Bz b=some y) (r:Bs):Aj (92 :: 120 :: a :: b :: r)=(Aj r).map fun p=>(UInt8.ofNat (16*x+y) :: p.1,p.2):=by
 rw [Aj.eq_def]
 simp only [if_neg (by decide:¬(92:UInt8)=34),if_neg (by decide:¬((120:UInt8)=92∨(120:UInt8)=34)),if_neg (by decide:¬(120:UInt8)=110),if_true,hx,hy]
theorem oH:Aj [92,120]=none:=by rw [Aj.eq_def];rfl
theorem oI (a:UInt8):Aj [92,120,a]=none:=by rw [Aj.eq_def];rfl
theorem oJ {a:UInt8} (hx:Bz a=none) (b:UInt8) (r:Bs):Aj (92 :: 120 :: a :: b :: r)=none:=by
 rw [Aj.eq_def]
 simp only [if_neg (by decide:¬(92:UInt8)=34),if_neg (by decide:¬((120:UInt8)=92∨(120:UInt8)=34)),if_neg (by decide:¬(120:UInt8)=110),if_true,hx]
theorem oK {b:UInt8} (hy:Bz b=none) (a:UInt8) (r:Bs):Aj (92 :: 120 :: a :: b :: r)=none:=by
 rw [Aj.eq_def]
 simp only [if_neg (by decide:¬(92:UInt8)=34),if_neg (by decide:¬((120:UInt8)=92∨(120:UInt8)=34)),if_neg (by decide:¬(120:UInt8)=110),if_true,hy]
 cases Bz a<;>rfl
theorem oL (c:UInt8):UInt8.ofNat (16*(c.toNat / 16)+c.toNat%16)=c:=by
 apply UInt8.toNat_inj.1
 rw [Nat.div_add_mod]
 simp
theorem oM (c:UInt8) (r:Bs):Aj (Bj c++r)=(Aj r).map fun p=>(c :: p.1,p.2):=by
 unfold Bj
 split
 ·rename_i h
  exact Xi h.symm r
 ·rename_i h
  split
  ·rename_i h1
   subst h1
   exact Xj r
  ·split
   ·have h1:=Xh ⟨c.toNat / 16,by have:=c.toNat_lt;omega⟩
    have h2:=Xh ⟨c.toNat%16,by omega⟩
    have:=Xk h1 h2 r
    rw [oL] at this
    exact this
   ·exact OL (fun e=>h (Or.inl e)) (fun e=>h (Or.inr e)) r
theorem oN (s r:Bs):Aj (s.flatMap Bj++34 :: r)=some (s,r):=by
 induction s with
 | nil=>exact OJ r
 | cons c s ih =>
  rw [List.flatMap_cons,List.append_assoc,oM,ih]
  rfl
theorem UI (s:Bs):∀p,Aj s=some p→p.2.length<s.length:=by
 induction hn:s.length using Nat.strongRecOn generalizing s with
 | _ n ih =>
  intro p h
  have go:∀(r:Bs) (x:UInt8),r.length<n→(Aj r).map (fun p=>(x :: p.1,p.2))=some p→p.2.length<n:=by
   intro r x hl h
   obtain ⟨q,h1,rfl⟩:=Option.map_eq_some_iff.1 h
   exact Nat.lt_trans (ih r.length hl r rfl q h1) hl
  subst hn
  rw [Aj.eq_def] at h
  split at h
  ·cases h
  ·rename_i c r
   split at h
   ·cases h;simp
   ·split at h
    ·split at h
     ·cases h
     ·rename_i d r1
      split at h
      ·exact go _ _ (by simp only [List.length_cons];omega) h
      ·split at h
       ·exact go _ _ (by simp only [List.length_cons];omega) h
       ·split at h
        ·split at h
         ·rename_i a b r2
          split at h
          ·exact go _ _ (by simp only [List.length_cons];omega) h
          ·cases h
         ·cases h
        ·cases h
    ·exact go _ _ (by simp only [List.length_cons];omega) h
/-! ### The words of a line -/
def Aw (c:UInt8):Bool:=c != 32&&c != 34
theorem Xl (s:Bs):(s.dropWhile (· == 32)).length≤s.length:=(List.dropWhile_sublist _).length_le
def words (s:Bs):Option (List (Bs×Bool)) :=
 match h:s.dropWhile (· == 32) with
 | []=>some []
 | c :: r =>
  if c=34 then
   match h2:Aj r with
   | none=>none
   | some (t,u)=>if u.head?=none∨u.head?=some 32 then (words u).map fun l=>(t,true) :: l else none
  else
   if ((c :: r).dropWhile Aw).head?=some 34 then none else (words ((c :: r).dropWhile Aw)).map fun l=>((c :: r).takeWhile Aw,false) :: l
termination_by s.length
decreasing_by
 ·have h1:=Xl s
  have h3:=UI _ _ h2
  rw [h] at h1
  simp at h1 h3
  omega
 ·rename_i hc0 _
  have h1:=Xl s
  rw [h] at h1
  simp only [List.length_cons] at h1
  have h0:c≠32:=fun e=>by
   have:=List.head?_dropWhile_not (· == (32:UInt8)) s
   rw [h] at this
   subst e
   simp at this
  have h4:Aw c=true:=by simp [Aw,h0,hc0]
  rw [List.dropWhile_cons,if_pos h4]
  have:=(List.dropWhile_sublist Aw (l:=r)).length_le
  omega
/-! ### Fractions -/
def CJ (n d:Int):Prop:=1≤d∧n ≠ -9223372036854775808∧Nat.gcd n.natAbs d.toNat=1
instance (n d:Int):Decidable (CJ n d):=inferInstanceAs (Decidable (_∧_∧_))
def BM (n d:Int):Prop:=(n=0∧d=0)∨CJ n d
instance (n d:Int):Decidable (BM n d):=inferInstanceAs (Decidable (_∨_))
def I64 (n:Int):Prop := -9223372036854775808≤n∧n≤9223372036854775807
abbrev over:Bs:=[111,118,101,114]
def AP (n d:Int):Bs:=if CJ n d then Lib.itoa n++(if 1<d then 47 :: Lib.itoa d else []) else over
def OM (c:UInt8):Bool:=Ac c||c==45
theorem OO (n:Int):∀c∈Lib.itoa n,OM c=true:=by
 intro c hc
 unfold Lib.itoa at hc
 split at hc
 ·rcases List.mem_cons.1 hc with rfl | hc
  ·decide
  ·unfold OM;rw [KN _ c hc];rfl
 ·unfold OM;rw [KN _ c hc];rfl
theorem UJ (n:Int):∃c r,Lib.itoa n=c :: r∧OM c=true:=by
 cases h:Lib.itoa n with
 | nil =>
  unfold Lib.itoa at h
  split at h
  ·cases h
  ·exact absurd h (JW _)
 | cons c r=>exact ⟨c,r,rfl,OO n c (by rw [h];exact List.mem_cons_self)⟩
theorem QK {u v:Nat} (h:Lib.decDigits u=Lib.decDigits v):u=v:=by rw [←JV u,h,JV]
theorem UK {n m:Int} (h:Lib.itoa n=Lib.itoa m):n=m:=by
 have key:∀u v:Nat,Lib.decDigits u≠45 :: Lib.decDigits v:=fun u v e=>UH u (by rw [e];rfl)
 unfold Lib.itoa at h
 split at h<;>split at h
 ·have:=QK (List.cons.inj h).2;omega
 ·exact absurd h.symm (key _ _)
 ·exact absurd h (key _ _)
 ·have:=QK h;omega
theorem Xm {a b c d:Bs} {x:UInt8} (h:a++x :: b=c++x :: d) (ha:x∉a) (hc:x∉c):a=c∧b=d:=by
 induction a generalizing c with
 | nil =>
  cases c with
  | nil=>exact ⟨rfl,(List.cons.inj h).2⟩
  | cons y c=>exact absurd ((List.cons.inj h).1 ▸ List.mem_cons_self) hc
 | cons y a ih =>
  cases c with
  | nil=>exact absurd ((List.cons.inj h).1 ▸ List.mem_cons_self) ha
  | cons z c =>
   obtain ⟨h1,h2⟩:=List.cons.inj h
   obtain ⟨h3,h4⟩:=ih h2 (fun h=>ha (List.mem_cons_of_mem _ h)) (fun h=>hc (List.mem_cons_of_mem _ h))
   exact ⟨by rw [h1,h3],h4⟩
theorem QL (n:Int):(47:UInt8)∉Lib.itoa n:=fun h=>absurd (OO n 47 h) (by decide)
theorem oO {n d m e:Int} (h1:BM n d) (h2:BM m e) (h:AP n d=AP m e):n=m∧d=e:=by
 have key:∀n d:Int,CJ n d→AP n d≠over:=by
  intro n d hs e
  unfold AP at e
  rw [if_pos hs] at e
  obtain ⟨c,r,e1,hc⟩:=UJ n
  rw [e1,List.cons_append] at e
  have:=(List.cons.inj e).1
  subst this
  exact absurd hc (by decide)
 have zero:∀n d:Int,¬CJ n d→BM n d→n=0∧d=0:=fun n d h1 h2=>h2.resolve_right h1
 by_cases hs:CJ n d<;>by_cases ht:CJ m e
 ·unfold AP at h
  rw [if_pos hs,if_pos ht] at h
  have hd:=hs.1
  have he:=ht.1
  by_cases k1:1<d<;>by_cases k2:1<e
  ·rw [if_pos k1,if_pos k2] at h
   obtain ⟨a,b⟩:=Xm h (QL n) (QL m)
   exact ⟨UK a,UK b⟩
  ·rw [if_pos k1,if_neg k2,List.append_nil] at h
   exact absurd (h ▸ by simp:(47:UInt8)∈Lib.itoa m) (QL m)
  ·rw [if_neg k1,if_pos k2,List.append_nil] at h
   exact absurd (h ▸ by simp:(47:UInt8)∈Lib.itoa n) (QL n)
  ·rw [if_neg k1,if_neg k2,List.append_nil,List.append_nil] at h
   exact ⟨UK h,by omega⟩
 ·exact absurd (h.trans (by unfold AP;rw [if_neg ht])) (key _ _ hs)
 ·exact absurd (h.symm.trans (by unfold AP;rw [if_neg hs])) (key _ _ ht)
 ·obtain ⟨a,b⟩:=zero _ _ hs h1
  obtain ⟨c,d⟩:=zero _ _ ht h2
  omega
open Classical in
noncomputable def Cc (s:Bs):Option (Int×Int):=if h:∃p:Int×Int,I64 p.1∧I64 p.2∧BM p.1 p.2∧AP p.1 p.2=s then some h.choose else none
theorem UL {n d:Int} (hn:I64 n) (hd:I64 d) (h:BM n d):Cc (AP n d)=some (n,d):=by
 unfold Cc
 have hx:∃p:Int×Int,I64 p.1∧I64 p.2∧BM p.1 p.2∧AP p.1 p.2=AP n d:=⟨(n,d),hn,hd,h,rfl⟩
 rw [dif_pos hx]
 obtain ⟨_,_,h3,h4⟩:=hx.choose_spec
 obtain ⟨a,b⟩:=oO h3 h h4
 exact congrArg some (Prod.ext a b)
theorem oP {s:Bs} (h:∀n d:Int,I64 n→I64 d→BM n d→AP n d≠s):Cc s=none:=by
 unfold Cc
 rw [dif_neg]
 rintro ⟨p,h1,h2,h3,h4⟩
 exact h p.1 p.2 h1 h2 h3 h4
/-! ### Operations -/
structure Op where
 kind:Int:=0
 node:Int:=0
 at_:Int:=0
 origin:Int:=0
 name:Bs:=[]
 word:Bs:=[]
 text:Bs:=[]
 w:Int×Int:=(0,0)
 h:Int×Int:=(0,0)
 bt:Int:=0
 bn:Bs:=[]
 bw:Int×Int:=(0,0)
 bh:Int×Int:=(0,0)
 on:Bool:=false
abbrev BX:Bs:=[115,104,101,101,116]
abbrev BA:Bs:=[118,105,101,119]
abbrev BB:Bs:=[102,111,110,116]
abbrev BC:Bs:=[99,111,108,111,114]
abbrev Au:Bs:=[112,114,105,110,116]
abbrev BZ:Bs:=[119,111,114,100]
abbrev Ba:Bs:=[105,110,115,101,114,116]
abbrev BD:Bs:=[114,101,109,111,118,101]
abbrev Bc:Bs:=[115,101,116]
abbrev BF:Bs:=[117,110,115,101,116]
abbrev kBox:Bs:=[98,111,120]
abbrev BG:Bs:=[97,115,107]
abbrev BH:Bs:=[99,117,115,116,111,109]
abbrev BI:Bs:=[114,117,108,101,115]
abbrev BJ:Bs:=[99,111,117,110,116]
abbrev Ar:Bs:=[111,110]
abbrev Bl:Bs:=[111,102,102]
abbrev Gv:Bs:=[110,111,110,101]
abbrev Gw:Bs:=[105,110,108,105,110,101]
abbrev Gx:Bs:=[115,105,122,101]
abbrev Wd:=Bs×Bool
def Bf (w:Wd):Option Int:=if w.2 then none else num w.1
noncomputable def CW (w:Wd):Option (Int×Int):=if w.2 then none else Cc w.1
def A7 (w:Wd):Option Bs:=if w.2 then none else some w.1
def wText (w:Wd):Option Bs:=if w.2 then some w.1 else none
def D5 (s:Bs):Option Int:=if s=Gv then some 0 else if s=Gw then some 1 else if s=Gx then some 2 else none
def Fe (s:Bs):Bs:=if s = [45] then [] else s
noncomputable def Ai (name:Bs) (a:List Wd):Option Op :=
 if name=BX then (match a with | [x,y]=>(Bf x).bind fun o=>(wText y).bind fun t=>some { kind:=1,origin:=o,text:=t } | _=>none)
 else if name=BA then (match a with | [x,y]=>(CW x).bind fun p=>(CW y).bind fun q=>some { kind:=2,w:=p,h:=q } | _=>none)
 else if name=BB then (match a with | [x]=>(CW x).bind fun p=>some { kind:=3,w:=p } | _=>none)
 else if name=BC then (match a with | [x]=>(CW x).bind fun p=>some { kind:=13,w:=p } | _=>none)
 else if name=Au then (match a with | [x]=>(A7 x).bind fun s=>if s=Ar then some { kind:=14,on:=true } else if s=Bl then some { kind:=14 } else none | _=>none)
 else if name=BZ then (match a with | [x,y]=>(A7 x).bind fun s=>(A7 y).bind fun t=>some { kind:=4,name:=s,word:=t } | _=>none)
 else if name=Ba then (match a with | [x,y,z]=>(Bf x).bind fun n=>(Bf y).bind fun k=>(A7 z).bind fun s=>some { kind:=5,node:=n,at_:=k,name:=s } | _=>none)
 else if name=BD then (match a with | [x]=>(Bf x).bind fun n=>some { kind:=6,node:=n } | _=>none)
 else if name=Bc then (match a with | [x,y,z]=>(Bf x).bind fun n=>(A7 y).bind fun s=>(wText z).bind fun t=>some { kind:=7,node:=n,name:=s,word:=t } | _=>none)
 else if name=BF then (match a with | [x,y]=>(Bf x).bind fun n=>(A7 y).bind fun s=>some { kind:=8,node:=n,name:=s } | _=>none)
 else if name=kBox then (match a with | [x,y,z,u,v]=>(Bf x).bind fun n=>(A7 y).bind fun s=>(D5 s).bind fun b=>(A7 z).bind fun t=>(CW u).bind fun p=>(CW v).bind fun q=>some { kind:=9,node:=n,bt:=b,bn:=Fe t,bw:=p,bh:=q } | _=>none)
 else if name=BG then (match a with | [x,y]=>(Bf x).bind fun n=>(A7 y).bind fun s=>some { kind:=10,node:=n,name:=s } | _=>none)
 else if name=BH then (match a with | [x,y]=>(Bf x).bind fun n=>(A7 y).bind fun s=>some { kind:=11,node:=n,name:=s } | _=>none)
 else if name=BI then (match a with | [x]=>(Bf x).bind fun n=>some { kind:=12,node:=n } | _=>none)
 else if name=BJ then (match a with | []=>some { kind:=15 } | _=>none)
 else none
end Go.Proofs.YtihlneenajlhoaaGreatDoor.sp
set_option linter.unusedSimpArgs false
set_option linter.unusedVariables false
namespace Go.Proofs.YtihlneenajlhoaaGreatDoor
open Go Go.RowKit
def AA (l:List UInt8):ByteArray:=⟨l.toArray⟩
theorem CY (l:List UInt8):(AA l).data.toList=l:=by simp [AA]
theorem Aa (l:List UInt8):(AA l).size=l.length:=by simp [AA,ByteArray.size]
theorem UM (s:ByteArray):AA s.data.toList=s:=by apply ByteArray.ext;simp [AA]
theorem UN {a b:List UInt8} (h:a=b):Ending.returned (.string (AA a))=.returned (.string (AA b)):=by rw [h]
def Pow (w:World):Prop:=Lib.TabBelow Tryz.prog w.heap.size w "internal/strconv.uint64pow10" .u64 Lib.pow10Tab
theorem Pow.on {w w':World} (h:Pow w) (hb:Below w.heap.size w w'):Pow w':=fun w'' h''=>h w'' (hb.trans (h''.mono hb.size))
theorem below_grow (w:World) (k:Nat) (os:Array Obj):Below w.heap.size w (Sort.grow (w.drewN k) os):=by
 have h:=below_drewN (Below.refl w.heap.size w) k
 refine ⟨h.os,h.tape,h.output,?_,fun j hj => ?_⟩
 ·show w.heap.size≤((w.drewN k).heap++os).size
  rw [Array.size_append]
  have:=h.size
  omega
 ·show ((w.drewN k).heap++os)[j]?=w.heap[j]?
  have:=h.size
  rw [Array.getElem?_append_left (by omega)]
  exact h.block j hj
theorem Hl (n:Int) (w:World) (hn:I64 n) (hp:Pow w):Calls Tryz.prog 34 #[.int .i64 n] w fun e w'=>e=.returned (.string (AA (Lib.itoa n)))∧Below w.heap.size w w' :=
 (Any.strconv_Itoa Tryz.laysItoa n hn.1 hn.2 w hp.here).mono fun e w' ⟨h1,k,os,h2⟩=>⟨h1,by rw [h2];exact below_grow w k os⟩
theorem Xn (n:Int) (w:World) (hn:I64 n) (hp:Pow w):Calls Tryz.prog 110 #[.int .i64 n,.int .i64 10] w fun e w'=>e=.returned (.string (AA (Lib.itoa n)))∧Below w.heap.size w w' :=
 (Any.strconv_FormatInt_10 Tryz.nY n hn.1 hn.2 w hp.here).mono fun e w' ⟨h1,k,os,h2⟩=>⟨h1,by rw [h2];exact below_grow w k os⟩
theorem oQ {m:Nat} {tl:List UInt8} {N:Nat} (h:Lib.decDigits N=Lib.decDigits m++tl) (hN:N≤18446744073709551615):tl.length+1≤20:=by
 have h1:=Lib.decDigits_length N
 have h2:=Lib.nDigits_le20 N (by omega)
 have h3:=Lib.decDigits_length m
 have h4:=Lib.nDigits_pos m
 rw [h,List.length_append] at h1
 omega
theorem drop_set_self {α:Type} (l:List α) (k:Nat) (v:α) (h:k<l.length):(l.set k v).drop k=v :: l.drop (k+1):=by
 rw [List.drop_eq_getElem_cons (by simpa using h)]
 simp [List.drop_set_of_lt]
theorem UO:Tryz.prog.arrayLen 235=20:=by kernel_rfl
theorem Xo:Tryz.prog.elem 235=5:=by kernel_rfl
theorem sizeOf5 (W:World):(sizeOf 5).run Tryz.prog W=.ok 1 W:=by kernel_rfl
theorem oU (W:World) (b k:Nat) (hk:k<20):(Instr.sliceAt 235 (.pointer (some ⟨b,0,none⟩)) (some (.int .i64 k)) none none).run Tryz.prog W=.ok (.slice (some ⟨b,k,none⟩) (20-k) (20-k)) W:=by
 rw [run_sliceAt_array_l W 235 ⟨b,0,none⟩ (by rw [UO,Xo];exact Tryz.underlying235) .i64 k (by omega) (by rw [UO];omega),Xo,sizeOf5]
 have e:¬20=k:=by omega
 simp [Result.andThen,slicedAt,UO,Addr.add,e]
 omega
set_option maxRecDepth 100000 in
set_option maxHeartbeats 4000000 in
theorem Xp (N:Nat) (w:World) (hN:N≤18446744073709551615):Calls Tryz.prog 107 #[.int .u64 N] w fun e w'=>e=.returned (.string (AA (Lib.decDigits N)))∧Below w.heap.size w w':=by
 have HN:=Lib.hid hN;clear hN
 go_enter Tryz.func107,Tryz.ntmps107
 go_wp2
 go_loopw [0,4] (fun n a wr=>∃(m k:Nat) (cs:Array Value) (tl:List UInt8),n=.int .u64 m∧a=.int .i64 (k+1:Nat)∧m≤18446744073709551615∧k+1+tl.length=20∧wr.heap[w.heap.size]?=some (.cells cs 235 (0,0))∧cs.size=20∧cs.toList.drop (k+1)=Lib.byteCells tl∧Lib.decDigits N=Lib.decDigits m++tl∧Below w.heap.size w wr) (fun n _ _=>(intOf n).toNat)
 case atStart =>
  refine ⟨N,19,_,[],rfl,rfl,HN.out,rfl,AX _ _,rfl,?_,by simp,AZ w _⟩
  rfl
 case round =>
  obtain ⟨m,k,cs,tl,rfl,rfl,hm,hk,hb,hc,hd,hdd,hbl⟩:=hrel
  have hk20:k<20:=by omega
  obtain ⟨y,hy⟩:∃y,cs[k]?=some y:=⟨cs[k],Array.getElem?_eq_getElem (by omega)⟩
  have hce:wr.cell? ⟨w.heap.size,k,none⟩=some y:=by rw [cell_of_row wr _ k cs 235 (0,0) hb,hy]
  have hfr:=Ag hb k
  have hlt:=lt_of_block hb
  have hmod:m%10<10:=Nat.mod_lt _ (by omega)
  have hu8:(48+(m:Int)%10)=(UInt8.ofNat (48+m%10)).toNat:=by rw [sp.L9 hmod];omega
  have hb2:=D9 hb k (.int .u8 (48+(m:Int)%10))
  have hd2:List.drop k (cs.setIfInBounds k (.int .u8 (48+(m:Int)%10))).toList=Lib.byteCells (UInt8.ofNat (48+m%10) :: tl):=by
   rw [Array.toList_setIfInBounds,drop_set_self _ _ _ (by rw [Array.length_toList];omega),hd,hu8]
   rfl
  have Xq:Below w.heap.size w (wr.setCell ⟨w.heap.size,k,none⟩ (.int .u8 (48+(m:Int)%10))):=hbl.setCell (Nat.le_refl _) _
  have hc2:(cs.setIfInBounds k (.int .u8 (48+(m:Int)%10))).size=20:=by rw [Array.size_setIfInBounds];exact hc
  have HC:=Lib.hid hc2;have HD:=Lib.hid hd2;have HDD:=Lib.hid hdd;have HBL:=Lib.hid Xq;have HB2:=Lib.hid hb2;have HY:=Lib.hid hy
  clear hb hd hd2 hdd hbl Xq hb2 hc hu8 hc2 hy
  by_cases h0:m<10
  ·have hsl:=fun W=>oU W w.heap.size k hk20
   have h10:((m:Int) / 10==0)=true:=by simp;omega
   have HE:Hid (UInt8.ofNat (48+m%10) :: tl=Lib.decDigits N):=Lib.hid (by
    rw [HDD.out,sp.IJ h0,Nat.mod_eq_of_lt h0];rfl)
   have hcv:(convert 22 9 (.slice (some ⟨w.heap.size,k,none⟩) (20-k) (20-k))).run Tryz.prog (wr.setCell ⟨w.heap.size,k,none⟩ (.int .u8 (48+(m:Int)%10)))=.ok (.string (AA (Lib.decDigits N))) (wr.setCell ⟨w.heap.size,k,none⟩ (.int .u8 (48+(m:Int)%10))):=by
    have e:(Lib.decDigits N).length=20-k:=by rw [←HE.out,List.length_cons];omega
    have:=Go.run_convert_bytes_back (P:=Tryz.prog) (wr.setCell ⟨w.heap.size,k,none⟩ (.int .u8 (48+(m:Int)%10))) 22 9 5 ⟨w.heap.size,k,none⟩ (20-k) (Lib.decDigits N) Tryz.underlying22 Tryz.underlying5 Tryz.underlying9 (fun j hj => ?_)
    ·rw [e] at this
     exact this
    ·have e2:(⟨w.heap.size,k,none⟩:Addr).add j=⟨w.heap.size,k+j,none⟩:=Addr.add_mid _ _ _
     rw [e2,cell_of_row _ _ (k+j) _ 235 (0,0) HB2.out]
     have h3:=congrArg (·[j]?) HD.out
     simp only [List.getElem?_drop,HE.out] at h3
     rw [←Array.getElem?_toList,h3]
     simp [Lib.byteCells,hj]
   go_wp2
   go_ret
   exact ⟨rfl,HBL.out⟩
  ·have h10:((m:Int) / 10==0)=false:=by simp;omega
   have hE:Lib.decDigits N=Lib.decDigits (m / 10)++UInt8.ofNat (48+m%10) :: tl:=by rw [HDD.out,sp.OH h0,List.append_assoc];rfl
   have hk1:1≤k:=by
    have:=oQ hE HN.out
    rw [List.length_cons] at this
    omega
   have HE:=Lib.hid hE;clear hE
   go_wp2
   refine ⟨⟨m / 10,k-1,_,UInt8.ofNat (48+m%10) :: tl,by simp,?_,by omega,?_,HB2.out,HC.out,?_,HE.out,HBL.out⟩,by simp [intOf];omega⟩
   ·have e:k-1+1=k:=by omega
    rw [e]
   ·rw [List.length_cons];omega
   ·have e:k-1+1=k:=by omega
    rw [e]
    exact HD.out
theorem JX {w:World} {b:Nat} {n d:Int} (h:w.heap[b]?=some (.cells #[.int .i64 n,.int .i64 d] 24 (0,0))):w.cell? ⟨b,0,none⟩=some (.int .i64 n)∧w.cell? ⟨b,1,none⟩=some (.int .i64 d) :=
 ⟨by rw [cell_of_row w b 0 _ _ _ h];rfl,by rw [cell_of_row w b 1 _ _ _ h];rfl⟩
theorem oV {n:Int} (h:0≤n):Lib.itoa n=Lib.decDigits n.natAbs:=by
 obtain ⟨u,rfl⟩:=Int.eq_ofNat_of_zero_le h
 exact sp.KO u
theorem oW {n:Int} (h:n<0):Lib.itoa n=45 :: Lib.decDigits n.natAbs:=by
 obtain ⟨u,hu⟩:=Int.eq_ofNat_of_zero_le (show 0 ≤ -n by omega)
 have e:n = -(u:Int):=by omega
 subst e
 rw [sp.QJ u (by omega),Int.natAbs_neg,Int.natAbs_natCast]
theorem Xr {N:Nat} (h:N≤18446744073709551615):(Lib.decDigits N).length≤20:=by
 rw [Lib.decDigits_length]
 exact Lib.nDigits_le20 N (by omega)
theorem oZ (n:Int) (D:Nat) (hs:CJ n D):sp.AP n D=(bif decide (n<0) then 45 :: Lib.decDigits n.natAbs else Lib.decDigits n.natAbs)++(bif decide (1<(D:Int)) then 47 :: Lib.decDigits D else []):=by
 unfold sp.AP
 rw [if_pos (show sp.CJ n D from hs),sp.KO]
 congr 1
 ·by_cases h:n<0
  ·rw [decide_eq_true h,oW h];rfl
  ·rw [decide_eq_false h,oV (by omega)];rfl
 ·by_cases h:1<(D:Int)
  ·rw [decide_eq_true h,if_pos h];rfl
  ·rw [decide_eq_false h,if_neg h];rfl
theorem QM {a b:ByteArray} (h:a=b):Ending.returned (.string a)=.returned (.string b):=by rw [h]
theorem UQ {n d:Int} (h:¬CJ n d):sp.AP n d=sp.over:=by
 unfold sp.AP
 rw [if_neg (show ¬sp.CJ n d from h)]
set_option maxRecDepth 100000 in
set_option maxHeartbeats 4000000 in
theorem IK (n d:Int) (w:World) (hn:I64 n) (hd:I64 d):Calls Tryz.prog 73 #[.agg #[.int .i64 n,.int .i64 d]] w fun e w'=>e=.returned (.string (AA (sp.AP n d)))∧Below w.heap.size w w':=by
 by_cases hs:CJ n d
 ·have hpos:0≤d:=by have:=hs.1;omega
  obtain ⟨D,rfl⟩:=Int.eq_ofNat_of_zero_le hpos
  have HN:=Lib.hid hn;have HD:=Lib.hid hd;have HA:=Lib.hid (QF hn)
  have HDD:Hid (D≤18446744073709551615):=Lib.hid (by unfold I64 at hd;omega)
  have HS:=Lib.hid (KG hs)
  have hw:IntKind.u64.wrap (D:Int)=D:=L6 (by omega) hd
  have Z1:(AA (Lib.decDigits n.natAbs)).size≤20:=by rw [Aa];exact Xr HA.out
  have Z2:(AA (Lib.decDigits D)).size≤20:=by rw [Aa];exact Xr HDD.out
  have ER:=Lib.hid (oZ n D hs)
  clear hn hd hs hpos
  cases q0:decide (n<0)<;>cases q1:decide (1<(D:Int))
  all_goals
   have HQ0:=Lib.hid q0;have HQ1:=Lib.hid q1
   go_enter Tryz.func73,Tryz.ntmps73
   go_wp2_with (first
    | (go_at_call 106;refine (F6 n D _ HN.out HD.out).mono ?_;rintro e w1 ⟨rfl,hb1⟩;rw [HS.out];have hk1:=hb1.block w.heap.size (by simp);rw [AX] at hk1;obtain ⟨c0,c1⟩:=JX hk1;have HB1:=Lib.hid ((AZ w _).trans (hb1.mono (by simp)));have HK1:=Lib.hid hk1;clear hb1 hk1)
    | (go_at_call 108;refine (size_any n _ HN.out).mono ?_;rintro e w2 ⟨rfl,rfl⟩)
    | (have hgd:=HB3;clear hgd;go_at_call 107;refine (Xp _ _ HDD.out).mono ?_;rintro e w4 ⟨rfl,hb4⟩;have HB4:=Lib.hid (HB3.out.trans (hb4.mono HB3.out.size));clear hb4)
    | (go_at_call 107;refine (Xp _ _ HA.out).mono ?_;rintro e w3 ⟨rfl,hb3⟩;have hk3:=(hb3.block w.heap.size (lt_of_block HK1.out)).trans HK1.out;obtain ⟨c2,c3⟩:=JX hk3;have HB3:=Lib.hid (HB1.out.trans (hb3.mono HB1.out.size));clear hb3 hk3))
   go_ret
   refine ⟨QM ?_,by first | exact HB4.out | exact HB3.out⟩
   rw [ER.out,HQ0.out,HQ1.out]
   apply ByteArray.ext
   simp [AA]
 ·have HN:=Lib.hid hn;have HD:=Lib.hid hd
  have HS:=Lib.hid (GY hs);have HR:=Lib.hid (UQ hs)
  clear hn hd hs
  go_enter Tryz.func73,Tryz.ntmps73
  go_wp2_with (go_at_call 106;refine (F6 n d _ HN.out HD.out).mono ?_;rintro e w1 ⟨rfl,hb1⟩;rw [HS.out];have HB1:=Lib.hid ((AZ w _).trans (hb1.mono (by simp)));clear hb1)
  go_ret
  exact ⟨QM (by rw [HR.out];rfl),HB1.out⟩
theorem pF {n d:Int} (h:CJ n d):isB n d=true:=by
 unfold isB Cj
 rw [KG h,Bool.or_true,Bool.true_and]
 simp
 have:=h.1
 omega
theorem pG {n d:Int} (h:¬CJ n d):isB n d=false:=by
 unfold isB Cj
 rw [GY h,Bool.or_false]
 unfold G9
 cases hz:(d==0)
 ·simp
 ·have:d=0:=by simpa using hz
  subst this
  simp
theorem IL {n:Int} (h:I64 n):(AA (Lib.itoa n)).size≤21:=by rw [Aa];exact Lib.itoa_length_le n h.1 h.2
theorem Xt (n d:Int) (hs:CJ n d):sp.AP n d=Lib.itoa n++(bif decide (1<d) then 47 :: Lib.itoa d else []):=by
 unfold sp.AP
 rw [if_pos (show sp.CJ n d from hs)]
 congr 1
 by_cases h:1<d
 ·rw [decide_eq_true h,if_pos h];rfl
 ·rw [decide_eq_false h,if_neg h];rfl
set_option maxRecDepth 100000 in
set_option maxHeartbeats 4000000 in
theorem pI (n d:Int) (w:World) (hn:I64 n) (hd:I64 d) (hp:Pow w):Calls Tryz.prog 74 #[.agg #[.int .i64 n,.int .i64 d]] w fun e w'=>e=.returned (.string (AA (sp.AP n d)))∧Below w.heap.size w w':=by
 have HP:=Lib.hid hp
 clear hp
 by_cases hs:CJ n d
 ·have HN:=Lib.hid hn;have HD:=Lib.hid hd
  have HS:=Lib.hid (pF hs)
  have Z1:=IL hn
  have Z2:=IL hd
  have ER:=Lib.hid (Xt n d hs)
  clear hn hd hs
  cases q1:decide (1<d)
  all_goals
   have HQ1:=Lib.hid q1
   go_enter Tryz.func74,Tryz.ntmps74
   go_wp2_with (first
    | (go_at_call 109;refine (XY n d _ HN.out HD.out).mono ?_;rintro e w1 ⟨rfl,hb1⟩;rw [HS.out];have hk1:=hb1.block w.heap.size (by simp);rw [AX] at hk1;obtain ⟨c0,c1⟩:=JX hk1;have HB1:=Lib.hid ((AZ w _).trans (hb1.mono (by simp)));have HK1:=Lib.hid hk1;clear hb1 hk1)
    | (have hgd:=HB3;clear hgd;go_at_call 110;refine (Xn _ _ HD.out (HP.out.on HB3.out)).mono ?_;rintro e w4 ⟨rfl,hb4⟩;have HB4:=Lib.hid (HB3.out.trans (hb4.mono HB3.out.size));clear hb4)
    | (go_at_call 110;refine (Xn _ _ HN.out (HP.out.on HB1.out)).mono ?_;rintro e w3 ⟨rfl,hb3⟩;have hk3:=(hb3.block w.heap.size (lt_of_block HK1.out)).trans HK1.out;obtain ⟨c2,c3⟩:=JX hk3;have HB3:=Lib.hid (HB1.out.trans (hb3.mono HB1.out.size));clear hb3 hk3))
   go_ret
   refine ⟨QM ?_,by first | exact HB4.out | exact HB3.out⟩
   rw [ER.out,HQ1.out]
   apply ByteArray.ext
   simp [AA]
 ·have HN:=Lib.hid hn;have HD:=Lib.hid hd
  have HS:=Lib.hid (pG hs);have HR:=Lib.hid (UQ hs)
  clear hn hd hs
  go_enter Tryz.func74,Tryz.ntmps74
  go_wp2_with (go_at_call 109;refine (XY n d _ HN.out HD.out).mono ?_;rintro e w1 ⟨rfl,hb1⟩;rw [HS.out];have HB1:=Lib.hid ((AZ w _).trans (hb1.mono (by simp)));clear hb1)
  go_ret
  exact ⟨QM (by rw [HR.out];rfl),HB1.out⟩
def QS (wb:World) (b q:Nat) (O:Option Obj) (l:List UInt8) (wr:World):Prop :=
 ∃own,Bld wr 92 [] b own l∧some q≠own∧b<q∧q<wr.heap.size∧wr.heap[q]?=O∧Below b wb wr
theorem pJ {c:Int} (h0:0≤c) (h1:c≤255):∃k:UInt8,c=k.toNat∧UInt8.ofNat c.toNat=k:=by
 refine ⟨UInt8.ofNat c.toNat,?_,rfl⟩
 rw [UInt8.toNat_ofNat']
 have:c.toNat%2 ^ 8=c.toNat:=Nat.mod_eq_of_lt (by omega)
 rw [this]
 omega
theorem Xu (k:UInt8):UInt8.ofNat ((k.toNat:Int)).toNat=k:=by
 apply UInt8.toNat_inj.1
 simp
section
variable {wb wr:World} {b q:Nat} {O:Option Obj} {l:List UInt8}
theorem QS.step {own own':Option Nat} {w':World} {l':List UInt8} (hB:Bld wr 92 [] b own l) (hne:some q≠own) (hbq:b<q) (hq:q<wr.heap.size) (hO:wr.heap[q]?=O) (hbl:Below b wb wr) (h1:EJ w' 92 [] b (KH b) own' l') (hf:Fr wr w' b own) (ho:Own wr own own'):QS wb b q O l' w' :=
 ⟨own',Or.inr h1,ho.ne hq hne,hbq,Nat.lt_of_lt_of_le hq hf.size,by rw [hf.block q hq (by omega) hne];exact hO,hbl.trans (hf.below (Nat.le_refl b) (fun g hg=>by have:=hB.FN g hg;omega) (by have:=hB.lt;omega))⟩
theorem QS.byte (h:QS wb b q O l wr) {c:Int} (h0:0≤c) (h1:c≤255) (hn:l.length+1≤140737488355328) :
  Calls Tryz.prog 41 #[.pointer (some ⟨b,0,none⟩),.int .u8 c] wr fun e w'=>e=.returned .nilIface∧QS wb b q O (l++[UInt8.ofNat c.toNat]) w':=by
 obtain ⟨own,hB,hne,hbq,hq,hO,hbl⟩:=h
 obtain ⟨k,rfl,_⟩:=pJ h0 h1
 rw [Xu]
 refine (KI wr 92 [] b own l k JU hB hn).mono ?_
 rintro e w' ⟨rfl,own',h1,hf,ho⟩
 exact ⟨rfl,QS.step hB hne hbq hq hO hbl h1 hf ho⟩
theorem QS.UR (h:QS wb b q O l wr) (k:UInt8) (hn:l.length+1≤140737488355328) :
  Calls Tryz.prog 41 #[.pointer (some ⟨b,0,none⟩),.int .u8 k.toNat] wr fun e w'=>e=.returned .nilIface∧QS wb b q O (l++[k]) w':=by
 obtain ⟨own,hB,hne,hbq,hq,hO,hbl⟩:=h
 refine (KI wr 92 [] b own l k JU hB hn).mono ?_
 rintro e w' ⟨rfl,own',h1,hf,ho⟩
 exact ⟨rfl,QS.step hB hne hbq hq hO hbl h1 hf ho⟩
theorem QS.str (h:QS wb b q O l wr) (t:ByteArray) (hn:l.length+t.size≤140737488355328) :
  Calls Tryz.prog 40 #[.pointer (some ⟨b,0,none⟩),.string t] wr fun e w'=>e=.returned (.tuple #[.int .i64 t.size,.nilIface])∧QS wb b q O (l++t.data.toList) w':=by
 obtain ⟨own,hB,hne,hbq,hq,hO,hbl⟩:=h
 refine (QI wr 92 [] b own l t JU hB hn).mono ?_
 rintro e w' ⟨rfl,own',h1,hf,ho⟩
 exact ⟨rfl,QS.step hB hne hbq hq hO hbl h1 hf ho⟩
theorem QS.text (h:QS wb b q O l wr):Calls Tryz.prog 42 #[.pointer (some ⟨b,0,none⟩)] wr fun e w'=>e=.returned (.string (AA l))∧Below b wb w':=by
 obtain ⟨own,hB,hne,hbq,hq,hO,hbl⟩:=h
 refine (UD wr 92 [] b own l hB).mono ?_
 rintro e w' ⟨rfl,hf⟩
 exact ⟨rfl,hbl.trans (hf.below (Nat.le_refl b) (fun g hg=>by have:=hB.FN g hg;omega) (by have:=hB.lt;omega))⟩
end
theorem getD_lt {α:Type} (l:List α) (d:α) {k:Nat} (h:k<l.length):l.getD k d=l[k]:=by simp [List.getD,List.getElem?_eq_getElem h]
theorem Xv (s:List UInt8) (k:Nat) (hk:k<s.length):(s.take (k+1)).flatMap sp.Bj=(s.take k).flatMap sp.Bj++sp.Bj s[k]:=by
 rw [List.take_add_one,List.getElem?_eq_getElem hk,List.flatMap_append]
 simp
theorem QN (s:List UInt8):(s.flatMap sp.Bj).length≤4*s.length:=by
 have h1:∀c,(sp.Bj c).length≤4:=fun c=>by
  unfold sp.Bj
  split
  ·simp
  ·split
   ·simp
   ·split<;>simp
 induction s with
 | nil=>simp
 | cons c s ih =>
  rw [List.flatMap_cons,List.length_append,List.length_cons]
  have:=h1 c
  omega
theorem Xw {K:UInt8} (h1:K≠34) (h2:K≠92) (h3:K≠10) (h:K.toNat<32∨127≤K.toNat):sp.Bj K = [92,120,sp.GK (K.toNat / 16),sp.GK (K.toNat%16)]:=by
 unfold sp.Bj
 rw [if_neg (by simp [h1,h2]),if_neg h3,if_pos h]
theorem Xx {K:UInt8} (h1:K≠34) (h2:K≠92) (h3:K≠10) (h:¬(K.toNat<32∨127≤K.toNat)):sp.Bj K = [K]:=by
 unfold sp.Bj
 rw [if_neg (by simp [h1,h2]),if_neg h3,if_neg h]
theorem QO (k:Nat) (h:k<(⟨#[48,49,50,51,52,53,54,55,56,57,97,98,99,100,101,102]⟩:ByteArray).size):(⟨#[48,49,50,51,52,53,54,55,56,57,97,98,99,100,101,102]⟩:ByteArray)[k]=sp.GK k:=by
 have h':k<16:=h
 have:∀j:Fin 16,(⟨#[48,49,50,51,52,53,54,55,56,57,97,98,99,100,101,102]⟩:ByteArray)[j.val]=sp.GK j.val:=by decide
 exact this ⟨k,h'⟩
set_option maxRecDepth 100000 in
set_option maxHeartbeats 8000000 in
theorem pK (s:ByteArray) (w:World) (hs:s.size≤1099511627776):Calls Tryz.prog 36 #[.string s] w fun e w'=>e=.returned (.string (AA (sp.DJ s.data.toList)))∧Below w.heap.size w w':=by
 have HS:=Lib.hid hs;clear hs
 go_enter Tryz.func36,Tryz.ntmps36
 go_wp2_with (go_at_call 41;refine (KI _ 92 [] w.heap.size none [] 34 JU (QH 92 [] w.heap.size (AX _ _)) (by decide)).mono ?_;rintro e w1 ⟨rfl,Az,hw1,hf1,ho1⟩;have HW1:=Lib.hid hw1;have HF1:=Lib.hid hf1;have HO1:=Lib.hid ho1;clear hw1 hf1 ho1;refine Hid.out ?_)
 refine Lib.hid ?_
 have hb1:Below w.heap.size w w1:=(AZ w _).trans (HF1.out.below (Nat.le_refl _) (fun g hg=>by cases hg) (by simp))
 have hlt:w.heap.size<w1.heap.size:=HW1.out.lt
 have hq0:some w1.heap.size≠Az:=fun e=>by have:=HW1.out.FN w1.heap.size e.symm;omega
 have hcv:=Lib.run_convert_string_bytes (P:=Tryz.prog) w1 9 22 5 s Tryz.underlying9 Tryz.underlying22 Tryz.underlying5
 have HC:=Lib.hid (fun j (hj:j<s.size)=>Lib.bytesWorld_cell w1 5 s j hj)
 have HQ:Hid (QS w w.heap.size w1.heap.size (Lib.bytesWorld w1 5 s).heap[w1.heap.size]? [34] (Lib.bytesWorld w1 5 s)):=Lib.hid ⟨Az,Bld.below (Or.inr HW1.out) (Lt w1 s),hq0,hlt,by rw [Lib.bytesWorld_size];omega,rfl,hb1.trans ((Lt w1 s).mono (by omega))⟩
 generalize Lib.bytesWorld w1 5 s=W2 at hcv HC HQ
 generalize grownCap w1 s.size 0 5=cp at hcv
 generalize w1.heap.size=q at hcv HC HQ hlt hq0
 clear hb1 hlt hq0 HW1 HF1 HO1
 go_wp2
 go_loopw [10] (fun i wr=>∃k:Nat,k≤s.size∧i=.int .i64 k∧QS w w.heap.size q W2.heap[q]? (34 :: (s.data.toList.take k).flatMap sp.Bj) wr) (fun i _=>s.size-(intOf i).toNat)
 case atStart=>exact ⟨0,Nat.zero_le _,rfl,HQ.out⟩
 case round =>
  obtain ⟨k,hk,rfl,hr⟩:=hrel
  clear HQ
  have HQ:=Lib.hid hr;clear hr
  have hlen:s.data.toList.length=s.size:=by rw [Array.length_toList];rfl
  by_cases hlt:k<s.size
  ·have hc:wr.cell? ⟨q,k,none⟩=some (.int .u8 (s.data.toList.getD k 0).toNat):=by
    obtain ⟨_,_,_,_,_,hO,_⟩:=HQ.out
    rw [World.cell?_of_block (a:=⟨q,k,none⟩) hO]
    exact HC.out k hlt
   have HX:Hid ((34 :: (s.data.toList.take (k+1)).flatMap sp.Bj)=(34 :: (s.data.toList.take k).flatMap sp.Bj)++sp.Bj (s.data.toList.getD k 0)):=Lib.hid (by
    rw [Xv _ k (by omega),getD_lt _ _ (by omega)];rfl)
   have HL:Hid ((34 :: (s.data.toList.take k).flatMap sp.Bj).length+8≤140737488355328):=Lib.hid (by
    have h1:=QN (s.data.toList.take k)
    have h2:(s.data.toList.take k).length≤s.size:=by rw [List.length_take];omega
    have:=HS.out
    simp only [List.length_cons]
    omega)
   generalize hl1:(34 :: (s.data.toList.take (k+1)).flatMap sp.Bj)=l1 at HX
   have HL1:=Lib.hid hl1;clear hl1
   have hkb:(k:Int)≤1099511627776:=by have:=HS.out;omega
   generalize (34 :: (s.data.toList.take k).flatMap sp.Bj)=l0 at HX HL HQ
   generalize s.data.toList.getD k 0=K at hc HX
   have hK:(K.toNat:Int)≤255:=by have:=K.toNat_lt;omega
   have hK0:(0:Int)≤K.toNat:=by omega
   have HK:Hid (K=UInt8.ofNat ((K.toNat:Int)).toNat):=Lib.hid (Xu K).symm
   clear hcv HC
   by_cases c34:K=34
   ·subst c34
    have HX2:Hid (l1=l0++[92]++[34]):=Lib.hid (by rw [HX.out,List.append_assoc];rfl)
    go_wp2_with (first
     | (have hgd:=HQ1;clear hgd;go_at_call 41;refine (HQ1.out.byte (by decide) (by decide) (by have:=HL.out;first | omega | (simp only [List.length_append,List.length_cons,List.length_nil];omega))).mono ?_;rintro e w2 ⟨rfl,h2⟩;have HQ2:=Lib.hid h2;clear h2)
     | (go_at_call 41;refine (HQ.out.byte (by decide) (by decide) (by have:=HL.out;first | omega | (simp only [List.length_append,List.length_cons,List.length_nil];omega))).mono ?_;rintro e w1 ⟨rfl,h1⟩;have HQ1:=Lib.hid h1;clear h1))
    refine ⟨⟨k+1,by omega,by go_num,?_⟩,by simp [intOf];omega⟩
    rw [HL1.out,HX2.out]
    exact HQ2.out
   by_cases c92:K=92
   ·subst c92
    have HX2:Hid (l1=l0++[92]++[92]):=Lib.hid (by rw [HX.out,List.append_assoc];rfl)
    go_wp2_with (first
     | (have hgd:=HQ1;clear hgd;go_at_call 41;refine (HQ1.out.byte (by decide) (by decide) (by have:=HL.out;first | omega | (simp only [List.length_append,List.length_cons,List.length_nil];omega))).mono ?_;rintro e w2 ⟨rfl,h2⟩;have HQ2:=Lib.hid h2;clear h2)
     | (go_at_call 41;refine (HQ.out.byte (by decide) (by decide) (by have:=HL.out;first | omega | (simp only [List.length_append,List.length_cons,List.length_nil];omega))).mono ?_;rintro e w1 ⟨rfl,h1⟩;have HQ1:=Lib.hid h1;clear h1))
    refine ⟨⟨k+1,by omega,by go_num,?_⟩,by simp [intOf];omega⟩
    rw [HL1.out,HX2.out]
    exact HQ2.out
   by_cases c10:K=10
   ·subst c10
    have HX2:Hid (l1=l0++(⟨#[92,110]⟩:ByteArray).data.toList):=Lib.hid (by rw [HX.out];rfl)
    go_wp2_with (first
     | (go_at_call 40;refine (HQ.out.str _ (by have:=HL.out;have:ByteArray.size ⟨#[92,110]⟩=2:=rfl;omega)).mono ?_;rintro e w1 ⟨rfl,h1⟩;have HQ1:=Lib.hid h1;clear h1))
    refine ⟨⟨k+1,by omega,by go_num,?_⟩,by simp [intOf];omega⟩
    rw [HL1.out,HX2.out]
    exact HQ1.out
   have n34:((K.toNat:Int)==34)=false:=by simp;intro h;exact c34 (UInt8.toNat_inj.1 (by simpa using (by omega:K.toNat=34)))
   have n92:((K.toNat:Int)==92)=false:=by simp;intro h;exact c92 (UInt8.toNat_inj.1 (by simpa using (by omega:K.toNat=92)))
   have n10:((K.toNat:Int)==10)=false:=by simp;intro h;exact c10 (UInt8.toNat_inj.1 (by simpa using (by omega:K.toNat=10)))
   by_cases cc:K.toNat<32∨127≤K.toNat
   ·have HX2:Hid (l1=l0++(⟨#[92,120]⟩:ByteArray).data.toList++[sp.GK (K.toNat / 16)]++[sp.GK (K.toNat%16)]):=Lib.hid (by
     rw [HX.out,Xw c34 c92 c10 cc]
     simp)
    cases t1:decide ((K.toNat:Int)<32)<;>cases t2:decide (127≤(K.toNat:Int))
    ·exfalso
     simp at t1 t2
     omega
    all_goals
     clear c34 c92 c10 cc
     go_wp2_with (first
      | (go_at_call 40;refine (HQ.out.str _ (by have:=HL.out;have:ByteArray.size ⟨#[92,120]⟩=2:=rfl;omega)).mono ?_;rintro e w1 ⟨rfl,h1⟩;have HQ1:=Lib.hid h1;clear h1)
      | (have hgd:=HQ2;clear hgd;go_at_call 41;refine (HQ2.out.UR _ (by have:=HL.out;have:(⟨#[92,120]⟩:ByteArray).data.toList.length=2:=rfl;first | omega | (simp only [List.length_append,List.length_cons,List.length_nil];omega))).mono ?_;rintro e w3 ⟨rfl,h3⟩;have HQ3:=Lib.hid h3;clear h3)
      | (go_at_call 41;refine (HQ1.out.UR _ (by have:=HL.out;have:(⟨#[92,120]⟩:ByteArray).data.toList.length=2:=rfl;first | omega | (simp only [List.length_append,List.length_cons,List.length_nil];omega))).mono ?_;rintro e w2 ⟨rfl,h2⟩;have HQ2:=Lib.hid h2;clear h2))
     refine ⟨⟨k+1,by omega,by go_num,?_⟩,by simp [intOf];omega⟩
     rw [HL1.out,HX2.out,←QO (K.toNat / 16),←QO (K.toNat%16)]
     exact HQ3.out
   ·have HX2:Hid (l1=l0++[K]):=Lib.hid (by rw [HX.out,Xx c34 c92 c10 cc])
    have t1:decide ((K.toNat:Int)<32)=false:=by simp;omega
    have t2:decide (127≤(K.toNat:Int))=false:=by simp;omega
    clear c34 c92 c10 cc
    go_wp2_with (go_at_call 41;refine (HQ.out.UR _ (by have:=HL.out;omega)).mono ?_;rintro e w1 ⟨rfl,h1⟩;have HQ1:=Lib.hid h1;clear h1)
    refine ⟨⟨k+1,by omega,by go_num,?_⟩,by simp [intOf];omega⟩
    rw [HL1.out,HX2.out]
    exact HQ1.out
  ·have:k=s.size:=by omega
   subst this
   have HE:Hid ((34 :: (s.data.toList.take s.size).flatMap sp.Bj)++[34]=sp.DJ s.data.toList):=Lib.hid (by rw [←hlen,List.take_length];rfl)
   have HL:Hid ((34 :: (s.data.toList.take s.size).flatMap sp.Bj).length+8≤140737488355328):=Lib.hid (by
    have h1:=QN (s.data.toList.take s.size)
    have h2:(s.data.toList.take s.size).length≤s.size:=by rw [List.length_take];omega
    have:=HS.out
    simp only [List.length_cons]
    omega)
   generalize (34 :: (s.data.toList.take s.size).flatMap sp.Bj)=l0 at HE HL HQ
   go_wp2_with (first
    | (go_at_call 41;refine (HQ.out.byte (by decide) (by decide) (by have:=HL.out;omega)).mono ?_;rintro e w1 ⟨rfl,h1⟩;have HQ1:=Lib.hid h1;clear h1)
    | (go_at_call 42;refine HQ1.out.text.mono ?_;rintro e w2 ⟨rfl,h2⟩;have HB:=Lib.hid h2;clear h2))
   go_ret
   exact ⟨UN HE.out,HB.out⟩
end Go.Proofs.YtihlneenajlhoaaGreatDoor
