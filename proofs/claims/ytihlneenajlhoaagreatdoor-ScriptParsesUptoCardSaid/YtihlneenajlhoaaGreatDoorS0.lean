/-
 Contracts, for a run of one goroutine, of what looks at a fraction: rat.gcd, rat.size, rat.sure, rat.May; jalousieref1.small, mag, May, Is. Condition: the numbers are of their kinds.
-/
import Derived.Test.YtihlneenajlhoaaGreatDoorProg
import Derived.WalkKit
import Derived.WalkSpells
import Derived.Below
import Derived.OneCell
import Derived.LoopTactic
import Derived.Lib.Hide
import Derived.Lib.ConvBytes
import Derived.BigQuiet
import Derived.BigGuardPart
import Derived.Deep.QuietTactic
import Derived.Outline
import Derived.StillTailTactics
import Derived.WalkLawsBesides
import Derived.ChangeKeysEq
import Derived.Deep.RegionHeld3
import Derived.BigRegion
import Derived.Lib.AppendStr
import Derived.Lib.UnsafeStr
import Derived.Lib.Builder
import Derived.Maps.AppendAt
import Derived.Deep.Quiet
import Derived.RegionTactic
import Derived.ChangeAlike
import Derived.Lib.ItoaLen
import Derived.Shelf.Lay
import Derived.Shelf.LaysM
import Derived.Shelf.Strconv.Itoa3
import Derived.Shelf.Strconv.Itoa4
import Derived.Ground.NamesProg
import Derived.Laws.IdiomStrings
import Derived.Lib.AppendIntMem
set_option linter.unusedSimpArgs false
set_option linter.unusedVariables false
namespace Go.Proofs.YtihlneenajlhoaaGreatDoor
open Go Go.RowKit
theorem bcell {B:Nat} {W w1:World} (hb:Below B W w1):(∀b o,b<B→w1.cell? ⟨b,o,none⟩=W.cell? ⟨b,o,none⟩)∧(∀b o,b<B→w1.frozen? ⟨b,o,none⟩=W.frozen? ⟨b,o,none⟩) :=
 ⟨fun b o h=>hb.cell (p:=⟨b,o,none⟩) h,fun b o h=>hb.frozen (p:=⟨b,o,none⟩) h⟩
theorem ret_bool {a b:Bool} (h:a=b):Ending.returned (.bool a)=.returned (.bool b):=by rw [h]
theorem below_bytes (w:World) (s:ByteArray):Below w.heap.size w (Lib.bytesWorld w 5 s) :=
 ⟨rfl,rfl,rfl,by rw [Lib.bytesWorld_size];omega,fun k hk=>Lib.bytesWorld_at_old w 5 s k hk⟩
theorem ret_u64 {a b:Int} (h:a=b):Ending.returned (.int .u64 a)=.returned (.int .u64 b):=by rw [h]
set_option maxRecDepth 100000 in
theorem gcd_any (x y:Nat) (w:World) (hx:x≤18446744073709551615) (hy:y≤18446744073709551615):Calls Tryz.prog 147 #[.int .u64 x,.int .u64 y] w fun e w'=>e=.returned (.int .u64 (Nat.gcd x y))∧w=w':=by
 have HX:=Lib.hid hx;have HY:=Lib.hid hy;clear hx hy
 go_enter Tryz.func147,Tryz.ntmps147
 go_wp2
 go_loop [0,1] (fun a b=>∃p q:Nat,p≤18446744073709551615∧q≤18446744073709551615∧a=.int .u64 p∧b=.int .u64 q∧Nat.gcd p q=Nat.gcd x y) (fun a _=>(intOf a).toNat)
 case atStart=>exact ⟨x,y,HX.out,HY.out,rfl,rfl,rfl⟩
 case round =>
  obtain ⟨p,q,hp,hq,rfl,rfl,hg⟩:=hrel
  have HG:=Lib.hid hg;have HP:=Lib.hid hp;have HQ:=Lib.hid hq;clear hg hp hq
  by_cases h0:p=0
  ·subst h0
   go_wp2
   go_ret
   exact ⟨ret_u64 (by rw [←HG.out,Nat.gcd_zero_left]),rfl⟩
  ·have hp1:(1:Int)≤p:=by omega
   have hne:((p:Int) != 0)=true:=by simp;omega
   have hlt:q%p<p:=Nat.mod_lt _ (by omega)
   have HE:Hid (Nat.gcd (q%p) p=Nat.gcd x y):=Lib.hid (by rw [←Nat.gcd_rec];exact HG.out)
   clear h0
   go_wp2
   exact ⟨⟨q%p,p,by have:=HP.out;omega,HP.out,by simp,rfl,HE.out⟩,by simp [intOf];omega⟩
def I64 (n:Int):Prop := -9223372036854775808≤n∧n≤9223372036854775807
theorem wrap_u64_pos {n:Int} (h0:0≤n) (h:I64 n):IntKind.u64.wrap n=n:=by unfold I64 at h;simp [IntKind.wrap,IntKind.bits,IntKind.signed];omega
theorem size_pos (n:Int) (w:World) (hn:I64 n) (h0:0≤n):Calls Tryz.prog 108 #[.int .i64 n] w fun e w'=>e=.returned (.int .u64 (n.natAbs:Nat))∧w=w':=by
 have HN:=Lib.hid (show IntKind.u64.wrap n=(n.natAbs:Nat) by rw [wrap_u64_pos h0 hn];omega)
 clear hn
 go_enter Tryz.func108,Tryz.ntmps108
 go_wp2
 go_ret
 exact ⟨ret_u64 (by first | exact HN.out | omega),rfl⟩
theorem wrap_u64_neg {n:Int} (h0:n<0) (h:I64 n):IntKind.u64.wrap (-(IntKind.u64.wrap n)) = -n:=by unfold I64 at h;simp [IntKind.wrap,IntKind.bits,IntKind.signed];omega
theorem size_neg (n:Int) (w:World) (hn:I64 n) (h0:n<0):Calls Tryz.prog 108 #[.int .i64 n] w fun e w'=>e=.returned (.int .u64 (n.natAbs:Nat))∧w=w':=by
 have HN:=Lib.hid (show IntKind.u64.wrap (-(IntKind.u64.wrap n))=(n.natAbs:Nat) by rw [wrap_u64_neg h0 hn];omega)
 clear hn
 go_enter Tryz.func108,Tryz.ntmps108
 go_wp2
 go_ret
 exact ⟨ret_u64 (by first | exact HN.out | (simpa using HN.out) | omega),rfl⟩
theorem size_any (n:Int) (w:World) (hn:I64 n):Calls Tryz.prog 108 #[.int .i64 n] w fun e w'=>e=.returned (.int .u64 (n.natAbs:Nat))∧w=w':=by
 by_cases h0:0≤n
 ·exact size_pos n w hn h0
 ·exact size_neg n w hn (by omega)
def SureP (n d:Int):Prop:=1≤d∧n ≠ -9223372036854775808∧Nat.gcd n.natAbs d.toNat=1
noncomputable def sureB (n d:Int):Bool:=@decide (SureP n d) (Classical.propDecidable _)
theorem sureB_yes {n d:Int} (h:SureP n d):sureB n d=true:=by unfold sureB;exact @decide_eq_true _ (Classical.propDecidable _) h
theorem sureB_no {n d:Int} (h:¬SureP n d):sureB n d=false:=by unfold sureB;exact @decide_eq_false _ (Classical.propDecidable _) h
theorem flip {P:Program} {f:FuncId} {args:Array Value} {w:World} {v:Ending} (h:Calls P f args w fun e w'=>e=v∧w=w'):Calls P f args w fun e w'=>e=v∧w'=w:=h.mono fun _ _ ⟨a,b⟩=>⟨a,b.symm⟩
theorem below_drewN {B:Nat} {a w:World} (h:Below B a w) (n:Nat):Below B a (w.drewN n):=⟨h.os,h.tape,h.output,h.size,h.block⟩
theorem sureB_eq {n:Int} {D:Nat} (h1:1≤(D:Int)) (h2:n ≠ -9223372036854775808):(((Nat.gcd n.natAbs D:Nat):Int)==1)=sureB n D:=by
 by_cases h:Nat.gcd n.natAbs D=1
 ·rw [sureB_yes ⟨h1,h2,by simpa using h⟩,h];rfl
 ·rw [sureB_no fun k=>h (by simpa using k.2.2)]
  simp;omega
theorem natAbs_le {n:Int} (h:I64 n):n.natAbs≤18446744073709551615:=by unfold I64 at h;omega
set_option maxRecDepth 100000 in
set_option maxHeartbeats 2000000 in
theorem sure_any (n d:Int) (w:World) (hn:I64 n) (hd:I64 d):Calls Tryz.prog 106 #[.agg #[.int .i64 n,.int .i64 d]] w fun e w'=>e=.returned (.bool (sureB n d))∧Below w.heap.size w w':=by
 by_cases h1:d<1
 ·have HS:=Lib.hid (sureB_no (n:=n) (d:=d) fun h=>by have:=h.1;omega)
  have q1:decide (1≤d)=false:=by simp;omega
  clear hn hd
  go_enter Tryz.func106,Tryz.ntmps106
  go_wp2
  go_quiet (fail)
  go_wp2
  go_ret
  exact ⟨ret_bool HS.out.symm,below_drewN ((Below.refl _ _).alloc (Nat.le_refl _) _) _⟩
 obtain ⟨D,rfl⟩:=Int.eq_ofNat_of_zero_le (show 0≤d by omega)
 have q1:decide (1≤(D:Int))=true:=by simp;omega
 by_cases h2:n = -9223372036854775808
 ·have HS:=Lib.hid (sureB_no (n:=n) (d:=D) fun h=>h.2.1 h2)
  have q2:(n != -9223372036854775808)=false:=by simpa using h2
  clear hn hd h2 h1
  go_enter Tryz.func106,Tryz.ntmps106
  go_wp2
  go_quiet (fail)
  go_wp2
  go_ret
  exact ⟨ret_bool HS.out.symm,below_drewN ((Below.refl _ _).alloc (Nat.le_refl _) _) _⟩
 have HS:=Lib.hid (sureB_eq (n:=n) (D:=D) (by omega) h2)
 have q2:(n != -9223372036854775808)=true:=by simpa using h2
 have HA:=Lib.hid (natAbs_le hn)
 have HN:=Lib.hid hn
 have HD:=Lib.hid (show D≤18446744073709551615 by unfold I64 at hd;omega)
 have hw:IntKind.u64.wrap (D:Int)=D:=wrap_u64_pos (by omega) hd
 clear hn hd h2 h1
 go_enter Tryz.func106,Tryz.ntmps106
 go_wp2
 go_quiet ((first | (go_at_call 108;exact Calls.quiet_of_same (flip (size_any _ _ HN.out))) | (go_at_call 147;exact Calls.quiet_of_same (flip (gcd_any _ _ _ HA.out HD.out)))))
 go_wp2
 go_ret
 exact ⟨ret_bool HS.out,below_drewN ((Below.refl _ _).alloc (Nat.le_refl _) _) _⟩
def zeroB (n d:Int):Bool:=(n==0)&&(d==0)
noncomputable def mayB (n d:Int):Bool:=zeroB n d||sureB n d
set_option maxRecDepth 100000 in
theorem small_any (x y:Nat) (w:World) (hx:x≤18446744073709551615) (hy:y≤18446744073709551615):Calls Tryz.prog 149 #[.int .u64 x,.int .u64 y] w fun e w'=>e=.returned (.int .u64 (Nat.gcd x y))∧∃m,w'=w.drewN m:=by
 have HX:=Lib.hid hx;have HY:=Lib.hid hy;clear hx hy
 go_enter Tryz.func149,Tryz.ntmps149
 go_wp2
 go_loopw [0,1] (fun a b wr=>∃p q:Nat,p≤18446744073709551615∧q≤18446744073709551615∧a=.int .u64 p∧b=.int .u64 q∧Nat.gcd p q=Nat.gcd x y∧∃m,wr=w.drewN m) (fun _ b _=>(intOf b).toNat)
 case atStart=>exact ⟨x,y,HX.out,HY.out,rfl,rfl,rfl,0,rfl⟩
 case round =>
  obtain ⟨p,q,hp,hq,rfl,rfl,hg,m,rfl⟩:=hrel
  have HG:=Lib.hid hg;have HP:=Lib.hid hp;have HQ:=Lib.hid hq;clear hg hp hq
  by_cases h0:q=0
  ·subst h0
   go_wp2
   go_ret
   exact ⟨ret_u64 (by rw [←HG.out,Nat.gcd_zero_right]),m,rfl⟩
  ·have hp1:(1:Int)≤q:=by omega
   have hne:decide ((0:Int)<q)=true:=by simp;omega
   have hlt:p%q<q:=Nat.mod_lt _ (by omega)
   have HE:Hid (Nat.gcd q (p%q)=Nat.gcd x y):=Lib.hid (by rw [Nat.gcd_comm,←Nat.gcd_rec,Nat.gcd_comm];exact HG.out)
   clear h0
   go_wp2
   go_region
   go_wp2
   go_roundw
   case rel=>exact ⟨q,p%q,HQ.out,by have:=HQ.out;omega,rfl,by simp,HE.out,m+1,rfl⟩
   case measure=>simp [intOf];omega
theorem mag_pos (n:Int) (w:World) (hn:I64 n) (h0:0≤n):Calls Tryz.prog 150 #[.int .i64 n] w fun e w'=>e=.returned (.int .u64 (n.natAbs:Nat))∧w'=w:=by
 have HN:=Lib.hid (show IntKind.u64.wrap n=(n.natAbs:Nat) by rw [wrap_u64_pos h0 hn];omega)
 clear hn
 go_enter Tryz.func150,Tryz.ntmps150
 go_wp2
 go_ret
 exact ⟨ret_u64 (by first | exact HN.out | omega),rfl⟩
theorem wrap_i64_in {n:Int} (h:I64 n):IntKind.i64.wrap n=n:=by unfold I64 at h;simp [IntKind.wrap,IntKind.bits,IntKind.signed];omega
theorem wrap_u64_in {n:Int} (h0:0≤n) (h:n≤18446744073709551615):IntKind.u64.wrap n=n:=by simp [IntKind.wrap,IntKind.bits,IntKind.signed];omega
theorem mag_neg (n:Int) (w:World) (hn:I64 n) (h0:n<0):Calls Tryz.prog 150 #[.int .i64 n] w fun e w'=>e=.returned (.int .u64 (n.natAbs:Nat))∧w'=w:=by
 have h1:IntKind.i64.wrap (n+1)=n+1:=wrap_i64_in (by unfold I64 at hn ⊢; omega)
 have h2:IntKind.i64.wrap (-(n+1)) = -(n+1):=wrap_i64_in (by unfold I64 at hn ⊢; omega)
 have h3:IntKind.u64.wrap (-(n+1)) = -(n+1):=wrap_u64_in (by omega) (by unfold I64 at hn;omega)
 have h4:IntKind.u64.wrap (-(n+1)+1) = -(n+1)+1:=wrap_u64_in (by omega) (by unfold I64 at hn;omega)
 have HN:Hid (-(n+1)+1=(n.natAbs:Nat)):=Lib.hid (by omega)
 clear hn
 go_enter Tryz.func150,Tryz.ntmps150
 go_wp2
 go_ret
 exact ⟨ret_u64 (by first | exact HN.out | (simpa using HN.out) | omega),rfl⟩
theorem mag_any (n:Int) (w:World) (hn:I64 n):Calls Tryz.prog 150 #[.int .i64 n] w fun e w'=>e=.returned (.int .u64 (n.natAbs:Nat))∧w'=w:=by
 by_cases h0:0≤n
 ·exact mag_pos n w hn h0
 ·exact mag_neg n w hn (by omega)
set_option maxRecDepth 100000 in
theorem rmay_zero (n d:Int) (w:World) (z1:(n==0)=true) (z2:(d==0)=true):Calls Tryz.prog 114 #[.agg #[.int .i64 n,.int .i64 d]] w fun e w'=>e=.returned (.bool (mayB n d))∧Below w.heap.size w w':=by
 have HM:=Lib.hid (show mayB n d=true by unfold mayB zeroB;rw [z1,z2];rfl)
 go_enter Tryz.func114,Tryz.ntmps114
 go_wp2
 go_ret
 exact ⟨ret_bool HM.out.symm,(Below.refl _ _).alloc (Nat.le_refl _) _⟩
set_option maxRecDepth 100000 in
set_option maxHeartbeats 2000000 in
theorem rmay_a (n d:Int) (w:World) (hn:I64 n) (hd:I64 d) (z1:(n==0)=false):Calls Tryz.prog 114 #[.agg #[.int .i64 n,.int .i64 d]] w fun e w'=>e=.returned (.bool (mayB n d))∧Below w.heap.size w w':=by
 have HM:=Lib.hid (show mayB n d=sureB n d by unfold mayB zeroB;rw [z1];simp)
 by_cases h1:d<1
 ·have HS:=Lib.hid (HM.out.trans (sureB_no (n:=n) (d:=d) fun h=>by have:=h.1;omega))
  have q1:decide (1≤d)=false:=by simp;omega
  clear hn hd HM
  go_enter Tryz.func114,Tryz.ntmps114
  go_wp2
  go_quiet (fail)
  go_wp2
  go_ret
  exact ⟨ret_bool HS.out.symm,below_drewN ((Below.refl _ _).alloc (Nat.le_refl _) _) _⟩
 obtain ⟨D,rfl⟩:=Int.eq_ofNat_of_zero_le (show 0≤d by omega)
 have q1:decide (1≤(D:Int))=true:=by simp;omega
 by_cases h2:n = -9223372036854775808
 ·have HS:=Lib.hid (HM.out.trans (sureB_no (n:=n) (d:=D) fun h=>h.2.1 h2))
  have q2:(n != -9223372036854775808)=false:=by simpa using h2
  clear hn hd h2 h1 HM
  go_enter Tryz.func114,Tryz.ntmps114
  go_wp2
  go_quiet (fail)
  go_wp2
  go_ret
  exact ⟨ret_bool HS.out.symm,below_drewN ((Below.refl _ _).alloc (Nat.le_refl _) _) _⟩
 have HS:=Lib.hid ((sureB_eq (n:=n) (D:=D) (by omega) h2).trans HM.out.symm)
 have q2:(n != -9223372036854775808)=true:=by simpa using h2
 have HA:=Lib.hid (natAbs_le hn)
 have HN:=Lib.hid hn
 have HD:=Lib.hid (show D≤18446744073709551615 by unfold I64 at hd;omega)
 have hw:IntKind.u64.wrap (D:Int)=D:=wrap_u64_pos (by omega) hd
 clear hn hd h2 h1 HM
 go_enter Tryz.func114,Tryz.ntmps114
 go_wp2
 go_quiet ((first | (go_at_call 150;exact Calls.quiet_of_same (mag_any _ _ HN.out)) | (go_at_call 149;exact Calls.quiet_of (small_any _ _ _ HA.out HD.out))))
 go_wp2
 go_ret
 exact ⟨ret_bool HS.out,below_drewN ((Below.refl _ _).alloc (Nat.le_refl _) _) _⟩
set_option maxRecDepth 100000 in
set_option maxHeartbeats 2000000 in
theorem rmay_b (n d:Int) (w:World) (hn:I64 n) (hd:I64 d) (z1:(n==0)=true) (z2:(d==0)=false):Calls Tryz.prog 114 #[.agg #[.int .i64 n,.int .i64 d]] w fun e w'=>e=.returned (.bool (mayB n d))∧Below w.heap.size w w':=by
 have HM:=Lib.hid (show mayB n d=sureB n d by unfold mayB zeroB;rw [z1,z2];simp)
 by_cases h1:d<1
 ·have HS:=Lib.hid (HM.out.trans (sureB_no (n:=n) (d:=d) fun h=>by have:=h.1;omega))
  have q1:decide (1≤d)=false:=by simp;omega
  clear hn hd HM
  go_enter Tryz.func114,Tryz.ntmps114
  go_wp2
  go_quiet (fail)
  go_wp2
  go_ret
  exact ⟨ret_bool HS.out.symm,below_drewN ((Below.refl _ _).alloc (Nat.le_refl _) _) _⟩
 obtain ⟨D,rfl⟩:=Int.eq_ofNat_of_zero_le (show 0≤d by omega)
 have q1:decide (1≤(D:Int))=true:=by simp;omega
 by_cases h2:n = -9223372036854775808
 ·have HS:=Lib.hid (HM.out.trans (sureB_no (n:=n) (d:=D) fun h=>h.2.1 h2))
  have q2:(n != -9223372036854775808)=false:=by simpa using h2
  clear hn hd h2 h1 HM
  go_enter Tryz.func114,Tryz.ntmps114
  go_wp2
  go_quiet (fail)
  go_wp2
  go_ret
  exact ⟨ret_bool HS.out.symm,below_drewN ((Below.refl _ _).alloc (Nat.le_refl _) _) _⟩
 have HS:=Lib.hid ((sureB_eq (n:=n) (D:=D) (by omega) h2).trans HM.out.symm)
 have q2:(n != -9223372036854775808)=true:=by simpa using h2
 have HA:=Lib.hid (natAbs_le hn)
 have HN:=Lib.hid hn
 have HD:=Lib.hid (show D≤18446744073709551615 by unfold I64 at hd;omega)
 have hw:IntKind.u64.wrap (D:Int)=D:=wrap_u64_pos (by omega) hd
 clear hn hd h2 h1 HM
 go_enter Tryz.func114,Tryz.ntmps114
 go_wp2
 go_quiet ((first | (go_at_call 150;exact Calls.quiet_of_same (mag_any _ _ HN.out)) | (go_at_call 149;exact Calls.quiet_of (small_any _ _ _ HA.out HD.out))))
 go_wp2
 go_ret
 exact ⟨ret_bool HS.out,below_drewN ((Below.refl _ _).alloc (Nat.le_refl _) _) _⟩
theorem rmay_any (n d:Int) (w:World) (hn:I64 n) (hd:I64 d):Calls Tryz.prog 114 #[.agg #[.int .i64 n,.int .i64 d]] w fun e w'=>e=.returned (.bool (mayB n d))∧Below w.heap.size w w':=by
 cases z1:(n==0) with
 | false=>exact rmay_a n d w hn hd z1
 | true =>
  cases z2:(d==0) with
  | false=>exact rmay_b n d w hn hd z1 z2
  | true=>exact rmay_zero n d w z1 z2
theorem blk_set {w:World} {b:Nat} {c:Array Value} {t:TypeId} {fz:Nat×Nat} (h:w.heap[b]?=some (.cells c t fz)) (o:Nat) (v:Value):(w.setCell ⟨b,o,none⟩ v).heap[b]?=some (.cells (c.setIfInBounds o v) t fz):=by
 have hlt:=lt_of_block h
 have h':w.heap[b]=.cells c t fz:=by simpa [Array.getElem?_eq_getElem hlt] using h
 show (w.heap.modify b _)[b]?=_
 rw [Array.getElem?_eq_getElem (by simpa using hlt),Array.getElem_modify_self,h']
 rfl
theorem blk_cell {w:World} {b:Nat} {c:Array Value} {t:TypeId} {fz:Nat×Nat} (h:w.heap[b]?=some (.cells c t fz)) (o:Nat) (v:Value) (hv:c[o]?=some v):w.cell? ⟨b,o,none⟩=some v:=by rw [cell_of_row w b o c t fz h,hv]
theorem blk_free {w:World} {b:Nat} {c:Array Value} {t:TypeId} (h:w.heap[b]?=some (.cells c t (0,0))) (o:Nat):w.frozen? ⟨b,o,none⟩=false:=by simp [World.frozen?,h]
theorem heap_old (w:World) (o x:Obj) {k:Nat} (h:w.heap[k]?=some x):(w.alloc o).heap[k]?=some x:=(Below.heap_alloc w o k (lt_of_block h)).trans h
theorem heap_alloc_at (w:World) (o:Obj):(w.alloc o).heap[w.heap.size]?=some o:=by
 show (w.heap.push o)[w.heap.size]?=some o
 simp
theorem below_new (w:World) (x:Obj):Below w.heap.size w (w.alloc x):=(Below.refl _ _).alloc (Nat.le_refl _) _
/-! ### append of a text's bytes: where the new row lies -/
section
variable {P:Program} (w:World)
theorem append_string_at (base:Nat) (t u ty e:TypeId) (i:TypeInfo) (ht:P.underlying t=some (.slice e)) (hu:P.underlying u=some .string) (hi:P.info? e=some i) (hz:i.zero=some (.int .u8 0))
  (hsize:i.size=1) (hby:i.bytes=1)
  (v:Value) (n:Nat) (xs:List Value) (hown:w.ownsRow base e 1 v n xs) (s:ByteArray)
  (h63:n+s.size≤maxLen) (hbytes:n+s.size≤140737488355328) (hbase:base≤w.heap.size) :
  ∃v' w',(Builtin.append_ #[t,u] ty #[v,.string s]).run P w=.ok v' w'∧w'.ownsRow base e 1 v' (n+s.size) (xs++Lib.strCells s)∧w.grownBy w' v.ownBlock ∧
   (v'=.slice none 0 0↔v=.slice none 0 0∧s.size=0)∧(v'.ownBlock=v.ownBlock∨v'.ownBlock=some w.heap.size):=by
 obtain ⟨v',w',hr,h2,h3,h4⟩:=Lib.run_append_own_string (P:=P) w base t u ty e i ht hu hi hz hsize hby v n xs hown s h63 hbytes hbase
 refine ⟨v',w',hr,h2,h3,h4,?_⟩
 have hxl:xs.length=n:=by simpa using hown.1
 have hsmall:n+s.size≤9223372036854775807:=by simp only [maxLen] at h63;omega
 rcases hown.2 with ⟨rfl,rfl⟩ | ⟨g,cap,cur,rfl,hbg,hg,hnc,hcm,hcs,htake⟩
 ·by_cases hm:s.size=0
  ·left
   rw [h4.2 ⟨rfl,hm⟩]
  ·right
   have hr2:=run_append_nil_string (P:=P) w t u ty e i (.int .u8 0) ht hu hi hz s (by omega) (by omega) (by rw [hby];omega)
   rw [hr] at hr2
   obtain ⟨rfl,_⟩:=Result.ok.inj hr2
   rfl
 ·by_cases hroom:n+s.size≤cap
  ·left
   have hcs':cur.size=cap:=by simpa using hcs
   have hr2:=Lib.run_append_room_string (P:=P) w t u ty e i ht hu hi hsize g n cap cur hg s hroom (by omega)
   rw [hr] at hr2
   obtain ⟨rfl,_⟩:=Result.ok.inj hr2
   rfl
  ·right
   have holds:∀j u,xs[j]?=some u→w.cell? ((⟨g,0,none⟩:Addr).add j)=some u:=hown.cells (g:=g) rfl
   have hr2:=Lib.run_append_grow_string (P:=P) w t u ty e i (.int .u8 0) ht hu hi hz ⟨g,0,none⟩ n cap xs (by rw [hsize];simpa using hxl) holds s (by omega) (by omega) (by rw [hby];exact growslice_fits (by omega) (by omega))
   rw [hr] at hr2
   obtain ⟨rfl,_⟩:=Result.ok.inj hr2
   rfl
end
theorem info5:(Tryz.prog.info? 5).map (fun i=>(i.zero,i.size,i.bytes))=some (some (.int .u8 0),1,1):=by kernel_rfl
theorem byteCells_get {l:List UInt8} {j:Nat} {u:Value} (h:(Lib.byteCells l)[j]?=some u):∃b,l[j]?=some b∧u=.int .u8 b.toNat:=by
 unfold Lib.byteCells at h
 rw [List.getElem?_map] at h
 cases hl:l[j]? with
 | none=>rw [hl] at h;cases h
 | some b=>rw [hl] at h;exact ⟨b,rfl,by simpa using h.symm⟩
section
variable {ops:Array Oper} {rest:List Oper} {o:Oper} {a:Act} {Q:Exit→Act→World→Prop} {w:World}
theorem wpl_append_str (hgd:o.guard=none) (s x:Operand) (ho:o.op=.call { callee:=.builtin .append,args:=#[s,x],argTypes:=#[22,9] }) (base:Nat) (l:List UInt8) (d:Value) (hs:a.eval s=d) (hown:w.ownsRow base 5 1 d l.length (Lib.byteCells l))
  (t:ByteArray) (hx:a.eval x=.string t) (hn:l.length+t.size≤140737488355328) (hbase:base≤w.heap.size)
  (h:∀v' w',w'.ownsRow base 5 1 v' (l++t.data.toList).length (Lib.byteCells (l++t.data.toList))→w.grownBy w' d.ownBlock→(v'=.slice none 0 0↔d=.slice none 0 0∧t.size=0)→(v'.ownBlock=d.ownBlock∨v'.ownBlock=some w.heap.size)→wpList Tryz.prog ops Q rest (a.put o.dst v') w'):wpList Tryz.prog ops Q (o :: rest) a w:=by
 obtain ⟨i,hi,hz,hsz,hby⟩:=info_parts info5
 refine wpList_plain hgd fun K hK => ?_
 obtain ⟨v',w',hr,h2,h3,h4,h5⟩:=append_string_at (P:=Tryz.prog) w base 22 9 o.type 5 i Tryz.underlying22 Tryz.underlying9 hi hz hsz hby d l.length _ hown t (by unfold maxLen;omega) hn hbase
 unfold Oper.wp execOp
 simp only [ho,resolve,invoke,builtin,Sem.run_bind,Sem.run_pure,Result.andThen_ok,List.map_toArray,List.map_cons,List.map_nil,hs,hx,hr]
 refine hK _ _ (h v' w' ?_ h3 h4 h5)
 have e1:(l++t.data.toList).length=l.length+t.size:=by rw [List.length_append,Array.length_toList];rfl
 rw [e1,Lib.byteCells_append,←Lib.strCells_eq]
 exact h2
theorem wpl_append_bytes (hgd:o.guard=none) (s x:Operand) (ho:o.op=.call { callee:=.builtin .append,args:=#[s,x],argTypes:=#[22,22] }) (base:Nat) (l:List UInt8) (d:Value) (hs:a.eval s=d) (hown:w.ownsRow base 5 1 d l.length (Lib.byteCells l))
  (b m:Nat) (ys:List UInt8) (cs:Array Value) (fz:Nat×Nat) (hx:a.eval x=.slice (some ⟨b,0,none⟩) m m) (hm:ys.length=m) (hcs:cs=(Lib.byteCells ys).toArray) (hb:w.heap[b]?=some (.cells cs 5 fz)) (hn:l.length+m≤140737488355328) (hbase:base≤w.heap.size)
  (h:∀v' w',w'.ownsRow base 5 1 v' (l++ys).length (Lib.byteCells (l++ys))→w.grownBy w' d.ownBlock→(v'=.slice none 0 0↔d=.slice none 0 0∧m=0)→(v'.ownBlock=d.ownBlock∨v'.ownBlock=some w.heap.size)→wpList Tryz.prog ops Q rest (a.put o.dst v') w'):wpList Tryz.prog ops Q (o :: rest) a w:=by
 obtain ⟨i,hi,hz,hsz,hby⟩:=info_parts info5
 subst hm
 subst hcs
 refine Go.wpList_append_own_at w hgd s x 22 ho base 5 i _ 1 1 Tryz.underlying22 hi hz hsz hby rfl (by decide) d l.length (Lib.byteCells l) hs hown ⟨b,0,none⟩ ys.length ys.length (Lib.byteCells ys) hx (by rw [Lib.byteCells_length];omega) (fun j u hu => ?_) (fun u hu => ?_) (by unfold maxLen;omega) (by omega) hbase (fun v' w' k1 k2 k3 k4=>h v' w' ?_ k2 k3 k4)
 ·rw [Addr.add_mid,Nat.zero_add,cell_of_row w b j _ 5 fz hb]
  simpa using hu
 ·unfold Lib.byteCells at hu
  obtain ⟨y,_,rfl⟩:=List.mem_map.1 hu
  rfl
 ·rw [List.length_append,Lib.byteCells_append]
  exact k1
end
/-! ### The blocks that stand -/
structure Fr (w w':World) (b:Nat) (own:Option Nat):Prop where
 os:w'.os=w.os
 tape:w'.tape=w.tape
 output:w'.output=w.output
 size:w.heap.size≤w'.heap.size
 block:∀k,k<w.heap.size→k≠b→some k≠own→w'.heap[k]?=w.heap[k]?
def Own (w:World) (own own':Option Nat):Prop:=own'=own∨∃g,own'=some g∧w.heap.size≤g
section
variable {w w1 w2:World} {b:Nat} {own own1 own2:Option Nat}
theorem Fr.refl (w:World) (b:Nat) (own:Option Nat):Fr w w b own:=⟨rfl,rfl,rfl,Nat.le_refl _,fun _ _ _ _=>rfl⟩
theorem Fr.trans (h1:Fr w w1 b own) (h2:Fr w1 w2 b own1) (ho:Own w own own1):Fr w w2 b own :=
 ⟨h2.os.trans h1.os,h2.tape.trans h1.tape,h2.output.trans h1.output,Nat.le_trans h1.size h2.size,fun k hk hb hn=>by
  rw [h2.block k (Nat.lt_of_lt_of_le hk h1.size) hb ?_,h1.block k hk hb hn]
  rcases ho with rfl | ⟨g,rfl,hg⟩
  ·exact hn
  ·intro e
   have:=Option.some.inj e
   omega⟩
theorem Own.refl (w:World) (own:Option Nat):Own w own own:=Or.inl rfl
theorem Own.trans (h1:Own w own own1) (hs:w.heap.size≤w1.heap.size) (h2:Own w1 own1 own2):Own w own own2:=by
 rcases h2 with rfl | ⟨g,rfl,hg⟩
 ·exact h1
 ·exact .inr ⟨g,rfl,by omega⟩
theorem Own.ne {q:Nat} (h:Own w own own1) (hq:q<w.heap.size) (hn:some q≠own):some q≠own1:=by
 rcases h with rfl | ⟨g,rfl,hg⟩
 ·exact hn
 ·intro e
  have:=Option.some.inj e
  omega
theorem Fr.below {B:Nat} (h:Fr w w1 b own) (hb:B≤b) (ho:∀g,own=some g→B≤g) (hB:B≤w.heap.size):Below B w w1 :=
 ⟨h.os,h.tape,h.output,h.size,fun k hk=>h.block k (by omega) (by omega) fun e=>by have:=ho k e.symm;omega⟩
theorem Fr.of_below (h:Below w.heap.size w w1):Fr w w1 b own:=⟨h.os,h.tape,h.output,h.size,fun k hk _ _=>h.block k hk⟩
theorem Fr.of_grown (h:w.grownBy w1 own):Fr w w1 b own:=⟨h.os,h.tape,h.output,h.size,fun k hk _ hn=>h.block k hk hn⟩
theorem Fr.set (o:Nat) (v:Value):Fr w (w.setCell ⟨b,o,none⟩ v) b own:=⟨rfl,rfl,rfl,by simp [World.setCell],fun k _ hb _=>Below.heap_setCell _ _ _ _ hb⟩
end
/-! ### A builder -/
structure BT (T:TypeId) (n:Nat):Prop where
 lies:liesAt Tryz.prog Tryz.prog.depth T (n / Tryz.prog.cellsOf T) 0 92 1=true
 pos:0<n
theorem bt92:BT 92 2:=⟨by kernel_rfl,by decide⟩
def BldP (w:World) (T:TypeId) (tail:List Value) (b:Nat) (p:Value) (own:Option Nat) (l:List UInt8):Prop :=
 ∃sl,w.heap[b]?=some (.cells (p :: sl :: tail).toArray T (0,0))∧w.ownsRow (b+1) 5 1 sl l.length (Lib.byteCells l)∧sl.ownBlock=own∧(l = []→sl=.slice none 0 0)
def selfP (b:Nat):Value:=.pointer (some ⟨b,0,none⟩)
def Bld (w:World) (T:TypeId) (tail:List Value) (b:Nat) (own:Option Nat) (l:List UInt8):Prop:=BldP w T tail b (.pointer none) own l∨BldP w T tail b (selfP b) own l
section
variable {w w':World} {T:TypeId} {tail:List Value} {b:Nat} {p:Value} {own:Option Nat} {l:List UInt8}
theorem BldP.lt (h:BldP w T tail b p own l):b<w.heap.size:=by obtain ⟨sl,h1,_⟩:=h;exact (Array.getElem?_eq_some_iff.1 h1).1
theorem BldP.own_lt (h:BldP w T tail b p own l):∀g,own=some g→b<g∧g<w.heap.size:=by
 obtain ⟨sl,h1,h2,h3,_⟩:=h
 intro g hg
 have:=h2.lt g (h3.trans hg)
 omega
theorem BldP.keep (h:BldP w T tail b p own l) (hb:w'.heap[b]?=w.heap[b]?) (ho:∀g,own=some g→w'.heap[g]?=w.heap[g]?):BldP w' T tail b p own l:=by
 obtain ⟨sl,h1,h2,h3,h4⟩:=h
 refine ⟨sl,hb.trans h1,?_,h3,h4⟩
 obtain ⟨hl,h5⟩:=h2
 refine ⟨hl,h5.imp id fun ⟨g,cap,cur,y1,y2,y3,y4⟩=>⟨g,cap,cur,y1,y2,(ho g (by rw [←h3,y1];rfl)).trans y3,y4⟩⟩
theorem Bld.lt (h:Bld w T tail b own l):b<w.heap.size:=by rcases h with h | h<;>exact h.lt
theorem Bld.own_lt (h:Bld w T tail b own l):∀g,own=some g→b<g∧g<w.heap.size:=by rcases h with h | h<;>exact h.own_lt
theorem Bld.keep (h:Bld w T tail b own l) (hb:w'.heap[b]?=w.heap[b]?) (ho:∀g,own=some g→w'.heap[g]?=w.heap[g]?):Bld w' T tail b own l:=h.imp (fun h=>h.keep hb ho) (fun h=>h.keep hb ho)
theorem Bld.below (h:Bld w T tail b own l) (hb:Below w.heap.size w w'):Bld w' T tail b own l:=h.keep (hb.block b h.lt) fun g hg=>hb.block g (h.own_lt g hg).2
theorem bld_new (T:TypeId) (tail:List Value) (b:Nat) (h:w.heap[b]?=some (.cells (.pointer none :: .slice none 0 0 :: tail).toArray T (0,0))):Bld w T tail b none [] :=
 .inl ⟨_,h,World.ownsRow_nil _ _ _ _,rfl,fun _=>rfl⟩
end
theorem size92:(Tryz.prog.info? 92).map (·.size)=some 2:=by kernel_rfl
set_option maxHeartbeats 1000000 in
set_option maxRecDepth 100000 in
theorem copyCheck_any (w:World) (T:TypeId) (tail:List Value) (b:Nat) (own:Option Nat) (l:List UInt8) (hT:BT T (tail.length+2)) (h:Bld w T tail b own l) :
  Calls Tryz.prog 81 #[.pointer (some ⟨b,0,none⟩)] w fun e w'=>e=.returned (.tuple #[])∧BldP w' T tail b (selfP b) own l∧Fr w w' b own:=by
 obtain ⟨j,hj,hjs⟩:=Option.map_eq_some_iff.1 size92
 rcases h with h | h
 ·have h':=h
  obtain ⟨sl,h1,h2,h3,h4⟩:=h'
  have h0:w.cell? ⟨b,0,none⟩=some (.pointer none):=by rw [Lib.cell_of_heap h1];rfl
  have hsh:w.shape? b=some (T,tail.length+2):=by simp [World.shape?,h1]
  have hfz:w.frozen? ⟨b,0,none⟩=false:=Lib.frozen_of_heap h1 0
  have HB:=Lib.hid h
  have H1:=Lib.hid h1
  clear h h1 h2 h4
  go_enter Tryz.func81,Tryz.ntmps81
  go_wp2
  rw [Lib.run_to_unsafe w ⟨b,0,none⟩ Tryz.underlying90 Tryz.underlying170 hj (by rw [hjs];decide) hsh hT.pos]
  simp only [Result.andThen]
  rw [Oper.upon_value]
  go_wp2
  rw [run_callFunc_extern Tryz.func113 (by kernel_rfl) (by kernel_rfl) (by kernel_rfl) (e:=Extern.AbiNoEscape.same) (by kernel_rfl)]
  rw [Lib.run_noEscape]
  simp only [Result.andThen]
  rw [Oper.upon_value]
  go_wp2
  rw [Lib.run_from_unsafe w ⟨b,0,none⟩ Tryz.underlying170 Tryz.underlying90 hj hsh hT.lies]
  simp only [Result.andThen]
  rw [Oper.upon_value]
  go_wp2
  go_end0
  refine ⟨rfl,?_,Fr.set 0 _⟩
  obtain ⟨sl',k1,k2,k3,k4⟩:=HB.out
  refine ⟨sl',?_,?_,k3,k4⟩
  ·have:=blk_set k1 0 (selfP b)
   simp at this
   exact this
  ·exact ownsRow_setCell_below k2 (a:=⟨b,0,none⟩) (Nat.lt_succ_self b) _
 ·have h':=h
  obtain ⟨sl,h1,h2,h3,h4⟩:=h'
  have h0:w.cell? ⟨b,0,none⟩=some (.pointer (some ⟨b,0,none⟩)):=by rw [Lib.cell_of_heap h1];rfl
  have HB:=Lib.hid h
  clear h h1 h2 h4
  go_enter Tryz.func81,Tryz.ntmps81
  go_wp2
  rw [Lib.run_neq_ptr_same w _ Tryz.underlying90 hj]
  go_wp2
  go_end0
  exact ⟨rfl,HB.out,Fr.refl _ _ _⟩
theorem BldP.put {w:World} {T:TypeId} {tail:List Value} {b:Nat} {p:Value} {sl v:Value} {l':List UInt8} {own:Option Nat} (h1:w.heap[b]?=some (.cells (p :: sl :: tail).toArray T (0,0))) (h2:w.ownsRow (b+1) 5 1 v l'.length (Lib.byteCells l')) (h3:v.ownBlock=own) (h4:l' = []→v=.slice none 0 0):BldP (w.setCell ⟨b,1,none⟩ v) T tail b p own l':=by
 refine ⟨v,?_,ownsRow_setCell_below h2 (a:=⟨b,1,none⟩) (Nat.lt_succ_self b) _,h3,h4⟩
 have:=blk_set h1 1 v
 simpa using this
theorem BldP.putn {w:World} {T:TypeId} {tail:List Value} {b:Nat} {p:Value} {sl v:Value} {l':List UInt8} {own:Option Nat} {n:Nat} (h1:w.heap[b]?=some (.cells (p :: sl :: tail).toArray T (0,0))) (h2:w.ownsRow (b+1) 5 1 v n (Lib.byteCells l')) (hn:n=l'.length) (h3:v.ownBlock=own) (h4:l' = []→v=.slice none 0 0):BldP (w.setCell ⟨b,1,none⟩ v) T tail b p own l':=by
 subst hn
 exact BldP.put h1 h2 h3 h4
def WroteP (w:World) (T:TypeId) (tail:List Value) (b:Nat) (own:Option Nat) (l:List UInt8) (w':World):Prop :=
 ∃own',BldP w' T tail b (selfP b) own' l∧Fr w w' b own∧Own w own own'
set_option maxHeartbeats 2000000 in
set_option maxRecDepth 100000 in
theorem writeByte_any (w:World) (T:TypeId) (tail:List Value) (b:Nat) (own:Option Nat) (l:List UInt8) (c:UInt8) (hT:BT T (tail.length+2)) (h:Bld w T tail b own l) (hn:l.length+1≤140737488355328) :
  Calls Tryz.prog 41 #[.pointer (some ⟨b,0,none⟩),.int .u8 c.toNat] w fun e w'=>e=.returned .nilIface∧WroteP w T tail b own (l++[c]) w':=by
 have HLT:=Lib.hid h.lt
 have HCC:=Lib.hid (copyCheck_any w T tail b own l hT h)
 have HN:=Lib.hid hn
 have hc5:∀W:World,∀x,(#[Value.int .u8 c.toNat]:Array Value)=x→x=(Lib.byteCells [c]).toArray:=fun _ x e=>by rw [←e];rfl
 clear h hn hT
 go_enter Tryz.func41,Tryz.ntmps41
 go_wp2_with (go_at_call 81;refine HCC.out.mono ?_)
 rintro e w1 ⟨rfl,h1,hf1⟩
 have H1:=Lib.hid h1
 have HF1:=Lib.hid hf1
 obtain ⟨sl,hbk,hown,ho,hnl⟩:=h1
 have c1:w1.cell? ⟨b,1,none⟩=some sl:=by rw [Lib.cell_of_heap hbk];rfl
 have hbn:(w1.alloc (.cells #[Value.int .u8 c.toNat] 5)).heap[w1.heap.size]?=some (.cells #[Value.int .u8 c.toNat] 5 (0,0)):=heap_alloc_at _ _
 have hown1:=hown.alloc (.cells #[Value.int .u8 c.toNat] 5)
 have hsz:b+1≤(w1.alloc (.cells #[Value.int .u8 c.toNat] 5)).heap.size:=by have:=H1.out.lt;simp;omega
 have HBK:=Lib.hid hbk;have HOWN:=Lib.hid hown;have HBN:=Lib.hid hbn;have HOWN1:=Lib.hid hown1;have HSZ:=Lib.hid hsz;have HO:=Lib.hid ho
 clear hbk hown hbn hown1 hsz ho hnl hf1
 go_wp2_with (at_builtin;refine wpl_append_bytes rfl _ _ rfl (b+1) l _ rfl HOWN1.out w1.heap.size 1 [c] _ (0,0) rfl rfl rfl HBN.out HN.out HSZ.out ?_)
 intro v' w2 hown' hgrow hnil hat
 have hlt:=H1.out.lt
 have hne:sl.ownBlock≠some b:=fun e=>by have:=HOWN.out.lt b e;omega
 have hb2:w2.heap[b]?=some (.cells (selfP b :: sl :: tail).toArray T (0,0)):=by
  rw [hgrow.block b (by simp;omega) (fun e=>hne e.symm),Below.heap_alloc _ _ _ hlt]
  exact HBK.out
 have d1:w2.cell? ⟨b,1,none⟩=some sl:=by rw [Lib.cell_of_heap hb2];rfl
 have f1:w2.frozen? ⟨b,1,none⟩=false:=Lib.frozen_of_heap hb2 1
 obtain ⟨g,cap,hv⟩:∃g cap,v'=.slice (some ⟨g,0,none⟩) (l.length+1) cap:=by
  rcases hown'.2 with ⟨_,h0⟩ | ⟨g,cap,cur,hv,_⟩
  ·simp at h0
  ·exact ⟨g,cap,hv⟩
 have HB2:=Lib.hid hb2;have HOWN':=Lib.hid hown';have HG:=Lib.hid hgrow;have HAT:=Lib.hid hat
 have HV:=Lib.hid hv
 clear hb2 hown' hgrow hat hnil hne hlt
 subst hv
 clear HV
 go_wp2
 go_ret
 refine ⟨rfl,some g,BldP.putn HB2.out HOWN'.out (by simp) rfl (fun e=>by simp at e),?_,?_⟩
 ·refine HF1.out.trans ((Fr.of_below (below_new w1 _)).trans (Fr.of_grown (b:=b) HG.out) ?_ |>.trans (Fr.set 1 _) (Own.refl _ _)) (Own.refl _ _)
  rw [HO.out]
  exact Own.refl _ _
 ·have:=HF1.out.size
  rcases HAT.out with h | h
  ·left
   rw [←HO.out,←h]
   rfl
  ·right
   refine ⟨g,rfl,?_⟩
   have h2:some g=some (w1.heap.size+1):=h
   have h3:=Option.some.inj h2
   omega
set_option maxHeartbeats 2000000 in
set_option maxRecDepth 100000 in
theorem writeString_any (w:World) (T:TypeId) (tail:List Value) (b:Nat) (own:Option Nat) (l:List UInt8) (t:ByteArray) (hT:BT T (tail.length+2)) (h:Bld w T tail b own l) (hn:l.length+t.size≤140737488355328) :
  Calls Tryz.prog 40 #[.pointer (some ⟨b,0,none⟩),.string t] w fun e w'=>e=.returned (.tuple #[.int .i64 t.size,.nilIface])∧WroteP w T tail b own (l++t.data.toList) w':=by
 have HLT:=Lib.hid h.lt
 have HCC:=Lib.hid (copyCheck_any w T tail b own l hT h)
 have HN:=Lib.hid hn
 clear h hn hT
 go_enter Tryz.func40,Tryz.ntmps40
 go_wp2_with (go_at_call 81;refine HCC.out.mono ?_)
 rintro e w1 ⟨rfl,h1,hf1⟩
 have H1:=Lib.hid h1
 have HF1:=Lib.hid hf1
 obtain ⟨sl,hbk,hown,ho,hnl⟩:=h1
 have c1:w1.cell? ⟨b,1,none⟩=some sl:=by rw [Lib.cell_of_heap hbk];rfl
 have hsz:b+1≤w1.heap.size:=by have:=H1.out.lt;omega
 have HBK:=Lib.hid hbk;have HOWN:=Lib.hid hown;have HSZ:=Lib.hid hsz;have HO:=Lib.hid ho;have HNL:=Lib.hid hnl
 clear hbk hown hsz ho hnl hf1
 go_wp2_with (at_builtin;refine wpl_append_str rfl _ _ rfl (b+1) l _ rfl HOWN.out t rfl HN.out HSZ.out ?_)
 intro v' w2 hown' hgrow hnil hat
 have hlt:=H1.out.lt
 have hne:sl.ownBlock≠some b:=fun e=>by have:=HOWN.out.lt b e;omega
 have hb2:w2.heap[b]?=some (.cells (selfP b :: sl :: tail).toArray T (0,0)):=by
  rw [hgrow.block b hlt (fun e=>hne e.symm)]
  exact HBK.out
 have d1:w2.cell? ⟨b,1,none⟩=some sl:=by rw [Lib.cell_of_heap hb2];rfl
 have f1:w2.frozen? ⟨b,1,none⟩=false:=Lib.frozen_of_heap hb2 1
 obtain ⟨ao,n',cap,hv⟩:∃ao n' cap,v'=.slice ao n' cap:=by
  rcases hown'.2 with ⟨hv,_⟩ | ⟨g,cap,cur,hv,_⟩
  ·exact ⟨_,_,_,hv⟩
  ·exact ⟨_,_,_,hv⟩
 have hnil2:l++t.data.toList = []→v'=.slice none 0 0:=fun e=>by
  obtain ⟨e1,e2⟩:=List.append_eq_nil_iff.1 e
  have e3:t.size=0:=by
   have:t.data.toList.length=0:=by rw [e2];rfl
   rw [Array.length_toList] at this
   exact this
  exact hnil.2 ⟨HNL.out e1,by first | exact e3 | exact ByteArray.ext (Array.eq_empty_of_size_eq_zero e3)⟩
 have HB2:=Lib.hid hb2;have HOWN':=Lib.hid hown';have HG:=Lib.hid hgrow;have HAT:=Lib.hid hat;have HNIL:=Lib.hid hnil2
 clear hb2 hown' hgrow hat hnil hne hlt hnil2
 subst hv
 go_wp2
 go_ret2
 refine ⟨rfl,(Value.slice ao n' cap).ownBlock,BldP.putn HB2.out HOWN'.out (by rw [List.length_append,Array.length_toList];rfl) rfl HNIL.out,?_,?_⟩
 ·refine HF1.out.trans ((Fr.of_grown (b:=b) HG.out).trans (Fr.set 1 _) (Own.refl _ _)) ?_
  rw [HO.out]
  exact Own.refl _ _
 ·have:=HF1.out.size
  rcases HAT.out with h | h
  ·left
   rw [h]
   exact HO.out
  ·right
   exact ⟨w1.heap.size,h,this⟩
theorem und128:Tryz.prog.underlying 128=some (.pointer 5):=by kernel_rfl
theorem cells5:Tryz.prog.cellsOf 5=1:=by kernel_rfl
theorem Fr.drew {w w1:World} {b:Nat} {own:Option Nat} (h:Fr w w1 b own):Fr w w1.drew b own:=⟨h.os,h.tape,h.output,h.size,h.block⟩
set_option maxHeartbeats 2000000 in
set_option maxRecDepth 100000 in
theorem string_some (w:World) (T:TypeId) (tail:List Value) (b:Nat) (own:Option Nat) (l:List UInt8) (h:Bld w T tail b own l) (h0:l≠[]) :
  Calls Tryz.prog 42 #[.pointer (some ⟨b,0,none⟩)] w fun e w'=>e=.returned (.string ⟨l.toArray⟩)∧Fr w w' b own:=by
 obtain ⟨p,sl,hbk,hown,ho,hnl⟩:∃p,BldP w T tail b p own l:=h.elim (fun h=>⟨_,h⟩) (fun h=>⟨_,h⟩)
 have hl0:l.length≠0:=by simpa using h0
 obtain ⟨g,cap,cur,rfl,hbg,hg,hnc,hcm,hcs,htake⟩:∃g cap cur,sl=.slice (some ⟨g,0,none⟩) l.length cap∧b+1≤g∧w.heap[g]?=some (.cells cur 5 (0,0))∧l.length≤cap∧cap≤maxLen∧cur.size=cap*1∧cur.toList.take (l.length*1)=Lib.byteCells l:=by
  rcases hown.2 with ⟨_,hz⟩ | ⟨g,cap,cur,hv,r⟩
  ·exact absurd hz hl0
  ·exact ⟨g,cap,cur,hv,r⟩
 have hbd:w.drew.heap[b]?=some (.cells (p :: .slice (some ⟨g,0,none⟩) l.length cap :: tail).toArray T (0,0)):=hbk
 have c1:w.drew.cell? ⟨b,1,none⟩=some (.slice (some ⟨g,0,none⟩) l.length cap):=by rw [Lib.cell_of_heap hbd];rfl
 have hSD:(Builtin.unsafeSliceData_ #[22] 128 #[.slice (some ⟨g,0,none⟩) l.length cap]).run Tryz.prog w.drew=.ok (.pointer (some ⟨g,0,none⟩)) w.drew :=
  Lib.run_unsafeSliceData_row _ _ _ _ _ _ (by omega)
 have hUS:(Builtin.unsafeString_ #[128,3] 9 #[.pointer (some ⟨g,0,none⟩),.int .i64 l.length]).run Tryz.prog w.drew=.ok (.string ⟨l.toArray⟩) (w.drew.freeze ⟨g,0,none⟩ l.length):=by
  refine Lib.run_unsafeString_row w.drew 128 3 9 5 und128 cells5 g cur.size (by have hg':w.drew.heap[g]?=some (.cells cur 5 (0,0)):=hg;simp [World.shape?,hg']) l h0 (by omega) (by unfold maxLen at hcm;omega) ?_
  intro j x hx
  have:=hown.cells (g:=g) rfl j (.int .u8 x.toNat) (by simp [Lib.byteCells,hx])
  exact this
 have hfz:Fr w (w.drew.freeze ⟨g,0,none⟩ l.length) b own:=by
  have hb:Below g w (w.drew.freeze ⟨g,0,none⟩ l.length):=Lib.below_freeze (Below.drew (Below.refl g w)) (p:=⟨g,0,none⟩) (Nat.le_refl _) _
  refine ⟨hb.os,hb.tape,hb.output,hb.size,fun k hk _ hne => ?_⟩
  have hkg:k≠g:=fun e=>hne (by rw [←ho,e];rfl)
  unfold World.freeze
  split
  ·rfl
  ·simp only [Array.getElem?_modify]
   rw [if_neg (fun e=>hkg e.symm)]
   rfl
 have HF:=Lib.hid hfz
 clear hbk hown ho hnl hg htake hbd hfz h
 go_enter Tryz.func42,Tryz.ntmps42
 go_wp2
 go_region
 all_goals (go_wp2;go_ret;exact ⟨rfl,HF.out⟩)
set_option maxHeartbeats 2000000 in
set_option maxRecDepth 100000 in
theorem string_none (w:World) (T:TypeId) (tail:List Value) (b:Nat) (own:Option Nat) (h:Bld w T tail b own []) :
  Calls Tryz.prog 42 #[.pointer (some ⟨b,0,none⟩)] w fun e w'=>e=.returned (.string ⟨#[]⟩)∧Fr w w' b own:=by
 obtain ⟨p,sl,hbk,hown,ho,hnl⟩:∃p,BldP w T tail b p own []:=h.elim (fun h=>⟨_,h⟩) (fun h=>⟨_,h⟩)
 obtain rfl:=hnl rfl
 have hbd:w.drew.heap[b]?=some (.cells (p :: .slice none 0 0 :: tail).toArray T (0,0)):=hbk
 have c1:w.drew.cell? ⟨b,1,none⟩=some (.slice none 0 0):=by rw [Lib.cell_of_heap hbd];rfl
 have hSD:(Builtin.unsafeSliceData_ #[22] 128 #[.slice none 0 0]).run Tryz.prog w.drew=.ok (.pointer none) w.drew:=rfl
 have hUS:∀(W:World) (q:Option Addr),(Builtin.unsafeString_ #[128,3] 9 #[.pointer q,.int .i64 0]).run Tryz.prog W=.ok (.string .empty) W:=fun W q=>Lib.run_unsafeString_none W _ _ _ q
 clear hbk hown ho hnl hbd h
 go_enter Tryz.func42,Tryz.ntmps42
 go_wp2
 go_region
 all_goals (go_wp2;go_ret;exact ⟨rfl,(Fr.refl w b own).drew⟩)
theorem string_any (w:World) (T:TypeId) (tail:List Value) (b:Nat) (own:Option Nat) (l:List UInt8) (h:Bld w T tail b own l) :
  Calls Tryz.prog 42 #[.pointer (some ⟨b,0,none⟩)] w fun e w'=>e=.returned (.string ⟨l.toArray⟩)∧Fr w w' b own:=by
 cases l with
 | nil=>exact string_none w T tail b own h
 | cons x r=>exact string_some w T tail b own (x :: r) h (by simp)
end Go.Proofs.YtihlneenajlhoaaGreatDoor
set_option linter.unusedVariables false
namespace Go.Proofs.YtihlneenajlhoaaGreatDoor.sp
open Go
abbrev Bs:=List UInt8
/-! ### Numbers -/
def digitB (c:UInt8):Bool:=decide (48≤c.toNat)&&decide (c.toNat≤57)
def val (n:Nat) (s:Bs):Nat:=s.foldl (fun n c=>n*10+(c.toNat-48)) n
theorem val_nil (n:Nat):val n []=n:=by unfold val;rw [List.foldl_nil]
theorem val_cons (n:Nat) (c:UInt8) (s:Bs):val n (c :: s)=val (n*10+(c.toNat-48)) s:=by unfold val;rw [List.foldl_cons]
theorem val_append (n:Nat) (a b:Bs):val n (a++b)=val (val n a) b:=by unfold val;rw [List.foldl_append]
theorem toNat_digit {d:Nat} (h:d<10):(UInt8.ofNat (48+d)).toNat=48+d:=by
 rw [UInt8.toNat_ofNat']
 exact Nat.mod_eq_of_lt (by omega)
theorem digitB_digit {d:Nat} (h:d<10):digitB (UInt8.ofNat (48+d))=true:=by unfold digitB;rw [toNat_digit h];simp;omega
theorem dec_small {u:Nat} (h:u<10):Lib.decDigits u = [UInt8.ofNat (48+u)]:=by rw [Lib.decDigits,dif_pos h]
theorem dec_big {u:Nat} (h:¬u<10):Lib.decDigits u=Lib.decDigits (u / 10)++[UInt8.ofNat (48+u%10)]:=by rw [Lib.decDigits,dif_neg h]
theorem dec_all (u:Nat):∀c∈Lib.decDigits u,digitB c=true:=by
 induction u using Nat.strongRecOn with
 | _ u ih =>
  by_cases h:u<10
  ·rw [dec_small h];intro c hc;simp only [List.mem_singleton] at hc;subst hc;exact digitB_digit h
  ·rw [dec_big h]
   intro c hc
   rcases List.mem_append.1 hc with hc | hc
   ·exact ih (u / 10) (by omega) c hc
   ·simp only [List.mem_singleton] at hc;subst hc;exact digitB_digit (by omega)
theorem dec_val (u:Nat):val 0 (Lib.decDigits u)=u:=by
 induction u using Nat.strongRecOn with
 | _ u ih =>
  by_cases h:u<10
  ·rw [dec_small h,val_cons,val_nil,toNat_digit h];omega
  ·rw [dec_big h,val_append,ih (u / 10) (by omega),val_cons,val_nil,toNat_digit (by omega)];omega
theorem dec_ne (u:Nat):Lib.decDigits u≠[]:=by
 intro h
 have:=Lib.decDigits_length u
 have h1:=Lib.nDigits_pos u
 rw [h] at this
 simp at this
 omega
theorem head_append {a b:Bs} (h:a≠[]):(a++b).head?=a.head?:=by
 cases a with
 | nil=>exact absurd rfl h
 | cons x a=>rfl
theorem dec_head (u:Nat) (h0:u≠0):(Lib.decDigits u).head?≠some 48:=by
 induction u using Nat.strongRecOn with
 | _ u ih =>
  by_cases h:u<10
  ·rw [dec_small h]
   simp only [List.head?_cons,ne_eq,Option.some.injEq]
   intro hh
   have:=congrArg UInt8.toNat hh
   rw [toNat_digit h] at this
   have e:(48:UInt8).toNat=48:=rfl
   omega
  ·rw [dec_big h,head_append (dec_ne _)]
   exact ih (u / 10) (by omega) (by omega)
theorem dec_head_digit (u:Nat):∃c r,Lib.decDigits u=c :: r∧digitB c=true:=by
 cases h:Lib.decDigits u with
 | nil=>exact absurd h (dec_ne u)
 | cons c r=>exact ⟨c,r,rfl,dec_all u c (by rw [h];exact List.mem_cons_self)⟩
theorem val_le (s:Bs):∀n,n*10 ^ s.length≤val n s:=by
 induction s with
 | nil=>intro n;simp [val_nil]
 | cons c s ih =>
  intro n
  rw [val_cons,List.length_cons,Nat.pow_succ]
  refine Nat.le_trans ?_ (ih _)
  rw [Nat.mul_comm (10 ^ s.length) 10,←Nat.mul_assoc]
  exact Nat.mul_le_mul_right _ (by omega)
theorem val_lt (s:Bs) (hs:∀c∈s,digitB c=true):∀n,val n s<(n+1)*10 ^ s.length:=by
 induction s with
 | nil=>intro n;simp [val_nil]
 | cons c s ih =>
  intro n
  rw [val_cons,List.length_cons,Nat.pow_succ]
  refine Nat.lt_of_lt_of_le (ih (fun d hd=>hs d (List.mem_cons_of_mem _ hd)) _) ?_
  rw [Nat.mul_comm (10 ^ s.length) 10,←Nat.mul_assoc]
  have:=hs c List.mem_cons_self
  simp only [digitB,Bool.and_eq_true,decide_eq_true_eq] at this
  exact Nat.mul_le_mul_right _ (by omega)
theorem dec_of_val (s:Bs) (hs:∀c∈s,digitB c=true) (h0:s≠[]) (h1:s.head?=some 48→s = [48]):Lib.decDigits (val 0 s)=s:=by
 induction hn:s.length using Nat.strongRecOn generalizing s with
 | _ n ih =>
  rcases List.eq_nil_or_concat s with rfl | ⟨a,c,rfl⟩
  ·exact absurd rfl h0
  have hc:digitB c=true:=hs c (by simp)
  simp only [digitB,Bool.and_eq_true,decide_eq_true_eq] at hc
  have hofc:UInt8.ofNat (48+(c.toNat-48))=c:=by
   apply UInt8.toNat_inj.1
   rw [toNat_digit (by omega)];omega
  rw [List.concat_eq_append] at *
  by_cases ha:a = []
  ·subst ha
   simp only [List.nil_append,val_cons,val_nil]
   rw [dec_small (by omega)]
   simp only [Nat.zero_mul,Nat.zero_add,hofc]
  ·have hh:a.head?≠some 48:=fun h=>by
    have:=h1 (by rw [head_append ha];exact h)
    cases a with
    | nil=>exact ha rfl
    | cons x y=>simp at this
   have iha:=ih a.length (by simp at hn;omega) a (fun d hd=>hs d (by simp [hd])) ha (fun h=>absurd h hh) rfl
   rw [val_append,val_cons,val_nil]
   have hpos:1≤val 0 a:=by
    rcases Nat.eq_zero_or_pos (val 0 a) with h | h
    ·rw [h] at iha
     rw [dec_small (by omega)] at iha
     rw [←iha] at hh
     exact absurd rfl hh
    ·exact h
   rw [dec_big (by omega),show (val 0 a*10+(c.toNat-48)) / 10=val 0 a by omega,show (val 0 a*10+(c.toNat-48))%10=c.toNat-48 by omega,iha,hofc]
def num (s:Bs):Option Int :=
 let t:=if s.head?=some 45 then s.tail else s
 if t = []∨9<t.length∨(t.head?=some 48∧s≠[48]) then none
 else if t.all digitB then some (if s.head?=some 45 then -(val 0 t:Int) else (val 0 t:Int)) else none
theorem itoa_nat (u:Nat):Lib.itoa (u:Int)=Lib.decDigits u:=Lib.itoa_nonneg u
theorem itoa_minus (u:Nat) (h:1≤u):Lib.itoa (-(u:Int))=45 :: Lib.decDigits u:=Lib.itoa_neg u h
theorem dec_head_ne (u:Nat):(Lib.decDigits u).head?≠some 45:=by
 obtain ⟨c,r,e,hc⟩:=dec_head_digit u
 rw [e]
 simp only [List.head?_cons,ne_eq,Option.some.injEq]
 intro h
 subst h
 exact absurd hc (by decide)
/-! ### Quoted texts -/
def hexv (c:UInt8):Option Nat:=if 48≤c.toNat∧c.toNat≤57 then some (c.toNat-48) else if 97≤c.toNat∧c.toNat≤102 then some (c.toNat-87) else none
theorem hexv_lt {c:UInt8} {k:Nat} (h:hexv c=some k):k<16:=by
 unfold hexv at h
 split at h
 ·simp only [Option.some.injEq] at h;omega
 ·split at h
  ·simp only [Option.some.injEq] at h;omega
  ·cases h
def qread (s:Bs):Option (Bs×Bs) :=
 match s with
 | []=>none
 | c :: r =>
  if c=34 then some ([],r)
  else if c=92 then
   match r with
   | []=>none
   | d :: r1 =>
    if d=92∨d=34 then (qread r1).map fun p=>(d :: p.1,p.2)
    else if d=110 then (qread r1).map fun p=>(10 :: p.1,p.2)
    else if d=120 then
     match r1 with
     | a :: b :: r2 =>
      match hexv a,hexv b with
      | some x,some y=>(qread r2).map fun p=>(UInt8.ofNat (16*x+y) :: p.1,p.2)
      | _,_=>none
     | _=>none
    else none
  else (qread r).map fun p=>(c :: p.1,p.2)
termination_by s.length
theorem qread_nil:qread []=none:=by rw [qread.eq_def]
theorem qread_end (r:Bs):qread (34 :: r)=some ([],r):=by rw [qread.eq_def];rfl
theorem qread_plain {c:UInt8} (h1:c≠34) (h2:c≠92) (r:Bs):qread (c :: r)=(qread r).map fun p=>(c :: p.1,p.2):=by rw [qread.eq_def];simp only [if_neg h1,if_neg h2]
theorem qread_esc0:qread [92]=none:=by rw [qread.eq_def];rfl
theorem qread_esc_same {d:UInt8} (h:d=92∨d=34) (r:Bs):qread (92 :: d :: r)=(qread r).map fun p=>(d :: p.1,p.2):=by
 rw [qread.eq_def]
 simp only [if_neg (by decide:¬(92:UInt8)=34),if_pos h,if_true]
theorem qread_esc_n (r:Bs):qread (92 :: 110 :: r)=(qread r).map fun p=>(10 :: p.1,p.2):=by rw [qread.eq_def];rfl
theorem qread_esc_bad {d:UInt8} (h1:¬(d=92∨d=34)) (h2:d≠110) (h3:d≠120) (r:Bs):qread (92 :: d :: r)=none:=by
 rw [qread.eq_def]
 simp only [if_neg (by decide:¬(92:UInt8)=34),if_neg h1,if_neg h2,if_neg h3,if_true]
theorem qread_esc_x {a b:UInt8} {x y:Nat} (hx:hexv a=some x) (hy:hexv b=some y) (r:Bs):qread (92 :: 120 :: a :: b :: r)=(qread r).map fun p=>(UInt8.ofNat (16*x+y) :: p.1,p.2):=by
 rw [qread.eq_def]
 simp only [if_neg (by decide:¬(92:UInt8)=34),if_neg (by decide:¬((120:UInt8)=92∨(120:UInt8)=34)),if_neg (by decide:¬(120:UInt8)=110),if_true,hx,hy]
theorem qread_esc_x0:qread [92,120]=none:=by rw [qread.eq_def];rfl
theorem qread_esc_x1 (a:UInt8):qread [92,120,a]=none:=by rw [qread.eq_def];rfl
theorem qread_esc_xa {a:UInt8} (hx:hexv a=none) (b:UInt8) (r:Bs):qread (92 :: 120 :: a :: b :: r)=none:=by
 rw [qread.eq_def]
 simp only [if_neg (by decide:¬(92:UInt8)=34),if_neg (by decide:¬((120:UInt8)=92∨(120:UInt8)=34)),if_neg (by decide:¬(120:UInt8)=110),if_true,hx]
theorem qread_esc_xb {b:UInt8} (hy:hexv b=none) (a:UInt8) (r:Bs):qread (92 :: 120 :: a :: b :: r)=none:=by
 rw [qread.eq_def]
 simp only [if_neg (by decide:¬(92:UInt8)=34),if_neg (by decide:¬((120:UInt8)=92∨(120:UInt8)=34)),if_neg (by decide:¬(120:UInt8)=110),if_true,hy]
 cases hexv a<;>rfl
theorem qread_shorter (s:Bs):∀p,qread s=some p→p.2.length<s.length:=by
 induction hn:s.length using Nat.strongRecOn generalizing s with
 | _ n ih =>
  intro p h
  have go:∀(r:Bs) (x:UInt8),r.length<n→(qread r).map (fun p=>(x :: p.1,p.2))=some p→p.2.length<n:=by
   intro r x hl h
   obtain ⟨q,h1,rfl⟩:=Option.map_eq_some_iff.1 h
   exact Nat.lt_trans (ih r.length hl r rfl q h1) hl
  subst hn
  rw [qread.eq_def] at h
  split at h
  ·cases h
  ·rename_i c r
   split at h
   ·cases h;simp
   ·split at h
    ·split at h
     ·cases h
     ·rename_i d r1
      split at h
      ·exact go _ _ (by simp only [List.length_cons];omega) h
      ·split at h
       ·exact go _ _ (by simp only [List.length_cons];omega) h
       ·split at h
        ·split at h
         ·rename_i a b r2
          split at h
          ·exact go _ _ (by simp only [List.length_cons];omega) h
          ·cases h
         ·cases h
        ·cases h
    ·exact go _ _ (by simp only [List.length_cons];omega) h
/-! ### The words of a line -/
def wordB (c:UInt8):Bool:=c != 32&&c != 34
theorem drop_spaces_length (s:Bs):(s.dropWhile (· == 32)).length≤s.length:=(List.dropWhile_sublist _).length_le
def words (s:Bs):Option (List (Bs×Bool)) :=
 match h:s.dropWhile (· == 32) with
 | []=>some []
 | c :: r =>
  if c=34 then
   match h2:qread r with
   | none=>none
   | some (t,u)=>if u.head?=none∨u.head?=some 32 then (words u).map fun l=>(t,true) :: l else none
  else
   if ((c :: r).dropWhile wordB).head?=some 34 then none else (words ((c :: r).dropWhile wordB)).map fun l=>((c :: r).takeWhile wordB,false) :: l
termination_by s.length
decreasing_by
 ·have h1:=drop_spaces_length s
  have h3:=qread_shorter _ _ h2
  rw [h] at h1
  simp at h1 h3
  omega
 ·rename_i hc0 _
  have h1:=drop_spaces_length s
  rw [h] at h1
  simp only [List.length_cons] at h1
  have h0:c≠32:=fun e=>by
   have:=List.head?_dropWhile_not (· == (32:UInt8)) s
   rw [h] at this
   subst e
   simp at this
  have h4:wordB c=true:=by simp [wordB,h0,hc0]
  rw [List.dropWhile_cons,if_pos h4]
  have:=(List.dropWhile_sublist wordB (l:=r)).length_le
  omega
/-! ### Fractions -/
def SureP (n d:Int):Prop:=1≤d∧n ≠ -9223372036854775808∧Nat.gcd n.natAbs d.toNat=1
instance (n d:Int):Decidable (SureP n d):=inferInstanceAs (Decidable (_∧_∧_))
def MayP (n d:Int):Prop:=(n=0∧d=0)∨SureP n d
instance (n d:Int):Decidable (MayP n d):=inferInstanceAs (Decidable (_∨_))
def I64 (n:Int):Prop := -9223372036854775808≤n∧n≤9223372036854775807
abbrev over:Bs:=[111,118,101,114]
def ratS (n d:Int):Bs:=if SureP n d then Lib.itoa n++(if 1<d then 47 :: Lib.itoa d else []) else over
def numB (c:UInt8):Bool:=digitB c||c==45
theorem itoa_numB (n:Int):∀c∈Lib.itoa n,numB c=true:=by
 intro c hc
 unfold Lib.itoa at hc
 split at hc
 ·rcases List.mem_cons.1 hc with rfl | hc
  ·decide
  ·unfold numB;rw [dec_all _ c hc];rfl
 ·unfold numB;rw [dec_all _ c hc];rfl
theorem itoa_head (n:Int):∃c r,Lib.itoa n=c :: r∧numB c=true:=by
 cases h:Lib.itoa n with
 | nil =>
  unfold Lib.itoa at h
  split at h
  ·cases h
  ·exact absurd h (dec_ne _)
 | cons c r=>exact ⟨c,r,rfl,itoa_numB n c (by rw [h];exact List.mem_cons_self)⟩
theorem dec_inj {u v:Nat} (h:Lib.decDigits u=Lib.decDigits v):u=v:=by rw [←dec_val u,h,dec_val]
theorem itoa_inj {n m:Int} (h:Lib.itoa n=Lib.itoa m):n=m:=by
 have key:∀u v:Nat,Lib.decDigits u≠45 :: Lib.decDigits v:=fun u v e=>dec_head_ne u (by rw [e];rfl)
 unfold Lib.itoa at h
 split at h<;>split at h
 ·have:=dec_inj (List.cons.inj h).2;omega
 ·exact absurd h.symm (key _ _)
 ·exact absurd h (key _ _)
 ·have:=dec_inj h;omega
theorem split_at {a b c d:Bs} {x:UInt8} (h:a++x :: b=c++x :: d) (ha:x∉a) (hc:x∉c):a=c∧b=d:=by
 induction a generalizing c with
 | nil =>
  cases c with
  | nil=>exact ⟨rfl,(List.cons.inj h).2⟩
  | cons y c=>exact absurd ((List.cons.inj h).1 ▸ List.mem_cons_self) hc
 | cons y a ih =>
  cases c with
  | nil=>exact absurd ((List.cons.inj h).1 ▸ List.mem_cons_self) ha
  | cons z c =>
   obtain ⟨h1,h2⟩:=List.cons.inj h
   obtain ⟨h3,h4⟩:=ih h2 (fun h=>ha (List.mem_cons_of_mem _ h)) (fun h=>hc (List.mem_cons_of_mem _ h))
   exact ⟨by rw [h1,h3],h4⟩
theorem slash_itoa (n:Int):(47:UInt8)∉Lib.itoa n:=fun h=>absurd (itoa_numB n 47 h) (by decide)
theorem ratS_inj {n d m e:Int} (h1:MayP n d) (h2:MayP m e) (h:ratS n d=ratS m e):n=m∧d=e:=by
 have key:∀n d:Int,SureP n d→ratS n d≠over:=by
  intro n d hs e
  unfold ratS at e
  rw [if_pos hs] at e
  obtain ⟨c,r,e1,hc⟩:=itoa_head n
  rw [e1,List.cons_append] at e
  have:=(List.cons.inj e).1
  subst this
  exact absurd hc (by decide)
 have zero:∀n d:Int,¬SureP n d→MayP n d→n=0∧d=0:=fun n d h1 h2=>h2.resolve_right h1
 by_cases hs:SureP n d<;>by_cases ht:SureP m e
 ·unfold ratS at h
  rw [if_pos hs,if_pos ht] at h
  have hd:=hs.1
  have he:=ht.1
  by_cases k1:1<d<;>by_cases k2:1<e
  ·rw [if_pos k1,if_pos k2] at h
   obtain ⟨a,b⟩:=split_at h (slash_itoa n) (slash_itoa m)
   exact ⟨itoa_inj a,itoa_inj b⟩
  ·rw [if_pos k1,if_neg k2,List.append_nil] at h
   exact absurd (h ▸ by simp:(47:UInt8)∈Lib.itoa m) (slash_itoa m)
  ·rw [if_neg k1,if_pos k2,List.append_nil] at h
   exact absurd (h ▸ by simp:(47:UInt8)∈Lib.itoa n) (slash_itoa n)
  ·rw [if_neg k1,if_neg k2,List.append_nil,List.append_nil] at h
   exact ⟨itoa_inj h,by omega⟩
 ·exact absurd (h.trans (by unfold ratS;rw [if_neg ht])) (key _ _ hs)
 ·exact absurd (h.symm.trans (by unfold ratS;rw [if_neg hs])) (key _ _ ht)
 ·obtain ⟨a,b⟩:=zero _ _ hs h1
  obtain ⟨c,d⟩:=zero _ _ ht h2
  omega
open Classical in
noncomputable def fracS (s:Bs):Option (Int×Int):=if h:∃p:Int×Int,I64 p.1∧I64 p.2∧MayP p.1 p.2∧ratS p.1 p.2=s then some h.choose else none
theorem fracS_yes {n d:Int} (hn:I64 n) (hd:I64 d) (h:MayP n d):fracS (ratS n d)=some (n,d):=by
 unfold fracS
 have hx:∃p:Int×Int,I64 p.1∧I64 p.2∧MayP p.1 p.2∧ratS p.1 p.2=ratS n d:=⟨(n,d),hn,hd,h,rfl⟩
 rw [dif_pos hx]
 obtain ⟨_,_,h3,h4⟩:=hx.choose_spec
 obtain ⟨a,b⟩:=ratS_inj h3 h h4
 exact congrArg some (Prod.ext a b)
theorem fracS_no {s:Bs} (h:∀n d:Int,I64 n→I64 d→MayP n d→ratS n d≠s):fracS s=none:=by
 unfold fracS
 rw [dif_neg]
 rintro ⟨p,h1,h2,h3,h4⟩
 exact h p.1 p.2 h1 h2 h3 h4
/-! ### Operations -/
structure Op where
 kind:Int:=0
 node:Int:=0
 at_:Int:=0
 origin:Int:=0
 name:Bs:=[]
 word:Bs:=[]
 text:Bs:=[]
 w:Int×Int:=(0,0)
 h:Int×Int:=(0,0)
 bt:Int:=0
 bn:Bs:=[]
 bw:Int×Int:=(0,0)
 bh:Int×Int:=(0,0)
 on:Bool:=false
abbrev kSheet:Bs:=[115,104,101,101,116]
abbrev kView:Bs:=[118,105,101,119]
abbrev kFont:Bs:=[102,111,110,116]
abbrev kColor:Bs:=[99,111,108,111,114]
abbrev kPrint:Bs:=[112,114,105,110,116]
abbrev kWord:Bs:=[119,111,114,100]
abbrev kInsert:Bs:=[105,110,115,101,114,116]
abbrev kRemove:Bs:=[114,101,109,111,118,101]
abbrev kSet:Bs:=[115,101,116]
abbrev kUnset:Bs:=[117,110,115,101,116]
abbrev kBox:Bs:=[98,111,120]
abbrev kAsk:Bs:=[97,115,107]
abbrev kCustom:Bs:=[99,117,115,116,111,109]
abbrev kRules:Bs:=[114,117,108,101,115]
abbrev kCount:Bs:=[99,111,117,110,116]
abbrev kOn:Bs:=[111,110]
abbrev kOff:Bs:=[111,102,102]
abbrev kNone:Bs:=[110,111,110,101]
abbrev kInline:Bs:=[105,110,108,105,110,101]
abbrev kSize:Bs:=[115,105,122,101]
abbrev Wd:=Bs×Bool
def wNum (w:Wd):Option Int:=if w.2 then none else num w.1
noncomputable def wFrac (w:Wd):Option (Int×Int):=if w.2 then none else fracS w.1
def wPlain (w:Wd):Option Bs:=if w.2 then none else some w.1
def wText (w:Wd):Option Bs:=if w.2 then some w.1 else none
def boxOf (s:Bs):Option Int:=if s=kNone then some 0 else if s=kInline then some 1 else if s=kSize then some 2 else none
def boxName (s:Bs):Bs:=if s = [45] then [] else s
noncomputable def opS (name:Bs) (a:List Wd):Option Op :=
 if name=kSheet then (match a with | [x,y]=>(wNum x).bind fun o=>(wText y).bind fun t=>some { kind:=1,origin:=o,text:=t } | _=>none)
 else if name=kView then (match a with | [x,y]=>(wFrac x).bind fun p=>(wFrac y).bind fun q=>some { kind:=2,w:=p,h:=q } | _=>none)
 else if name=kFont then (match a with | [x]=>(wFrac x).bind fun p=>some { kind:=3,w:=p } | _=>none)
 else if name=kColor then (match a with | [x]=>(wFrac x).bind fun p=>some { kind:=13,w:=p } | _=>none)
 else if name=kPrint then (match a with | [x]=>(wPlain x).bind fun s=>if s=kOn then some { kind:=14,on:=true } else if s=kOff then some { kind:=14 } else none | _=>none)
 else if name=kWord then (match a with | [x,y]=>(wPlain x).bind fun s=>(wPlain y).bind fun t=>some { kind:=4,name:=s,word:=t } | _=>none)
 else if name=kInsert then (match a with | [x,y,z]=>(wNum x).bind fun n=>(wNum y).bind fun k=>(wPlain z).bind fun s=>some { kind:=5,node:=n,at_:=k,name:=s } | _=>none)
 else if name=kRemove then (match a with | [x]=>(wNum x).bind fun n=>some { kind:=6,node:=n } | _=>none)
 else if name=kSet then (match a with | [x,y,z]=>(wNum x).bind fun n=>(wPlain y).bind fun s=>(wText z).bind fun t=>some { kind:=7,node:=n,name:=s,word:=t } | _=>none)
 else if name=kUnset then (match a with | [x,y]=>(wNum x).bind fun n=>(wPlain y).bind fun s=>some { kind:=8,node:=n,name:=s } | _=>none)
 else if name=kBox then (match a with | [x,y,z,u,v]=>(wNum x).bind fun n=>(wPlain y).bind fun s=>(boxOf s).bind fun b=>(wPlain z).bind fun t=>(wFrac u).bind fun p=>(wFrac v).bind fun q=>some { kind:=9,node:=n,bt:=b,bn:=boxName t,bw:=p,bh:=q } | _=>none)
 else if name=kAsk then (match a with | [x,y]=>(wNum x).bind fun n=>(wPlain y).bind fun s=>some { kind:=10,node:=n,name:=s } | _=>none)
 else if name=kCustom then (match a with | [x,y]=>(wNum x).bind fun n=>(wPlain y).bind fun s=>some { kind:=11,node:=n,name:=s } | _=>none)
 else if name=kRules then (match a with | [x]=>(wNum x).bind fun n=>some { kind:=12,node:=n } | _=>none)
 else if name=kCount then (match a with | []=>some { kind:=15 } | _=>none)
 else none
def SmallP (n:Int):Prop := -1000000000<n∧n<1000000000
instance (n:Int):Decidable (SmallP n):=inferInstanceAs (Decidable (_∧_))
abbrev sp (s:Bs):Bs:=32 :: s
def silentB (s:Bs):Bool:=(s.dropWhile (· == 32)).head?==none||(s.dropWhile (· == 32)).head?==some 35
noncomputable def lineS (s:Bs):Option (Option Op) :=
 if 10∈s then none else if silentB s then some none else
 match words s with
 | some ((w,false) :: a)=>(opS w a).map some
 | _=>none
/-! ### Words, written and read -/
theorem words_nil:words []=some []:=by rw [words.eq_def];rfl
theorem words_space (s:Bs):words (32 :: s)=words s:=by
 rw [words.eq_def,words.eq_def s]
 rfl
def row (ps:List (Bs×Wd)):Bs:=ps.flatMap fun p=>32 :: p.1
/-! ### An operation, written and read -/
structure Op.ok (o:Op):Prop where
 w1:I64 o.w.1
 w2:I64 o.w.2
 h1:I64 o.h.1
 h2:I64 o.h.2
 bw1:I64 o.bw.1
 bw2:I64 o.bw.2
 bh1:I64 o.bh.1
 bh2:I64 o.bh.2
end Go.Proofs.YtihlneenajlhoaaGreatDoor.sp
set_option linter.unusedSimpArgs false
set_option linter.unusedVariables false
namespace Go.Proofs.YtihlneenajlhoaaGreatDoor
open Go Go.RowKit
def bar:List PanicEntry:=[{ v:=.iface 54 (.agg #[]),recovered:=false }]
set_option maxRecDepth 100000 in
theorem must_yes (w:World):Calls Tryz.prog 23 #[.bool true] w fun e w'=>e=.returned (.tuple #[])∧w'=w:=by
 go_enter Tryz.func23,Tryz.ntmps23
 go_wp2
 go_end0
 exact ⟨rfl,rfl⟩
set_option maxRecDepth 100000 in
theorem must_no (w:World):Calls Tryz.prog 23 #[.bool false] w fun e w'=>e=.panicked bar∧w'=w:=by
 go_enter Tryz.func23,Tryz.ntmps23
 go_wp2
 exact ⟨rfl,rfl,rfl⟩
def LineR (w:World) (b:Nat) (s:ByteArray) (u:List UInt8):Prop :=
 ∃pre:List UInt8,s.data.toList=pre++u∧w.heap[b]?=some (.cells #[.string s,.int .i64 pre.length] 61 (0,0))
theorem LineR.lt {w:World} {b:Nat} {s:ByteArray} {u:List UInt8} (h:LineR w b s u):b<w.heap.size:=by
 obtain ⟨_,_,h⟩:=h
 exact lt_of_block h
theorem LineR.below {w w':World} {b:Nat} {s:ByteArray} {u:List UInt8} (h:LineR w b s u) (hb:Below w.heap.size w w'):LineR w' b s u:=by
 obtain ⟨p,h1,h2⟩:=h
 exact ⟨p,h1,(hb.block b (lt_of_block h2)).trans h2⟩
def peekV:List UInt8→Value
 | []=>.tuple #[.int .u8 0,.bool false]
 | c :: _=>.tuple #[.int .u8 c.toNat,.bool true]
theorem line_size {s:ByteArray} {p u:List UInt8} (h:s.data.toList=p++u):s.size=p.length+u.length:=by
 have:=congrArg List.length h
 rw [Array.length_toList,List.length_append] at this
 exact this
theorem line_at {s:ByteArray} {p u:List UInt8} {c:UInt8} (h:s.data.toList=p++c :: u):∀hl:p.length<s.size,s[p.length]'hl=c:=fun hl=>by
 have h1:s.data[p.length]?=some c:=by
  rw [←Array.getElem?_toList,h]
  simp
 have h2:s.data[p.length]?=some (s[p.length]'hl):=Array.getElem?_eq_getElem hl
 exact Option.some.inj (h2.symm.trans h1)
set_option maxRecDepth 100000 in
set_option maxHeartbeats 1000000 in
theorem peek_any (w:World) (b:Nat) (s:ByteArray) (u:List UInt8) (h:LineR w b s u):Calls Tryz.prog 46 #[.pointer (some ⟨b,0,none⟩)] w fun e w'=>e=.returned (peekV u)∧Below w.heap.size w w':=by
 obtain ⟨p,h1,h2⟩:=h
 have hsz:=line_size h1
 have c0:w.cell? ⟨b,0,none⟩=some (.string s):=by rw [Lib.cell_of_heap h2];rfl
 have c1:w.cell? ⟨b,1,none⟩=some (.int .i64 p.length):=by rw [Lib.cell_of_heap h2];rfl
 cases u with
 | nil =>
  have hge:((p.length:Int)≥(s.size:Int)):=by simp at hsz;omega
  clear h1 h2
  go_enter Tryz.func46,Tryz.ntmps46
  go_wp2
  go_quiet (fail)
  go_wp2
  go_ret2
  exact ⟨rfl,below_drewN (Below.refl _ _) _⟩
 | cons c r =>
  have hlt:¬((p.length:Int)≥(s.size:Int)):=by simp at hsz;omega
  have hc:=line_at h1
  clear h1 h2
  go_enter Tryz.func46,Tryz.ntmps46
  go_wp2
  go_quiet (fail)
  go_wp2
  go_quiet (fail)
  go_wp2
  go_ret2
  exact ⟨rfl,below_drewN (below_drewN (Below.refl _ _) _) _⟩
set_option maxRecDepth 100000 in
set_option maxHeartbeats 1000000 in
theorem take_none (w:World) (b:Nat) (s:ByteArray) (h:LineR w b s []):Calls Tryz.prog 90 #[.pointer (some ⟨b,0,none⟩)] w fun e w'=>e=.panicked bar∧Fr w w' b none:=by
 have HP:=Lib.hid (peek_any w b s [] h)
 clear h
 go_enter Tryz.func90,Tryz.ntmps90
 go_wp2_with (go_at_call 46;refine HP.out.mono ?_;rintro e w1 ⟨rfl,hb1⟩;simp only [peekV])
 exact ⟨rfl,rfl,Fr.of_below hb1⟩
set_option maxRecDepth 100000 in
set_option maxHeartbeats 1000000 in
theorem take_some (w:World) (b:Nat) (s:ByteArray) (c:UInt8) (r:List UInt8) (h:LineR w b s (c :: r)) (hs:s.size≤1099511627776):Calls Tryz.prog 90 #[.pointer (some ⟨b,0,none⟩)] w fun e w'=>e=.returned (.int .u8 c.toNat)∧LineR w' b s r∧Fr w w' b none:=by
 have HP:=Lib.hid (peek_any w b s _ h)
 obtain ⟨p,h1,h2⟩:=h
 have hsz:=line_size h1
 have hlt:=lt_of_block h2
 have HE:Hid (s.data.toList=(p++[c])++r):=Lib.hid (by rw [h1];simp)
 have hp:(p.length:Int)≤1099511627776:=by simp at hsz;omega
 have H2:=Lib.hid h2
 clear h1 h2 hsz
 go_enter Tryz.func90,Tryz.ntmps90
 go_wp2_with (go_at_call 46;refine HP.out.mono ?_;rintro e w1 ⟨rfl,hb1⟩;have HB1:=Lib.hid hb1;have h3:=Lib.hid ((hb1.block b hlt).trans H2.out);have c1:w1.cell? ⟨b,1,none⟩=some (.int .i64 p.length):=(by rw [Lib.cell_of_heap h3.out];rfl);have z1:w1.frozen? ⟨b,1,none⟩=false:=blk_free h3.out 1;clear hb1;simp only [peekV])
 go_ret
 refine ⟨rfl,⟨p++[c],HE.out,?_⟩,(Fr.of_below HB1.out).trans (Fr.set 1 _) (Own.refl _ _)⟩
 have:=blk_set h3.out 1 (.int .i64 ((p.length:Int)+1))
 simpa using this
theorem hexv_dig {c:UInt8} (h:48≤c.toNat∧c.toNat≤57):sp.hexv c=some (c.toNat-48):=by unfold sp.hexv;rw [if_pos h]
theorem hexv_let {c:UInt8} (h0:¬(48≤c.toNat∧c.toNat≤57)) (h:97≤c.toNat∧c.toNat≤102):sp.hexv c=some (c.toNat-87):=by unfold sp.hexv;rw [if_neg h0,if_pos h]
theorem hexv_non {c:UInt8} (h0:¬(48≤c.toNat∧c.toNat≤57)) (h:¬(97≤c.toNat∧c.toNat≤102)):sp.hexv c=none:=by unfold sp.hexv;rw [if_neg h0,if_neg h]
def HexIs (c:UInt8) (e:Ending):Prop:=match sp.hexv c with
 | some k=>e=.returned (.int .u8 k)
 | none=>e=.panicked bar
set_option maxRecDepth 100000 in
set_option maxHeartbeats 1000000 in
theorem hex_any (c:UInt8) (w:World):Calls Tryz.prog 122 #[.int .u8 c.toNat] w fun e w'=>HexIs c e∧w'=w:=by
 have hc:=c.toNat_lt
 by_cases h1:48≤c.toNat∧c.toNat≤57
 ·have t1:decide ((c.toNat:Int)≥48)=true:=by simp;omega
  have t2:decide ((c.toNat:Int)≤57)=true:=by simp;omega
  have HX:=Lib.hid (hexv_dig h1)
  have hv:((c.toNat:Int)-48)=((c.toNat-48:Nat):Int):=by omega
  have H1:=Lib.hid h1
  clear h1
  go_enter Tryz.func122,Tryz.ntmps122
  go_wp2
  go_ret
  exact ⟨by unfold HexIs;rw [HX.out];rfl,rfl⟩
 ·have HX1:=Lib.hid h1
  by_cases h2:97≤c.toNat∧c.toNat≤102
  ·have t1:decide ((c.toNat:Int)≥48)=true:=by simp;omega
   have t2:decide ((c.toNat:Int)≤57)=false:=by simp;omega
   have t3:decide ((c.toNat:Int)≥97)=true:=by simp;omega
   have t4:decide ((c.toNat:Int)≤102)=true:=by simp;omega
   have HX:=Lib.hid (hexv_let h1 h2)
   have hv:((c.toNat:Int)-97)=((c.toNat-97:Nat):Int):=by omega
   have hv2:(((c.toNat-97:Nat):Int)+10)=((c.toNat-87:Nat):Int):=by omega
   clear h1 h2
   go_enter Tryz.func122,Tryz.ntmps122
   go_wp2
   go_ret
   exact ⟨by unfold HexIs;rw [HX.out];rfl,rfl⟩
  ·have HX:=Lib.hid (hexv_non h1 h2)
   have fin:HexIs c (.panicked bar):=by unfold HexIs;rw [HX.out]
   have FIN:=Lib.hid fin
   clear fin
   by_cases q1:48≤c.toNat
   ·have t1:decide ((c.toNat:Int)≥48)=true:=by simp;omega
    have t2:decide ((c.toNat:Int)≤57)=false:=by simp;omega
    by_cases q2:97≤c.toNat
    ·have t3:decide ((c.toNat:Int)≥97)=true:=by simp;omega
     have t4:decide ((c.toNat:Int)≤102)=false:=by simp;omega
     clear h1 h2 q1 q2
     go_enter Tryz.func122,Tryz.ntmps122
     go_wp2
     exact ⟨rfl,FIN.out,rfl⟩
    ·have t3:decide ((c.toNat:Int)≥97)=false:=by simp;omega
     clear h1 h2 q1 q2
     go_enter Tryz.func122,Tryz.ntmps122
     go_wp2
     exact ⟨rfl,FIN.out,rfl⟩
   ·have t1:decide ((c.toNat:Int)≥48)=false:=by simp;omega
    have t3:decide ((c.toNat:Int)≥97)=false:=by simp;omega
    clear h1 h2 q1
    go_enter Tryz.func122,Tryz.ntmps122
    go_wp2
    exact ⟨rfl,FIN.out,rfl⟩
theorem hex_yes {c:UInt8} {k:Nat} (h:sp.hexv c=some k) (w:World):Calls Tryz.prog 122 #[.int .u8 c.toNat] w fun e w'=>e=.returned (.int .u8 k)∧w'=w :=
 (hex_any c w).mono fun e w' ⟨h1,h2⟩=>⟨by unfold HexIs at h1;rw [h] at h1;exact h1,h2⟩
theorem hex_no {c:UInt8} (h:sp.hexv c=none) (w:World):Calls Tryz.prog 122 #[.int .u8 c.toNat] w fun e w'=>e=.panicked bar∧w'=w :=
 (hex_any c w).mono fun e w' ⟨h1,h2⟩=>⟨by unfold HexIs at h1;rw [h] at h1;exact h1,h2⟩
def escX:List UInt8→Option (UInt8×List UInt8)
 | a :: b :: r'=>(sp.hexv a).bind fun x=>(sp.hexv b).map fun y=>(UInt8.ofNat (16*x+y),r')
 | _=>none
def escS:List UInt8→Option (UInt8×List UInt8)
 | []=>none
 | c :: r =>
  if c=92∨c=34 then some (c,r) else if c=110 then some (10,r) else if c=120 then escX r else none
theorem qread_esc (r:List UInt8):sp.qread (92 :: r)=(escS r).bind fun p=>(sp.qread p.2).map fun q=>(p.1 :: q.1,q.2):=by
 cases r with
 | nil=>rw [sp.qread_esc0];rfl
 | cons c r =>
  simp only [escS]
  by_cases h1:c=92∨c=34
  ·rw [if_pos h1,sp.qread_esc_same h1];rfl
  ·rw [if_neg h1]
   by_cases h2:c=110
   ·rw [if_pos h2,h2,sp.qread_esc_n];rfl
   ·rw [if_neg h2]
    by_cases h3:c=120
    ·rw [if_pos h3];subst h3
     match r with
     | []=>rw [sp.qread_esc_x0];rfl
     | [a]=>rw [sp.qread_esc_x1];rfl
     | a :: b :: r' =>
      simp only [escX]
      cases hx:sp.hexv a with
      | none=>rw [sp.qread_esc_xa hx];rfl
      | some x =>
       cases hy:sp.hexv b with
       | none=>rw [sp.qread_esc_xb hy];rfl
       | some y=>rw [sp.qread_esc_x hx hy];rfl
    ·rw [if_neg h3,sp.qread_esc_bad h1 h2 h3];rfl
def EscIs (w':World) (b:Nat) (s:ByteArray) (r:List UInt8) (e:Ending):Prop:=match escS r with
 | some (d,u)=>e=.returned (.int .u8 d.toNat)∧LineR w' b s u
 | none=>e=.panicked bar
theorem u8ne (c d:UInt8) (h:c≠d):((c.toNat:Int)==(d.toNat:Int))=false:=by
 simp only [beq_eq_false_iff_ne,ne_eq]
 intro e
 exact h (UInt8.toNat.inj (by omega))
theorem or_bits:∀k q:Fin 16,bits BinOp.or IntKind.u8 ((k.val:Int)*16%256) (q.val:Int)=((16*k.val+q.val:Nat):Int):=by decide +kernel
theorem or_hex {x y:UInt8} {k q:Nat} (hx:sp.hexv x=some k) (hy:sp.hexv y=some q):bits BinOp.or IntKind.u8 ((k:Int)*16%256) (q:Int)=((UInt8.ofNat (16*k+q)).toNat:Int):=by
 have h1:=sp.hexv_lt hx
 have h2:=sp.hexv_lt hy
 have e:=or_bits ⟨k,h1⟩ ⟨q,h2⟩
 simp only at e
 rw [e]
 have:(UInt8.ofNat (16*k+q)).toNat=16*k+q:=by
  rw [UInt8.toNat_ofNat']
  omega
 rw [this]
set_option maxRecDepth 100000 in
set_option maxHeartbeats 2000000 in
theorem escaped_any (w:World) (b:Nat) (s:ByteArray) (r:List UInt8) (h:LineR w b s r) (hs:s.size≤1099511627776):Calls Tryz.prog 91 #[.pointer (some ⟨b,0,none⟩)] w fun e w'=>EscIs w' b s r e∧Fr w w' b none:=by
 have H:=Lib.hid h;have HS:=Lib.hid hs
 clear h hs
 cases r with
 | nil =>
  go_enter Tryz.func91,Tryz.ntmps91
  go_wp2_with (go_at_call 90;refine (take_none w b s H.out).mono ?_;rintro e w1 ⟨rfl,hf1⟩)
  exact ⟨rfl,rfl,hf1⟩
 | cons c r =>
  have HT:=Lib.hid (take_some w b s c r H.out HS.out)
  by_cases h1:c=92∨c=34
  ·have hE:escS (c :: r)=some (c,r):=by simp only [escS,if_pos h1]
   have HE:=Lib.hid hE
   rcases h1 with rfl | rfl
   ·clear hE
    go_enter Tryz.func91,Tryz.ntmps91
    go_wp2_with (go_at_call 90;refine HT.out.mono ?_;rintro e w1 ⟨rfl,hl1,hf1⟩)
    go_ret
    exact ⟨by unfold EscIs;rw [HE.out];exact ⟨rfl,hl1⟩,hf1⟩
   ·clear hE
    go_enter Tryz.func91,Tryz.ntmps91
    go_wp2_with (go_at_call 90;refine HT.out.mono ?_;rintro e w1 ⟨rfl,hl1,hf1⟩)
    go_ret
    exact ⟨by unfold EscIs;rw [HE.out];exact ⟨rfl,hl1⟩,hf1⟩
  ·have t1:((c.toNat:Int)==92)=false:=u8ne c 92 (fun e=>h1 (Or.inl e))
   have t2:((c.toNat:Int)==34)=false:=u8ne c 34 (fun e=>h1 (Or.inr e))
   by_cases h2:c=110
   ·have HE:Hid (escS (c :: r)=some (10,r)):=Lib.hid (by simp only [escS,if_neg h1,if_pos h2])
    subst h2
    clear h1
    go_enter Tryz.func91,Tryz.ntmps91
    go_wp2_with (go_at_call 90;refine HT.out.mono ?_;rintro e w1 ⟨rfl,hl1,hf1⟩)
    go_ret
    exact ⟨by unfold EscIs;rw [HE.out];exact ⟨rfl,hl1⟩,hf1⟩
   ·have t3:((c.toNat:Int)==110)=false:=u8ne c 110 h2
    by_cases h3:c=120
    ·have HE:=Lib.hid (show escS (c :: r)=escX r by simp only [escS,if_neg h1,if_neg h2,if_pos h3])
     subst h3
     clear h1 h2
     match r with
     | [] =>
      go_enter Tryz.func91,Tryz.ntmps91
      go_wp2_with (first
       | (go_at_call 90;refine HT.out.mono ?_;rintro e w1 ⟨rfl,hl1,hf1⟩;have HL1:=Lib.hid hl1;have HF1:=Lib.hid hf1;clear hl1 hf1;clear HT)
       | (go_at_call 90;refine (take_none _ b s HL1.out).mono ?_;rintro e w2 ⟨rfl,hf2⟩))
      exact ⟨rfl,by unfold EscIs;rw [HE.out];exact rfl,HF1.out.trans hf2 (Own.refl _ _)⟩
     | [x] =>
      have HE2:Hid (escS [120,x]=none):=HE
      clear HE
      cases hx:sp.hexv x with
      | none =>
       have HX:=Lib.hid hx
       clear hx
       go_enter Tryz.func91,Tryz.ntmps91
       go_wp2_with (first
        | (go_at_call 90;refine HT.out.mono ?_;rintro e w1 ⟨rfl,hl1,hf1⟩;have HL1:=Lib.hid hl1;have HF1:=Lib.hid hf1;clear hl1 hf1;clear HT;have HT2:=Lib.hid (take_some _ b s x [] HL1.out HS.out))
        | (go_at_call 90;refine HT2.out.mono ?_;rintro e w2 ⟨rfl,hl2,hf2⟩;have HL2:=Lib.hid hl2;have HF2:=Lib.hid (HF1.out.trans hf2 (Own.refl _ _));clear hl2 hf2;clear HT2)
        | (go_at_call 122;refine (hex_no HX.out _).mono ?_;rintro e w3 ⟨rfl,rfl⟩;clear HX))
       exact ⟨rfl,by unfold EscIs;rw [HE2.out],HF2.out⟩
      | some k =>
       have HX:=Lib.hid hx
       clear hx
       go_enter Tryz.func91,Tryz.ntmps91
       go_wp2_with (first
        | (go_at_call 90;refine HT.out.mono ?_;rintro e w1 ⟨rfl,hl1,hf1⟩;have HL1:=Lib.hid hl1;have HF1:=Lib.hid hf1;clear hl1 hf1;clear HT;have HT2:=Lib.hid (take_some _ b s x [] HL1.out HS.out))
        | (go_at_call 90;refine HT2.out.mono ?_;rintro e w2 ⟨rfl,hl2,hf2⟩;have HL2:=Lib.hid hl2;have HF2:=Lib.hid (HF1.out.trans hf2 (Own.refl _ _));clear hl2 hf2;clear HT2)
        | (go_at_call 122;refine (hex_yes HX.out _).mono ?_;rintro e w3 ⟨rfl,rfl⟩;clear HX)
        | (go_at_call 90;refine (take_none _ b s HL2.out).mono ?_;rintro e w4 ⟨rfl,hf4⟩))
       exact ⟨rfl,by unfold EscIs;rw [HE2.out],HF2.out.trans hf4 (Own.refl _ _)⟩
     | x :: y :: r' =>
      have HE2:Hid (escS (120 :: x :: y :: r')=(sp.hexv x).bind fun k=>(sp.hexv y).map fun q=>(UInt8.ofNat (16*k+q),r')):=HE
      clear HE
      cases hx:sp.hexv x with
      | none =>
       have HX:=Lib.hid hx
       have HE3:Hid (escS (120 :: x :: y :: r')=none):=Lib.hid (by rw [HE2.out,hx];rfl)
       clear hx HE2
       go_enter Tryz.func91,Tryz.ntmps91
       go_wp2_with (first
        | (go_at_call 90;refine HT.out.mono ?_;rintro e w1 ⟨rfl,hl1,hf1⟩;have HL1:=Lib.hid hl1;have HF1:=Lib.hid hf1;clear hl1 hf1;clear HT;have HT2:=Lib.hid (take_some _ b s x (y :: r') HL1.out HS.out))
        | (go_at_call 90;refine HT2.out.mono ?_;rintro e w2 ⟨rfl,hl2,hf2⟩;have HL2:=Lib.hid hl2;have HF2:=Lib.hid (HF1.out.trans hf2 (Own.refl _ _));clear hl2 hf2;clear HT2)
        | (go_at_call 122;refine (hex_no HX.out _).mono ?_;rintro e w3 ⟨rfl,rfl⟩;clear HX))
       exact ⟨rfl,by unfold EscIs;rw [HE3.out],HF2.out⟩
      | some k =>
       have HX:=Lib.hid hx
       cases hy:sp.hexv y with
       | none =>
        have HY:=Lib.hid hy
        have HE3:Hid (escS (120 :: x :: y :: r')=none):=Lib.hid (by rw [HE2.out,hx,hy];rfl)
        clear hx hy HE2
        go_enter Tryz.func91,Tryz.ntmps91
        go_wp2_with (first
         | (go_at_call 90;refine HT.out.mono ?_;rintro e w1 ⟨rfl,hl1,hf1⟩;have HL1:=Lib.hid hl1;have HF1:=Lib.hid hf1;clear hl1 hf1;clear HT;have HT2:=Lib.hid (take_some _ b s x (y :: r') HL1.out HS.out))
         | (go_at_call 90;refine HT2.out.mono ?_;rintro e w2 ⟨rfl,hl2,hf2⟩;have HL2:=Lib.hid hl2;have HF2:=Lib.hid (HF1.out.trans hf2 (Own.refl _ _));clear hl2 hf2;clear HT2;have HT3:=Lib.hid (take_some _ b s y r' HL2.out HS.out))
         | (go_at_call 122;refine (hex_yes HX.out _).mono ?_;rintro e w3 ⟨rfl,rfl⟩;clear HX)
         | (go_at_call 90;refine HT3.out.mono ?_;rintro e w4 ⟨rfl,hl4,hf4⟩;have HL4:=Lib.hid hl4;have HF4:=Lib.hid (HF2.out.trans hf4 (Own.refl _ _));clear hl4 hf4;clear HT3)
         | (go_at_call 122;refine (hex_no HY.out _).mono ?_;rintro e w5 ⟨rfl,rfl⟩))
        exact ⟨rfl,by unfold EscIs;rw [HE3.out],HF4.out⟩
       | some q =>
        have HY:=Lib.hid hy
        have HE3:Hid (escS (120 :: x :: y :: r')=some (UInt8.ofNat (16*k+q),r')):=Lib.hid (by rw [HE2.out,hx,hy];rfl)
        have HO:=Lib.hid (or_hex hx hy)
        clear hx hy HE2
        go_enter Tryz.func91,Tryz.ntmps91
        go_wp2_with (first
         | (go_at_call 90;refine HT.out.mono ?_;rintro e w1 ⟨rfl,hl1,hf1⟩;have HL1:=Lib.hid hl1;have HF1:=Lib.hid hf1;clear hl1 hf1;clear HT;have HT2:=Lib.hid (take_some _ b s x (y :: r') HL1.out HS.out))
         | (go_at_call 90;refine HT2.out.mono ?_;rintro e w2 ⟨rfl,hl2,hf2⟩;have HL2:=Lib.hid hl2;have HF2:=Lib.hid (HF1.out.trans hf2 (Own.refl _ _));clear hl2 hf2;clear HT2;have HT3:=Lib.hid (take_some _ b s y r' HL2.out HS.out))
         | (go_at_call 122;refine (hex_yes HX.out _).mono ?_;rintro e w3 ⟨rfl,rfl⟩;clear HX)
         | (go_at_call 90;refine HT3.out.mono ?_;rintro e w4 ⟨rfl,hl4,hf4⟩;have HL4:=Lib.hid hl4;have HF4:=Lib.hid (HF2.out.trans hf4 (Own.refl _ _));clear hl4 hf4;clear HT3)
         | (go_at_call 122;refine (hex_yes HY.out _).mono ?_;rintro e w5 ⟨rfl,rfl⟩))
        go_ret
        refine ⟨?_,HF4.out⟩
        unfold EscIs
        rw [HE3.out]
        exact ⟨by rw [←HO.out];rfl,HL4.out⟩
    ·have t4:((c.toNat:Int)==120)=false:=u8ne c 120 h3
     have HE:Hid (escS (c :: r)=none):=Lib.hid (by simp only [escS,if_neg h1,if_neg h2,if_neg h3])
     clear h1 h2 h3
     go_enter Tryz.func91,Tryz.ntmps91
     go_wp2_with (go_at_call 90;refine HT.out.mono ?_;rintro e w1 ⟨rfl,hl1,hf1⟩)
     exact ⟨rfl,by unfold EscIs;rw [HE.out];exact rfl,hf1⟩
end Go.Proofs.YtihlneenajlhoaaGreatDoor
namespace Go.Proofs.YtihlneenajlhoaaGreatDoor
open Go Go.RowKit Go.Sort Go.Shelf
end Go.Proofs.YtihlneenajlhoaaGreatDoor
set_option linter.unusedSimpArgs false
set_option linter.unusedVariables false
namespace Go.Proofs.YtihlneenajlhoaaGreatDoor
open Go Go.RowKit
def bstr (l:List UInt8):ByteArray:=⟨l.toArray⟩
theorem bstr_toList (l:List UInt8):(bstr l).data.toList=l:=by simp [bstr]
theorem bstr_size (l:List UInt8):(bstr l).size=l.length:=by simp [bstr,ByteArray.size]
def Pow (w:World):Prop:=Lib.TabBelow Tryz.prog w.heap.size w "internal/strconv.uint64pow10" .u64 Lib.pow10Tab
theorem Pow.on {w w':World} (h:Pow w) (hb:Below w.heap.size w w'):Pow w':=fun w'' h''=>h w'' (hb.trans (h''.mono hb.size))
theorem dec_len_le {m:Nat} {tl:List UInt8} {N:Nat} (h:Lib.decDigits N=Lib.decDigits m++tl) (hN:N≤18446744073709551615):tl.length+1≤20:=by
 have h1:=Lib.decDigits_length N
 have h2:=Lib.nDigits_le20 N (by omega)
 have h3:=Lib.decDigits_length m
 have h4:=Lib.nDigits_pos m
 rw [h,List.length_append] at h1
 omega
theorem drop_set_self {α:Type} (l:List α) (k:Nat) (v:α) (h:k<l.length):(l.set k v).drop k=v :: l.drop (k+1):=by
 rw [List.drop_eq_getElem_cons (by simpa using h)]
 simp [List.drop_set_of_lt]
theorem arr235:Tryz.prog.arrayLen 235=20:=by kernel_rfl
theorem elem235:Tryz.prog.elem 235=5:=by kernel_rfl
theorem sizeOf5 (W:World):(sizeOf 5).run Tryz.prog W=.ok 1 W:=by kernel_rfl
theorem slice20 (W:World) (b k:Nat) (hk:k<20):(Instr.sliceAt 235 (.pointer (some ⟨b,0,none⟩)) (some (.int .i64 k)) none none).run Tryz.prog W=.ok (.slice (some ⟨b,k,none⟩) (20-k) (20-k)) W:=by
 rw [run_sliceAt_array_l W 235 ⟨b,0,none⟩ (by rw [arr235,elem235];exact Tryz.underlying235) .i64 k (by omega) (by rw [arr235];omega),elem235,sizeOf5]
 have e:¬20=k:=by omega
 simp [Result.andThen,slicedAt,arr235,Addr.add,e]
 omega
set_option maxRecDepth 100000 in
set_option maxHeartbeats 4000000 in
theorem number_any (N:Nat) (w:World) (hN:N≤18446744073709551615):Calls Tryz.prog 107 #[.int .u64 N] w fun e w'=>e=.returned (.string (bstr (Lib.decDigits N)))∧Below w.heap.size w w':=by
 have HN:=Lib.hid hN;clear hN
 go_enter Tryz.func107,Tryz.ntmps107
 go_wp2
 go_loopw [0,4] (fun n a wr=>∃(m k:Nat) (cs:Array Value) (tl:List UInt8),n=.int .u64 m∧a=.int .i64 (k+1:Nat)∧m≤18446744073709551615∧k+1+tl.length=20∧wr.heap[w.heap.size]?=some (.cells cs 235 (0,0))∧cs.size=20∧cs.toList.drop (k+1)=Lib.byteCells tl∧Lib.decDigits N=Lib.decDigits m++tl∧Below w.heap.size w wr) (fun n _ _=>(intOf n).toNat)
 case atStart =>
  refine ⟨N,19,_,[],rfl,rfl,HN.out,rfl,heap_alloc_at _ _,rfl,?_,by simp,below_new w _⟩
  rfl
 case round =>
  obtain ⟨m,k,cs,tl,rfl,rfl,hm,hk,hb,hc,hd,hdd,hbl⟩:=hrel
  have hk20:k<20:=by omega
  obtain ⟨y,hy⟩:∃y,cs[k]?=some y:=⟨cs[k],Array.getElem?_eq_getElem (by omega)⟩
  have hce:wr.cell? ⟨w.heap.size,k,none⟩=some y:=by rw [cell_of_row wr _ k cs 235 (0,0) hb,hy]
  have hfr:=blk_free hb k
  have hlt:=lt_of_block hb
  have hmod:m%10<10:=Nat.mod_lt _ (by omega)
  have hu8:(48+(m:Int)%10)=(UInt8.ofNat (48+m%10)).toNat:=by rw [sp.toNat_digit hmod];omega
  have hb2:=blk_set hb k (.int .u8 (48+(m:Int)%10))
  have hd2:List.drop k (cs.setIfInBounds k (.int .u8 (48+(m:Int)%10))).toList=Lib.byteCells (UInt8.ofNat (48+m%10) :: tl):=by
   rw [Array.toList_setIfInBounds,drop_set_self _ _ _ (by rw [Array.length_toList];omega),hd,hu8]
   rfl
  have hbl2:Below w.heap.size w (wr.setCell ⟨w.heap.size,k,none⟩ (.int .u8 (48+(m:Int)%10))):=hbl.setCell (Nat.le_refl _) _
  have hc2:(cs.setIfInBounds k (.int .u8 (48+(m:Int)%10))).size=20:=by rw [Array.size_setIfInBounds];exact hc
  have HC:=Lib.hid hc2;have HD:=Lib.hid hd2;have HDD:=Lib.hid hdd;have HBL:=Lib.hid hbl2;have HB2:=Lib.hid hb2;have HY:=Lib.hid hy
  clear hb hd hd2 hdd hbl hbl2 hb2 hc hu8 hc2 hy
  by_cases h0:m<10
  ·have hsl:=fun W=>slice20 W w.heap.size k hk20
   have h10:((m:Int) / 10==0)=true:=by simp;omega
   have HE:Hid (UInt8.ofNat (48+m%10) :: tl=Lib.decDigits N):=Lib.hid (by
    rw [HDD.out,sp.dec_small h0,Nat.mod_eq_of_lt h0];rfl)
   have hcv:(convert 22 9 (.slice (some ⟨w.heap.size,k,none⟩) (20-k) (20-k))).run Tryz.prog (wr.setCell ⟨w.heap.size,k,none⟩ (.int .u8 (48+(m:Int)%10)))=.ok (.string (bstr (Lib.decDigits N))) (wr.setCell ⟨w.heap.size,k,none⟩ (.int .u8 (48+(m:Int)%10))):=by
    have e:(Lib.decDigits N).length=20-k:=by rw [←HE.out,List.length_cons];omega
    have:=Go.run_convert_bytes_back (P:=Tryz.prog) (wr.setCell ⟨w.heap.size,k,none⟩ (.int .u8 (48+(m:Int)%10))) 22 9 5 ⟨w.heap.size,k,none⟩ (20-k) (Lib.decDigits N) Tryz.underlying22 Tryz.underlying5 Tryz.underlying9 (fun j hj => ?_)
    ·rw [e] at this
     exact this
    ·have e2:(⟨w.heap.size,k,none⟩:Addr).add j=⟨w.heap.size,k+j,none⟩:=Addr.add_mid _ _ _
     rw [e2,cell_of_row _ _ (k+j) _ 235 (0,0) HB2.out]
     have h3:=congrArg (·[j]?) HD.out
     simp only [List.getElem?_drop,HE.out] at h3
     rw [←Array.getElem?_toList,h3]
     simp [Lib.byteCells,hj]
   go_wp2
   go_ret
   exact ⟨rfl,HBL.out⟩
  ·have h10:((m:Int) / 10==0)=false:=by simp;omega
   have hE:Lib.decDigits N=Lib.decDigits (m / 10)++UInt8.ofNat (48+m%10) :: tl:=by rw [HDD.out,sp.dec_big h0,List.append_assoc];rfl
   have hk1:1≤k:=by
    have:=dec_len_le hE HN.out
    rw [List.length_cons] at this
    omega
   have HE:=Lib.hid hE;clear hE
   go_wp2
   refine ⟨⟨m / 10,k-1,_,UInt8.ofNat (48+m%10) :: tl,by simp,?_,by omega,?_,HB2.out,HC.out,?_,HE.out,HBL.out⟩,by simp [intOf];omega⟩
   ·have e:k-1+1=k:=by omega
    rw [e]
   ·rw [List.length_cons];omega
   ·have e:k-1+1=k:=by omega
    rw [e]
    exact HD.out
theorem rat_cells {w:World} {b:Nat} {n d:Int} (h:w.heap[b]?=some (.cells #[.int .i64 n,.int .i64 d] 24 (0,0))):w.cell? ⟨b,0,none⟩=some (.int .i64 n)∧w.cell? ⟨b,1,none⟩=some (.int .i64 d) :=
 ⟨by rw [cell_of_row w b 0 _ _ _ h];rfl,by rw [cell_of_row w b 1 _ _ _ h];rfl⟩
theorem itoa_pos {n:Int} (h:0≤n):Lib.itoa n=Lib.decDigits n.natAbs:=by
 obtain ⟨u,rfl⟩:=Int.eq_ofNat_of_zero_le h
 exact sp.itoa_nat u
theorem itoa_neg' {n:Int} (h:n<0):Lib.itoa n=45 :: Lib.decDigits n.natAbs:=by
 obtain ⟨u,hu⟩:=Int.eq_ofNat_of_zero_le (show 0 ≤ -n by omega)
 have e:n = -(u:Int):=by omega
 subst e
 rw [sp.itoa_minus u (by omega),Int.natAbs_neg,Int.natAbs_natCast]
theorem decLen {N:Nat} (h:N≤18446744073709551615):(Lib.decDigits N).length≤20:=by
 rw [Lib.decDigits_length]
 exact Lib.nDigits_le20 N (by omega)
theorem ratS_eq (n:Int) (D:Nat) (hs:SureP n D):sp.ratS n D=(bif decide (n<0) then 45 :: Lib.decDigits n.natAbs else Lib.decDigits n.natAbs)++(bif decide (1<(D:Int)) then 47 :: Lib.decDigits D else []):=by
 unfold sp.ratS
 rw [if_pos (show sp.SureP n D from hs),sp.itoa_nat]
 congr 1
 ·by_cases h:n<0
  ·rw [decide_eq_true h,itoa_neg' h];rfl
  ·rw [decide_eq_false h,itoa_pos (by omega)];rfl
 ·by_cases h:1<(D:Int)
  ·rw [decide_eq_true h,if_pos h];rfl
  ·rw [decide_eq_false h,if_neg h];rfl
theorem ret_s {a b:ByteArray} (h:a=b):Ending.returned (.string a)=.returned (.string b):=by rw [h]
theorem over_of {n d:Int} (h:¬SureP n d):sp.ratS n d=sp.over:=by
 unfold sp.ratS
 rw [if_neg (show ¬sp.SureP n d from h)]
set_option maxRecDepth 100000 in
set_option maxHeartbeats 4000000 in
theorem ratText_any (n d:Int) (w:World) (hn:I64 n) (hd:I64 d):Calls Tryz.prog 73 #[.agg #[.int .i64 n,.int .i64 d]] w fun e w'=>e=.returned (.string (bstr (sp.ratS n d)))∧Below w.heap.size w w':=by
 by_cases hs:SureP n d
 ·have hpos:0≤d:=by have:=hs.1;omega
  obtain ⟨D,rfl⟩:=Int.eq_ofNat_of_zero_le hpos
  have HN:=Lib.hid hn;have HD:=Lib.hid hd;have HA:=Lib.hid (natAbs_le hn)
  have HDD:Hid (D≤18446744073709551615):=Lib.hid (by unfold I64 at hd;omega)
  have HS:=Lib.hid (sureB_yes hs)
  have hw:IntKind.u64.wrap (D:Int)=D:=wrap_u64_pos (by omega) hd
  have Z1:(bstr (Lib.decDigits n.natAbs)).size≤20:=by rw [bstr_size];exact decLen HA.out
  have Z2:(bstr (Lib.decDigits D)).size≤20:=by rw [bstr_size];exact decLen HDD.out
  have ER:=Lib.hid (ratS_eq n D hs)
  clear hn hd hs hpos
  cases q0:decide (n<0)<;>cases q1:decide (1<(D:Int))
  all_goals
   have HQ0:=Lib.hid q0;have HQ1:=Lib.hid q1
   go_enter Tryz.func73,Tryz.ntmps73
   go_wp2_with (first
    | (go_at_call 106;refine (sure_any n D _ HN.out HD.out).mono ?_;rintro e w1 ⟨rfl,hb1⟩;rw [HS.out];have hk1:=hb1.block w.heap.size (by simp);rw [heap_alloc_at] at hk1;obtain ⟨c0,c1⟩:=rat_cells hk1;have HB1:=Lib.hid ((below_new w _).trans (hb1.mono (by simp)));have HK1:=Lib.hid hk1;clear hb1 hk1)
    | (go_at_call 108;refine (size_any n _ HN.out).mono ?_;rintro e w2 ⟨rfl,rfl⟩)
    | (have hgd:=HB3;clear hgd;go_at_call 107;refine (number_any _ _ HDD.out).mono ?_;rintro e w4 ⟨rfl,hb4⟩;have HB4:=Lib.hid (HB3.out.trans (hb4.mono HB3.out.size));clear hb4)
    | (go_at_call 107;refine (number_any _ _ HA.out).mono ?_;rintro e w3 ⟨rfl,hb3⟩;have hk3:=(hb3.block w.heap.size (lt_of_block HK1.out)).trans HK1.out;obtain ⟨c2,c3⟩:=rat_cells hk3;have HB3:=Lib.hid (HB1.out.trans (hb3.mono HB1.out.size));clear hb3 hk3))
   go_ret
   refine ⟨ret_s ?_,by first | exact HB4.out | exact HB3.out⟩
   rw [ER.out,HQ0.out,HQ1.out]
   apply ByteArray.ext
   simp [bstr]
 ·have HN:=Lib.hid hn;have HD:=Lib.hid hd
  have HS:=Lib.hid (sureB_no hs);have HR:=Lib.hid (over_of hs)
  clear hn hd hs
  go_enter Tryz.func73,Tryz.ntmps73
  go_wp2_with (go_at_call 106;refine (sure_any n d _ HN.out HD.out).mono ?_;rintro e w1 ⟨rfl,hb1⟩;rw [HS.out];have HB1:=Lib.hid ((below_new w _).trans (hb1.mono (by simp)));clear hb1)
  go_ret
  exact ⟨ret_s (by rw [HR.out];rfl),HB1.out⟩
def leftOf (w:World) (b:Nat) (s:ByteArray):Nat:=s.size-(match w.cell? ⟨b,1,none⟩ with | some (.int _ n)=>n.toNat | _=>0)
theorem LineR.left {w:World} {b:Nat} {s:ByteArray} {u:List UInt8} (h:LineR w b s u):leftOf w b s=u.length:=by
 obtain ⟨p,h1,h2⟩:=h
 have hsz:=line_size h1
 unfold leftOf
 have c1:w.cell? ⟨b,1,none⟩=some (.int .i64 p.length):=by rw [Lib.cell_of_heap h2];rfl
 rw [c1]
 simp only [Int.toNat_natCast]
 omega
theorem LineR.len {w:World} {b:Nat} {s:ByteArray} {u:List UInt8} (h:LineR w b s u):u.length≤s.size:=by
 obtain ⟨p,h1,_⟩:=h
 have:=line_size h1
 omega
theorem LineR.keep {w w':World} {b:Nat} {s:ByteArray} {u:List UInt8} (h:LineR w b s u) (hb:w'.heap[b]?=w.heap[b]?):LineR w' b s u:=by
 obtain ⟨p,h1,h2⟩:=h
 exact ⟨p,h1,hb.trans h2⟩
structure TextR (w:World) (b:Nat) (s:ByteArray) (r t:List UInt8) (wr:World):Prop where
 line:LineR wr b s r
 bld:∃own,Bld wr 92 [] w.heap.size own t
 fr:Fr w wr b none
 hb:b<w.heap.size
 len:t.length+r.length≤s.size
section
variable {w wr w':World} {b:Nat} {s:ByteArray} {r r' t:List UInt8}
theorem TextR.move (h:TextR w b s r t wr) (hl:LineR w' b s r') (hf:Fr wr w' b none) (hn:r'.length≤r.length):TextR w b s r' t w':=by
 obtain ⟨own,hB⟩:=h.bld
 have hb:=h.hb
 refine ⟨hl,⟨own,hB.keep (hf.block _ hB.lt (by omega) (fun e=>by cases e)) fun g hg => ?_⟩,h.fr.trans hf (Own.refl _ _),h.hb,by have:=h.len;omega⟩
 have h2:=hB.own_lt g hg
 exact hf.block g h2.2 (by omega) (fun e=>by cases e)
theorem TextR.put {own:Option Nat} {c:UInt8} (h:TextR w b s r t wr) (hB:Bld wr 92 [] w.heap.size own t) (hw:WroteP wr 92 [] w.heap.size own (t++[c]) w') (hn:t.length+1+r.length≤s.size):TextR w b s r (t++[c]) w':=by
 obtain ⟨own',h1,hf,ho⟩:=hw
 have hsz:=h.fr.size
 have old:∀k,k<w.heap.size→w'.heap[k]?=wr.heap[k]?:=fun k hk=>hf.block k (by omega) (by omega) fun e=>by
  have:=hB.own_lt k e.symm
  omega
 refine ⟨h.line.keep (old b h.hb),⟨own',Or.inr h1⟩,⟨hf.os.trans h.fr.os,hf.tape.trans h.fr.tape,hf.output.trans h.fr.output,Nat.le_trans hsz hf.size,fun k hk hb hn=>(old k hk).trans (h.fr.block k hk hb hn)⟩,h.hb,by rw [List.length_append];simp;omega⟩
theorem TextR.str {own:Option Nat} (h:TextR w b s r t wr) (hB:Bld wr 92 [] w.heap.size own t) (hf:Fr wr w' w.heap.size own):LineR w' b s r∧Fr w w' b none:=by
 have hsz:=h.fr.size
 have old:∀k,k<w.heap.size→w'.heap[k]?=wr.heap[k]?:=fun k hk=>hf.block k (by omega) (by omega) fun e=>by
  have:=hB.own_lt k e.symm
  omega
 exact ⟨h.line.keep (old b h.hb),⟨hf.os.trans h.fr.os,hf.tape.trans h.fr.tape,hf.output.trans h.fr.output,Nat.le_trans hsz hf.size,fun k hk hb hn=>(old k hk).trans (h.fr.block k hk hb hn)⟩⟩
end
theorem escS_len {r u:List UInt8} {d:UInt8} (h:escS r=some (d,u)):u.length<r.length:=by
 cases r with
 | nil=>cases h
 | cons c r =>
  simp only [escS] at h
  split at h
  ·cases h;simp
  ·split at h
   ·cases h;simp
   ·split at h
    ·unfold escX at h
     split at h
     ·rename_i a b r'
      cases ha:sp.hexv a with
      | none=>rw [ha] at h;cases h
      | some x =>
       cases hb:sp.hexv b with
       | none=>rw [ha,hb] at h;cases h
       | some y=>rw [ha,hb] at h;cases h;simp;omega
     ·cases h
    ·cases h
def QIs (w':World) (b:Nat) (s:ByteArray) (r:List UInt8) (e:Ending):Prop:=match sp.qread r with
 | some (t,u)=>e=.returned (.string (bstr t))∧LineR w' b s u
 | none=>e=.panicked bar
set_option maxRecDepth 100000 in
set_option maxHeartbeats 4000000 in
theorem text_word (w:World) (b:Nat) (s:ByteArray) (c0:UInt8) (r:List UInt8) (h:LineR w b s (c0 :: r)) (hs:s.size≤1099511627776):Calls Tryz.prog 47 #[.pointer (some ⟨b,0,none⟩)] w fun e w'=>QIs w' b s r e∧Fr w w' b none:=by
 have HS:=Lib.hid hs
 obtain ⟨p,h1,h2⟩:=h
 have hsz:=line_size h1
 have hlt:=lt_of_block h2
 have hp:(p.length:Int)≤1099511627776:=by simp at hsz;omega
 have c1:(w.alloc (.cells #[.pointer none,.slice none 0 0] 92)).cell? ⟨b,1,none⟩=some (.int .i64 p.length):=by rw [Lib.cell_of_heap (heap_old w _ _ h2)];rfl
 have z1:(w.alloc (.cells #[.pointer none,.slice none 0 0] 92)).frozen? ⟨b,1,none⟩=false:=blk_free (heap_old w _ _ h2) 1
 have h4:=blk_set h2 1 (.int .i64 ((p.length:Int)+1))
 have h5:=heap_old _ (.cells #[.pointer none,.slice none 0 0] 92) _ h4
 have h6:=heap_alloc_at (w.setCell ⟨b,1,none⟩ (.int .i64 ((p.length:Int)+1))) (.cells #[.pointer none,.slice none 0 0] 92)
 have hz:(w.setCell ⟨b,1,none⟩ (.int .i64 ((p.length:Int)+1))).heap.size=w.heap.size:=by simp
 rw [hz] at h6
 have HR:Hid (TextR w b s r [] ((w.setCell ⟨b,1,none⟩ (.int .i64 ((p.length:Int)+1))).alloc (.cells #[.pointer none,.slice none 0 0] 92))):=Lib.hid (
  ⟨⟨p++[c0],by rw [h1];simp,by simpa using h5⟩,⟨none,bld_new 92 [] _ h6⟩,(Fr.set 1 _).trans (Fr.of_below (below_new _ _)) (Own.refl _ _),hlt,by simp at hsz ⊢; omega⟩)
 have H1:=Lib.hid h1
 clear h1 h2 h4 h5 h6 hz hsz
 go_enter Tryz.func47,Tryz.ntmps47
 go_wp2
 go_loopw [4] (fun _ wr=>∃r1 t1,TextR w b s r1 t1 wr∧sp.qread r=(sp.qread r1).map fun q=>(t1++q.1,q.2)) (fun _ wr=>leftOf wr b s)
 case atStart=>exact ⟨r,[],HR.out,by cases sp.qread r<;>simp⟩
 case round =>
  obtain ⟨r1,t1,hr,hq⟩:=hrel
  have HR1:=Lib.hid hr;have HQ:=Lib.hid hq
  clear hr hq HR H1 c1 z1
  cases r1 with
  | nil =>
   go_wp2_with (go_at_call 90;refine (take_none _ b s HR1.out.line).mono ?_;rintro e w1 ⟨rfl,hf1⟩)
   exact ⟨rfl,by unfold QIs;rw [HQ.out,sp.qread_nil];exact rfl,HR1.out.fr.trans hf1 (Own.refl _ _)⟩
  | cons c r2 =>
   have HT:=Lib.hid (take_some _ b s c r2 HR1.out.line HS.out)
   have hlen:=HR1.out.len
   by_cases e34:c=34
   ·subst e34
    obtain ⟨own,hB⟩:=HR1.out.bld
    go_wp2_with (first
     | (go_at_call 90;refine HT.out.mono ?_;rintro e w1 ⟨rfl,hl1,hf1⟩;have HR2:=Lib.hid (HR1.out.move hl1 hf1 (by simp));clear hl1 hf1)
     | (go_at_call 42;obtain ⟨own2,hB2⟩:=HR2.out.bld;refine (string_any _ 92 [] _ own2 _ hB2).mono ?_;rintro e w2 ⟨rfl,hf2⟩))
    go_ret
    have HF:=HR2.out.str hB2 hf2
    refine ⟨?_,HF.2⟩
    unfold QIs
    rw [HQ.out,sp.qread_end]
    exact ⟨by simp [bstr],HF.1⟩
   ·by_cases e92:c=92
    ·subst e92
     cases hE:escS r2 with
     | none =>
      have HQ2:Hid (sp.qread r=none):=Lib.hid (by rw [HQ.out,qread_esc,hE];rfl)
      have HE:=Lib.hid hE
      clear HQ hE
      go_wp2_with (first
       | (go_at_call 90;refine HT.out.mono ?_;rintro e w1 ⟨rfl,hl1,hf1⟩;have HR2:=Lib.hid (HR1.out.move hl1 hf1 (by simp));clear hl1 hf1)
       | (go_at_call 91;refine (escaped_any _ b s r2 HR2.out.line HS.out).mono ?_;rintro e w2 ⟨he,hf2⟩;unfold EscIs at he;rw [HE.out] at he;subst he))
      exact ⟨rfl,by unfold QIs;rw [HQ2.out],HR2.out.fr.trans hf2 (Own.refl _ _)⟩
     | some q =>
      obtain ⟨d,u⟩:=q
      have HQ2:Hid (sp.qread r=(sp.qread u).map fun q=>((t1++[d])++q.1,q.2)):=Lib.hid (by
       rw [HQ.out,qread_esc,hE]
       show Option.map _ (Option.map _ (sp.qread u))=_
       rw [Option.map_map]
       congr 1
       funext q
       simp)
      have HE:=Lib.hid hE
      have hul:=Lib.hid (escS_len hE)
      clear HQ hE
      go_wp2_with (first
       | (go_at_call 90;refine HT.out.mono ?_;rintro e w1 ⟨rfl,hl1,hf1⟩;have HR2:=Lib.hid (HR1.out.move hl1 hf1 (by simp));clear hl1 hf1)
       | (go_at_call 91;refine (escaped_any _ b s r2 HR2.out.line HS.out).mono ?_;rintro e w2 ⟨he,hf2⟩;unfold EscIs at he;rw [HE.out] at he;obtain ⟨rfl,hl2⟩:=he;have HR3:=Lib.hid (HR2.out.move hl2 hf2 (by have:=hul.out;omega));obtain ⟨own3,hB3⟩:=HR3.out.bld;have HB3:=Lib.hid hB3;clear hl2 hf2 hB3)
       | (go_at_call 41;refine (writeByte_any _ 92 [] _ own3 t1 d bt92 HB3.out (by have:=HR1.out.len;have:=HS.out;omega)).mono ?_;rintro e w3 ⟨rfl,hw⟩;have HR4:=Lib.hid (HR3.out.put HB3.out hw (by have q1:=HR1.out.len;have q2:=hul.out;simp only [List.length_cons] at q1;omega));clear hw))
      refine ⟨⟨u,t1++[d],HR4.out,HQ2.out⟩,?_⟩
      rw [HR4.out.line.left,HR1.out.line.left]
      have:=hul.out
      simp only [List.length_cons]
      omega
    ·have t1':((c.toNat:Int)==34)=false:=u8ne c 34 e34
     have t2':((c.toNat:Int)==92)=false:=u8ne c 92 e92
     have HQ2:Hid (sp.qread r=(sp.qread r2).map fun q=>((t1++[c])++q.1,q.2)):=Lib.hid (by
      rw [HQ.out,sp.qread_plain e34 e92,Option.map_map]
      congr 1
      funext q
      simp)
     clear HQ e34 e92
     go_wp2_with (first
      | (go_at_call 90;refine HT.out.mono ?_;rintro e w1 ⟨rfl,hl1,hf1⟩;have HR2:=Lib.hid (HR1.out.move hl1 hf1 (by simp));obtain ⟨own3,hB3⟩:=HR2.out.bld;have HB3:=Lib.hid hB3;clear hl1 hf1 hB3)
      | (go_at_call 41;refine (writeByte_any _ 92 [] _ own3 t1 c bt92 HB3.out (by have:=HR1.out.len;have:=HS.out;omega)).mono ?_;rintro e w3 ⟨rfl,hw⟩;have HR4:=Lib.hid (HR2.out.put HB3.out hw (by have:=HR1.out.len;simp only [List.length_cons] at this;omega));clear hw))
     refine ⟨⟨r2,t1++[c],HR4.out,HQ2.out⟩,?_⟩
     rw [HR4.out.line.left,HR1.out.line.left]
     simp
def peekC:List UInt8→Int
 | []=>0
 | c :: _=>c.toNat
def peekB:List UInt8→Bool
 | []=>false
 | _=>true
theorem peekV_ex (u:List UInt8):∃(c:Int) (o:Bool),peekV u=.tuple #[.int .u8 c,.bool o]∧c=peekC u∧o=peekB u:=by cases u<;>exact ⟨_,_,rfl,rfl,rfl⟩
theorem extract_bstr {s:ByteArray} {p t r:List UInt8} (h:s.data.toList=p++(t++r)):s.extract p.length (p.length+t.length)=bstr t:=by
 apply ByteArray.ext
 apply Array.ext'
 rw [ByteArray.data_extract,Array.toList_extract,h]
 simp [bstr,List.extract_eq_take_drop]
theorem while_at {f:UInt8→Bool} {t r:List UInt8} (ht:∀x∈t,f x=true) (hr:∀c,r.head?=some c→f c=false):(t++r).takeWhile f=t∧(t++r).dropWhile f=r:=by
 induction t with
 | nil =>
  cases r with
  | nil=>exact ⟨rfl,rfl⟩
  | cons c r=>simp [List.takeWhile_cons,List.dropWhile_cons,hr c rfl]
 | cons x t ih =>
  have hx:=ht x List.mem_cons_self
  obtain ⟨h1,h2⟩:=ih fun y hy=>ht y (List.mem_cons_of_mem _ hy)
  simp [List.takeWhile_cons,List.dropWhile_cons,hx,h1,h2]
theorem str_cong {a:ByteArray} {l:List UInt8} (h:a=bstr l):Ending.returned (.string a)=Ending.returned (.string (bstr l)):=by rw [h]
theorem plain_fin {w wr:World} {b n:Nat} {s:ByteArray} {p u t1 r1:List UInt8} (H1:s.data.toList=p++u) (hu:u=t1++r1) (ha:∀x∈t1,sp.wordB x=true) (hr:∀c,r1.head?=some c→sp.wordB c=false) (hl:LineR wr b s r1) (hf:Fr w wr b none) :
  Ending.returned (.string (s.extract p.length (p.length+t1.length)))=Ending.returned (.string (bstr (u.takeWhile sp.wordB)))∧LineR (wr.drewN n) b s (u.dropWhile sp.wordB)∧Fr w (wr.drewN n) b none:=by
 subst hu
 obtain ⟨h1,h2⟩:=while_at ha hr
 have hb:=below_drewN (Below.refl wr.heap.size wr) n
 rw [h1,h2]
 exact ⟨str_cong (extract_bstr H1),hl.below hb,hf.trans (Fr.of_below hb) (Own.refl _ _)⟩
set_option maxRecDepth 100000 in
set_option maxHeartbeats 4000000 in
theorem plain_word (w:World) (b:Nat) (s:ByteArray) (u:List UInt8) (h:LineR w b s u) (hs:s.size≤1099511627776):Calls Tryz.prog 48 #[.pointer (some ⟨b,0,none⟩)] w fun e w'=>e=.returned (.string (bstr (u.takeWhile sp.wordB)))∧LineR w' b s (u.dropWhile sp.wordB)∧Fr w w' b none:=by
 have HS:=Lib.hid hs
 have HP:=Lib.hid (peek_any w b s u h)
 have HH:=Lib.hid h
 obtain ⟨p,h1,h2⟩:=h
 have hsz:=line_size h1
 have hlt:=lt_of_block h2
 have c1:w.cell? ⟨b,1,none⟩=some (.int .i64 p.length):=by rw [Lib.cell_of_heap h2];rfl
 have H1:=Lib.hid h1;have HZ:=Lib.hid hsz
 clear h1 h2 hsz
 obtain ⟨c0,o0,hpv,hc0,ho0⟩:=peekV_ex u
 have HPV:=Lib.hid hpv;have HC0:=Lib.hid hc0;have HO0:=Lib.hid ho0
 clear hpv hc0 ho0
 go_enter Tryz.func48,Tryz.ntmps48
 go_wp2_with (go_at_call 46;refine HP.out.mono ?_;rintro e w1 ⟨rfl,hb1⟩;rw [HPV.out])
 have HR:Hid (LineR w1 b s u∧Fr w w1 b none):=Lib.hid ⟨HH.out.below hb1,Fr.of_below hb1⟩
 go_loopw [4,5] (fun c ok wr=>∃t1 r1,u=t1++r1∧(∀x∈t1,sp.wordB x=true)∧LineR wr b s r1∧Fr w wr b none∧c=.int .u8 (peekC r1)∧ok=.bool (peekB r1)) (fun _ _ wr=>leftOf wr b s)
 case atStart=>exact ⟨[],u,rfl,fun _ hx=>(by cases hx),HR.out.1,HR.out.2,by rw [HC0.out],by rw [HO0.out]⟩
 case round =>
  obtain ⟨t1,r1,hu,hall,hl,hf,rfl,rfl⟩:=hrel
  have HL:=Lib.hid hl;have HF:=Lib.hid hf
  clear hl hf HR HP hb1 HC0 HO0 HPV
  obtain ⟨q,hq1,hq2⟩:=HL.out
  have hqp:q=p++t1:=by
   have:=hq1.symm.trans (H1.out.trans (by rw [hu]))
   rw [←List.append_assoc] at this
   exact List.append_cancel_right this
  have d1:wr.cell? ⟨b,1,none⟩=some (.int .i64 (p.length+t1.length:Nat)):=by rw [Lib.cell_of_heap hq2,hqp,List.length_append];rfl
  have d0:wr.cell? ⟨b,0,none⟩=some (.string s):=by rw [Lib.cell_of_heap hq2];rfl
  have z1:wr.frozen? ⟨b,1,none⟩=false:=blk_free hq2 1
  have hle:p.length+t1.length≤s.size:=by have:=HZ.out;rw [hu,List.length_append] at this;omega
  have hh:=blk_set hq2 1 (.int .i64 ((p.length+t1.length:Nat)+1:Int))
  have HH2:=Lib.hid hh;have HU:=Lib.hid hu;have HA:=Lib.hid hall;have HQ:=Lib.hid hqp;have HQ1:=Lib.hid hq1
  have hb63:((p.length+t1.length:Nat):Int)≤1099511627776:=by have:=HS.out;omega
  clear hh hu hall hqp hq1 hq2
  match r1 with
  | [] =>
   simp only [peekC,peekB]
   go_wp2
   go_quiet (fail)
   go_wp2
   go_ret
   exact plain_fin H1.out HU.out HA.out (fun _ h=>by cases h) HL.out HF.out
  | c :: r2 =>
   simp only [peekC,peekB]
   by_cases e32:c=32
   ·subst e32
    go_wp2
    go_quiet (fail)
    go_wp2
    go_ret
    exact plain_fin H1.out HU.out HA.out (fun _ h=>by cases h;rfl) HL.out HF.out
   ·have t1':((c.toNat:Int)==32)=false:=u8ne c 32 e32
    have t1n:((c.toNat:Int) != 32)=true:=by rw [bne,t1'];rfl
    by_cases e34:c=34
    ·subst e34
     go_wp2
     go_quiet (fail)
     go_wp2
     go_ret
     exact plain_fin H1.out HU.out HA.out (fun _ h=>by cases h;rfl) HL.out HF.out
    ·have t2':((c.toNat:Int)==34)=false:=u8ne c 34 e34
     have t2n:((c.toNat:Int) != 34)=true:=by rw [bne,t2'];rfl
     have hcw:sp.wordB c=true:=by simp [sp.wordB,e32,e34]
     have HL2:Hid (LineR (wr.setCell ⟨b,1,none⟩ (.int .i64 ((p.length+t1.length:Nat)+1:Int))) b s r2):=Lib.hid ⟨q++[c],by rw [HQ1.out];simp,by
      have:=HH2.out
      rw [this,HQ.out]
      simp
      omega⟩
     have HA2:Hid (∀x∈t1++[c],sp.wordB x=true):=Lib.hid fun x hx=>by
      rcases List.mem_append.1 hx with h | h
      ·exact HA.out x h
      ·rw [List.mem_singleton] at h;rw [h];exact hcw
     have HU2:Hid (u=(t1++[c])++r2):=Lib.hid (by rw [HU.out];simp)
     have HP2:=Lib.hid (peek_any _ b s _ HL2.out)
     obtain ⟨c1',o1,hpv,hc1,ho1⟩:=peekV_ex r2
     have HPV:=Lib.hid hpv;have HC0:=Lib.hid hc1;have HO0:=Lib.hid ho1
     clear hpv hc1 ho1 hcw e32 e34
     go_wp2_with (go_at_call 46;refine HP2.out.mono ?_;rintro e w2 ⟨rfl,hb2⟩;rw [HPV.out])
     refine ⟨⟨t1++[c],r2,HU2.out,HA2.out,HL2.out.below hb2,((HF.out.trans (Fr.set 1 _) (Own.refl _ _))).trans (Fr.of_below hb2) (Own.refl _ _),by rw [HC0.out];rfl,by rw [HO0.out];rfl⟩,?_⟩
     rw [(HL2.out.below hb2).left,HL.out.left]
     simp
end Go.Proofs.YtihlneenajlhoaaGreatDoor
