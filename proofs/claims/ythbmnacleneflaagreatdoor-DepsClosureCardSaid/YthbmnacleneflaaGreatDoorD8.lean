/-
  Contracts, for a run of one goroutine, of the reference's looks at a fraction: jalousieref1.small, mag. Condition: the numbers are of their kinds.
-/
import Derived.Test.YthbmnacleneflaaGreatDoorD1
import Derived.BigRegion
import Derived.Test.YthbmnacleneflaaGreatDoorD2
import Derived.Test.YthbmnacleneflaaGreatDoorD3
import Derived.Test.YthbmnacleneflaaGreatDoorD6
import Derived.Test.YthbmnacleneflaaGreatDoorD5
set_option linter.unusedSimpArgs false
set_option linter.unusedVariables false
set_option linter.unusedSimpArgs false
set_option linter.unusedVariables false
namespace Go.Proofs.YthbmnacleneflaaGreatDoor
open Go Go.RowKit

set_option maxRecDepth 100000 in
/-- jalousieref1.small. -/
theorem small_any (x y : Nat) (w : World) (hx : x ≤ 18446744073709551615) (hy : y ≤ 18446744073709551615) : Calls Tryz.prog 104 #[.int .u64 x, .int .u64 y] w fun e w' => e = .returned (.int .u64 (Nat.gcd x y)) ∧ ∃ m, w' = w.drewN m := by
  have HX := Lib.hid hx; have HY := Lib.hid hy; clear hx hy
  go_enter Tryz.func104, Tryz.ntmps104
  go_wp2
  go_loopw [0, 1] (fun a b wr => ∃ p q : Nat, p ≤ 18446744073709551615 ∧ q ≤ 18446744073709551615 ∧ a = .int .u64 p ∧ b = .int .u64 q ∧ Nat.gcd p q = Nat.gcd x y ∧ ∃ m, wr = w.drewN m) (fun _ b _ => (intOf b).toNat)
  case atStart => exact ⟨x, y, HX.out, HY.out, rfl, rfl, rfl, 0, rfl⟩
  case round =>
    obtain ⟨p, q, hp, hq, rfl, rfl, hg, m, rfl⟩ := hrel
    have HG := Lib.hid hg; have HP := Lib.hid hp; have HQ := Lib.hid hq; clear hg hp hq
    by_cases h0 : q = 0
    · subst h0
      go_wp2
      go_ret
      exact ⟨ret_u64 (by rw [← HG.out, Nat.gcd_zero_right]), m, rfl⟩
    · have hp1 : (1 : Int) ≤ q := by omega
      have hne : decide ((0 : Int) < q) = true := by simp; omega
      have hlt : p % q < q := Nat.mod_lt _ (by omega)
      have HE : Hid (Nat.gcd q (p % q) = Nat.gcd x y) := Lib.hid (by rw [Nat.gcd_comm, ← Nat.gcd_rec, Nat.gcd_comm]; exact HG.out)
      clear h0
      go_wp2
      go_region
      go_wp2
      go_roundw
      case rel => exact ⟨q, p % q, HQ.out, by have := HQ.out; omega, rfl, by simp, HE.out, m + 1, rfl⟩
      case measure => simp [intOf]; omega

/-- jalousieref1.mag. -/
theorem mag_pos (n : Int) (w : World) (hn : I64 n) (h0 : 0 ≤ n) : Calls Tryz.prog 105 #[.int .i64 n] w fun e w' => e = .returned (.int .u64 (n.natAbs : Nat)) ∧ w' = w := by
  have HN := Lib.hid (show IntKind.u64.wrap n = (n.natAbs : Nat) by rw [wrap_u64_pos h0 hn]; omega)
  clear hn
  go_enter Tryz.func105, Tryz.ntmps105
  go_wp2
  go_ret
  exact ⟨ret_u64 (by first | exact HN.out | omega), rfl⟩
theorem wrap_i64_in {n : Int} (h : I64 n) : IntKind.i64.wrap n = n := by unfold I64 at h; simp [IntKind.wrap, IntKind.bits, IntKind.signed]; omega
theorem wrap_u64_in {n : Int} (h0 : 0 ≤ n) (h : n ≤ 18446744073709551615) : IntKind.u64.wrap n = n := by simp [IntKind.wrap, IntKind.bits, IntKind.signed]; omega
theorem mag_neg (n : Int) (w : World) (hn : I64 n) (h0 : n < 0) : Calls Tryz.prog 105 #[.int .i64 n] w fun e w' => e = .returned (.int .u64 (n.natAbs : Nat)) ∧ w' = w := by
  have h1 : IntKind.i64.wrap (n + 1) = n + 1 := wrap_i64_in (by unfold I64 at hn ⊢; omega)
  have h2 : IntKind.i64.wrap (-(n + 1)) = -(n + 1) := wrap_i64_in (by unfold I64 at hn ⊢; omega)
  have h3 : IntKind.u64.wrap (-(n + 1)) = -(n + 1) := wrap_u64_in (by omega) (by unfold I64 at hn; omega)
  have h4 : IntKind.u64.wrap (-(n + 1) + 1) = -(n + 1) + 1 := wrap_u64_in (by omega) (by unfold I64 at hn; omega)
  have HN : Hid (-(n + 1) + 1 = (n.natAbs : Nat)) := Lib.hid (by omega)
  clear hn
  go_enter Tryz.func105, Tryz.ntmps105
  go_wp2
  go_ret
  exact ⟨ret_u64 (by first | exact HN.out | (simpa using HN.out) | omega), rfl⟩
theorem mag_any (n : Int) (w : World) (hn : I64 n) : Calls Tryz.prog 105 #[.int .i64 n] w fun e w' => e = .returned (.int .u64 (n.natAbs : Nat)) ∧ w' = w := by
  by_cases h0 : 0 ≤ n
  · exact mag_pos n w hn h0
  · exact mag_neg n w hn (by omega)
end Go.Proofs.YthbmnacleneflaaGreatDoor
/-
  Contracts, for a run of one goroutine, of the reference's looks at a fraction: jalousieref1.May, Is, jalousieref8.Size. Condition: the numbers are of their kinds.
-/
set_option linter.unusedSimpArgs false
set_option linter.unusedVariables false
namespace Go.Proofs.YthbmnacleneflaaGreatDoor
open Go Go.RowKit

set_option maxRecDepth 100000 in
theorem rmay_zero (n d : Int) (w : World) (z1 : (n == 0) = true) (z2 : (d == 0) = true) : Calls Tryz.prog 72 #[.agg #[.int .i64 n, .int .i64 d]] w fun e w' => e = .returned (.bool (mayB n d)) ∧ Below w.heap.size w w' := by
  have HM := Lib.hid (show mayB n d = true by unfold mayB zeroB; rw [z1, z2]; rfl)
  go_enter Tryz.func72, Tryz.ntmps72
  go_wp2
  go_ret
  exact ⟨ret_bool HM.out.symm, (Below.refl _ _).alloc (Nat.le_refl _) _⟩
set_option maxRecDepth 100000 in
set_option maxHeartbeats 2000000 in
theorem rmay_a (n d : Int) (w : World) (hn : I64 n) (hd : I64 d) (z1 : (n == 0) = false) : Calls Tryz.prog 72 #[.agg #[.int .i64 n, .int .i64 d]] w fun e w' => e = .returned (.bool (mayB n d)) ∧ Below w.heap.size w w' := by
  have HM := Lib.hid (show mayB n d = sureB n d by unfold mayB zeroB; rw [z1]; simp)
  by_cases h1 : d < 1
  · have HS := Lib.hid (HM.out.trans (sureB_no (n := n) (d := d) fun h => by have := h.1; omega))
    have q1 : decide (1 ≤ d) = false := by simp; omega
    clear hn hd HM
    go_enter Tryz.func72, Tryz.ntmps72
    go_wp2
    go_quiet (fail)
    go_wp2
    go_ret
    exact ⟨ret_bool HS.out.symm, below_drewN ((Below.refl _ _).alloc (Nat.le_refl _) _) _⟩
  obtain ⟨D, rfl⟩ := Int.eq_ofNat_of_zero_le (show 0 ≤ d by omega)
  have q1 : decide (1 ≤ (D : Int)) = true := by simp; omega
  by_cases h2 : n = -9223372036854775808
  · have HS := Lib.hid (HM.out.trans (sureB_no (n := n) (d := D) fun h => h.2.1 h2))
    have q2 : (n != -9223372036854775808) = false := by simpa using h2
    clear hn hd h2 h1 HM
    go_enter Tryz.func72, Tryz.ntmps72
    go_wp2
    go_quiet (fail)
    go_wp2
    go_ret
    exact ⟨ret_bool HS.out.symm, below_drewN ((Below.refl _ _).alloc (Nat.le_refl _) _) _⟩
  have HS := Lib.hid ((sureB_eq (n := n) (D := D) (by omega) h2).trans HM.out.symm)
  have q2 : (n != -9223372036854775808) = true := by simpa using h2
  have HA := Lib.hid (natAbs_le hn)
  have HN := Lib.hid hn
  have HD := Lib.hid (show D ≤ 18446744073709551615 by unfold I64 at hd; omega)
  have hw : IntKind.u64.wrap (D : Int) = D := wrap_u64_pos (by omega) hd
  clear hn hd h2 h1 HM
  go_enter Tryz.func72, Tryz.ntmps72
  go_wp2
  go_quiet ((first | (go_at_call 105; exact Calls.quiet_of_same (mag_any _ _ HN.out)) | (go_at_call 104; exact Calls.quiet_of (small_any _ _ _ HA.out HD.out))))
  go_wp2
  go_ret
  exact ⟨ret_bool HS.out, below_drewN ((Below.refl _ _).alloc (Nat.le_refl _) _) _⟩
set_option maxRecDepth 100000 in
set_option maxHeartbeats 2000000 in
theorem rmay_b (n d : Int) (w : World) (hn : I64 n) (hd : I64 d) (z1 : (n == 0) = true) (z2 : (d == 0) = false) : Calls Tryz.prog 72 #[.agg #[.int .i64 n, .int .i64 d]] w fun e w' => e = .returned (.bool (mayB n d)) ∧ Below w.heap.size w w' := by
  have HM := Lib.hid (show mayB n d = sureB n d by unfold mayB zeroB; rw [z1, z2]; simp)
  by_cases h1 : d < 1
  · have HS := Lib.hid (HM.out.trans (sureB_no (n := n) (d := d) fun h => by have := h.1; omega))
    have q1 : decide (1 ≤ d) = false := by simp; omega
    clear hn hd HM
    go_enter Tryz.func72, Tryz.ntmps72
    go_wp2
    go_quiet (fail)
    go_wp2
    go_ret
    exact ⟨ret_bool HS.out.symm, below_drewN ((Below.refl _ _).alloc (Nat.le_refl _) _) _⟩
  obtain ⟨D, rfl⟩ := Int.eq_ofNat_of_zero_le (show 0 ≤ d by omega)
  have q1 : decide (1 ≤ (D : Int)) = true := by simp; omega
  by_cases h2 : n = -9223372036854775808
  · have HS := Lib.hid (HM.out.trans (sureB_no (n := n) (d := D) fun h => h.2.1 h2))
    have q2 : (n != -9223372036854775808) = false := by simpa using h2
    clear hn hd h2 h1 HM
    go_enter Tryz.func72, Tryz.ntmps72
    go_wp2
    go_quiet (fail)
    go_wp2
    go_ret
    exact ⟨ret_bool HS.out.symm, below_drewN ((Below.refl _ _).alloc (Nat.le_refl _) _) _⟩
  have HS := Lib.hid ((sureB_eq (n := n) (D := D) (by omega) h2).trans HM.out.symm)
  have q2 : (n != -9223372036854775808) = true := by simpa using h2
  have HA := Lib.hid (natAbs_le hn)
  have HN := Lib.hid hn
  have HD := Lib.hid (show D ≤ 18446744073709551615 by unfold I64 at hd; omega)
  have hw : IntKind.u64.wrap (D : Int) = D := wrap_u64_pos (by omega) hd
  clear hn hd h2 h1 HM
  go_enter Tryz.func72, Tryz.ntmps72
  go_wp2
  go_quiet ((first | (go_at_call 105; exact Calls.quiet_of_same (mag_any _ _ HN.out)) | (go_at_call 104; exact Calls.quiet_of (small_any _ _ _ HA.out HD.out))))
  go_wp2
  go_ret
  exact ⟨ret_bool HS.out, below_drewN ((Below.refl _ _).alloc (Nat.le_refl _) _) _⟩
/-- jalousieref1.May. -/
theorem rmay_any (n d : Int) (w : World) (hn : I64 n) (hd : I64 d) : Calls Tryz.prog 72 #[.agg #[.int .i64 n, .int .i64 d]] w fun e w' => e = .returned (.bool (mayB n d)) ∧ Below w.heap.size w w' := by
  cases z1 : (n == 0) with
  | false => exact rmay_a n d w hn hd z1
  | true =>
    cases z2 : (d == 0) with
    | false => exact rmay_b n d w hn hd z1 z2
    | true => exact rmay_zero n d w z1 z2
end Go.Proofs.YthbmnacleneflaaGreatDoor
/-
  Contracts, for a run of one goroutine, of jalousieref1.Is, jalousieref8.Size. Condition: the numbers are of their kinds.
-/
set_option linter.unusedSimpArgs false
set_option linter.unusedVariables false
namespace Go.Proofs.YthbmnacleneflaaGreatDoor
open Go Go.RowKit

noncomputable def isB (n d : Int) : Bool := mayB n d && decide (0 < d)
theorem sideB_isB (n d : Int) : sideB n d = (isB n d && decide (0 ≤ n)) := rfl
set_option maxRecDepth 100000 in
set_option maxHeartbeats 2000000 in
/-- jalousieref1.Is. -/
theorem is_any (n d : Int) (w : World) (hn : I64 n) (hd : I64 d) : Calls Tryz.prog 57 #[.agg #[.int .i64 n, .int .i64 d]] w fun e w' => e = .returned (.bool (isB n d)) ∧ Below w.heap.size w w' := by
  have HN := Lib.hid hn; have HD := Lib.hid hd
  have HS := Lib.hid (show isB n d = (mayB n d && decide (0 < d)) from rfl)
  have hcell : ∀ j v, (#[Value.int .i64 n, .int .i64 d] : Array Value)[j]? = some v → (w.alloc (.cells #[.int .i64 n, .int .i64 d] 43)).cell? ⟨w.heap.size, j, none⟩ = some v := fun j v hv => (World.cell?_alloc_at _ _ _ _ rfl).trans hv
  have HC0 := Lib.hid (hcell 0 _ rfl); have HC1 := Lib.hid (hcell 1 _ rfl)
  cases hm : mayB n d with
  | false =>
    have HM := Lib.hid hm
    clear hn hd hcell
    go_enter Tryz.func57, Tryz.ntmps57
    go_wp2_with (go_at_call 72; refine (rmay_any n d _ HN.out HD.out).mono ?_; rintro e w1 ⟨rfl, hb⟩; have hc0 := ((bcell hb).1 w.heap.size 0 (by simp)).trans HC0.out; have hc1 := ((bcell hb).1 w.heap.size 1 (by simp)).trans HC1.out; have HB := Lib.hid hb; clear hb)
    go_ret
    exact ⟨ret_bool (by rw [HS.out, HM.out]; rfl), ((Below.refl _ _).alloc (Nat.le_refl _) _).trans (HB.out.mono (by simp))⟩
  | true =>
    have HM := Lib.hid hm
    by_cases h1 : 0 < d
    · have q1 : decide (0 < d) = true := by simpa using h1
      clear hn hd hcell h1
      go_enter Tryz.func57, Tryz.ntmps57
      go_wp2_with (go_at_call 72; refine (rmay_any n d _ HN.out HD.out).mono ?_; rintro e w1 ⟨rfl, hb⟩; have hc0 := ((bcell hb).1 w.heap.size 0 (by simp)).trans HC0.out; have hc1 := ((bcell hb).1 w.heap.size 1 (by simp)).trans HC1.out; have HB := Lib.hid hb; clear hb)
      go_ret
      exact ⟨ret_bool (by rw [HS.out, HM.out, q1]; rfl), ((Below.refl _ _).alloc (Nat.le_refl _) _).trans (HB.out.mono (by simp))⟩
    · have q1 : decide (0 < d) = false := by simpa using h1
      clear hn hd hcell h1
      go_enter Tryz.func57, Tryz.ntmps57
      go_wp2_with (go_at_call 72; refine (rmay_any n d _ HN.out HD.out).mono ?_; rintro e w1 ⟨rfl, hb⟩; have hc0 := ((bcell hb).1 w.heap.size 0 (by simp)).trans HC0.out; have hc1 := ((bcell hb).1 w.heap.size 1 (by simp)).trans HC1.out; have HB := Lib.hid hb; clear hb)
      go_ret
      exact ⟨ret_bool (by rw [HS.out, HM.out, q1]; rfl), ((Below.refl _ _).alloc (Nat.le_refl _) _).trans (HB.out.mono (by simp))⟩
set_option maxRecDepth 100000 in
set_option maxHeartbeats 2000000 in
/-- jalousieref8.Size. -/
theorem rsize_any (n d : Int) (w : World) (hn : I64 n) (hd : I64 d) : Calls Tryz.prog 39 #[.agg #[.int .i64 n, .int .i64 d]] w fun e w' => e = .returned (.bool (sideB n d)) ∧ Below w.heap.size w w' := by
  have HN := Lib.hid hn; have HD := Lib.hid hd
  have HS := Lib.hid (show sideB n d = (isB n d && decide (0 ≤ n)) from rfl)
  have hcell : ∀ j v, (#[Value.int .i64 n, .int .i64 d] : Array Value)[j]? = some v → (w.alloc (.cells #[.int .i64 n, .int .i64 d] 43)).cell? ⟨w.heap.size, j, none⟩ = some v := fun j v hv => (World.cell?_alloc_at _ _ _ _ rfl).trans hv
  have HC0 := Lib.hid (hcell 0 _ rfl); have HC1 := Lib.hid (hcell 1 _ rfl)
  cases hm : isB n d with
  | false =>
    have HM := Lib.hid hm
    clear hn hd hcell
    go_enter Tryz.func39, Tryz.ntmps39
    go_wp2_with (go_at_call 57; refine (is_any n d _ HN.out HD.out).mono ?_; rintro e w1 ⟨rfl, hb⟩; have hc0 := ((bcell hb).1 w.heap.size 0 (by simp)).trans HC0.out; have hc1 := ((bcell hb).1 w.heap.size 1 (by simp)).trans HC1.out; have HB := Lib.hid hb; clear hb)
    go_ret
    exact ⟨ret_bool (by rw [HS.out, HM.out]; rfl), ((Below.refl _ _).alloc (Nat.le_refl _) _).trans (HB.out.mono (by simp))⟩
  | true =>
    have HM := Lib.hid hm
    by_cases h1 : 0 ≤ n
    · have q1 : decide (0 ≤ n) = true := by simpa using h1
      clear hn hd hcell h1
      go_enter Tryz.func39, Tryz.ntmps39
      go_wp2_with (go_at_call 57; refine (is_any n d _ HN.out HD.out).mono ?_; rintro e w1 ⟨rfl, hb⟩; have hc0 := ((bcell hb).1 w.heap.size 0 (by simp)).trans HC0.out; have hc1 := ((bcell hb).1 w.heap.size 1 (by simp)).trans HC1.out; have HB := Lib.hid hb; clear hb)
      go_ret
      exact ⟨ret_bool (by rw [HS.out, HM.out, q1]; rfl), ((Below.refl _ _).alloc (Nat.le_refl _) _).trans (HB.out.mono (by simp))⟩
    · have q1 : decide (0 ≤ n) = false := by simpa using h1
      clear hn hd hcell h1
      go_enter Tryz.func39, Tryz.ntmps39
      go_wp2_with (go_at_call 57; refine (is_any n d _ HN.out HD.out).mono ?_; rintro e w1 ⟨rfl, hb⟩; have hc0 := ((bcell hb).1 w.heap.size 0 (by simp)).trans HC0.out; have hc1 := ((bcell hb).1 w.heap.size 1 (by simp)).trans HC1.out; have HB := Lib.hid hb; clear hb)
      go_ret
      exact ⟨ret_bool (by rw [HS.out, HM.out, q1]; rfl), ((Below.refl _ _).alloc (Nat.le_refl _) _).trans (HB.out.mono (by simp))⟩
end Go.Proofs.YthbmnacleneflaaGreatDoor
/-
  Contract, for a run of one goroutine, of jalousieref8.Box. Condition: the numbers are of their kinds; the name's length fits.
-/
set_option linter.unusedSimpArgs false
set_option linter.unusedVariables false
namespace Go.Proofs.YthbmnacleneflaaGreatDoor
open Go Go.RowKit


set_option maxRecDepth 100000 in
set_option maxHeartbeats 1000000 in
theorem rbox_0 (bt : Int) (bn : ByteArray) (n1 d1 n2 d2 : Int) (w : World) (hb : I64 bt) (hs : bn.size ≤ maxLen) (h1 : I64 n1) (h2 : I64 d1) (h3 : I64 n2) (h4 : I64 d2)  (t0 : decide (0 ≤ bt) = false) :
    Calls Tryz.prog 21 #[.agg #[.int .i64 bt, .string bn, .int .i64 n1, .int .i64 d1, .int .i64 n2, .int .i64 d2]] w fun e w' => e = .returned (.bool (boxB bt bn n1 d1 n2 d2)) ∧ Below w.heap.size w w' := by
  have HNM := Lib.hid hs; have HN1 := Lib.hid h1; have HD1 := Lib.hid h2; have HN2 := Lib.hid h3; have HD2 := Lib.hid h4
  have HS := Lib.hid (show boxB bt bn n1 d1 n2 d2 = (decide (0 ≤ bt) && decide (bt ≤ 2) && (bn.toList.isEmpty || nameB bn) && sideB n1 d1 && sideB n2 d2) from rfl)
  have hcell : ∀ j v, (#[.int .i64 bt, .string bn, .int .i64 n1, .int .i64 d1, .int .i64 n2, .int .i64 d2] : Array Value)[j]? = some v → (w.alloc (.cells #[.int .i64 bt, .string bn, .int .i64 n1, .int .i64 d1, .int .i64 n2, .int .i64 d2] 45)).cell? ⟨w.heap.size, j, none⟩ = some v := fun j v hv => (World.cell?_alloc_at _ _ _ _ rfl).trans hv
  have HC2 := Lib.hid (hcell 2 _ rfl); have HC3 := Lib.hid (hcell 3 _ rfl); have HC4 := Lib.hid (hcell 4 _ rfl); have HC5 := Lib.hid (hcell 5 _ rfl)
  have HB := Lib.hid (Below.refl (w.heap.size + 1) (w.alloc (.cells #[.int .i64 bt, .string bn, .int .i64 n1, .int .i64 d1, .int .i64 n2, .int .i64 d2] 45)))
  have HLE := Lib.hid (show w.heap.size + 1 ≤ (w.alloc (.cells #[.int .i64 bt, .string bn, .int .i64 n1, .int .i64 d1, .int .i64 n2, .int .i64 d2] 45)).heap.size by simp)
  clear hcell hb hs h1 h2 h3 h4
  have T0 := Lib.hid t0
  go_enter Tryz.func21, Tryz.ntmps21
  go_wp2_with (first | (go_at_call 19; refine (ref_name bn _ HNM.out).mono ?_; rintro e w1 ⟨rfl, hb⟩; have HB := Lib.hid (HB.out.trans (hb.mono (Nat.le_trans HLE.out HB.out.size))); have hc2 := ((bcell HB.out).1 w.heap.size 2 (Nat.lt_succ_self _)).trans HC2.out; have hc3 := ((bcell HB.out).1 w.heap.size 3 (Nat.lt_succ_self _)).trans HC3.out; have hc4 := ((bcell HB.out).1 w.heap.size 4 (Nat.lt_succ_self _)).trans HC4.out; have hc5 := ((bcell HB.out).1 w.heap.size 5 (Nat.lt_succ_self _)).trans HC5.out; clear hb) | (go_at_call 39; refine (rsize_any _ _ _ (by first | exact HN1.out | exact HN2.out) (by first | exact HD1.out | exact HD2.out)).mono ?_; rintro e w1 ⟨rfl, hb⟩; have HB := Lib.hid (HB.out.trans (hb.mono (Nat.le_trans HLE.out HB.out.size))); have hc2 := ((bcell HB.out).1 w.heap.size 2 (Nat.lt_succ_self _)).trans HC2.out; have hc3 := ((bcell HB.out).1 w.heap.size 3 (Nat.lt_succ_self _)).trans HC3.out; have hc4 := ((bcell HB.out).1 w.heap.size 4 (Nat.lt_succ_self _)).trans HC4.out; have hc5 := ((bcell HB.out).1 w.heap.size 5 (Nat.lt_succ_self _)).trans HC5.out; clear hb))
  go_ret
  exact ⟨ret_bool (by rw [HS.out]; simp only [T0.out]; rfl), (((Below.refl w.heap.size w).alloc (Nat.le_refl _) (.cells #[.int .i64 bt, .string bn, .int .i64 n1, .int .i64 d1, .int .i64 n2, .int .i64 d2] 45)).trans (HB.out.mono (Nat.le_succ _)))⟩
set_option maxRecDepth 100000 in
set_option maxHeartbeats 1000000 in
theorem rbox_1 (bt : Int) (bn : ByteArray) (n1 d1 n2 d2 : Int) (w : World) (hb : I64 bt) (hs : bn.size ≤ maxLen) (h1 : I64 n1) (h2 : I64 d1) (h3 : I64 n2) (h4 : I64 d2)  (t0 : decide (0 ≤ bt) = true) (t1 : decide (bt ≤ 2) = false) :
    Calls Tryz.prog 21 #[.agg #[.int .i64 bt, .string bn, .int .i64 n1, .int .i64 d1, .int .i64 n2, .int .i64 d2]] w fun e w' => e = .returned (.bool (boxB bt bn n1 d1 n2 d2)) ∧ Below w.heap.size w w' := by
  have HNM := Lib.hid hs; have HN1 := Lib.hid h1; have HD1 := Lib.hid h2; have HN2 := Lib.hid h3; have HD2 := Lib.hid h4
  have HS := Lib.hid (show boxB bt bn n1 d1 n2 d2 = (decide (0 ≤ bt) && decide (bt ≤ 2) && (bn.toList.isEmpty || nameB bn) && sideB n1 d1 && sideB n2 d2) from rfl)
  have hcell : ∀ j v, (#[.int .i64 bt, .string bn, .int .i64 n1, .int .i64 d1, .int .i64 n2, .int .i64 d2] : Array Value)[j]? = some v → (w.alloc (.cells #[.int .i64 bt, .string bn, .int .i64 n1, .int .i64 d1, .int .i64 n2, .int .i64 d2] 45)).cell? ⟨w.heap.size, j, none⟩ = some v := fun j v hv => (World.cell?_alloc_at _ _ _ _ rfl).trans hv
  have HC2 := Lib.hid (hcell 2 _ rfl); have HC3 := Lib.hid (hcell 3 _ rfl); have HC4 := Lib.hid (hcell 4 _ rfl); have HC5 := Lib.hid (hcell 5 _ rfl)
  have HB := Lib.hid (Below.refl (w.heap.size + 1) (w.alloc (.cells #[.int .i64 bt, .string bn, .int .i64 n1, .int .i64 d1, .int .i64 n2, .int .i64 d2] 45)))
  have HLE := Lib.hid (show w.heap.size + 1 ≤ (w.alloc (.cells #[.int .i64 bt, .string bn, .int .i64 n1, .int .i64 d1, .int .i64 n2, .int .i64 d2] 45)).heap.size by simp)
  clear hcell hb hs h1 h2 h3 h4
  have T0 := Lib.hid t0
  have T1 := Lib.hid t1
  go_enter Tryz.func21, Tryz.ntmps21
  go_wp2_with (first | (go_at_call 19; refine (ref_name bn _ HNM.out).mono ?_; rintro e w1 ⟨rfl, hb⟩; have HB := Lib.hid (HB.out.trans (hb.mono (Nat.le_trans HLE.out HB.out.size))); have hc2 := ((bcell HB.out).1 w.heap.size 2 (Nat.lt_succ_self _)).trans HC2.out; have hc3 := ((bcell HB.out).1 w.heap.size 3 (Nat.lt_succ_self _)).trans HC3.out; have hc4 := ((bcell HB.out).1 w.heap.size 4 (Nat.lt_succ_self _)).trans HC4.out; have hc5 := ((bcell HB.out).1 w.heap.size 5 (Nat.lt_succ_self _)).trans HC5.out; clear hb) | (go_at_call 39; refine (rsize_any _ _ _ (by first | exact HN1.out | exact HN2.out) (by first | exact HD1.out | exact HD2.out)).mono ?_; rintro e w1 ⟨rfl, hb⟩; have HB := Lib.hid (HB.out.trans (hb.mono (Nat.le_trans HLE.out HB.out.size))); have hc2 := ((bcell HB.out).1 w.heap.size 2 (Nat.lt_succ_self _)).trans HC2.out; have hc3 := ((bcell HB.out).1 w.heap.size 3 (Nat.lt_succ_self _)).trans HC3.out; have hc4 := ((bcell HB.out).1 w.heap.size 4 (Nat.lt_succ_self _)).trans HC4.out; have hc5 := ((bcell HB.out).1 w.heap.size 5 (Nat.lt_succ_self _)).trans HC5.out; clear hb))
  go_ret
  exact ⟨ret_bool (by rw [HS.out]; simp only [T0.out, T1.out]; rfl), (((Below.refl w.heap.size w).alloc (Nat.le_refl _) (.cells #[.int .i64 bt, .string bn, .int .i64 n1, .int .i64 d1, .int .i64 n2, .int .i64 d2] 45)).trans (HB.out.mono (Nat.le_succ _)))⟩
set_option maxRecDepth 100000 in
set_option maxHeartbeats 1000000 in
theorem rbox_2 (bt : Int) (bn : ByteArray) (n1 d1 n2 d2 : Int) (w : World) (hb : I64 bt) (hs : bn.size ≤ maxLen) (h1 : I64 n1) (h2 : I64 d1) (h3 : I64 n2) (h4 : I64 d2)  (t0 : decide (0 ≤ bt) = true) (t1 : decide (bt ≤ 2) = true) (t2 : bn.toList.isEmpty = false) (t3 : nameB bn = false) :
    Calls Tryz.prog 21 #[.agg #[.int .i64 bt, .string bn, .int .i64 n1, .int .i64 d1, .int .i64 n2, .int .i64 d2]] w fun e w' => e = .returned (.bool (boxB bt bn n1 d1 n2 d2)) ∧ Below w.heap.size w w' := by
  have HNM := Lib.hid hs; have HN1 := Lib.hid h1; have HD1 := Lib.hid h2; have HN2 := Lib.hid h3; have HD2 := Lib.hid h4
  have HS := Lib.hid (show boxB bt bn n1 d1 n2 d2 = (decide (0 ≤ bt) && decide (bt ≤ 2) && (bn.toList.isEmpty || nameB bn) && sideB n1 d1 && sideB n2 d2) from rfl)
  have hcell : ∀ j v, (#[.int .i64 bt, .string bn, .int .i64 n1, .int .i64 d1, .int .i64 n2, .int .i64 d2] : Array Value)[j]? = some v → (w.alloc (.cells #[.int .i64 bt, .string bn, .int .i64 n1, .int .i64 d1, .int .i64 n2, .int .i64 d2] 45)).cell? ⟨w.heap.size, j, none⟩ = some v := fun j v hv => (World.cell?_alloc_at _ _ _ _ rfl).trans hv
  have HC2 := Lib.hid (hcell 2 _ rfl); have HC3 := Lib.hid (hcell 3 _ rfl); have HC4 := Lib.hid (hcell 4 _ rfl); have HC5 := Lib.hid (hcell 5 _ rfl)
  have HB := Lib.hid (Below.refl (w.heap.size + 1) (w.alloc (.cells #[.int .i64 bt, .string bn, .int .i64 n1, .int .i64 d1, .int .i64 n2, .int .i64 d2] 45)))
  have HLE := Lib.hid (show w.heap.size + 1 ≤ (w.alloc (.cells #[.int .i64 bt, .string bn, .int .i64 n1, .int .i64 d1, .int .i64 n2, .int .i64 d2] 45)).heap.size by simp)
  clear hcell hb hs h1 h2 h3 h4
  have T0 := Lib.hid t0
  have T1 := Lib.hid t1
  have T2 := Lib.hid t2
  have T3 := Lib.hid t3
  go_enter Tryz.func21, Tryz.ntmps21
  go_wp2_with (first | (go_at_call 19; refine (ref_name bn _ HNM.out).mono ?_; rintro e w1 ⟨rfl, hb⟩; have HB := Lib.hid (HB.out.trans (hb.mono (Nat.le_trans HLE.out HB.out.size))); have hc2 := ((bcell HB.out).1 w.heap.size 2 (Nat.lt_succ_self _)).trans HC2.out; have hc3 := ((bcell HB.out).1 w.heap.size 3 (Nat.lt_succ_self _)).trans HC3.out; have hc4 := ((bcell HB.out).1 w.heap.size 4 (Nat.lt_succ_self _)).trans HC4.out; have hc5 := ((bcell HB.out).1 w.heap.size 5 (Nat.lt_succ_self _)).trans HC5.out; clear hb) | (go_at_call 39; refine (rsize_any _ _ _ (by first | exact HN1.out | exact HN2.out) (by first | exact HD1.out | exact HD2.out)).mono ?_; rintro e w1 ⟨rfl, hb⟩; have HB := Lib.hid (HB.out.trans (hb.mono (Nat.le_trans HLE.out HB.out.size))); have hc2 := ((bcell HB.out).1 w.heap.size 2 (Nat.lt_succ_self _)).trans HC2.out; have hc3 := ((bcell HB.out).1 w.heap.size 3 (Nat.lt_succ_self _)).trans HC3.out; have hc4 := ((bcell HB.out).1 w.heap.size 4 (Nat.lt_succ_self _)).trans HC4.out; have hc5 := ((bcell HB.out).1 w.heap.size 5 (Nat.lt_succ_self _)).trans HC5.out; clear hb))
  go_ret
  exact ⟨ret_bool (by rw [HS.out]; simp only [T0.out, T1.out, T2.out, T3.out]; rfl), (((Below.refl w.heap.size w).alloc (Nat.le_refl _) (.cells #[.int .i64 bt, .string bn, .int .i64 n1, .int .i64 d1, .int .i64 n2, .int .i64 d2] 45)).trans (HB.out.mono (Nat.le_succ _)))⟩
set_option maxRecDepth 100000 in
set_option maxHeartbeats 1000000 in
theorem rbox_3 (bt : Int) (bn : ByteArray) (n1 d1 n2 d2 : Int) (w : World) (hb : I64 bt) (hs : bn.size ≤ maxLen) (h1 : I64 n1) (h2 : I64 d1) (h3 : I64 n2) (h4 : I64 d2)  (t0 : decide (0 ≤ bt) = true) (t1 : decide (bt ≤ 2) = true) (t2 : bn.toList.isEmpty = false) (t3 : nameB bn = true) (t4 : sideB n1 d1 = false) :
    Calls Tryz.prog 21 #[.agg #[.int .i64 bt, .string bn, .int .i64 n1, .int .i64 d1, .int .i64 n2, .int .i64 d2]] w fun e w' => e = .returned (.bool (boxB bt bn n1 d1 n2 d2)) ∧ Below w.heap.size w w' := by
  have HNM := Lib.hid hs; have HN1 := Lib.hid h1; have HD1 := Lib.hid h2; have HN2 := Lib.hid h3; have HD2 := Lib.hid h4
  have HS := Lib.hid (show boxB bt bn n1 d1 n2 d2 = (decide (0 ≤ bt) && decide (bt ≤ 2) && (bn.toList.isEmpty || nameB bn) && sideB n1 d1 && sideB n2 d2) from rfl)
  have hcell : ∀ j v, (#[.int .i64 bt, .string bn, .int .i64 n1, .int .i64 d1, .int .i64 n2, .int .i64 d2] : Array Value)[j]? = some v → (w.alloc (.cells #[.int .i64 bt, .string bn, .int .i64 n1, .int .i64 d1, .int .i64 n2, .int .i64 d2] 45)).cell? ⟨w.heap.size, j, none⟩ = some v := fun j v hv => (World.cell?_alloc_at _ _ _ _ rfl).trans hv
  have HC2 := Lib.hid (hcell 2 _ rfl); have HC3 := Lib.hid (hcell 3 _ rfl); have HC4 := Lib.hid (hcell 4 _ rfl); have HC5 := Lib.hid (hcell 5 _ rfl)
  have HB := Lib.hid (Below.refl (w.heap.size + 1) (w.alloc (.cells #[.int .i64 bt, .string bn, .int .i64 n1, .int .i64 d1, .int .i64 n2, .int .i64 d2] 45)))
  have HLE := Lib.hid (show w.heap.size + 1 ≤ (w.alloc (.cells #[.int .i64 bt, .string bn, .int .i64 n1, .int .i64 d1, .int .i64 n2, .int .i64 d2] 45)).heap.size by simp)
  clear hcell hb hs h1 h2 h3 h4
  have T0 := Lib.hid t0
  have T1 := Lib.hid t1
  have T2 := Lib.hid t2
  have T3 := Lib.hid t3
  have T4 := Lib.hid t4
  go_enter Tryz.func21, Tryz.ntmps21
  go_wp2_with (first | (go_at_call 19; refine (ref_name bn _ HNM.out).mono ?_; rintro e w1 ⟨rfl, hb⟩; have HB := Lib.hid (HB.out.trans (hb.mono (Nat.le_trans HLE.out HB.out.size))); have hc2 := ((bcell HB.out).1 w.heap.size 2 (Nat.lt_succ_self _)).trans HC2.out; have hc3 := ((bcell HB.out).1 w.heap.size 3 (Nat.lt_succ_self _)).trans HC3.out; have hc4 := ((bcell HB.out).1 w.heap.size 4 (Nat.lt_succ_self _)).trans HC4.out; have hc5 := ((bcell HB.out).1 w.heap.size 5 (Nat.lt_succ_self _)).trans HC5.out; clear hb) | (go_at_call 39; refine (rsize_any _ _ _ (by first | exact HN1.out | exact HN2.out) (by first | exact HD1.out | exact HD2.out)).mono ?_; rintro e w1 ⟨rfl, hb⟩; have HB := Lib.hid (HB.out.trans (hb.mono (Nat.le_trans HLE.out HB.out.size))); have hc2 := ((bcell HB.out).1 w.heap.size 2 (Nat.lt_succ_self _)).trans HC2.out; have hc3 := ((bcell HB.out).1 w.heap.size 3 (Nat.lt_succ_self _)).trans HC3.out; have hc4 := ((bcell HB.out).1 w.heap.size 4 (Nat.lt_succ_self _)).trans HC4.out; have hc5 := ((bcell HB.out).1 w.heap.size 5 (Nat.lt_succ_self _)).trans HC5.out; clear hb))
  go_ret
  exact ⟨ret_bool (by rw [HS.out]; simp only [T0.out, T1.out, T2.out, T3.out, T4.out]; rfl), (((Below.refl w.heap.size w).alloc (Nat.le_refl _) (.cells #[.int .i64 bt, .string bn, .int .i64 n1, .int .i64 d1, .int .i64 n2, .int .i64 d2] 45)).trans (HB.out.mono (Nat.le_succ _)))⟩
set_option maxRecDepth 100000 in
set_option maxHeartbeats 1000000 in
theorem rbox_4 (bt : Int) (bn : ByteArray) (n1 d1 n2 d2 : Int) (w : World) (hb : I64 bt) (hs : bn.size ≤ maxLen) (h1 : I64 n1) (h2 : I64 d1) (h3 : I64 n2) (h4 : I64 d2)  (t0 : decide (0 ≤ bt) = true) (t1 : decide (bt ≤ 2) = true) (t2 : bn.toList.isEmpty = false) (t3 : nameB bn = true) (t4 : sideB n1 d1 = true) (t5 : sideB n2 d2 = false) :
    Calls Tryz.prog 21 #[.agg #[.int .i64 bt, .string bn, .int .i64 n1, .int .i64 d1, .int .i64 n2, .int .i64 d2]] w fun e w' => e = .returned (.bool (boxB bt bn n1 d1 n2 d2)) ∧ Below w.heap.size w w' := by
  have HNM := Lib.hid hs; have HN1 := Lib.hid h1; have HD1 := Lib.hid h2; have HN2 := Lib.hid h3; have HD2 := Lib.hid h4
  have HS := Lib.hid (show boxB bt bn n1 d1 n2 d2 = (decide (0 ≤ bt) && decide (bt ≤ 2) && (bn.toList.isEmpty || nameB bn) && sideB n1 d1 && sideB n2 d2) from rfl)
  have hcell : ∀ j v, (#[.int .i64 bt, .string bn, .int .i64 n1, .int .i64 d1, .int .i64 n2, .int .i64 d2] : Array Value)[j]? = some v → (w.alloc (.cells #[.int .i64 bt, .string bn, .int .i64 n1, .int .i64 d1, .int .i64 n2, .int .i64 d2] 45)).cell? ⟨w.heap.size, j, none⟩ = some v := fun j v hv => (World.cell?_alloc_at _ _ _ _ rfl).trans hv
  have HC2 := Lib.hid (hcell 2 _ rfl); have HC3 := Lib.hid (hcell 3 _ rfl); have HC4 := Lib.hid (hcell 4 _ rfl); have HC5 := Lib.hid (hcell 5 _ rfl)
  have HB := Lib.hid (Below.refl (w.heap.size + 1) (w.alloc (.cells #[.int .i64 bt, .string bn, .int .i64 n1, .int .i64 d1, .int .i64 n2, .int .i64 d2] 45)))
  have HLE := Lib.hid (show w.heap.size + 1 ≤ (w.alloc (.cells #[.int .i64 bt, .string bn, .int .i64 n1, .int .i64 d1, .int .i64 n2, .int .i64 d2] 45)).heap.size by simp)
  clear hcell hb hs h1 h2 h3 h4
  have T0 := Lib.hid t0
  have T1 := Lib.hid t1
  have T2 := Lib.hid t2
  have T3 := Lib.hid t3
  have T4 := Lib.hid t4
  have T5 := Lib.hid t5
  go_enter Tryz.func21, Tryz.ntmps21
  go_wp2_with (first | (go_at_call 19; refine (ref_name bn _ HNM.out).mono ?_; rintro e w1 ⟨rfl, hb⟩; have HB := Lib.hid (HB.out.trans (hb.mono (Nat.le_trans HLE.out HB.out.size))); have hc2 := ((bcell HB.out).1 w.heap.size 2 (Nat.lt_succ_self _)).trans HC2.out; have hc3 := ((bcell HB.out).1 w.heap.size 3 (Nat.lt_succ_self _)).trans HC3.out; have hc4 := ((bcell HB.out).1 w.heap.size 4 (Nat.lt_succ_self _)).trans HC4.out; have hc5 := ((bcell HB.out).1 w.heap.size 5 (Nat.lt_succ_self _)).trans HC5.out; clear hb) | (go_at_call 39; refine (rsize_any _ _ _ (by first | exact HN1.out | exact HN2.out) (by first | exact HD1.out | exact HD2.out)).mono ?_; rintro e w1 ⟨rfl, hb⟩; have HB := Lib.hid (HB.out.trans (hb.mono (Nat.le_trans HLE.out HB.out.size))); have hc2 := ((bcell HB.out).1 w.heap.size 2 (Nat.lt_succ_self _)).trans HC2.out; have hc3 := ((bcell HB.out).1 w.heap.size 3 (Nat.lt_succ_self _)).trans HC3.out; have hc4 := ((bcell HB.out).1 w.heap.size 4 (Nat.lt_succ_self _)).trans HC4.out; have hc5 := ((bcell HB.out).1 w.heap.size 5 (Nat.lt_succ_self _)).trans HC5.out; clear hb))
  go_ret
  exact ⟨ret_bool (by rw [HS.out]; simp only [T0.out, T1.out, T2.out, T3.out, T4.out, T5.out]; rfl), (((Below.refl w.heap.size w).alloc (Nat.le_refl _) (.cells #[.int .i64 bt, .string bn, .int .i64 n1, .int .i64 d1, .int .i64 n2, .int .i64 d2] 45)).trans (HB.out.mono (Nat.le_succ _)))⟩
set_option maxRecDepth 100000 in
set_option maxHeartbeats 1000000 in
theorem rbox_5 (bt : Int) (bn : ByteArray) (n1 d1 n2 d2 : Int) (w : World) (hb : I64 bt) (hs : bn.size ≤ maxLen) (h1 : I64 n1) (h2 : I64 d1) (h3 : I64 n2) (h4 : I64 d2)  (t0 : decide (0 ≤ bt) = true) (t1 : decide (bt ≤ 2) = true) (t2 : bn.toList.isEmpty = false) (t3 : nameB bn = true) (t4 : sideB n1 d1 = true) (t5 : sideB n2 d2 = true) :
    Calls Tryz.prog 21 #[.agg #[.int .i64 bt, .string bn, .int .i64 n1, .int .i64 d1, .int .i64 n2, .int .i64 d2]] w fun e w' => e = .returned (.bool (boxB bt bn n1 d1 n2 d2)) ∧ Below w.heap.size w w' := by
  have HNM := Lib.hid hs; have HN1 := Lib.hid h1; have HD1 := Lib.hid h2; have HN2 := Lib.hid h3; have HD2 := Lib.hid h4
  have HS := Lib.hid (show boxB bt bn n1 d1 n2 d2 = (decide (0 ≤ bt) && decide (bt ≤ 2) && (bn.toList.isEmpty || nameB bn) && sideB n1 d1 && sideB n2 d2) from rfl)
  have hcell : ∀ j v, (#[.int .i64 bt, .string bn, .int .i64 n1, .int .i64 d1, .int .i64 n2, .int .i64 d2] : Array Value)[j]? = some v → (w.alloc (.cells #[.int .i64 bt, .string bn, .int .i64 n1, .int .i64 d1, .int .i64 n2, .int .i64 d2] 45)).cell? ⟨w.heap.size, j, none⟩ = some v := fun j v hv => (World.cell?_alloc_at _ _ _ _ rfl).trans hv
  have HC2 := Lib.hid (hcell 2 _ rfl); have HC3 := Lib.hid (hcell 3 _ rfl); have HC4 := Lib.hid (hcell 4 _ rfl); have HC5 := Lib.hid (hcell 5 _ rfl)
  have HB := Lib.hid (Below.refl (w.heap.size + 1) (w.alloc (.cells #[.int .i64 bt, .string bn, .int .i64 n1, .int .i64 d1, .int .i64 n2, .int .i64 d2] 45)))
  have HLE := Lib.hid (show w.heap.size + 1 ≤ (w.alloc (.cells #[.int .i64 bt, .string bn, .int .i64 n1, .int .i64 d1, .int .i64 n2, .int .i64 d2] 45)).heap.size by simp)
  clear hcell hb hs h1 h2 h3 h4
  have T0 := Lib.hid t0
  have T1 := Lib.hid t1
  have T2 := Lib.hid t2
  have T3 := Lib.hid t3
  have T4 := Lib.hid t4
  have T5 := Lib.hid t5
  go_enter Tryz.func21, Tryz.ntmps21
  go_wp2_with (first | (go_at_call 19; refine (ref_name bn _ HNM.out).mono ?_; rintro e w1 ⟨rfl, hb⟩; have HB := Lib.hid (HB.out.trans (hb.mono (Nat.le_trans HLE.out HB.out.size))); have hc2 := ((bcell HB.out).1 w.heap.size 2 (Nat.lt_succ_self _)).trans HC2.out; have hc3 := ((bcell HB.out).1 w.heap.size 3 (Nat.lt_succ_self _)).trans HC3.out; have hc4 := ((bcell HB.out).1 w.heap.size 4 (Nat.lt_succ_self _)).trans HC4.out; have hc5 := ((bcell HB.out).1 w.heap.size 5 (Nat.lt_succ_self _)).trans HC5.out; clear hb) | (go_at_call 39; refine (rsize_any _ _ _ (by first | exact HN1.out | exact HN2.out) (by first | exact HD1.out | exact HD2.out)).mono ?_; rintro e w1 ⟨rfl, hb⟩; have HB := Lib.hid (HB.out.trans (hb.mono (Nat.le_trans HLE.out HB.out.size))); have hc2 := ((bcell HB.out).1 w.heap.size 2 (Nat.lt_succ_self _)).trans HC2.out; have hc3 := ((bcell HB.out).1 w.heap.size 3 (Nat.lt_succ_self _)).trans HC3.out; have hc4 := ((bcell HB.out).1 w.heap.size 4 (Nat.lt_succ_self _)).trans HC4.out; have hc5 := ((bcell HB.out).1 w.heap.size 5 (Nat.lt_succ_self _)).trans HC5.out; clear hb))
  go_ret
  exact ⟨ret_bool (by rw [HS.out]; simp only [T0.out, T1.out, T2.out, T3.out, T4.out, T5.out]; rfl), (((Below.refl w.heap.size w).alloc (Nat.le_refl _) (.cells #[.int .i64 bt, .string bn, .int .i64 n1, .int .i64 d1, .int .i64 n2, .int .i64 d2] 45)).trans (HB.out.mono (Nat.le_succ _)))⟩
set_option maxRecDepth 100000 in
set_option maxHeartbeats 1000000 in
theorem rbox_6 (bt : Int) (bn : ByteArray) (n1 d1 n2 d2 : Int) (w : World) (hb : I64 bt) (hs : bn.size ≤ maxLen) (h1 : I64 n1) (h2 : I64 d1) (h3 : I64 n2) (h4 : I64 d2)  (t0 : decide (0 ≤ bt) = true) (t1 : decide (bt ≤ 2) = true) (t2 : bn.toList.isEmpty = true) (t4 : sideB n1 d1 = false) :
    Calls Tryz.prog 21 #[.agg #[.int .i64 bt, .string bn, .int .i64 n1, .int .i64 d1, .int .i64 n2, .int .i64 d2]] w fun e w' => e = .returned (.bool (boxB bt bn n1 d1 n2 d2)) ∧ Below w.heap.size w w' := by
  have HNM := Lib.hid hs; have HN1 := Lib.hid h1; have HD1 := Lib.hid h2; have HN2 := Lib.hid h3; have HD2 := Lib.hid h4
  have HS := Lib.hid (show boxB bt bn n1 d1 n2 d2 = (decide (0 ≤ bt) && decide (bt ≤ 2) && (bn.toList.isEmpty || nameB bn) && sideB n1 d1 && sideB n2 d2) from rfl)
  have hcell : ∀ j v, (#[.int .i64 bt, .string bn, .int .i64 n1, .int .i64 d1, .int .i64 n2, .int .i64 d2] : Array Value)[j]? = some v → (w.alloc (.cells #[.int .i64 bt, .string bn, .int .i64 n1, .int .i64 d1, .int .i64 n2, .int .i64 d2] 45)).cell? ⟨w.heap.size, j, none⟩ = some v := fun j v hv => (World.cell?_alloc_at _ _ _ _ rfl).trans hv
  have HC2 := Lib.hid (hcell 2 _ rfl); have HC3 := Lib.hid (hcell 3 _ rfl); have HC4 := Lib.hid (hcell 4 _ rfl); have HC5 := Lib.hid (hcell 5 _ rfl)
  have HB := Lib.hid (Below.refl (w.heap.size + 1) (w.alloc (.cells #[.int .i64 bt, .string bn, .int .i64 n1, .int .i64 d1, .int .i64 n2, .int .i64 d2] 45)))
  have HLE := Lib.hid (show w.heap.size + 1 ≤ (w.alloc (.cells #[.int .i64 bt, .string bn, .int .i64 n1, .int .i64 d1, .int .i64 n2, .int .i64 d2] 45)).heap.size by simp)
  clear hcell hb hs h1 h2 h3 h4
  have T0 := Lib.hid t0
  have T1 := Lib.hid t1
  have T2 := Lib.hid t2
  have T4 := Lib.hid t4
  go_enter Tryz.func21, Tryz.ntmps21
  go_wp2_with (first | (go_at_call 19; refine (ref_name bn _ HNM.out).mono ?_; rintro e w1 ⟨rfl, hb⟩; have HB := Lib.hid (HB.out.trans (hb.mono (Nat.le_trans HLE.out HB.out.size))); have hc2 := ((bcell HB.out).1 w.heap.size 2 (Nat.lt_succ_self _)).trans HC2.out; have hc3 := ((bcell HB.out).1 w.heap.size 3 (Nat.lt_succ_self _)).trans HC3.out; have hc4 := ((bcell HB.out).1 w.heap.size 4 (Nat.lt_succ_self _)).trans HC4.out; have hc5 := ((bcell HB.out).1 w.heap.size 5 (Nat.lt_succ_self _)).trans HC5.out; clear hb) | (go_at_call 39; refine (rsize_any _ _ _ (by first | exact HN1.out | exact HN2.out) (by first | exact HD1.out | exact HD2.out)).mono ?_; rintro e w1 ⟨rfl, hb⟩; have HB := Lib.hid (HB.out.trans (hb.mono (Nat.le_trans HLE.out HB.out.size))); have hc2 := ((bcell HB.out).1 w.heap.size 2 (Nat.lt_succ_self _)).trans HC2.out; have hc3 := ((bcell HB.out).1 w.heap.size 3 (Nat.lt_succ_self _)).trans HC3.out; have hc4 := ((bcell HB.out).1 w.heap.size 4 (Nat.lt_succ_self _)).trans HC4.out; have hc5 := ((bcell HB.out).1 w.heap.size 5 (Nat.lt_succ_self _)).trans HC5.out; clear hb))
  go_ret
  exact ⟨ret_bool (by rw [HS.out]; simp only [T0.out, T1.out, T2.out, T4.out]; rfl), (((Below.refl w.heap.size w).alloc (Nat.le_refl _) (.cells #[.int .i64 bt, .string bn, .int .i64 n1, .int .i64 d1, .int .i64 n2, .int .i64 d2] 45)).trans (HB.out.mono (Nat.le_succ _)))⟩
set_option maxRecDepth 100000 in
set_option maxHeartbeats 1000000 in
theorem rbox_7 (bt : Int) (bn : ByteArray) (n1 d1 n2 d2 : Int) (w : World) (hb : I64 bt) (hs : bn.size ≤ maxLen) (h1 : I64 n1) (h2 : I64 d1) (h3 : I64 n2) (h4 : I64 d2)  (t0 : decide (0 ≤ bt) = true) (t1 : decide (bt ≤ 2) = true) (t2 : bn.toList.isEmpty = true) (t4 : sideB n1 d1 = true) (t5 : sideB n2 d2 = false) :
    Calls Tryz.prog 21 #[.agg #[.int .i64 bt, .string bn, .int .i64 n1, .int .i64 d1, .int .i64 n2, .int .i64 d2]] w fun e w' => e = .returned (.bool (boxB bt bn n1 d1 n2 d2)) ∧ Below w.heap.size w w' := by
  have HNM := Lib.hid hs; have HN1 := Lib.hid h1; have HD1 := Lib.hid h2; have HN2 := Lib.hid h3; have HD2 := Lib.hid h4
  have HS := Lib.hid (show boxB bt bn n1 d1 n2 d2 = (decide (0 ≤ bt) && decide (bt ≤ 2) && (bn.toList.isEmpty || nameB bn) && sideB n1 d1 && sideB n2 d2) from rfl)
  have hcell : ∀ j v, (#[.int .i64 bt, .string bn, .int .i64 n1, .int .i64 d1, .int .i64 n2, .int .i64 d2] : Array Value)[j]? = some v → (w.alloc (.cells #[.int .i64 bt, .string bn, .int .i64 n1, .int .i64 d1, .int .i64 n2, .int .i64 d2] 45)).cell? ⟨w.heap.size, j, none⟩ = some v := fun j v hv => (World.cell?_alloc_at _ _ _ _ rfl).trans hv
  have HC2 := Lib.hid (hcell 2 _ rfl); have HC3 := Lib.hid (hcell 3 _ rfl); have HC4 := Lib.hid (hcell 4 _ rfl); have HC5 := Lib.hid (hcell 5 _ rfl)
  have HB := Lib.hid (Below.refl (w.heap.size + 1) (w.alloc (.cells #[.int .i64 bt, .string bn, .int .i64 n1, .int .i64 d1, .int .i64 n2, .int .i64 d2] 45)))
  have HLE := Lib.hid (show w.heap.size + 1 ≤ (w.alloc (.cells #[.int .i64 bt, .string bn, .int .i64 n1, .int .i64 d1, .int .i64 n2, .int .i64 d2] 45)).heap.size by simp)
  clear hcell hb hs h1 h2 h3 h4
  have T0 := Lib.hid t0
  have T1 := Lib.hid t1
  have T2 := Lib.hid t2
  have T4 := Lib.hid t4
  have T5 := Lib.hid t5
  go_enter Tryz.func21, Tryz.ntmps21
  go_wp2_with (first | (go_at_call 19; refine (ref_name bn _ HNM.out).mono ?_; rintro e w1 ⟨rfl, hb⟩; have HB := Lib.hid (HB.out.trans (hb.mono (Nat.le_trans HLE.out HB.out.size))); have hc2 := ((bcell HB.out).1 w.heap.size 2 (Nat.lt_succ_self _)).trans HC2.out; have hc3 := ((bcell HB.out).1 w.heap.size 3 (Nat.lt_succ_self _)).trans HC3.out; have hc4 := ((bcell HB.out).1 w.heap.size 4 (Nat.lt_succ_self _)).trans HC4.out; have hc5 := ((bcell HB.out).1 w.heap.size 5 (Nat.lt_succ_self _)).trans HC5.out; clear hb) | (go_at_call 39; refine (rsize_any _ _ _ (by first | exact HN1.out | exact HN2.out) (by first | exact HD1.out | exact HD2.out)).mono ?_; rintro e w1 ⟨rfl, hb⟩; have HB := Lib.hid (HB.out.trans (hb.mono (Nat.le_trans HLE.out HB.out.size))); have hc2 := ((bcell HB.out).1 w.heap.size 2 (Nat.lt_succ_self _)).trans HC2.out; have hc3 := ((bcell HB.out).1 w.heap.size 3 (Nat.lt_succ_self _)).trans HC3.out; have hc4 := ((bcell HB.out).1 w.heap.size 4 (Nat.lt_succ_self _)).trans HC4.out; have hc5 := ((bcell HB.out).1 w.heap.size 5 (Nat.lt_succ_self _)).trans HC5.out; clear hb))
  go_ret
  exact ⟨ret_bool (by rw [HS.out]; simp only [T0.out, T1.out, T2.out, T4.out, T5.out]; rfl), (((Below.refl w.heap.size w).alloc (Nat.le_refl _) (.cells #[.int .i64 bt, .string bn, .int .i64 n1, .int .i64 d1, .int .i64 n2, .int .i64 d2] 45)).trans (HB.out.mono (Nat.le_succ _)))⟩
set_option maxRecDepth 100000 in
set_option maxHeartbeats 1000000 in
theorem rbox_8 (bt : Int) (bn : ByteArray) (n1 d1 n2 d2 : Int) (w : World) (hb : I64 bt) (hs : bn.size ≤ maxLen) (h1 : I64 n1) (h2 : I64 d1) (h3 : I64 n2) (h4 : I64 d2)  (t0 : decide (0 ≤ bt) = true) (t1 : decide (bt ≤ 2) = true) (t2 : bn.toList.isEmpty = true) (t4 : sideB n1 d1 = true) (t5 : sideB n2 d2 = true) :
    Calls Tryz.prog 21 #[.agg #[.int .i64 bt, .string bn, .int .i64 n1, .int .i64 d1, .int .i64 n2, .int .i64 d2]] w fun e w' => e = .returned (.bool (boxB bt bn n1 d1 n2 d2)) ∧ Below w.heap.size w w' := by
  have HNM := Lib.hid hs; have HN1 := Lib.hid h1; have HD1 := Lib.hid h2; have HN2 := Lib.hid h3; have HD2 := Lib.hid h4
  have HS := Lib.hid (show boxB bt bn n1 d1 n2 d2 = (decide (0 ≤ bt) && decide (bt ≤ 2) && (bn.toList.isEmpty || nameB bn) && sideB n1 d1 && sideB n2 d2) from rfl)
  have hcell : ∀ j v, (#[.int .i64 bt, .string bn, .int .i64 n1, .int .i64 d1, .int .i64 n2, .int .i64 d2] : Array Value)[j]? = some v → (w.alloc (.cells #[.int .i64 bt, .string bn, .int .i64 n1, .int .i64 d1, .int .i64 n2, .int .i64 d2] 45)).cell? ⟨w.heap.size, j, none⟩ = some v := fun j v hv => (World.cell?_alloc_at _ _ _ _ rfl).trans hv
  have HC2 := Lib.hid (hcell 2 _ rfl); have HC3 := Lib.hid (hcell 3 _ rfl); have HC4 := Lib.hid (hcell 4 _ rfl); have HC5 := Lib.hid (hcell 5 _ rfl)
  have HB := Lib.hid (Below.refl (w.heap.size + 1) (w.alloc (.cells #[.int .i64 bt, .string bn, .int .i64 n1, .int .i64 d1, .int .i64 n2, .int .i64 d2] 45)))
  have HLE := Lib.hid (show w.heap.size + 1 ≤ (w.alloc (.cells #[.int .i64 bt, .string bn, .int .i64 n1, .int .i64 d1, .int .i64 n2, .int .i64 d2] 45)).heap.size by simp)
  clear hcell hb hs h1 h2 h3 h4
  have T0 := Lib.hid t0
  have T1 := Lib.hid t1
  have T2 := Lib.hid t2
  have T4 := Lib.hid t4
  have T5 := Lib.hid t5
  go_enter Tryz.func21, Tryz.ntmps21
  go_wp2_with (first | (go_at_call 19; refine (ref_name bn _ HNM.out).mono ?_; rintro e w1 ⟨rfl, hb⟩; have HB := Lib.hid (HB.out.trans (hb.mono (Nat.le_trans HLE.out HB.out.size))); have hc2 := ((bcell HB.out).1 w.heap.size 2 (Nat.lt_succ_self _)).trans HC2.out; have hc3 := ((bcell HB.out).1 w.heap.size 3 (Nat.lt_succ_self _)).trans HC3.out; have hc4 := ((bcell HB.out).1 w.heap.size 4 (Nat.lt_succ_self _)).trans HC4.out; have hc5 := ((bcell HB.out).1 w.heap.size 5 (Nat.lt_succ_self _)).trans HC5.out; clear hb) | (go_at_call 39; refine (rsize_any _ _ _ (by first | exact HN1.out | exact HN2.out) (by first | exact HD1.out | exact HD2.out)).mono ?_; rintro e w1 ⟨rfl, hb⟩; have HB := Lib.hid (HB.out.trans (hb.mono (Nat.le_trans HLE.out HB.out.size))); have hc2 := ((bcell HB.out).1 w.heap.size 2 (Nat.lt_succ_self _)).trans HC2.out; have hc3 := ((bcell HB.out).1 w.heap.size 3 (Nat.lt_succ_self _)).trans HC3.out; have hc4 := ((bcell HB.out).1 w.heap.size 4 (Nat.lt_succ_self _)).trans HC4.out; have hc5 := ((bcell HB.out).1 w.heap.size 5 (Nat.lt_succ_self _)).trans HC5.out; clear hb))
  go_ret
  exact ⟨ret_bool (by rw [HS.out]; simp only [T0.out, T1.out, T2.out, T4.out, T5.out]; rfl), (((Below.refl w.heap.size w).alloc (Nat.le_refl _) (.cells #[.int .i64 bt, .string bn, .int .i64 n1, .int .i64 d1, .int .i64 n2, .int .i64 d2] 45)).trans (HB.out.mono (Nat.le_succ _)))⟩
/-- jalousieref8.Box. -/
theorem rbox_any (bt : Int) (bn : ByteArray) (n1 d1 n2 d2 : Int) (w : World) (hb : I64 bt) (hs : bn.size ≤ maxLen) (h1 : I64 n1) (h2 : I64 d1) (h3 : I64 n2) (h4 : I64 d2)  :
    Calls Tryz.prog 21 #[.agg #[.int .i64 bt, .string bn, .int .i64 n1, .int .i64 d1, .int .i64 n2, .int .i64 d2]] w fun e w' => e = .returned (.bool (boxB bt bn n1 d1 n2 d2)) ∧ Below w.heap.size w w' := by
  cases t0 : decide (0 ≤ bt) with
  | false =>
    exact rbox_0 bt bn n1 d1 n2 d2 w hb hs h1 h2 h3 h4 t0
  | true =>
    cases t1 : decide (bt ≤ 2) with
    | false =>
      exact rbox_1 bt bn n1 d1 n2 d2 w hb hs h1 h2 h3 h4 t0 t1
    | true =>
      cases t2 : bn.toList.isEmpty with
      | false =>
        cases t3 : nameB bn with
        | false =>
          exact rbox_2 bt bn n1 d1 n2 d2 w hb hs h1 h2 h3 h4 t0 t1 t2 t3
        | true =>
          cases t4 : sideB n1 d1 with
          | false =>
            exact rbox_3 bt bn n1 d1 n2 d2 w hb hs h1 h2 h3 h4 t0 t1 t2 t3 t4
          | true =>
            cases t5 : sideB n2 d2 with
            | false =>
              exact rbox_4 bt bn n1 d1 n2 d2 w hb hs h1 h2 h3 h4 t0 t1 t2 t3 t4 t5
            | true =>
              exact rbox_5 bt bn n1 d1 n2 d2 w hb hs h1 h2 h3 h4 t0 t1 t2 t3 t4 t5
      | true =>
        cases t4 : sideB n1 d1 with
        | false =>
          exact rbox_6 bt bn n1 d1 n2 d2 w hb hs h1 h2 h3 h4 t0 t1 t2 t4
        | true =>
          cases t5 : sideB n2 d2 with
          | false =>
            exact rbox_7 bt bn n1 d1 n2 d2 w hb hs h1 h2 h3 h4 t0 t1 t2 t4 t5
          | true =>
            exact rbox_8 bt bn n1 d1 n2 d2 w hb hs h1 h2 h3 h4 t0 t1 t2 t4 t5
end Go.Proofs.YthbmnacleneflaaGreatDoor
/-
  Contract, for a run of one goroutine, of jalousieref8.attrs: what is wrong with a row of attributes. Condition: they lie in memory, 16 at most.
-/
set_option linter.unusedSimpArgs false
set_option linter.unusedVariables false
namespace Go.Proofs.YthbmnacleneflaaGreatDoor
open Go Go.RowKit

theorem rname_is {s : ByteArray} {v : Bool} (h : nameB s = v) (w : World) (hs : s.size ≤ maxLen) : Calls Tryz.prog 19 #[.string s] w fun e w' => e = .returned (.bool v) ∧ Below w.heap.size w w' := by
  subst h
  exact ref_name s w hs
set_option maxRecDepth 100000 in
set_option maxHeartbeats 8000000 in
/-- jalousieref8.attrs. -/
theorem attrs_any (aa : Option Addr) (an ac : Nat) (w : World) (attrs : List (ByteArray × ByteArray)) (hlen : attrs.length = an) (t4 : an ≤ 16) (ha : AttrsAt w.heap.size w (.slice aa an ac) attrs) (hal : ∀ p ∈ attrs, p.1.size ≤ maxLen ∧ p.2.size ≤ maxLen) :
    Calls Tryz.prog 20 #[.slice aa an ac] w fun e w' => e = .returned (.int .i64 (attrsE attrs attrs.length 0)) ∧ Below w.heap.size w w' := by
  have HL := Lib.hid hlen; have HAL := Lib.hid hal; have HA := Lib.hid ha; have H4 := Lib.hid t4
  have HR : Hid (∀ c, c = attrsE attrs attrs.length 0 → Ending.returned (.int .i64 c) = .returned (.int .i64 (attrsE attrs attrs.length 0))) := Lib.hid (fun c h => ret_int h)
  clear hlen ha hal t4
  generalize hrv : attrsE attrs attrs.length 0 = RV at HR ⊢
  have HRV := Lib.hid hrv
  clear hrv
  go_enter Tryz.func20, Tryz.ntmps20
  go_wp2_with fail
  go_loopw [7] (fun i wr => ∃ k : Nat, k ≤ an ∧ i = .int .i64 k ∧ Below w.heap.size w wr ∧ attrsE attrs (attrs.length - k) k = RV) (fun i _ => an - (intOf i).toNat)
  case atStart => exact ⟨0, Nat.zero_le _, rfl, Below.refl _ _, HRV.out⟩
  case round =>
    obtain ⟨k, hk, rfl, hb, he⟩ := hrel
    have HB := Lib.hid hb; have HE := Lib.hid he; have HKK := Lib.hid hk
    clear he
    by_cases hlt : k < an
    · obtain ⟨b, off, rfl, hbl, hr⟩ : ∃ b off, aa = some ⟨b, off, none⟩ ∧ b < w.heap.size ∧ w.rangeAt b off (attrCells attrs) := by
        obtain ⟨a, cap, e, _, _, h⟩ := HA.out
        cases e
        rcases h with ⟨h0, _⟩ | ⟨_, b, off, e, h1, h2⟩
        · have := HL.out; omega
        · exact ⟨b, off, e, h1, h2⟩
      have HCL : Hid (∀ j u, (attrCells attrs)[j]? = some u → wr.cell? ⟨b, off + j, none⟩ = some u) := Lib.hid fun j u hu => by
        rw [(bcell hb).1 b (off + j) hbl]
        exact hr j u hu
      have HBL := Lib.hid (Nat.lt_of_lt_of_le hbl hb.size)
      clear hr hb
      have hk17 : (k : Int) < 17 := by have := H4.out; omega
      have hka : k < attrs.length := by rw [HL.out]; exact hlt
      have HKA := Lib.hid hka
      obtain ⟨nm, vl, hnm, hA0, hA1⟩ : ∃ nm vl, attrs.getD k default = (nm, vl) ∧ wr.cell? ⟨b, off + k * 2, none⟩ = some (.string nm) ∧ wr.cell? ⟨b, off + k * 2 + 1, none⟩ = some (.string vl) :=
        ⟨_, _, by rw [List.getD_eq_getElem?_getD, List.getElem?_eq_getElem hka]; rfl, HCL.out (k * 2) _ (attrCells_get attrs k hka).1, by rw [Nat.add_assoc]; exact HCL.out (k * 2 + 1) _ (attrCells_get attrs k hka).2⟩
      have hmem : (nm, vl) ∈ attrs := by
        rw [← hnm, List.getD_eq_getElem?_getD, List.getElem?_eq_getElem hka]
        exact List.getElem_mem hka
      have HNL := Lib.hid (HAL.out _ hmem).1
      have HVL := Lib.hid (HAL.out _ hmem).2
      have HEQ := Lib.hid (show attrE attrs k = if nameB nm = false then 10 else if 0 < k ∧ leS nm (attrs.getD (k - 1) default).1 = true then 10 else if 256 < vl.size then 2 else 0 by unfold attrE; rw [hnm])
      have HST : Hid (∀ c, c ≠ 0 → attrE attrs k = c → c = RV) := Lib.hid (fun c h e => (attrsE_stop hka e h).symm.trans HE.out)
      have HNX : Hid (attrE attrs k = 0 → attrsE attrs (attrs.length - (k + 1)) (k + 1) = RV) := Lib.hid (fun e => (attrsE_next hka e).trans HE.out)
      clear hka hnm hmem
      go_wp2_with fail
      have a0 : (wr.alloc (.cells #[.string nm, .string vl] 81)).cell? ⟨wr.heap.size, 0, none⟩ = some (.string nm) := (World.cell?_alloc_at _ _ _ _ rfl).trans rfl
      have a1 : (wr.alloc (.cells #[.string nm, .string vl] 81)).cell? ⟨wr.heap.size, 1, none⟩ = some (.string vl) := (World.cell?_alloc_at _ _ _ _ rfl).trans rfl
      have HBA := Lib.hid ((Below.refl wr.heap.size wr).alloc (Nat.le_refl _) (.cells #[.string nm, .string vl] 81))
      have HLT := Lib.hid (show wr.heap.size < (wr.alloc (.cells #[.string nm, .string vl] 81)).heap.size by simp)
      have HCL2 : Hid (∀ j u, (attrCells attrs)[j]? = some u → (wr.alloc (.cells #[.string nm, .string vl] 81)).cell? ⟨b, off + j, none⟩ = some u) := Lib.hid (fun j u hu => (World.cell?_of_block (HBA.out.block _ HBL.out)).trans (HCL.out j u hu))
      clear hA0 hA1
      generalize wr.alloc (.cells #[.string nm, .string vl] 81) = wa at a0 a1 HCL2 HBA HLT ⊢
      cases hq : nameB nm with
      | false =>
        have HQ := Lib.hid hq
        clear hq
        refine wp_region_held_drew (S := (fun s => s.cell? ⟨wr.heap.size, 0, none⟩ = some (.string nm) ∧ s.cell? ⟨wr.heap.size, 1, none⟩ = some (.string vl) ∧ Below wa.heap.size wa s)) (by kernel_rfl) ⟨a0, a1, ⟨rfl, rfl, rfl, Nat.le_refl _, fun _ _ => rfl⟩⟩ (fun hHeld => ?_)
        refine wpAnyH_take (i := 0) (v := .pointer (some ⟨wr.heap.size, 0, none⟩)) rfl (by kernel_rfl) (by kernel_rfl) (by kernel_rfl) (fun _ _ _ h => h) (Or.inl ⟨by kernel_rfl, fun s hs => by obtain ⟨s0, s1, s2⟩ := hs; go_simp⟩) hHeld ?_
        refine wpAnyH_take (i := 1) (v := .string nm) rfl (by kernel_rfl) (by kernel_rfl) (by kernel_rfl) (fun _ _ _ h => h) (Or.inl ⟨by kernel_rfl, fun s hs => by obtain ⟨s0, s1, s2⟩ := hs; go_simp⟩) hHeld ?_
        refine wpAnyH_ready (rs := [2]) (by kernel_rfl) (by simp) ?_
        refine AllReadyH.cons rfl (fun K hK => ?_) AllReadyH.nil
        rw [if_pos (by kernel_rfl)]
        go_simp
        refine (rname_is HQ.out _ HNL.out).mono ?_
        rintro e w1 ⟨rfl, hb⟩
        have g0 : w1.cell? ⟨wr.heap.size, 0, none⟩ = some (.string nm) := ((bcell hb).1 _ _ HLT.out).trans a0
        have g1 : w1.cell? ⟨wr.heap.size, 1, none⟩ = some (.string vl) := ((bcell hb).1 _ _ HLT.out).trans a1
        have g2 : Below wa.heap.size wa w1 := ⟨hb.os, hb.tape, hb.output, hb.size, hb.block⟩
        have HG := Lib.hid g2
        clear hb a0 a1
        refine hK.out _ _ ⟨g0, g1, g2⟩ (fun hHeld => ?_)
        refine wpAnyH_take (i := 3) (v := .bool true) rfl (by kernel_rfl) (by kernel_rfl) (by kernel_rfl) (fun _ _ _ h => h) (Or.inl ⟨by kernel_rfl, fun s hs => by obtain ⟨s0, s1, s2⟩ := hs; go_simp⟩) hHeld ?_
        refine wpAnyH_take (i := 4) (v := .bool true) rfl (by kernel_rfl) (by kernel_rfl) (by kernel_rfl) (fun _ _ _ h => h) (Or.inl ⟨by kernel_rfl, fun s hs => by obtain ⟨s0, s1, s2⟩ := hs; go_simp⟩) hHeld ?_
        refine wpAnyH_take (i := 5) (v := undef) rfl (by kernel_rfl) (by kernel_rfl) (by kernel_rfl) (fun _ _ _ h => h) (Or.inr ⟨by kernel_rfl, rfl⟩) hHeld ?_
        refine wpAnyH_take (i := 6) (v := undef) rfl (by kernel_rfl) (by kernel_rfl) (by kernel_rfl) (fun _ _ _ h => h) (Or.inr ⟨by kernel_rfl, rfl⟩) hHeld ?_
        refine wpAnyH_take (i := 7) (v := undef) rfl (by kernel_rfl) (by kernel_rfl) (by kernel_rfl) (fun _ _ _ h => h) (Or.inr ⟨by kernel_rfl, rfl⟩) hHeld ?_
        refine wpAnyH_take (i := 8) (v := undef) rfl (by kernel_rfl) (by kernel_rfl) (by kernel_rfl) (fun _ _ _ h => h) (Or.inr ⟨by kernel_rfl, rfl⟩) hHeld ?_
        refine wpAnyH_take (i := 9) (v := undef) rfl (by kernel_rfl) (by kernel_rfl) (by kernel_rfl) (fun _ _ _ h => h) (Or.inr ⟨by kernel_rfl, rfl⟩) hHeld ?_
        refine wpAnyH_take (i := 10) (v := undef) rfl (by kernel_rfl) (by kernel_rfl) (by kernel_rfl) (fun _ _ _ h => h) (Or.inr ⟨by kernel_rfl, rfl⟩) hHeld ?_
        refine wpAnyH_take (i := 11) (v := undef) rfl (by kernel_rfl) (by kernel_rfl) (by kernel_rfl) (fun _ _ _ h => h) (Or.inr ⟨by kernel_rfl, rfl⟩) hHeld ?_
        refine wpAnyH_take (i := 12) (v := undef) rfl (by kernel_rfl) (by kernel_rfl) (by kernel_rfl) (fun _ _ _ h => h) (Or.inr ⟨by kernel_rfl, rfl⟩) hHeld ?_
        refine wpAnyH_take (i := 13) (v := undef) rfl (by kernel_rfl) (by kernel_rfl) (by kernel_rfl) (fun _ _ _ h => h) (Or.inr ⟨by kernel_rfl, rfl⟩) hHeld ?_
        refine wpAnyH_take (i := 14) (v := undef) rfl (by kernel_rfl) (by kernel_rfl) (by kernel_rfl) (fun _ _ _ h => h) (Or.inr ⟨by kernel_rfl, rfl⟩) hHeld ?_
        refine wpAnyH_take (i := 15) (v := undef) rfl (by kernel_rfl) (by kernel_rfl) (by kernel_rfl) (fun _ _ _ h => h) (Or.inr ⟨by kernel_rfl, rfl⟩) hHeld ?_
        refine wpAnyH_take (i := 16) (v := undef) rfl (by kernel_rfl) (by kernel_rfl) (by kernel_rfl) (fun _ _ _ h => h) (Or.inr ⟨by kernel_rfl, rfl⟩) hHeld ?_
        refine wpAnyH_take (i := 17) (v := undef) rfl (by kernel_rfl) (by kernel_rfl) (by kernel_rfl) (fun _ _ _ h => h) (Or.inr ⟨by kernel_rfl, rfl⟩) hHeld ?_
        refine wpAnyH_take (i := 18) (v := .bool true) rfl (by kernel_rfl) (by kernel_rfl) (by kernel_rfl) (fun _ _ _ h => h) (Or.inl ⟨by kernel_rfl, fun s hs => by obtain ⟨s0, s1, s2⟩ := hs; go_simp⟩) hHeld ?_
        refine wpAnyH_done (by kernel_rfl) ?_ _
        clear hHeld g2 g0 g1
        go_simp
        go_wp2
        go_ret
        exact ⟨HR.out _ (HST.out 10 (by decide) (by rw [HEQ.out, HQ.out]; rfl)), (HB.out.trans ((HBA.out.trans (HG.out.mono (Nat.le_of_lt HLT.out))).mono HB.out.size))⟩
      | true =>
        by_cases hk0 : 0 < k
        · obtain ⟨pn, hpe, hpn⟩ : ∃ pn, (attrs.getD (k - 1) default).1 = pn ∧ wa.cell? ⟨b, off + (k - 1) * 2, none⟩ = some (.string pn) := by
            have hk1 : k - 1 < attrs.length := by have := HKA.out; omega
            exact ⟨_, by rw [List.getD_eq_getElem?_getD, List.getElem?_eq_getElem hk1]; rfl, HCL2.out ((k - 1) * 2) _ (attrCells_get attrs (k - 1) hk1).1⟩
          have HPN := Lib.hid hpe
          clear hpe
          cases hls : leS nm pn with
          | true =>
            have hk0f : decide ((0 : Int) < (k : Int)) = true := by simp; omega
            have HK0 := Lib.hid hk0
            have HQ := Lib.hid hq
            have HLS := Lib.hid hls
            clear hq hk0
            refine wp_region_held_drew (S := (fun s => s.cell? ⟨wr.heap.size, 0, none⟩ = some (.string nm) ∧ s.cell? ⟨wr.heap.size, 1, none⟩ = some (.string vl) ∧ Below wa.heap.size wa s ∧ s.cell? ⟨b, off + (k - 1) * 2, none⟩ = some (.string pn))) (by kernel_rfl) ⟨a0, a1, ⟨rfl, rfl, rfl, Nat.le_refl _, fun _ _ => rfl⟩, hpn⟩ (fun hHeld => ?_)
            refine wpAnyH_take (i := 0) (v := .pointer (some ⟨wr.heap.size, 0, none⟩)) rfl (by kernel_rfl) (by kernel_rfl) (by kernel_rfl) (fun _ _ _ h => h) (Or.inl ⟨by kernel_rfl, fun s hs => by obtain ⟨s0, s1, s2, s3⟩ := hs; go_simp⟩) hHeld ?_
            refine wpAnyH_take (i := 1) (v := .string nm) rfl (by kernel_rfl) (by kernel_rfl) (by kernel_rfl) (fun _ _ _ h => h) (Or.inl ⟨by kernel_rfl, fun s hs => by obtain ⟨s0, s1, s2, s3⟩ := hs; go_simp⟩) hHeld ?_
            refine wpAnyH_ready (rs := [2]) (by kernel_rfl) (by simp) ?_
            refine AllReadyH.cons rfl (fun K hK => ?_) AllReadyH.nil
            rw [if_pos (by kernel_rfl)]
            go_simp
            refine (rname_is HQ.out _ HNL.out).mono ?_
            rintro e w1 ⟨rfl, hb⟩
            have g0 : w1.cell? ⟨wr.heap.size, 0, none⟩ = some (.string nm) := ((bcell hb).1 _ _ HLT.out).trans a0
            have g1 : w1.cell? ⟨wr.heap.size, 1, none⟩ = some (.string vl) := ((bcell hb).1 _ _ HLT.out).trans a1
            have g2 : Below wa.heap.size wa w1 := ⟨hb.os, hb.tape, hb.output, hb.size, hb.block⟩
            have HG := Lib.hid g2
            have g3 : w1.cell? ⟨b, off + (k - 1) * 2, none⟩ = some (.string pn) := ((bcell hb).1 _ _ (Nat.lt_trans HBL.out HLT.out)).trans hpn
            clear hb a0 a1 hpn
            refine hK.out _ _ ⟨g0, g1, g2, g3⟩ (fun hHeld => ?_)
            refine wpAnyH_take (i := 3) (v := .bool false) rfl (by kernel_rfl) (by kernel_rfl) (by kernel_rfl) (fun _ _ _ h => h) (Or.inl ⟨by kernel_rfl, fun s hs => by obtain ⟨s0, s1, s2, s3⟩ := hs; go_simp⟩) hHeld ?_
            refine wpAnyH_take (i := 4) (v := .bool false) rfl (by kernel_rfl) (by kernel_rfl) (by kernel_rfl) (fun _ _ _ h => h) (Or.inl ⟨by kernel_rfl, fun s hs => by obtain ⟨s0, s1, s2, s3⟩ := hs; go_simp⟩) hHeld ?_
            refine wpAnyH_take (i := 5) (v := .int .i64 k) rfl (by kernel_rfl) (by kernel_rfl) (by kernel_rfl) (fun _ _ _ h => h) (Or.inl ⟨by kernel_rfl, fun s hs => by obtain ⟨s0, s1, s2, s3⟩ := hs; go_simp⟩) hHeld ?_
            refine wpAnyH_take (i := 6) (v := .bool true) rfl (by kernel_rfl) (by kernel_rfl) (by kernel_rfl) (fun _ _ _ h => h) (Or.inl ⟨by kernel_rfl, fun s hs => by obtain ⟨s0, s1, s2, s3⟩ := hs; go_simp; exact HK0.out⟩) hHeld ?_
            refine wpAnyH_take (i := 7) (v := .bool true) rfl (by kernel_rfl) (by kernel_rfl) (by kernel_rfl) (fun _ _ _ h => h) (Or.inl ⟨by kernel_rfl, fun s hs => by obtain ⟨s0, s1, s2, s3⟩ := hs; go_simp⟩) hHeld ?_
            refine wpAnyH_take (i := 8) (v := .pointer (some ⟨wr.heap.size, 0, none⟩)) rfl (by kernel_rfl) (by kernel_rfl) (by kernel_rfl) (fun _ _ _ h => h) (Or.inl ⟨by kernel_rfl, fun s hs => by obtain ⟨s0, s1, s2, s3⟩ := hs; go_simp⟩) hHeld ?_
            refine wpAnyH_take (i := 9) (v := .string nm) rfl (by kernel_rfl) (by kernel_rfl) (by kernel_rfl) (fun _ _ _ h => h) (Or.inl ⟨by kernel_rfl, fun s hs => by obtain ⟨s0, s1, s2, s3⟩ := hs; go_simp⟩) hHeld ?_
            refine wpAnyH_take (i := 10) (v := .slice (some ⟨b, off, none⟩) an ac) rfl (by kernel_rfl) (by kernel_rfl) (by kernel_rfl) (fun _ _ _ h => h) (Or.inl ⟨by kernel_rfl, fun s hs => by obtain ⟨s0, s1, s2, s3⟩ := hs; go_simp⟩) hHeld ?_
            refine wpAnyH_take (i := 11) (v := .int .i64 k) rfl (by kernel_rfl) (by kernel_rfl) (by kernel_rfl) (fun _ _ _ h => h) (Or.inl ⟨by kernel_rfl, fun s hs => by obtain ⟨s0, s1, s2, s3⟩ := hs; go_simp⟩) hHeld ?_
            refine wpAnyH_take (i := 12) (v := .int .i64 (k - 1 : Nat)) rfl (by kernel_rfl) (by kernel_rfl) (by kernel_rfl) (fun _ _ _ h => h) (Or.inl ⟨by kernel_rfl, fun s hs => by obtain ⟨s0, s1, s2, s3⟩ := hs; go_simp; exact sub_one_nat HK0.out (by omega)⟩) hHeld ?_
            refine wpAnyH_take (i := 13) (v := .pointer (some ⟨b, off + (k - 1) * 2, none⟩)) rfl (by kernel_rfl) (by kernel_rfl) (by kernel_rfl) (fun _ _ _ h => h) (Or.inl ⟨by kernel_rfl, fun s hs => by obtain ⟨s0, s1, s2, s3⟩ := hs; go_simp; intro hh; omega⟩) hHeld ?_
            refine wpAnyH_take (i := 14) (v := .pointer (some ⟨b, off + (k - 1) * 2, none⟩)) rfl (by kernel_rfl) (by kernel_rfl) (by kernel_rfl) (fun _ _ _ h => h) (Or.inl ⟨by kernel_rfl, fun s hs => by obtain ⟨s0, s1, s2, s3⟩ := hs; go_simp⟩) hHeld ?_
            refine wpAnyH_take (i := 15) (v := .string pn) rfl (by kernel_rfl) (by kernel_rfl) (by kernel_rfl) (fun _ _ _ h => h) (Or.inl ⟨by kernel_rfl, fun s hs => by obtain ⟨s0, s1, s2, s3⟩ := hs; go_simp⟩) hHeld ?_
            refine wpAnyH_take (i := 16) (v := .bool true) rfl (by kernel_rfl) (by kernel_rfl) (by kernel_rfl) (fun _ _ _ h => h) (Or.inl ⟨by kernel_rfl, fun s hs => by obtain ⟨s0, s1, s2, s3⟩ := hs; go_simp; exact leS_true HLS.out⟩) hHeld ?_
            refine wpAnyH_take (i := 17) (v := .bool true) rfl (by kernel_rfl) (by kernel_rfl) (by kernel_rfl) (fun _ _ _ h => h) (Or.inl ⟨by kernel_rfl, fun s hs => by obtain ⟨s0, s1, s2, s3⟩ := hs; go_simp⟩) hHeld ?_
            refine wpAnyH_take (i := 18) (v := .bool true) rfl (by kernel_rfl) (by kernel_rfl) (by kernel_rfl) (fun _ _ _ h => h) (Or.inl ⟨by kernel_rfl, fun s hs => by obtain ⟨s0, s1, s2, s3⟩ := hs; go_simp⟩) hHeld ?_
            refine wpAnyH_done (by kernel_rfl) ?_ _
            clear hHeld g2 g0 g1 g3
            go_simp
            go_wp2
            go_ret
            exact ⟨HR.out _ (HST.out 10 (by decide) (by rw [HEQ.out, HQ.out, HPN.out, if_neg (by decide : ¬ (true = false)), if_pos ⟨HK0.out, HLS.out⟩])), (HB.out.trans ((HBA.out.trans (HG.out.mono (Nat.le_of_lt HLT.out))).mono HB.out.size))⟩
          | false =>
            have hk0f : decide ((0 : Int) < (k : Int)) = true := by simp; omega
            have HK0 := Lib.hid hk0
            have HQ := Lib.hid hq
            have HLS := Lib.hid hls
            clear hq hk0
            refine wp_region_held_drew (S := (fun s => s.cell? ⟨wr.heap.size, 0, none⟩ = some (.string nm) ∧ s.cell? ⟨wr.heap.size, 1, none⟩ = some (.string vl) ∧ Below wa.heap.size wa s ∧ s.cell? ⟨b, off + (k - 1) * 2, none⟩ = some (.string pn))) (by kernel_rfl) ⟨a0, a1, ⟨rfl, rfl, rfl, Nat.le_refl _, fun _ _ => rfl⟩, hpn⟩ (fun hHeld => ?_)
            refine wpAnyH_take (i := 0) (v := .pointer (some ⟨wr.heap.size, 0, none⟩)) rfl (by kernel_rfl) (by kernel_rfl) (by kernel_rfl) (fun _ _ _ h => h) (Or.inl ⟨by kernel_rfl, fun s hs => by obtain ⟨s0, s1, s2, s3⟩ := hs; go_simp⟩) hHeld ?_
            refine wpAnyH_take (i := 1) (v := .string nm) rfl (by kernel_rfl) (by kernel_rfl) (by kernel_rfl) (fun _ _ _ h => h) (Or.inl ⟨by kernel_rfl, fun s hs => by obtain ⟨s0, s1, s2, s3⟩ := hs; go_simp⟩) hHeld ?_
            refine wpAnyH_ready (rs := [2]) (by kernel_rfl) (by simp) ?_
            refine AllReadyH.cons rfl (fun K hK => ?_) AllReadyH.nil
            rw [if_pos (by kernel_rfl)]
            go_simp
            refine (rname_is HQ.out _ HNL.out).mono ?_
            rintro e w1 ⟨rfl, hb⟩
            have g0 : w1.cell? ⟨wr.heap.size, 0, none⟩ = some (.string nm) := ((bcell hb).1 _ _ HLT.out).trans a0
            have g1 : w1.cell? ⟨wr.heap.size, 1, none⟩ = some (.string vl) := ((bcell hb).1 _ _ HLT.out).trans a1
            have g2 : Below wa.heap.size wa w1 := ⟨hb.os, hb.tape, hb.output, hb.size, hb.block⟩
            have HG := Lib.hid g2
            have g3 : w1.cell? ⟨b, off + (k - 1) * 2, none⟩ = some (.string pn) := ((bcell hb).1 _ _ (Nat.lt_trans HBL.out HLT.out)).trans hpn
            clear hb a0 a1 hpn
            refine hK.out _ _ ⟨g0, g1, g2, g3⟩ (fun hHeld => ?_)
            refine wpAnyH_take (i := 3) (v := .bool false) rfl (by kernel_rfl) (by kernel_rfl) (by kernel_rfl) (fun _ _ _ h => h) (Or.inl ⟨by kernel_rfl, fun s hs => by obtain ⟨s0, s1, s2, s3⟩ := hs; go_simp⟩) hHeld ?_
            refine wpAnyH_take (i := 4) (v := .bool false) rfl (by kernel_rfl) (by kernel_rfl) (by kernel_rfl) (fun _ _ _ h => h) (Or.inl ⟨by kernel_rfl, fun s hs => by obtain ⟨s0, s1, s2, s3⟩ := hs; go_simp⟩) hHeld ?_
            refine wpAnyH_take (i := 5) (v := .int .i64 k) rfl (by kernel_rfl) (by kernel_rfl) (by kernel_rfl) (fun _ _ _ h => h) (Or.inl ⟨by kernel_rfl, fun s hs => by obtain ⟨s0, s1, s2, s3⟩ := hs; go_simp⟩) hHeld ?_
            refine wpAnyH_take (i := 6) (v := .bool true) rfl (by kernel_rfl) (by kernel_rfl) (by kernel_rfl) (fun _ _ _ h => h) (Or.inl ⟨by kernel_rfl, fun s hs => by obtain ⟨s0, s1, s2, s3⟩ := hs; go_simp; exact HK0.out⟩) hHeld ?_
            refine wpAnyH_take (i := 7) (v := .bool true) rfl (by kernel_rfl) (by kernel_rfl) (by kernel_rfl) (fun _ _ _ h => h) (Or.inl ⟨by kernel_rfl, fun s hs => by obtain ⟨s0, s1, s2, s3⟩ := hs; go_simp⟩) hHeld ?_
            refine wpAnyH_take (i := 8) (v := .pointer (some ⟨wr.heap.size, 0, none⟩)) rfl (by kernel_rfl) (by kernel_rfl) (by kernel_rfl) (fun _ _ _ h => h) (Or.inl ⟨by kernel_rfl, fun s hs => by obtain ⟨s0, s1, s2, s3⟩ := hs; go_simp⟩) hHeld ?_
            refine wpAnyH_take (i := 9) (v := .string nm) rfl (by kernel_rfl) (by kernel_rfl) (by kernel_rfl) (fun _ _ _ h => h) (Or.inl ⟨by kernel_rfl, fun s hs => by obtain ⟨s0, s1, s2, s3⟩ := hs; go_simp⟩) hHeld ?_
            refine wpAnyH_take (i := 10) (v := .slice (some ⟨b, off, none⟩) an ac) rfl (by kernel_rfl) (by kernel_rfl) (by kernel_rfl) (fun _ _ _ h => h) (Or.inl ⟨by kernel_rfl, fun s hs => by obtain ⟨s0, s1, s2, s3⟩ := hs; go_simp⟩) hHeld ?_
            refine wpAnyH_take (i := 11) (v := .int .i64 k) rfl (by kernel_rfl) (by kernel_rfl) (by kernel_rfl) (fun _ _ _ h => h) (Or.inl ⟨by kernel_rfl, fun s hs => by obtain ⟨s0, s1, s2, s3⟩ := hs; go_simp⟩) hHeld ?_
            refine wpAnyH_take (i := 12) (v := .int .i64 (k - 1 : Nat)) rfl (by kernel_rfl) (by kernel_rfl) (by kernel_rfl) (fun _ _ _ h => h) (Or.inl ⟨by kernel_rfl, fun s hs => by obtain ⟨s0, s1, s2, s3⟩ := hs; go_simp; exact sub_one_nat HK0.out (by omega)⟩) hHeld ?_
            refine wpAnyH_take (i := 13) (v := .pointer (some ⟨b, off + (k - 1) * 2, none⟩)) rfl (by kernel_rfl) (by kernel_rfl) (by kernel_rfl) (fun _ _ _ h => h) (Or.inl ⟨by kernel_rfl, fun s hs => by obtain ⟨s0, s1, s2, s3⟩ := hs; go_simp; intro hh; omega⟩) hHeld ?_
            refine wpAnyH_take (i := 14) (v := .pointer (some ⟨b, off + (k - 1) * 2, none⟩)) rfl (by kernel_rfl) (by kernel_rfl) (by kernel_rfl) (fun _ _ _ h => h) (Or.inl ⟨by kernel_rfl, fun s hs => by obtain ⟨s0, s1, s2, s3⟩ := hs; go_simp⟩) hHeld ?_
            refine wpAnyH_take (i := 15) (v := .string pn) rfl (by kernel_rfl) (by kernel_rfl) (by kernel_rfl) (fun _ _ _ h => h) (Or.inl ⟨by kernel_rfl, fun s hs => by obtain ⟨s0, s1, s2, s3⟩ := hs; go_simp⟩) hHeld ?_
            refine wpAnyH_take (i := 16) (v := .bool false) rfl (by kernel_rfl) (by kernel_rfl) (by kernel_rfl) (fun _ _ _ h => h) (Or.inl ⟨by kernel_rfl, fun s hs => by obtain ⟨s0, s1, s2, s3⟩ := hs; go_simp; exact leS_false HLS.out⟩) hHeld ?_
            refine wpAnyH_take (i := 17) (v := .bool false) rfl (by kernel_rfl) (by kernel_rfl) (by kernel_rfl) (fun _ _ _ h => h) (Or.inl ⟨by kernel_rfl, fun s hs => by obtain ⟨s0, s1, s2, s3⟩ := hs; go_simp⟩) hHeld ?_
            refine wpAnyH_take (i := 18) (v := .bool false) rfl (by kernel_rfl) (by kernel_rfl) (by kernel_rfl) (fun _ _ _ h => h) (Or.inl ⟨by kernel_rfl, fun s hs => by obtain ⟨s0, s1, s2, s3⟩ := hs; go_simp⟩) hHeld ?_
            refine wpAnyH_done (by kernel_rfl) ?_ _
            clear g3
            clear hHeld g2 g0
            go_simp
            by_cases hvl : 256 < vl.size
            · have hv2 : decide ((256 : Int) < (vl.size : Int)) = true := by simp; omega
              have HV := Lib.hid hvl
              clear hvl
              go_wp2
              go_ret
              exact ⟨HR.out _ (HST.out 2 (by decide) (by rw [HEQ.out, HQ.out]; rw [HPN.out, if_neg (by decide : ¬ (true = false)), if_neg (fun h => by have := h.2; rw [HLS.out] at this; cases this)]; rw [if_pos HV.out])), (HB.out.trans ((HBA.out.trans (HG.out.mono (Nat.le_of_lt HLT.out))).mono HB.out.size))⟩
            · have hv2 : decide ((256 : Int) < (vl.size : Int)) = false := by simp; omega
              have HV := Lib.hid hvl
              clear hvl
              go_wp2
              go_roundw
              case rel => exact ⟨k + 1, by omega, by go_num, (HB.out.trans ((HBA.out.trans (HG.out.mono (Nat.le_of_lt HLT.out))).mono HB.out.size)), HNX.out (by rw [HEQ.out, HQ.out]; rw [HPN.out, if_neg (by decide : ¬ (true = false)), if_neg (fun h => by have := h.2; rw [HLS.out] at this; cases this)]; rw [if_neg HV.out])⟩
              case measure => simp [intOf]; omega
        · have hk0f : decide ((0 : Int) < (k : Int)) = false := by simp; omega
          have HK0 := Lib.hid hk0
          have HQ := Lib.hid hq
          clear hq hk0
          refine wp_region_held_drew (S := (fun s => s.cell? ⟨wr.heap.size, 0, none⟩ = some (.string nm) ∧ s.cell? ⟨wr.heap.size, 1, none⟩ = some (.string vl) ∧ Below wa.heap.size wa s)) (by kernel_rfl) ⟨a0, a1, ⟨rfl, rfl, rfl, Nat.le_refl _, fun _ _ => rfl⟩⟩ (fun hHeld => ?_)
          refine wpAnyH_take (i := 0) (v := .pointer (some ⟨wr.heap.size, 0, none⟩)) rfl (by kernel_rfl) (by kernel_rfl) (by kernel_rfl) (fun _ _ _ h => h) (Or.inl ⟨by kernel_rfl, fun s hs => by obtain ⟨s0, s1, s2⟩ := hs; go_simp⟩) hHeld ?_
          refine wpAnyH_take (i := 1) (v := .string nm) rfl (by kernel_rfl) (by kernel_rfl) (by kernel_rfl) (fun _ _ _ h => h) (Or.inl ⟨by kernel_rfl, fun s hs => by obtain ⟨s0, s1, s2⟩ := hs; go_simp⟩) hHeld ?_
          refine wpAnyH_ready (rs := [2]) (by kernel_rfl) (by simp) ?_
          refine AllReadyH.cons rfl (fun K hK => ?_) AllReadyH.nil
          rw [if_pos (by kernel_rfl)]
          go_simp
          refine (rname_is HQ.out _ HNL.out).mono ?_
          rintro e w1 ⟨rfl, hb⟩
          have g0 : w1.cell? ⟨wr.heap.size, 0, none⟩ = some (.string nm) := ((bcell hb).1 _ _ HLT.out).trans a0
          have g1 : w1.cell? ⟨wr.heap.size, 1, none⟩ = some (.string vl) := ((bcell hb).1 _ _ HLT.out).trans a1
          have g2 : Below wa.heap.size wa w1 := ⟨hb.os, hb.tape, hb.output, hb.size, hb.block⟩
          have HG := Lib.hid g2
          clear hb a0 a1
          refine hK.out _ _ ⟨g0, g1, g2⟩ (fun hHeld => ?_)
          refine wpAnyH_take (i := 3) (v := .bool false) rfl (by kernel_rfl) (by kernel_rfl) (by kernel_rfl) (fun _ _ _ h => h) (Or.inl ⟨by kernel_rfl, fun s hs => by obtain ⟨s0, s1, s2⟩ := hs; go_simp⟩) hHeld ?_
          refine wpAnyH_take (i := 4) (v := .bool false) rfl (by kernel_rfl) (by kernel_rfl) (by kernel_rfl) (fun _ _ _ h => h) (Or.inl ⟨by kernel_rfl, fun s hs => by obtain ⟨s0, s1, s2⟩ := hs; go_simp⟩) hHeld ?_
          refine wpAnyH_take (i := 5) (v := .int .i64 k) rfl (by kernel_rfl) (by kernel_rfl) (by kernel_rfl) (fun _ _ _ h => h) (Or.inl ⟨by kernel_rfl, fun s hs => by obtain ⟨s0, s1, s2⟩ := hs; go_simp⟩) hHeld ?_
          refine wpAnyH_take (i := 6) (v := .bool false) rfl (by kernel_rfl) (by kernel_rfl) (by kernel_rfl) (fun _ _ _ h => h) (Or.inl ⟨by kernel_rfl, fun s hs => by obtain ⟨s0, s1, s2⟩ := hs; go_simp; have := HK0.out; omega⟩) hHeld ?_
          refine wpAnyH_take (i := 7) (v := .bool false) rfl (by kernel_rfl) (by kernel_rfl) (by kernel_rfl) (fun _ _ _ h => h) (Or.inl ⟨by kernel_rfl, fun s hs => by obtain ⟨s0, s1, s2⟩ := hs; go_simp⟩) hHeld ?_
          refine wpAnyH_take (i := 8) (v := undef) rfl (by kernel_rfl) (by kernel_rfl) (by kernel_rfl) (fun _ _ _ h => h) (Or.inr ⟨by kernel_rfl, rfl⟩) hHeld ?_
          refine wpAnyH_take (i := 9) (v := undef) rfl (by kernel_rfl) (by kernel_rfl) (by kernel_rfl) (fun _ _ _ h => h) (Or.inr ⟨by kernel_rfl, rfl⟩) hHeld ?_
          refine wpAnyH_take (i := 10) (v := undef) rfl (by kernel_rfl) (by kernel_rfl) (by kernel_rfl) (fun _ _ _ h => h) (Or.inr ⟨by kernel_rfl, rfl⟩) hHeld ?_
          refine wpAnyH_take (i := 11) (v := undef) rfl (by kernel_rfl) (by kernel_rfl) (by kernel_rfl) (fun _ _ _ h => h) (Or.inr ⟨by kernel_rfl, rfl⟩) hHeld ?_
          refine wpAnyH_take (i := 12) (v := undef) rfl (by kernel_rfl) (by kernel_rfl) (by kernel_rfl) (fun _ _ _ h => h) (Or.inr ⟨by kernel_rfl, rfl⟩) hHeld ?_
          refine wpAnyH_take (i := 13) (v := undef) rfl (by kernel_rfl) (by kernel_rfl) (by kernel_rfl) (fun _ _ _ h => h) (Or.inr ⟨by kernel_rfl, rfl⟩) hHeld ?_
          refine wpAnyH_take (i := 14) (v := undef) rfl (by kernel_rfl) (by kernel_rfl) (by kernel_rfl) (fun _ _ _ h => h) (Or.inr ⟨by kernel_rfl, rfl⟩) hHeld ?_
          refine wpAnyH_take (i := 15) (v := undef) rfl (by kernel_rfl) (by kernel_rfl) (by kernel_rfl) (fun _ _ _ h => h) (Or.inr ⟨by kernel_rfl, rfl⟩) hHeld ?_
          refine wpAnyH_take (i := 16) (v := undef) rfl (by kernel_rfl) (by kernel_rfl) (by kernel_rfl) (fun _ _ _ h => h) (Or.inr ⟨by kernel_rfl, rfl⟩) hHeld ?_
          refine wpAnyH_take (i := 17) (v := .bool false) rfl (by kernel_rfl) (by kernel_rfl) (by kernel_rfl) (fun _ _ _ h => h) (Or.inl ⟨by kernel_rfl, fun s hs => by obtain ⟨s0, s1, s2⟩ := hs; go_simp⟩) hHeld ?_
          refine wpAnyH_take (i := 18) (v := .bool false) rfl (by kernel_rfl) (by kernel_rfl) (by kernel_rfl) (fun _ _ _ h => h) (Or.inl ⟨by kernel_rfl, fun s hs => by obtain ⟨s0, s1, s2⟩ := hs; go_simp⟩) hHeld ?_
          refine wpAnyH_done (by kernel_rfl) ?_ _
          clear hHeld g2 g0
          go_simp
          by_cases hvl : 256 < vl.size
          · have hv2 : decide ((256 : Int) < (vl.size : Int)) = true := by simp; omega
            have HV := Lib.hid hvl
            clear hvl
            go_wp2
            go_ret
            exact ⟨HR.out _ (HST.out 2 (by decide) (by rw [HEQ.out, HQ.out]; rw [if_neg (by decide : ¬ (true = false)), if_neg (fun h => HK0.out h.1)]; rw [if_pos HV.out])), (HB.out.trans ((HBA.out.trans (HG.out.mono (Nat.le_of_lt HLT.out))).mono HB.out.size))⟩
          · have hv2 : decide ((256 : Int) < (vl.size : Int)) = false := by simp; omega
            have HV := Lib.hid hvl
            clear hvl
            go_wp2
            go_roundw
            case rel => exact ⟨k + 1, by omega, by go_num, (HB.out.trans ((HBA.out.trans (HG.out.mono (Nat.le_of_lt HLT.out))).mono HB.out.size)), HNX.out (by rw [HEQ.out, HQ.out]; rw [if_neg (by decide : ¬ (true = false)), if_neg (fun h => HK0.out h.1)]; rw [if_neg HV.out])⟩
            case measure => simp [intOf]; omega
    · have hke : k = an := by have := HKK.out; omega
      have hz : (0 : Int) = RV := by
        rw [← HE.out, hke, HL.out, Nat.sub_self]
        rfl
      have HZ := Lib.hid hz
      clear hz hke
      go_wp2_with fail
      go_ret
      exact ⟨HR.out _ HZ.out, HB.out⟩
end Go.Proofs.YthbmnacleneflaaGreatDoor
/-
  Contracts, for a run of one goroutine, of jalousieref8's Tree.Up, Depth, Root and Order. Condition: the row lies in memory; the element's numbers differ.
-/
set_option linter.unusedSimpArgs false
set_option linter.unusedVariables false
namespace Go.Proofs.YthbmnacleneflaaGreatDoor
open Go Go.RowKit
open Go.Proofs.YthbmnacleneflaaGreatDoor.dt (Nd fnd pre Deep ups Fits Dist fnd_some fnd_mem fnd_neg dist_root dist_kid dist_par dist_inj dist_lt deep_of pre_len pre_nodup pre_mem all_dist dist_of_pre oneTree elOk kidOk rootsN kidsN rootOf fits_of root_of_mem cloL Whole)

theorem row_of_fnd {xs : List Ev} {x : Int} {n : Nd} (h : fnd (ndsV xs) x = some n) : ∃ j, ∃ hj : j < xs.length, xs[j].el.id = x ∧ n = xs[j].el.nd := by
  obtain ⟨hm, hx⟩ := fnd_some h
  obtain ⟨y, hy, rfl⟩ := List.mem_map.1 hm
  obtain ⟨j, hj, rfl⟩ := List.mem_iff_getElem.1 hy
  exact ⟨j, hj, hx, rfl⟩

set_option maxRecDepth 100000 in
/-- jalousieref8's Tree.Up: of an element. -/
theorem rup_yes (w : World) (U T : Nat) (xs : List Ev) (next : Int) (hR : RowT w U T xs next) (hU : U ≤ w.heap.size) (hd : ((ndsV xs).map Nd.id).Nodup) (x : Int) (n : Nd) (hn : fnd (ndsV xs) x = some n) :
    Calls Tryz.prog 32 #[.pointer (some ⟨T, 0, none⟩), .int .i64 x] w fun e w' => e = .returned (.int .i64 n.par) ∧ Below w.heap.size w w' := by
  obtain ⟨j, hj, rfl, rfl⟩ := row_of_fnd hn
  have HC := Lib.hid (at_yes w U T xs next hR hU hd j hj)
  obtain ⟨v, hv, hrow⟩ := hR.t
  obtain ⟨va, vc, rfl⟩ := RowAt.slice hrow
  obtain ⟨bx, off, rfl, hbx, hrx⟩ := RowAt.place hrow (by omega)
  have h1 : w.cell? ⟨bx, off + j * 11 + 1, none⟩ = some (.int .i64 xs[j].el.par) := elem_cells hrx hj 1 _ rfl
  have hjl : (j : Int) < (xs.length : Int) := by omega
  have hj0 : decide ((0 : Int) ≤ (j : Int)) = true := by simp
  have hxl : (xs.length : Int) ≤ 256 := by have := hR.len; omega
  show Calls Tryz.prog 32 #[.pointer (some ⟨T, 0, none⟩), .int .i64 xs[j].el.id] w fun e w' => e = .returned (.int .i64 xs[j].el.par) ∧ Below w.heap.size w w'
  generalize xs[j].el.id = x at HC hn ⊢
  generalize xs[j].el.par = p at h1 ⊢
  have HR := Lib.hid hR; have HU := Lib.hid hU; have HV := Lib.hid hv; have H1 := Lib.hid h1; have HBX := Lib.hid (Nat.lt_of_lt_of_le hbx hU)
  clear hR hU hv h1 hrow hrx hbx hd hn
  go_enter Tryz.func32, Tryz.ntmps32
  go_wp2_with (go_at_call 36; refine HC.out.mono ?_; rintro e w1 ⟨rfl, hb1⟩; have HB1 := Lib.hid hb1; clear hb1; have cT : w1.cell? ⟨T, 0, none⟩ = some (.slice (some ⟨bx, off, none⟩) xs.length vc) := blk_cell ((HB1.out.block T (Nat.lt_of_lt_of_le HR.out.lt HU.out)).trans HV.out) 0 _ rfl; have c1 : w1.cell? ⟨bx, off + j * 11 + 1, none⟩ = some (.int .i64 p) := ((bcell HB1.out).1 bx _ HBX.out).trans H1.out)
  go_ret
  exact ⟨rfl, HB1.out⟩
set_option maxRecDepth 100000 in
/-- jalousieref8's Tree.Up: of none. -/
theorem rup_no (w : World) (U T : Nat) (xs : List Ev) (next : Int) (hR : RowT w U T xs next) (hU : U ≤ w.heap.size) (hd : ((ndsV xs).map Nd.id).Nodup) (x : Int) (hn : fnd (ndsV xs) x = none) :
    Calls Tryz.prog 32 #[.pointer (some ⟨T, 0, none⟩), .int .i64 x] w fun e w' => e = .returned (.int .i64 (-1)) ∧ Below w.heap.size w w' := by
  have HC := Lib.hid (at_no w U T xs next hR hU hd x hn)
  clear hR hU hn hd
  go_enter Tryz.func32, Tryz.ntmps32
  go_wp2_with (go_at_call 36; refine HC.out.mono ?_; rintro e w1 ⟨rfl, hb⟩; have HB := Lib.hid hb; clear hb)
  go_ret
  exact ⟨rfl, HB.out⟩

set_option maxRecDepth 100000 in
set_option maxHeartbeats 2000000 in
/-- jalousieref8's Tree.Depth. -/
theorem rdepth_any (w : World) (U T : Nat) (xs : List Ev) (next root : Int) (hR : RowT w U T xs next) (hU : U ≤ w.heap.size) (hf : Fits (ndsV xs) root) (x : Int) (d : Nat) (hx : Dist (ndsV xs) root x d) (hl : d < 1000) :
    Calls Tryz.prog 24 #[.pointer (some ⟨T, 0, none⟩), .int .i64 x] w fun e w' => e = .returned (.int .i64 ((d : Int) + 1)) ∧ Below w.heap.size w w' := by
  have some_ : ∀ y d', Dist (ndsV xs) root y d' → ∃ n, fnd (ndsV xs) y = some n := by
    intro y d' h1
    cases d' with
    | zero =>
      have e : y = root := by simpa [Go.Proofs.YthbmnacleneflaaGreatDoor.dt.Dist, Go.Proofs.YthbmnacleneflaaGreatDoor.dt.ups] using h1
      obtain ⟨n, hn, _⟩ := hf.root
      exact ⟨n, by rw [e]; exact hn⟩
    | succ d' =>
      unfold Go.Proofs.YthbmnacleneflaaGreatDoor.dt.Dist Go.Proofs.YthbmnacleneflaaGreatDoor.dt.ups at h1
      cases hf : fnd (ndsV xs) y with
      | none => rw [hf] at h1; cases h1
      | some n => exact ⟨n, rfl⟩
  have yes_ : ∀ y d', Dist (ndsV xs) root y d' → ∃ j, ∃ hj : j < xs.length, xs[j].el.id = y ∧ ∀ wr, Below w.heap.size w wr → Calls Tryz.prog 36 #[.pointer (some ⟨T, 0, none⟩), .int .i64 y] wr fun e w' => e = .returned (.int .i64 j) ∧ Below wr.heap.size wr w' := by
    intro y d' h
    obtain ⟨n, hn⟩ := some_ y d' h
    obtain ⟨j, hj, rfl, rfl⟩ := row_of_fnd hn
    exact ⟨j, hj, rfl, fun wr hb => at_yes wr U T xs next (hR.keep (hb.mono hU)) (Nat.le_trans hU hb.size) hf.ids j hj⟩
  have no_ : ∀ wr, Below w.heap.size w wr → Calls Tryz.prog 36 #[.pointer (some ⟨T, 0, none⟩), .int .i64 (-1)] wr fun e w' => e = .returned (.int .i64 (-1)) ∧ Below wr.heap.size wr w' := fun wr hb =>
    at_no wr U T xs next (hR.keep (hb.mono hU)) (Nat.le_trans hU hb.size) hf.ids (-1) (fnd_neg hf.nonneg)
  obtain ⟨j0, hj0, hx0, hc0⟩ := yes_ x d hx
  obtain ⟨v, hv, hrow⟩ := hR.t
  obtain ⟨va, vc, rfl⟩ := RowAt.slice hrow
  obtain ⟨bx, off, rfl, hbx, hrx⟩ := RowAt.place hrow (by omega)
  have HC0 := Lib.hid (hc0 w (Below.refl _ _)); have HY := Lib.hid yes_; have HNO := Lib.hid no_; have HS := Lib.hid some_
  have HR := Lib.hid hR; have HU := Lib.hid hU; have HV := Lib.hid hv; have HRX := Lib.hid hrx; have HBX := Lib.hid (Nat.lt_of_lt_of_le hbx hU); have HF := Lib.hid hf; have HX := Lib.hid hx; have HJ0 := Lib.hid hj0; have HX0 := Lib.hid hx0
  have hxl : (xs.length : Int) ≤ 256 := by have := hR.len; omega
  clear some_ yes_ no_ hc0 hR hU hv hrow hrx hbx hf hx hx0
  go_enter Tryz.func24, Tryz.ntmps24
  go_wp2_with (go_at_call 36; refine HC0.out.mono ?_; rintro e w1 ⟨rfl, hb1⟩; have HB1 := Lib.hid hb1; clear hb1)
  go_loopw [5, 6] (fun n k wr => ∃ j : Nat, j ≤ d + 1 ∧ n = .int .i64 j ∧ Below w.heap.size w wr ∧ ((∃ i : Nat, ∃ hi : i < xs.length, ∃ d' : Nat, k = .int .i64 i ∧ j + d' = d ∧ Dist (ndsV xs) root xs[i].el.id d') ∨ (k = .int .i64 (-1) ∧ j = d + 1))) (fun n _ _ => d + 1 - (intOf n).toNat)
  case atStart => exact ⟨0, Nat.zero_le _, rfl, HB1.out, .inl ⟨j0, HJ0.out, d, rfl, Nat.zero_add _, by rw [HX0.out]; exact HX.out⟩⟩
  case round =>
    clear HB1
    obtain ⟨j, hj, rfl, hb, h⟩ := hrel
    have HB := Lib.hid hb
    clear hb
    rcases h with ⟨i, hi, d', rfl, hjd, hy⟩ | ⟨rfl, rfl⟩
    · have cT : wr.cell? ⟨T, 0, none⟩ = some (.slice (some ⟨bx, off, none⟩) xs.length vc) := blk_cell ((HB.out.block T (Nat.lt_of_lt_of_le HR.out.lt HU.out)).trans HV.out) 0 _ rfl
      have c1 : wr.cell? ⟨bx, off + i * 11 + 1, none⟩ = some (.int .i64 xs[i].el.par) := ((bcell HB.out).1 bx _ HBX.out).trans (elem_cells HRX.out hi 1 _ rfl)
      have hil : (i : Int) < (xs.length : Int) := by omega
      have hi0 : decide ((0 : Int) ≤ (i : Int)) = true := by simp
      have hj1 : (j : Int) < 1000 := by omega
      obtain ⟨n, hn⟩ := HS.out _ _ hy
      have hne : n = xs[i].el.nd := by
        rw [fndV_some HF.out.ids hi] at hn
        exact (Option.some.inj hn).symm
      have HYY := Lib.hid hy; have HN := Lib.hid hn; have HNE := Lib.hid hne
      have HPAR : Hid (n.par = xs[i].el.par) := Lib.hid (by rw [hne]; rfl)
      clear hy hn hne
      cases d' with
      | zero =>
        have hp : xs[i].el.par = -1 := by
          have e : xs[i].el.id = root := by have := HYY.out; simpa [Go.Proofs.YthbmnacleneflaaGreatDoor.dt.Dist, Go.Proofs.YthbmnacleneflaaGreatDoor.dt.ups] using this
          obtain ⟨m, hm, hmp⟩ := HF.out.root
          have h1 := HN.out
          rw [e, hm] at h1
          cases h1
          rw [← HPAR.out]
          exact hmp
        rw [hp] at c1
        clear hp HPAR
        go_wp2_with (go_at_call 36; refine (HNO.out wr HB.out).mono ?_; rintro e w2 ⟨rfl, hb2⟩; have HB2 := Lib.hid hb2; clear hb2)
        go_roundw
        case rel => exact ⟨j + 1, by omega, by go_num, HB.out.trans (HB2.out.mono HB.out.size), .inr ⟨rfl, by omega⟩⟩
        case measure => simp [intOf]; omega
      | succ d' =>
        have hdp := dist_par HN.out HYY.out
        rw [HPAR.out] at hdp
        obtain ⟨i2, hi2, he2, hc2⟩ := HY.out _ _ hdp
        have HC2 := Lib.hid (hc2 wr HB.out); have HDP := Lib.hid hdp; have HI2 := Lib.hid hi2; have HE2 := Lib.hid he2
        clear hdp hc2 he2
        clear HPAR
        generalize xs[i].el.par = p at c1 HC2 HDP HE2
        go_wp2_with (go_at_call 36; refine HC2.out.mono ?_; rintro e w2 ⟨rfl, hb2⟩; have HB2 := Lib.hid hb2; clear hb2)
        go_roundw
        case rel => exact ⟨j + 1, by omega, by go_num, HB.out.trans (HB2.out.mono HB.out.size), .inl ⟨i2, HI2.out, d', rfl, by omega, by rw [HE2.out]; exact HDP.out⟩⟩
        case measure => simp [intOf]; omega
    · go_wp2
      go_ret
      exact ⟨by simp, HB.out⟩
end Go.Proofs.YthbmnacleneflaaGreatDoor
/-
  Contracts, for a run of one goroutine, of jalousieref8's Tree.Root and Order. Condition: the row lies in memory; what is below the root ends.
-/
set_option linter.unusedSimpArgs false
set_option linter.unusedVariables false
namespace Go.Proofs.YthbmnacleneflaaGreatDoor
open Go Go.RowKit
open Go.Proofs.YthbmnacleneflaaGreatDoor.dt (Nd fnd pre Deep ups Fits Dist fnd_some fnd_mem fnd_neg dist_root dist_kid dist_par dist_inj dist_lt deep_of pre_len pre_nodup pre_mem all_dist dist_of_pre oneTree elOk kidOk rootsN kidsN rootOf fits_of root_of_mem cloL Whole)

theorem root_first {xs : List Ev} {k : Nat} (hk : k < xs.length) (hn : ∀ j, ∀ h : j < xs.length, j < k → xs[j].el.par ≠ -1) (hp : xs[k].el.par = -1) : rootOf (ndsV xs) = xs[k].el.id := by
  have h : (ndsV xs).find? (fun n => n.par == -1) = some xs[k].el.nd := by
    rw [List.find?_eq_some_iff_getElem]
    refine ⟨by simp [El.nd, hp], k, by simpa [ndsV] using hk, by simp [ndsV], fun j hj => ?_⟩
    have := hn j (by omega) hj
    simp [ndsV, El.nd, this]
  unfold Go.Proofs.YthbmnacleneflaaGreatDoor.dt.rootOf
  rw [h]
  rfl
theorem root_not {xs : List Ev} (hn : ∀ y ∈ xs, y.el.par ≠ -1) : rootOf (ndsV xs) = 0 := by
  have h : (ndsV xs).find? (fun n => n.par == -1) = none := by
    rw [List.find?_eq_none]
    intro n hm
    obtain ⟨y, hy, rfl⟩ := List.mem_map.1 hm
    have := hn y hy
    simp [El.nd, this]
  unfold Go.Proofs.YthbmnacleneflaaGreatDoor.dt.rootOf
  rw [h]
  rfl
set_option maxRecDepth 100000 in
set_option maxHeartbeats 4000000 in
/-- jalousieref8's Tree.Root. -/
theorem rroot_any (w : World) (U T : Nat) (xs : List Ev) (next : Int) (hR : RowT w U T xs next) (hU : U ≤ w.heap.size) :
    Calls Tryz.prog 52 #[.pointer (some ⟨T, 0, none⟩)] w fun e w' => e = .returned (.int .i64 (rootOf (ndsV xs))) ∧ Below w.heap.size w w' := by
  obtain ⟨v, hv, hrow⟩ := hR.t
  obtain ⟨va, vc, rfl⟩ := RowAt.slice hrow
  have HR := Lib.hid hR; have HU := Lib.hid hU; have HROW := Lib.hid hrow
  have cT : w.cell? ⟨T, 0, none⟩ = some (.slice va xs.length vc) := blk_cell hv 0 _ rfl
  have hll : (xs.length : Int) ≤ 256 := by have := hR.len; omega
  have HRF : Hid (∀ k, ∀ hk : k < xs.length, (∀ j, ∀ h : j < xs.length, j < k → xs[j].el.par ≠ -1) → xs[k].el.par = -1 → rootOf (ndsV xs) = xs[k].el.id) := Lib.hid fun k hk hn hp => root_first hk hn hp
  have HRN : Hid ((∀ y ∈ xs, y.el.par ≠ -1) → rootOf (ndsV xs) = 0) := Lib.hid root_not
  generalize rootOf (ndsV xs) = RO at HRF HRN ⊢
  clear hR hU hv hrow
  go_enter Tryz.func52, Tryz.ntmps52
  go_wp2
  go_loopw [10] (fun i wr => ∃ k : Nat, k ≤ xs.length ∧ i = .int .i64 k ∧ (∀ j, ∀ h : j < xs.length, j < k → xs[j].el.par ≠ -1) ∧ Below w.heap.size w wr) (fun i _ => xs.length - (intOf i).toNat)
  case atStart => exact ⟨0, Nat.zero_le _, rfl, fun j h h2 => by omega, Below.refl _ _⟩
  case round =>
    obtain ⟨k, hk, rfl, hno, hb⟩ := hrel
    have HNO := Lib.hid hno; have HB := Lib.hid hb; have HK := Lib.hid hk
    clear hno hb
    by_cases hlt : k < xs.length
    · obtain ⟨bx, off, rfl, hbx, hrx⟩ := RowAt.place HROW.out (by omega)
      obtain ⟨y, hy⟩ : ∃ y, xs[k] = y := ⟨_, rfl⟩
      have HXY := Lib.hid hy
      have hym : y ∈ xs := by rw [← hy]; exact List.getElem_mem hlt
      have HEL : Hid (∀ j u, y.cells.toList[j]? = some u → wr.cell? ⟨bx, off + k * 11 + j, none⟩ = some u) := Lib.hid (by
        intro j u hu
        rw [(bcell HB.out).1 bx _ (Nat.lt_of_lt_of_le hbx HU.out)]
        have := elem_cells hrx hlt
        rw [hy] at this
        exact this j u hu)
      have HONE : Hid (y.kv.oneCell' = true ∧ y.av.oneCell' = true) := Lib.hid ⟨at_one (HR.out.kids y hym), HR.out.one y hym⟩
      have HRF2 : Hid (y.el.par = -1 → y.el.id = RO) := Lib.hid fun hp => by rw [← hy] at hp ⊢; exact (HRF.out k hlt HNO.out hp).symm
      clear hy hym hrx hbx
      by_cases hid : y.el.par = -1
      · have hq : (y.el.par == -1) = true := by simpa using hid
        have HID := Lib.hid hid
        clear hid
        go_wp2_with (first
          | (refine wpList_load_range rfl 47 _ rfl bx (off + k * 11) rfl y.cells _ HEL.out Tryz.underlying47 rfl size47 ?_)
          | (refine wpl_alloc rfl 47 rfl _ (zero47 _) ?_; intro w3 hs3 hc3 hb3; have HS3 := Lib.hid hs3; have HC3 := Lib.hid hc3; have HB3 := Lib.hid hb3; clear hs3 hc3 hb3)
          | (refine wpl_store_el rfl _ _ rfl wr.heap.size y rfl rfl _ HC3.out rfl HONE.out ?_; intro w4 hs4 hc4 hf4; have HC4 := Lib.hid hc4; have HB4 := Lib.hid (HB3.out.trans (hf4.below (by have := HS3.out; omega) (Nat.le_refl _))); have c0 : w4.cell? ⟨wr.heap.size, 0, none⟩ = some (.int .i64 y.el.id) := blk_cell hc4 0 _ rfl; have c1 : w4.cell? ⟨wr.heap.size, 1, none⟩ = some (.int .i64 y.el.par) := blk_cell hc4 1 _ rfl; clear hs4 hc4 hf4))
        go_ret
        exact ⟨ret_int (HRF2.out HID.out), HB.out.trans (HB4.out.mono HB.out.size)⟩
      · have hq : (y.el.par == -1) = false := by simpa using hid
        have HID := Lib.hid hid
        clear hid
        go_wp2_with (first
          | (refine wpList_load_range rfl 47 _ rfl bx (off + k * 11) rfl y.cells _ HEL.out Tryz.underlying47 rfl size47 ?_)
          | (refine wpl_alloc rfl 47 rfl _ (zero47 _) ?_; intro w3 hs3 hc3 hb3; have HS3 := Lib.hid hs3; have HC3 := Lib.hid hc3; have HB3 := Lib.hid hb3; clear hs3 hc3 hb3)
          | (refine wpl_store_el rfl _ _ rfl wr.heap.size y rfl rfl _ HC3.out rfl HONE.out ?_; intro w4 hs4 hc4 hf4; have HC4 := Lib.hid hc4; have HB4 := Lib.hid (HB3.out.trans (hf4.below (by have := HS3.out; omega) (Nat.le_refl _))); have c1 : w4.cell? ⟨wr.heap.size, 1, none⟩ = some (.int .i64 y.el.par) := blk_cell hc4 1 _ rfl; clear hs4 hc4 hf4))
        go_roundw
        case rel =>
          refine ⟨k + 1, by omega, by go_num, fun j h h2 => ?_, HB.out.trans (HB4.out.mono HB.out.size)⟩
          by_cases hj : j = k
          · subst hj; rw [HXY.out]; exact HID.out
          · exact HNO.out j h (by omega)
        case measure => simp [intOf]; omega
    · go_wp2
      go_ret
      exact ⟨ret_int (HRN.out fun y hy => by
        obtain ⟨j, hj, rfl⟩ := List.mem_iff_getElem.1 hy
        exact HNO.out j hj (by have := HK.out; omega)).symm, HB.out⟩
set_option maxRecDepth 100000 in
/-- jalousieref8's Tree.Order. -/
theorem rorder_any (w : World) (U T : Nat) (xs : List Ev) (next : Int) (hR : RowT w U T xs next) (hU : U ≤ w.heap.size) (hd : ((ndsV xs).map Nd.id).Nodup) (f : Nat) (hdeep : fnd (ndsV xs) (rootOf (ndsV xs)) = none ∨ Deep (ndsV xs) f (rootOf (ndsV xs))) (hl : (pre (ndsV xs) f (rootOf (ndsV xs))).length ≤ 256) :
    Calls Tryz.prog 31 #[.pointer (some ⟨T, 0, none⟩)] w fun e w' => ∃ v, e = .returned v ∧ IntsFrom w.heap.size w'.heap.size w' v (pre (ndsV xs) f (rootOf (ndsV xs))) ∧ Below w.heap.size w w' := by
  have HRT := Lib.hid (rroot_any w U T xs next hR hU)
  have HBL : Hid (∀ wr, Below w.heap.size w wr → Calls Tryz.prog 14 #[.pointer (some ⟨T, 0, none⟩), .int .i64 (rootOf (ndsV xs))] wr fun e w' => ∃ v, e = .returned v ∧ IntsFrom wr.heap.size w'.heap.size w' v (pre (ndsV xs) f (rootOf (ndsV xs))) ∧ Below wr.heap.size wr w') :=
    Lib.hid fun wr hb => rbelow_any U T xs next hd f _ wr (hR.keep (hb.mono hU)) (Nat.le_trans hU hb.size) hdeep hl
  clear hR hU hd hdeep hl
  generalize pre (ndsV xs) f (rootOf (ndsV xs)) = PR at HBL ⊢
  generalize rootOf (ndsV xs) = RO at HRT HBL
  go_enter Tryz.func31, Tryz.ntmps31
  go_wp2_with (first
    | (go_at_call 52; refine HRT.out.mono ?_; rintro e w1 ⟨rfl, hb1⟩; have HB1 := Lib.hid hb1; clear hb1)
    | (go_at_call 14; refine (HBL.out w1 HB1.out).mono ?_; rintro e w2 ⟨v, rfl, hi, hb2⟩; have HI := Lib.hid hi; have HB2 := Lib.hid hb2; clear hi hb2))
  go_ret
  exact ⟨v, rfl, RowFrom.mono HI.out HB1.out.size (Nat.le_refl _), HB1.out.trans (HB2.out.mono HB1.out.size)⟩
end Go.Proofs.YthbmnacleneflaaGreatDoor
/-
  Contract, for a run of one goroutine, of jalousieref8's Tree.whole: are the elements one tree. Condition: the row lies in memory; the numbers differ and are not below nought.
-/
set_option linter.unusedSimpArgs false
set_option linter.unusedVariables false
namespace Go.Proofs.YthbmnacleneflaaGreatDoor
open Go Go.RowKit
open Go.Proofs.YthbmnacleneflaaGreatDoor.dt (Nd fnd pre Deep ups Fits Dist fnd_some fnd_mem fnd_neg dist_root dist_kid dist_par dist_inj dist_lt deep_of pre_len pre_nodup pre_mem all_dist dist_of_pre oneTree elOk kidOk rootsN kidsN rootOf fits_of root_of_mem cloL Whole)

theorem ndsV_take {xs : List Ev} {k : Nat} (h : k < xs.length) : (ndsV xs).take (k + 1) = (ndsV xs).take k ++ [xs[k].el.nd] := by
  have h' : k < (ndsV xs).length := by rw [ndsV_len]; exact h
  rw [take_snoc h']
  simp [ndsV]
set_option maxRecDepth 100000 in
set_option maxHeartbeats 16000000 in
/-- jalousieref8's Tree.whole. -/
theorem rwhole_any (w : World) (U T : Nat) (xs : List Ev) (next : Int) (hR : RowT w U T xs next) (hU : U ≤ w.heap.size) (hnd : ((ndsV xs).map Nd.id).Nodup) (hnn : ∀ n ∈ ndsV xs, 0 ≤ n.id) :
    Calls Tryz.prog 23 #[.pointer (some ⟨T, 0, none⟩)] w fun e w' => e = .returned (.bool (oneTree (ndsV xs))) ∧ Below w.heap.size w w' := by
  have HYES : Hid (∀ j, ∀ hj : j < xs.length, ∀ wr, Below w.heap.size w wr → Calls Tryz.prog 36 #[.pointer (some ⟨T, 0, none⟩), .int .i64 xs[j].el.id] wr fun e w' => e = .returned (.int .i64 j) ∧ Below wr.heap.size wr w') :=
    Lib.hid fun j hj wr hb => at_yes wr U T xs next (hR.keep (hb.mono hU)) (Nat.le_trans hU hb.size) hnd j hj
  have HNOT : Hid (∀ z, fnd (ndsV xs) z = none → ∀ wr, Below w.heap.size w wr → Calls Tryz.prog 36 #[.pointer (some ⟨T, 0, none⟩), .int .i64 z] wr fun e w' => e = .returned (.int .i64 (-1)) ∧ Below wr.heap.size wr w') :=
    Lib.hid fun z hz wr hb => at_no wr U T xs next (hR.keep (hb.mono hU)) (Nat.le_trans hU hb.size) hnd z hz
  obtain ⟨v, hv, hrow⟩ := hR.t
  obtain ⟨va, vc, rfl⟩ := RowAt.slice hrow
  have HR := Lib.hid hR; have HU := Lib.hid hU; have HROW := Lib.hid hrow; have HND := Lib.hid hnd; have HNN := Lib.hid hnn; have HV0 := Lib.hid hv
  have cT : w.cell? ⟨T, 0, none⟩ = some (.slice va xs.length vc) := blk_cell hv 0 _ rfl
  have hll : (xs.length : Int) ≤ 256 := by have := hR.len; omega
  clear hR hU hv hrow hnd hnn
  go_enter Tryz.func23, Tryz.ntmps23
  go_wp2
  go_loopw [3, 4, 17] (fun a b i wr => ∃ k : Nat, k ≤ xs.length ∧ i = .int .i64 k ∧ a = .int .i64 ((rootsN ((ndsV xs).take k) : Nat) : Int) ∧ b = .int .i64 ((kidsN ((ndsV xs).take k) : Nat) : Int) ∧ (∀ n ∈ (ndsV xs).take k, elOk (ndsV xs) n = true) ∧ Below w.heap.size w wr) (fun _ _ i _ => xs.length - (intOf i).toNat)
  case atStart => exact ⟨0, Nat.zero_le _, rfl, rfl, rfl, (fun n h => by cases h), Below.refl _ _⟩
  case round =>
    obtain ⟨k, hk, rfl, rfl, rfl, hok, hb⟩ := hrel
    have HOK := Lib.hid hok; have HB := Lib.hid hb; have HK := Lib.hid hk
    have hr1 : ((rootsN ((ndsV xs).take k) : Nat) : Int) ≤ 256 := by have h1 : rootsN ((ndsV xs).take k) ≤ ((ndsV xs).take k).length := List.countP_le_length; rw [List.length_take, ndsV_len] at h1; omega
    have hk1 : kidsN ((ndsV xs).take k) ≤ 65536 := by
      have h1 := kidsN_le (c := 256) ((ndsV xs).take k) hok (by rw [ndsV_len]; omega)
      have : ((ndsV xs).take k).length * 256 ≤ 256 * 256 := Nat.mul_le_mul_right 256 (by rw [List.length_take, ndsV_len]; omega)
      omega
    clear hok hb
    obtain ⟨rv, hrv⟩ : ∃ rv : Nat, rv = rootsN ((ndsV xs).take k) := ⟨_, rfl⟩
    obtain ⟨kv, hkv⟩ : ∃ kv : Nat, kv = kidsN ((ndsV xs).take k) := ⟨_, rfl⟩
    rw [← hrv] at hr1 ⊢
    rw [← hkv] at hk1 ⊢
    have HRV := Lib.hid hrv; have HKVV := Lib.hid hkv; have HKVB := Lib.hid hk1
    clear hrv hkv hk1
    by_cases hlt : k < xs.length
    · obtain ⟨bx, off, rfl, hbx, hrx⟩ := RowAt.place HROW.out (by omega)
      have HV : Hid (w.heap[T]? = some (.cells #[.slice (some ⟨bx, off, none⟩) xs.length vc, .int .i64 next] 40 (0, 0))) := HV0
      have HRX := Lib.hid hrx; have HBX0 := Lib.hid hbx
      have HTAKE0 := Lib.hid (ndsV_take hlt)
      obtain ⟨y, hy⟩ : ∃ y, xs[k] = y := ⟨_, rfl⟩
      have HTAKE : Hid ((ndsV xs).take (k + 1) = (ndsV xs).take k ++ [y.el.nd]) := Lib.hid (by rw [← hy]; exact HTAKE0.out)
      have hym : y ∈ xs := by rw [← hy]; exact List.getElem_mem hlt
      have HEL : Hid (∀ j u, y.cells.toList[j]? = some u → wr.cell? ⟨bx, off + k * 11 + j, none⟩ = some u) := Lib.hid (by
        intro j u hu
        rw [(bcell HB.out).1 bx _ (Nat.lt_of_lt_of_le hbx HU.out)]
        have := elem_cells hrx hlt
        rw [hy] at this
        exact this j u hu)
      have HONE : Hid (y.kv.oneCell' = true ∧ y.av.oneCell' = true) := Lib.hid ⟨at_one (HR.out.kids y hym), HR.out.one y hym⟩
      have HEM : Hid (y.el.nd ∈ ndsV xs) := Lib.hid (List.mem_map_of_mem (f := fun x : Ev => x.el.nd) hym)
      have HEOK : Hid y.el.ok := Lib.hid (HR.out.ok y hym)
      have hka := HR.out.kids y hym
      obtain ⟨ka, kc, hkv'⟩ := RowAt.slice hka
      rw [hkv'] at hka
      have HKV := Lib.hid hkv'; have HKA := Lib.hid hka
      have HKL : Hid (y.el.kids.length ≤ kc) := Lib.hid (by obtain ⟨a, cap, e, h1, _⟩ := hka; cases e; exact h1)
      have HLT := Lib.hid hlt
      clear hy hym hrx hbx hka hkv' cT HTAKE0
      by_cases hpr : y.el.par = -1
      · have hq : (y.el.par == -1) = true := by simpa using hpr
        have HPO : Hid ((y.el.nd.par == -1 || (fnd (ndsV xs) y.el.nd.par).isSome) = true) := Lib.hid (by rw [show y.el.nd.par = y.el.par from rfl, hq]; rfl)
        have HRT : Hid ((if y.el.nd.par == -1 then 1 else 0) = 1) := Lib.hid (by rw [show (y.el.nd.par == -1) = true from hq]; rfl)
        clear hpr
        go_wp2_with (first
          | (refine wpList_load_range rfl 47 _ rfl bx (off + k * 11) rfl y.cells _ HEL.out Tryz.underlying47 rfl size47 ?_)
          | (refine wpl_alloc rfl 47 rfl _ (zero47 _) ?_; intro w3 hs3 hc3 hb3; have HS3 := Lib.hid hs3; have HC3 := Lib.hid hc3; have HB3 := Lib.hid hb3; clear hs3 hc3 hb3)
          | (refine wpl_store_el rfl _ _ rfl wr.heap.size y rfl rfl _ HC3.out rfl HONE.out ?_; intro w4 hs4 hc4 hf4; have HC4 := Lib.hid hc4; have HS4 : Hid (wr.heap.size < w4.heap.size) := Lib.hid (by have := hf4.2.2.2.1; have := HS3.out; omega); have HB4 := Lib.hid (HB3.out.trans (hf4.below (by have := HS3.out; omega) (Nat.le_refl _))); have c1 : w4.cell? ⟨wr.heap.size, 1, none⟩ = some (.int .i64 y.el.par) := blk_cell hc4 1 _ rfl; have c3 : w4.cell? ⟨wr.heap.size, 3, none⟩ = some (.slice ka y.el.kids.length kc) := (by rw [← HKV.out]; exact blk_cell hc4 3 _ rfl); clear hs4 hc4 hf4))
        have HX := HB4; have HCX := HC4; have HPX := HS4
        clear c1 c3 HC3 HB3 HS3
        generalize w4 = wX at HX HCX HPX ⊢
        obtain ⟨wo, hwo⟩ : ∃ wo, wo = wr := ⟨_, rfl⟩
        subst hwo
        go_loopw [4, 34] (fun b i wr => ∃ q : Nat, q ≤ y.el.kids.length ∧ i = .int .i64 q ∧ b = .int .i64 ((kv + q : Nat) : Int) ∧ Below wX.heap.size wX wr ∧ KOk (ndsV xs) y.el.id (y.el.kids.take q)) (fun _ i _ => y.el.kids.length - (intOf i).toNat)
        case atStart => exact ⟨0, Nat.zero_le _, rfl, rfl, Below.refl _ _, ⟨List.nodup_nil, fun k hk => by cases hk⟩⟩
        case round =>
          obtain ⟨q, hq, rfl, rfl, hbq, hko⟩ := hrel
          have HBQ := Lib.hid hbq; have HKO := Lib.hid hko; have HQ := Lib.hid hq
          clear hbq hko
          have HWQ : Hid (Below w.heap.size w wr) := Lib.hid ((HB.out.trans (HX.out.mono HB.out.size)).trans (HBQ.out.mono (Nat.le_trans HB.out.size HX.out.size)))
          by_cases hlt2 : q < y.el.kids.length
          · obtain ⟨kb, koff, rfl, hkb, hkr⟩ := RowAt.place HKA.out (by omega)
            have HKR : Hid (∀ wz, Below w.heap.size w wz → ∀ m, ∀ hm : m < y.el.kids.length, wz.cell? ⟨kb, koff + m, none⟩ = some (.int .i64 y.el.kids[m])) := Lib.hid fun wz hz m hm => ((bcell hz).1 kb (koff + m) (Nat.lt_of_lt_of_le hkb HU.out)).trans (hkr m _ (intCells_get hm))
            have HCELL : Hid (∀ wz, Below w.heap.size w wz → wz.heap[wo.heap.size]? = some (.cells y.cells 47 (0, 0)) → wz.cell? ⟨T, 0, none⟩ = some (.slice (some ⟨bx, off, none⟩) xs.length vc) ∧ wz.cell? ⟨wo.heap.size, 0, none⟩ = some (.int .i64 y.el.id) ∧ wz.cell? ⟨wo.heap.size, 3, none⟩ = some (.slice (some ⟨kb, koff, none⟩) y.el.kids.length kc)) := Lib.hid fun wz hz hc => ⟨blk_cell ((hz.block T (Nat.lt_of_lt_of_le HR.out.lt HU.out)).trans HV.out) 0 _ rfl, blk_cell hc 0 _ rfl, by rw [← HKV.out]; exact blk_cell hc 3 _ rfl⟩
            have hkc : wr.cell? ⟨kb, koff + q, none⟩ = some (.int .i64 y.el.kids[q]) := HKR.out wr HWQ.out q hlt2
            have htk2 : y.el.kids.take (q + 1) = y.el.kids.take q ++ [y.el.kids[q]] := take_snoc hlt2
            have hdup : y.el.kids[q] ∈ y.el.kids.take q → ¬ y.el.kids.Nodup := dup_take hlt2
            have hkm : y.el.kids[q] ∈ y.el.kids := List.getElem_mem hlt2
            have hqc : (q : Int) ≤ (kc : Int) := by have := HKL.out; omega
            have hkl : (y.el.kids.length : Int) < 9223372036854775807 := by have := (HEOK.out).kn; omega
            generalize y.el.kids[q] = z at hkc htk2 hdup hkm
            have HTK2 := Lib.hid htk2; have HDUP := Lib.hid hdup; have HKM := Lib.hid hkm; have HLT2 := Lib.hid hlt2
            have HPQ : Hid (wr.heap[wo.heap.size]? = some (.cells y.cells 47 (0, 0))) := Lib.hid ((HBQ.out.block _ HPX.out).trans HCX.out)
            have HPS : Hid (wo.heap.size < wr.heap.size) := Lib.hid (Nat.lt_of_lt_of_le HPX.out HBQ.out.size)
            obtain ⟨cT, c0, c3q⟩ := HCELL.out wr HWQ.out HPQ.out
            clear htk2 hdup hkm hkr hkb
            cases hfz : fnd (ndsV xs) z with
            | none =>
              have HNO : Hid (elOk (ndsV xs) y.el.nd = false) := Lib.hid (elOk_kid (n := y.el.nd) HKM.out (by unfold kidOk; rw [hfz]))
              have HC := Lib.hid (HNOT.out z hfz wr HWQ.out)
              clear hfz
              go_wp2_with (go_at_call 36; refine HC.out.mono ?_; rintro e w6 ⟨rfl, hb6⟩; have HB6 := Lib.hid hb6; clear hb6)
              go_quiet (fail)
              go_wp2
              go_ret
              exact ⟨ret_bool (oneTree_no HEM.out HNO.out).symm, HWQ.out.trans ((below_drewN HB6.out _).mono HWQ.out.size)⟩
            | some m =>
              obtain ⟨j2, hj2, hid2, rfl⟩ := row_of_fnd hfz
              have HC := Lib.hid (HYES.out j2 hj2 wr HWQ.out)
              rw [hid2] at HC
              have hj0 : decide ((j2 : Int) < 0) = false := by simp
              have hjl : (j2 : Int) < (xs.length : Int) := by omega
              have HP2 : Hid (∀ wz, Below w.heap.size w wz → wz.cell? ⟨bx, off + j2 * 11 + 1, none⟩ = some (.int .i64 xs[j2].el.par)) := Lib.hid fun wz hz => ((bcell hz).1 bx _ (Nat.lt_of_lt_of_le HBX0.out HU.out)).trans (elem_cells HRX.out hj2 1 _ rfl)
              by_cases hp2 : xs[j2].el.par = y.el.id
              · have hq1 : (xs[j2].el.par != y.el.id) = false := by simpa using hp2
                have HKOK : Hid (kidOk (ndsV xs) y.el.id z = true) := Lib.hid (by unfold kidOk; rw [hfz]; simpa [El.nd] using hp2)
                clear hfz hp2
                go_wp2_with (go_at_call 36; refine HC.out.mono ?_; rintro e w6 ⟨rfl, hb6⟩; have HB6 := Lib.hid hb6; have HW6 := Lib.hid (HWQ.out.trans (hb6.mono HWQ.out.size)); have HP6 : Hid (w6.heap[wo.heap.size]? = some (.cells y.cells 47 (0, 0))) := Lib.hid ((hb6.block _ HPS.out).trans HPQ.out); have cp := HP2.out w6 HW6.out; have cc := HCELL.out w6 HW6.out HP6.out; obtain ⟨cT6, c06, c36⟩ := cc; clear hb6)
                go_quiet (fail)
                clear cp cT6 c06 c36 cT c0 c3q
                have HB7 := Lib.hid (below_drewN HB6.out nq)
                have HP7 : Hid ((w6.drewN nq).heap[wo.heap.size]? = some (.cells y.cells 47 (0, 0))) := HP6
                clear HB6 HP6 HW6
                generalize w6.drewN nq = w7 at HB7 HP7 ⊢
                have HW7 := Lib.hid (HWQ.out.trans (HB7.out.mono HWQ.out.size))
                obtain ⟨cT7, c07, c37⟩ := HCELL.out w7 HW7.out HP7.out
                go_wp2
                go_loop [62] (fun i => ∃ m : Nat, m ≤ q ∧ i = .int .i64 m ∧ z ∉ y.el.kids.take m) (fun i => q - (intOf i).toNat)
                case atStart => exact ⟨0, Nat.zero_le _, rfl, by simp⟩
                case round =>
                  obtain ⟨m, hm, rfl, hnm⟩ := hrel
                  have HNM := Lib.hid hnm; have HM := Lib.hid hm
                  clear hnm
                  by_cases hmq : m < q
                  · have hml : m < y.el.kids.length := by have := HLT2.out; omega
                    have hkm2 : w7.cell? ⟨kb, koff + m, none⟩ = some (.int .i64 y.el.kids[m]) := HKR.out w7 HW7.out m hml
                    have HIN : Hid (y.el.kids[m] ∈ y.el.kids.take q) := Lib.hid (List.mem_take_iff_getElem.2 ⟨m, by omega, rfl⟩)
                    have HTM : Hid (y.el.kids.take (m + 1) = y.el.kids.take m ++ [y.el.kids[m]]) := Lib.hid (take_snoc hml)
                    generalize y.el.kids[m] = u at hkm2 HIN HTM
                    by_cases hu : u = z
                    · have hq2 : (u == z) = true := by simpa using hu
                      have HNO := Lib.hid (elOk_dup (ns := ndsV xs) (n := y.el.nd) (HDUP.out (hu ▸ HIN.out)))
                      clear hu
                      go_wp2
                      go_ret
                      exact ⟨ret_bool (oneTree_no HEM.out HNO.out).symm, HW7.out⟩
                    · have hq2 : (u == z) = false := by simpa using hu
                      have HUZ := Lib.hid hu
                      clear hu
                      go_wp2
                      exact ⟨⟨m + 1, by omega, by go_num, by rw [HTM.out]; intro h; rcases List.mem_append.1 h with h | h; exact HNM.out h; exact HUZ.out (List.mem_singleton.1 h).symm⟩, by simp [intOf]; omega⟩
                  · have hmq2 : m = q := by have := HM.out; omega
                    subst hmq2
                    clear hmq
                    have hkvq : ((kv + m : Nat) : Int) < 9223372036854775807 := by have := HKO.out.le; have := HR.out.len; rw [List.length_take, ndsV_len] at *; have := HKVB.out; omega
                    go_wp2
                    go_roundw
                    case rel => exact ⟨m + 1, by have := HLT2.out; omega, by go_num, by go_num, HBQ.out.trans (HB7.out.mono HBQ.out.size), by rw [HTK2.out]; exact HKO.out.snoc HKOK.out HNM.out⟩
                    case measure => have := HLT2.out; simp [intOf]; omega
              · have hq1 : (xs[j2].el.par != y.el.id) = true := by simpa using hp2
                have HNO : Hid (elOk (ndsV xs) y.el.nd = false) := Lib.hid (elOk_kid (n := y.el.nd) HKM.out (by unfold kidOk; rw [hfz]; simpa [El.nd] using hp2))
                clear hfz hp2
                go_wp2_with (go_at_call 36; refine HC.out.mono ?_; rintro e w6 ⟨rfl, hb6⟩; have HB6 := Lib.hid hb6; have HW6 := Lib.hid (HWQ.out.trans (hb6.mono HWQ.out.size)); have HP6 : Hid (w6.heap[wo.heap.size]? = some (.cells y.cells 47 (0, 0))) := Lib.hid ((hb6.block _ HPS.out).trans HPQ.out); have cp := HP2.out w6 HW6.out; have cc := HCELL.out w6 HW6.out HP6.out; obtain ⟨cT6, c06, c36⟩ := cc; clear hb6)
                go_quiet (fail)
                go_wp2
                go_ret
                exact ⟨ret_bool (oneTree_no HEM.out HNO.out).symm, HWQ.out.trans ((below_drewN HB6.out _).mono HWQ.out.size)⟩
          · have hqe : q = y.el.kids.length := by have := HQ.out; omega
            have HKO2 : Hid (KOk (ndsV xs) y.el.id y.el.kids) := Lib.hid (by have := HKO.out; rw [hqe, List.take_length] at this; exact this)
            have HELOK : Hid (elOk (ndsV xs) y.el.nd = true) := Lib.hid (elOk_yes (n := y.el.nd) HPO.out HKO2.out)
            clear hqe
            go_wp2_with fail
            go_roundw
            case rel =>
              refine ⟨k + 1, by have := HLT.out; omega, by go_num, ?_, ?_, fun n hn => ?_, HWQ.out⟩
              · rw [HTAKE.out, rootsN_snoc, ← HRV.out, show (if y.el.nd.par == -1 then 1 else 0) = 1 from HRT.out]
                try simp
              · rw [HTAKE.out, kidsN_snoc, ← HKVV.out]
                have : q = y.el.kids.length := by have := HQ.out; omega
                rw [this]
                rfl
              · rw [HTAKE.out] at hn
                rcases List.mem_append.1 hn with hn | hn
                · exact HOK.out n hn
                · obtain rfl : n = y.el.nd := by simpa using hn
                  exact HELOK.out
            case measure => have := HLT.out; simp [intOf]; omega
      · have hq : (y.el.par == -1) = false := by simpa using hpr
        have HRT : Hid ((if y.el.nd.par == -1 then 1 else 0) = 0) := Lib.hid (by rw [show (y.el.nd.par == -1) = false from hq]; rfl)
        clear hpr
        cases hfp : fnd (ndsV xs) y.el.par with
        | none =>
          have HNO : Hid (elOk (ndsV xs) y.el.nd = false) := Lib.hid (elOk_par (n := y.el.nd) (by rw [show y.el.nd.par = y.el.par from rfl, hq, hfp]; rfl))
          have HCN := Lib.hid (HNOT.out _ hfp)
          clear hfp
          go_wp2_with (first
            | (refine wpList_load_range rfl 47 _ rfl bx (off + k * 11) rfl y.cells _ HEL.out Tryz.underlying47 rfl size47 ?_)
            | (refine wpl_alloc rfl 47 rfl _ (zero47 _) ?_; intro w3 hs3 hc3 hb3; have HS3 := Lib.hid hs3; have HC3 := Lib.hid hc3; have HB3 := Lib.hid hb3; clear hs3 hc3 hb3)
            | (refine wpl_store_el rfl _ _ rfl wr.heap.size y rfl rfl _ HC3.out rfl HONE.out ?_; intro w4 hs4 hc4 hf4; have HC4 := Lib.hid hc4; have HS4 : Hid (wr.heap.size < w4.heap.size) := Lib.hid (by have := hf4.2.2.2.1; have := HS3.out; omega); have HB4 := Lib.hid (HB3.out.trans (hf4.below (by have := HS3.out; omega) (Nat.le_refl _))); have c1 : w4.cell? ⟨wr.heap.size, 1, none⟩ = some (.int .i64 y.el.par) := blk_cell hc4 1 _ rfl; clear hs4 hc4 hf4)
            | (go_at_call 36; refine (HCN.out w4 (HB.out.trans (HB4.out.mono HB.out.size))).mono ?_; rintro e w5 ⟨rfl, hb5⟩; have HB5 := Lib.hid hb5; clear hb5))
          go_ret
          exact ⟨ret_bool (oneTree_no HEM.out HNO.out).symm, (HB.out.trans (HB4.out.mono HB.out.size)).trans (HB5.out.mono (Nat.le_trans HB.out.size HB4.out.size))⟩
        | some m =>
          have HPO : Hid ((y.el.nd.par == -1 || (fnd (ndsV xs) y.el.nd.par).isSome) = true) := Lib.hid (by rw [show y.el.nd.par = y.el.par from rfl, hq, hfp]; rfl)
          obtain ⟨jp, hjp, hidp, rfl⟩ := row_of_fnd hfp
          have HCY := Lib.hid (HYES.out jp hjp)
          rw [hidp] at HCY
          clear hfp hidp
          have hjp0 : decide ((jp : Int) < 0) = false := by simp
          go_wp2_with (first
            | (refine wpList_load_range rfl 47 _ rfl bx (off + k * 11) rfl y.cells _ HEL.out Tryz.underlying47 rfl size47 ?_)
            | (refine wpl_alloc rfl 47 rfl _ (zero47 _) ?_; intro w3 hs3 hc3 hb3; have HS3 := Lib.hid hs3; have HC3 := Lib.hid hc3; have HB3 := Lib.hid hb3; clear hs3 hc3 hb3)
            | (refine wpl_store_el rfl _ _ rfl wr.heap.size y rfl rfl _ HC3.out rfl HONE.out ?_; intro w4 hs4 hc4 hf4; have HC4 := Lib.hid hc4; have HS4 : Hid (wr.heap.size < w4.heap.size) := Lib.hid (by have := hf4.2.2.2.1; have := HS3.out; omega); have HB4 := Lib.hid (HB3.out.trans (hf4.below (by have := HS3.out; omega) (Nat.le_refl _))); have c1 : w4.cell? ⟨wr.heap.size, 1, none⟩ = some (.int .i64 y.el.par) := blk_cell hc4 1 _ rfl; clear hs4 hc4 hf4)
            | (go_at_call 36; refine (HCY.out w4 (HB.out.trans (HB4.out.mono HB.out.size))).mono ?_; rintro e w5 ⟨rfl, hb5⟩; have HX := Lib.hid (HB4.out.trans (hb5.mono HB4.out.size)); have HCX : Hid (w5.heap[wr.heap.size]? = some (.cells y.cells 47 (0, 0))) := Lib.hid ((hb5.block _ HS4.out).trans HC4.out); have HPX : Hid (wr.heap.size < w5.heap.size) := Lib.hid (Nat.lt_of_lt_of_le HS4.out hb5.size); have c35 : w5.cell? ⟨wr.heap.size, 3, none⟩ = some (.slice ka y.el.kids.length kc) := (by rw [← HKV.out]; exact blk_cell HCX.out 3 _ rfl); clear hb5))
          clear c1 c35 HC3 HB3 HS3 HB4 HC4 HS4
          generalize w5 = wX at HX HCX HPX ⊢
          obtain ⟨wo, hwo⟩ : ∃ wo, wo = wr := ⟨_, rfl⟩
          subst hwo
          go_loopw [4, 34] (fun b i wr => ∃ q : Nat, q ≤ y.el.kids.length ∧ i = .int .i64 q ∧ b = .int .i64 ((kv + q : Nat) : Int) ∧ Below wX.heap.size wX wr ∧ KOk (ndsV xs) y.el.id (y.el.kids.take q)) (fun _ i _ => y.el.kids.length - (intOf i).toNat)
          case atStart => exact ⟨0, Nat.zero_le _, rfl, rfl, Below.refl _ _, ⟨List.nodup_nil, fun k hk => by cases hk⟩⟩
          case round =>
            obtain ⟨q, hq, rfl, rfl, hbq, hko⟩ := hrel
            have HBQ := Lib.hid hbq; have HKO := Lib.hid hko; have HQ := Lib.hid hq
            clear hbq hko
            have HWQ : Hid (Below w.heap.size w wr) := Lib.hid ((HB.out.trans (HX.out.mono HB.out.size)).trans (HBQ.out.mono (Nat.le_trans HB.out.size HX.out.size)))
            by_cases hlt2 : q < y.el.kids.length
            · obtain ⟨kb, koff, rfl, hkb, hkr⟩ := RowAt.place HKA.out (by omega)
              have HKR : Hid (∀ wz, Below w.heap.size w wz → ∀ m, ∀ hm : m < y.el.kids.length, wz.cell? ⟨kb, koff + m, none⟩ = some (.int .i64 y.el.kids[m])) := Lib.hid fun wz hz m hm => ((bcell hz).1 kb (koff + m) (Nat.lt_of_lt_of_le hkb HU.out)).trans (hkr m _ (intCells_get hm))
              have HCELL : Hid (∀ wz, Below w.heap.size w wz → wz.heap[wo.heap.size]? = some (.cells y.cells 47 (0, 0)) → wz.cell? ⟨T, 0, none⟩ = some (.slice (some ⟨bx, off, none⟩) xs.length vc) ∧ wz.cell? ⟨wo.heap.size, 0, none⟩ = some (.int .i64 y.el.id) ∧ wz.cell? ⟨wo.heap.size, 3, none⟩ = some (.slice (some ⟨kb, koff, none⟩) y.el.kids.length kc)) := Lib.hid fun wz hz hc => ⟨blk_cell ((hz.block T (Nat.lt_of_lt_of_le HR.out.lt HU.out)).trans HV.out) 0 _ rfl, blk_cell hc 0 _ rfl, by rw [← HKV.out]; exact blk_cell hc 3 _ rfl⟩
              have hkc : wr.cell? ⟨kb, koff + q, none⟩ = some (.int .i64 y.el.kids[q]) := HKR.out wr HWQ.out q hlt2
              have htk2 : y.el.kids.take (q + 1) = y.el.kids.take q ++ [y.el.kids[q]] := take_snoc hlt2
              have hdup : y.el.kids[q] ∈ y.el.kids.take q → ¬ y.el.kids.Nodup := dup_take hlt2
              have hkm : y.el.kids[q] ∈ y.el.kids := List.getElem_mem hlt2
              have hqc : (q : Int) ≤ (kc : Int) := by have := HKL.out; omega
              have hkl : (y.el.kids.length : Int) < 9223372036854775807 := by have := (HEOK.out).kn; omega
              generalize y.el.kids[q] = z at hkc htk2 hdup hkm
              have HTK2 := Lib.hid htk2; have HDUP := Lib.hid hdup; have HKM := Lib.hid hkm; have HLT2 := Lib.hid hlt2
              have HPQ : Hid (wr.heap[wo.heap.size]? = some (.cells y.cells 47 (0, 0))) := Lib.hid ((HBQ.out.block _ HPX.out).trans HCX.out)
              have HPS : Hid (wo.heap.size < wr.heap.size) := Lib.hid (Nat.lt_of_lt_of_le HPX.out HBQ.out.size)
              obtain ⟨cT, c0, c3q⟩ := HCELL.out wr HWQ.out HPQ.out
              clear htk2 hdup hkm hkr hkb
              cases hfz : fnd (ndsV xs) z with
              | none =>
                have HNO : Hid (elOk (ndsV xs) y.el.nd = false) := Lib.hid (elOk_kid (n := y.el.nd) HKM.out (by unfold kidOk; rw [hfz]))
                have HC := Lib.hid (HNOT.out z hfz wr HWQ.out)
                clear hfz
                go_wp2_with (go_at_call 36; refine HC.out.mono ?_; rintro e w6 ⟨rfl, hb6⟩; have HB6 := Lib.hid hb6; clear hb6)
                go_quiet (fail)
                go_wp2
                go_ret
                exact ⟨ret_bool (oneTree_no HEM.out HNO.out).symm, HWQ.out.trans ((below_drewN HB6.out _).mono HWQ.out.size)⟩
              | some m =>
                obtain ⟨j2, hj2, hid2, rfl⟩ := row_of_fnd hfz
                have HC := Lib.hid (HYES.out j2 hj2 wr HWQ.out)
                rw [hid2] at HC
                have hj0 : decide ((j2 : Int) < 0) = false := by simp
                have hjl : (j2 : Int) < (xs.length : Int) := by omega
                have HP2 : Hid (∀ wz, Below w.heap.size w wz → wz.cell? ⟨bx, off + j2 * 11 + 1, none⟩ = some (.int .i64 xs[j2].el.par)) := Lib.hid fun wz hz => ((bcell hz).1 bx _ (Nat.lt_of_lt_of_le HBX0.out HU.out)).trans (elem_cells HRX.out hj2 1 _ rfl)
                by_cases hp2 : xs[j2].el.par = y.el.id
                · have hq1 : (xs[j2].el.par != y.el.id) = false := by simpa using hp2
                  have HKOK : Hid (kidOk (ndsV xs) y.el.id z = true) := Lib.hid (by unfold kidOk; rw [hfz]; simpa [El.nd] using hp2)
                  clear hfz hp2
                  go_wp2_with (go_at_call 36; refine HC.out.mono ?_; rintro e w6 ⟨rfl, hb6⟩; have HB6 := Lib.hid hb6; have HW6 := Lib.hid (HWQ.out.trans (hb6.mono HWQ.out.size)); have HP6 : Hid (w6.heap[wo.heap.size]? = some (.cells y.cells 47 (0, 0))) := Lib.hid ((hb6.block _ HPS.out).trans HPQ.out); have cp := HP2.out w6 HW6.out; have cc := HCELL.out w6 HW6.out HP6.out; obtain ⟨cT6, c06, c36⟩ := cc; clear hb6)
                  go_quiet (fail)
                  clear cp cT6 c06 c36 cT c0 c3q
                  have HB7 := Lib.hid (below_drewN HB6.out nq)
                  have HP7 : Hid ((w6.drewN nq).heap[wo.heap.size]? = some (.cells y.cells 47 (0, 0))) := HP6
                  clear HB6 HP6 HW6
                  generalize w6.drewN nq = w7 at HB7 HP7 ⊢
                  have HW7 := Lib.hid (HWQ.out.trans (HB7.out.mono HWQ.out.size))
                  obtain ⟨cT7, c07, c37⟩ := HCELL.out w7 HW7.out HP7.out
                  go_wp2
                  go_loop [62] (fun i => ∃ m : Nat, m ≤ q ∧ i = .int .i64 m ∧ z ∉ y.el.kids.take m) (fun i => q - (intOf i).toNat)
                  case atStart => exact ⟨0, Nat.zero_le _, rfl, by simp⟩
                  case round =>
                    obtain ⟨m, hm, rfl, hnm⟩ := hrel
                    have HNM := Lib.hid hnm; have HM := Lib.hid hm
                    clear hnm
                    by_cases hmq : m < q
                    · have hml : m < y.el.kids.length := by have := HLT2.out; omega
                      have hkm2 : w7.cell? ⟨kb, koff + m, none⟩ = some (.int .i64 y.el.kids[m]) := HKR.out w7 HW7.out m hml
                      have HIN : Hid (y.el.kids[m] ∈ y.el.kids.take q) := Lib.hid (List.mem_take_iff_getElem.2 ⟨m, by omega, rfl⟩)
                      have HTM : Hid (y.el.kids.take (m + 1) = y.el.kids.take m ++ [y.el.kids[m]]) := Lib.hid (take_snoc hml)
                      generalize y.el.kids[m] = u at hkm2 HIN HTM
                      by_cases hu : u = z
                      · have hq2 : (u == z) = true := by simpa using hu
                        have HNO := Lib.hid (elOk_dup (ns := ndsV xs) (n := y.el.nd) (HDUP.out (hu ▸ HIN.out)))
                        clear hu
                        go_wp2
                        go_ret
                        exact ⟨ret_bool (oneTree_no HEM.out HNO.out).symm, HW7.out⟩
                      · have hq2 : (u == z) = false := by simpa using hu
                        have HUZ := Lib.hid hu
                        clear hu
                        go_wp2
                        exact ⟨⟨m + 1, by omega, by go_num, by rw [HTM.out]; intro h; rcases List.mem_append.1 h with h | h; exact HNM.out h; exact HUZ.out (List.mem_singleton.1 h).symm⟩, by simp [intOf]; omega⟩
                    · have hmq2 : m = q := by have := HM.out; omega
                      subst hmq2
                      clear hmq
                      have hkvq : ((kv + m : Nat) : Int) < 9223372036854775807 := by have := HKO.out.le; have := HR.out.len; rw [List.length_take, ndsV_len] at *; have := HKVB.out; omega
                      go_wp2
                      go_roundw
                      case rel => exact ⟨m + 1, by have := HLT2.out; omega, by go_num, by go_num, HBQ.out.trans (HB7.out.mono HBQ.out.size), by rw [HTK2.out]; exact HKO.out.snoc HKOK.out HNM.out⟩
                      case measure => have := HLT2.out; simp [intOf]; omega
                · have hq1 : (xs[j2].el.par != y.el.id) = true := by simpa using hp2
                  have HNO : Hid (elOk (ndsV xs) y.el.nd = false) := Lib.hid (elOk_kid (n := y.el.nd) HKM.out (by unfold kidOk; rw [hfz]; simpa [El.nd] using hp2))
                  clear hfz hp2
                  go_wp2_with (go_at_call 36; refine HC.out.mono ?_; rintro e w6 ⟨rfl, hb6⟩; have HB6 := Lib.hid hb6; have HW6 := Lib.hid (HWQ.out.trans (hb6.mono HWQ.out.size)); have HP6 : Hid (w6.heap[wo.heap.size]? = some (.cells y.cells 47 (0, 0))) := Lib.hid ((hb6.block _ HPS.out).trans HPQ.out); have cp := HP2.out w6 HW6.out; have cc := HCELL.out w6 HW6.out HP6.out; obtain ⟨cT6, c06, c36⟩ := cc; clear hb6)
                  go_quiet (fail)
                  go_wp2
                  go_ret
                  exact ⟨ret_bool (oneTree_no HEM.out HNO.out).symm, HWQ.out.trans ((below_drewN HB6.out _).mono HWQ.out.size)⟩
            · have hqe : q = y.el.kids.length := by have := HQ.out; omega
              have HKO2 : Hid (KOk (ndsV xs) y.el.id y.el.kids) := Lib.hid (by have := HKO.out; rw [hqe, List.take_length] at this; exact this)
              have HELOK : Hid (elOk (ndsV xs) y.el.nd = true) := Lib.hid (elOk_yes (n := y.el.nd) HPO.out HKO2.out)
              clear hqe
              go_wp2_with fail
              go_roundw
              case rel =>
                refine ⟨k + 1, by have := HLT.out; omega, by go_num, ?_, ?_, fun n hn => ?_, HWQ.out⟩
                · rw [HTAKE.out, rootsN_snoc, ← HRV.out, show (if y.el.nd.par == -1 then 1 else 0) = 0 from HRT.out]
                  try simp
                · rw [HTAKE.out, kidsN_snoc, ← HKVV.out]
                  have : q = y.el.kids.length := by have := HQ.out; omega
                  rw [this]
                  rfl
                · rw [HTAKE.out] at hn
                  rcases List.mem_append.1 hn with hn | hn
                  · exact HOK.out n hn
                  · obtain rfl : n = y.el.nd := by simpa using hn
                    exact HELOK.out
              case measure => have := HLT.out; simp [intOf]; omega
    · have HNL := Lib.hid hlt
      have hke : k = xs.length := by have := HK.out; omega
      have htl : (ndsV xs).take k = ndsV xs := by rw [hke, ← ndsV_len xs, List.take_length]
      have HALL : Hid (∀ n ∈ ndsV xs, elOk (ndsV xs) n = true) := Lib.hid (by have := HOK.out; rw [htl] at this; exact this)
      have HRV2 : Hid (rv = rootsN (ndsV xs)) := Lib.hid (by have := HRV.out; rw [htl] at this; exact this)
      have HKV2 : Hid (kv = kidsN (ndsV xs)) := Lib.hid (by have := HKVV.out; rw [htl] at this; exact this)
      have HL2 : Hid (xs.length ≤ 256) := Lib.hid HR.out.len
      have cTd : wr.drew.cell? ⟨T, 0, none⟩ = some (.slice va xs.length vc) := ((bcell HB.out).1 T 0 (Nat.lt_of_lt_of_le HR.out.lt HU.out)).trans cT
      have HTL : Hid (T < wr.drew.heap.size) := Lib.hid (Nat.lt_of_lt_of_le (Nat.lt_of_lt_of_le HR.out.lt HU.out) HB.out.size)
      have HBD : Hid (Below w.heap.size w wr.drew) := Lib.hid (below_drewN HB.out 1)
      clear hke htl
      go_wp2
      by_cases hr : rv = 1
      · have HP1 : Hid (1 ≤ xs.length) := Lib.hid (by
          have h1 : rootsN (ndsV xs) ≤ (ndsV xs).length := List.countP_le_length
          rw [ndsV_len, ← HRV2.out] at h1
          omega)
        by_cases hk : kv = xs.length - 1
        · have HFI : Hid (Fits (ndsV xs) (rootOf (ndsV xs))) := Lib.hid (fits_of HND.out HNN.out HALL.out (by rw [← HRV2.out]; exact hr))
          have HEQ : Hid (oneTree (ndsV xs) = decide ((pre (ndsV xs) xs.length (rootOf (ndsV xs))).length = xs.length)) := Lib.hid (by
            rw [oneTree_eq HALL.out, ← HRV2.out, ← HKV2.out, ndsV_len, show (rv == 1) = true by simpa using hr, show (kv == xs.length - 1) = true by simpa using hk]
            simp only [Bool.true_and]
            rw [Bool.eq_iff_iff]
            simp)
          have HORD := Lib.hid (rorder_any wr.drew U T xs next (HR.out.keep (HBD.out.mono HU.out)) (Nat.le_trans HU.out HBD.out.size) HND.out xs.length (.inr (deep_of HFI.out xs.length _ 0 dist_root (by rw [ndsV_len]; omega))) (by have := pre_len HFI.out xs.length dist_root; rw [ndsV_len] at this; have := HL2.out; omega))
          have HRR := Lib.hid hr; have HKK := Lib.hid hk
          clear hr hk
          obtain ⟨pl, hpl⟩ : ∃ pl, (pre (ndsV xs) xs.length (rootOf (ndsV xs))).length = pl := ⟨_, rfl⟩
          have HPL := Lib.hid hpl
          clear hpl
          by_cases hb : pl = xs.length
          · have HBB := Lib.hid hb
            clear hb
            refine wp_region_held_drew (S := (fun s => s.cell? ⟨T, 0, none⟩ = some (.slice va xs.length vc))) (by kernel_rfl) cTd (fun hHeld => ?_)
            refine wpAnyH_take (i := 0) (v := .int .i64 rv) rfl (by kernel_rfl) (by kernel_rfl) (by kernel_rfl) (fun _ _ _ h => h) (Or.inl ⟨by kernel_rfl, fun s hs => by have c := hs; clear hs; go_simp⟩) hHeld ?_
            refine wpAnyH_take (i := 1) (v := .bool true) rfl (by kernel_rfl) (by kernel_rfl) (by kernel_rfl) (fun _ _ _ h => h) (Or.inl ⟨by kernel_rfl, fun s hs => by have c := hs; clear hs; go_simp; have := HRR.out; omega⟩) hHeld ?_
            refine wpAnyH_take (i := 2) (v := .bool true) rfl (by kernel_rfl) (by kernel_rfl) (by kernel_rfl) (fun _ _ _ h => h) (Or.inl ⟨by kernel_rfl, fun s hs => by have c := hs; clear hs; go_simp⟩) hHeld ?_
            refine wpAnyH_take (i := 3) (v := .int .i64 kv) rfl (by kernel_rfl) (by kernel_rfl) (by kernel_rfl) (fun _ _ _ h => h) (Or.inl ⟨by kernel_rfl, fun s hs => by have c := hs; clear hs; go_simp⟩) hHeld ?_
            refine wpAnyH_take (i := 4) (v := .pointer (some ⟨T, 0, none⟩)) rfl (by kernel_rfl) (by kernel_rfl) (by kernel_rfl) (fun _ _ _ h => h) (Or.inl ⟨by kernel_rfl, fun s hs => by have c := hs; clear hs; go_simp⟩) hHeld ?_
            refine wpAnyH_take (i := 5) (v := .pointer (some ⟨T, 0, none⟩)) rfl (by kernel_rfl) (by kernel_rfl) (by kernel_rfl) (fun _ _ _ h => h) (Or.inl ⟨by kernel_rfl, fun s hs => by have c := hs; clear hs; go_simp⟩) hHeld ?_
            refine wpAnyH_take (i := 6) (v := .pointer (some ⟨T, 0, none⟩)) rfl (by kernel_rfl) (by kernel_rfl) (by kernel_rfl) (fun _ _ _ h => h) (Or.inl ⟨by kernel_rfl, fun s hs => by have c := hs; clear hs; go_simp⟩) hHeld ?_
            refine wpAnyH_take (i := 7) (v := .slice va xs.length vc) rfl (by kernel_rfl) (by kernel_rfl) (by kernel_rfl) (fun _ _ _ h => h) (Or.inl ⟨by kernel_rfl, fun s hs => by have c := hs; clear hs; go_simp⟩) hHeld ?_
            refine wpAnyH_take (i := 8) (v := .int .i64 xs.length) rfl (by kernel_rfl) (by kernel_rfl) (by kernel_rfl) (fun _ _ _ h => h) (Or.inl ⟨by kernel_rfl, fun s hs => by have c := hs; clear hs; go_simp⟩) hHeld ?_
            refine wpAnyH_take (i := 9) (v := .int .i64 ((xs.length : Int) - 1)) rfl (by kernel_rfl) (by kernel_rfl) (by kernel_rfl) (fun _ _ _ h => h) (Or.inl ⟨by kernel_rfl, fun s hs => by have c := hs; clear hs; go_simp; exact wrap_pred HL2.out⟩) hHeld ?_
            refine wpAnyH_take (i := 10) (v := .bool true) rfl (by kernel_rfl) (by kernel_rfl) (by kernel_rfl) (fun _ _ _ h => h) (Or.inl ⟨by kernel_rfl, fun s hs => by have c := hs; clear hs; go_simp; have := HKK.out; have := HP1.out; omega⟩) hHeld ?_
            refine wpAnyH_take (i := 11) (v := .bool true) rfl (by kernel_rfl) (by kernel_rfl) (by kernel_rfl) (fun _ _ _ h => h) (Or.inl ⟨by kernel_rfl, fun s hs => by have c := hs; clear hs; go_simp⟩) hHeld ?_
            refine wpAnyH_take (i := 12) (v := .bool true) rfl (by kernel_rfl) (by kernel_rfl) (by kernel_rfl) (fun _ _ _ h => h) (Or.inl ⟨by kernel_rfl, fun s hs => by have c := hs; clear hs; go_simp⟩) hHeld ?_
            refine wpAnyH_take (i := 13) (v := .pointer (some ⟨T, 0, none⟩)) rfl (by kernel_rfl) (by kernel_rfl) (by kernel_rfl) (fun _ _ _ h => h) (Or.inl ⟨by kernel_rfl, fun s hs => by have c := hs; clear hs; go_simp⟩) hHeld ?_
            refine wpAnyH_take (i := 16) (v := .pointer (some ⟨T, 0, none⟩)) rfl (by kernel_rfl) (by kernel_rfl) (by kernel_rfl) (fun _ _ _ h => h) (Or.inl ⟨by kernel_rfl, fun s hs => by have c := hs; clear hs; go_simp⟩) hHeld ?_
            refine wpAnyH_take (i := 17) (v := .pointer (some ⟨T, 0, none⟩)) rfl (by kernel_rfl) (by kernel_rfl) (by kernel_rfl) (fun _ _ _ h => h) (Or.inl ⟨by kernel_rfl, fun s hs => by have c := hs; clear hs; go_simp⟩) hHeld ?_
            refine wpAnyH_take (i := 18) (v := .pointer (some ⟨T, 0, none⟩)) rfl (by kernel_rfl) (by kernel_rfl) (by kernel_rfl) (fun _ _ _ h => h) (Or.inl ⟨by kernel_rfl, fun s hs => by have c := hs; clear hs; go_simp⟩) hHeld ?_
            refine wpAnyH_take (i := 19) (v := .slice va xs.length vc) rfl (by kernel_rfl) (by kernel_rfl) (by kernel_rfl) (fun _ _ _ h => h) (Or.inl ⟨by kernel_rfl, fun s hs => by have c := hs; clear hs; go_simp⟩) hHeld ?_
            refine wpAnyH_take (i := 20) (v := .int .i64 xs.length) rfl (by kernel_rfl) (by kernel_rfl) (by kernel_rfl) (fun _ _ _ h => h) (Or.inl ⟨by kernel_rfl, fun s hs => by have c := hs; clear hs; go_simp⟩) hHeld ?_
            refine wpAnyH_ready (rs := [14]) (by kernel_rfl) (by simp) ?_
            refine AllReadyH.cons rfl (fun K hK => ?_) AllReadyH.nil
            rw [if_pos (by kernel_rfl)]
            go_simp
            refine HORD.out.mono ?_
            rintro e w5 ⟨v5, rfl, hv5, hb5⟩
            obtain ⟨a5, c5, rfl⟩ := RowAt.slice (IntsFrom.at_ hv5)
            rw [HPL.out]
            have HB5 := Lib.hid hb5
            have cT5 : w5.cell? ⟨T, 0, none⟩ = some (.slice va xs.length vc) := ((bcell hb5).1 T 0 HTL.out).trans cTd
            clear hv5 hb5
            refine hK.out _ _ cT5 (fun hHeld => ?_)
            refine wpAnyH_take (i := 15) (v := .int .i64 pl) rfl (by kernel_rfl) (by kernel_rfl) (by kernel_rfl) (fun _ _ _ h => h) (Or.inl ⟨by kernel_rfl, fun s hs => by have c := hs; clear hs; go_simp⟩) hHeld ?_
            refine wpAnyH_take (i := 21) (v := .bool true) rfl (by kernel_rfl) (by kernel_rfl) (by kernel_rfl) (fun _ _ _ h => h) (Or.inl ⟨by kernel_rfl, fun s hs => by have c := hs; clear hs; go_simp; have := HBB.out; omega⟩) hHeld ?_
            refine wpAnyH_take (i := 22) (v := .bool true) rfl (by kernel_rfl) (by kernel_rfl) (by kernel_rfl) (fun _ _ _ h => h) (Or.inl ⟨by kernel_rfl, fun s hs => by have c := hs; clear hs; go_simp⟩) hHeld ?_
            refine wpAnyH_take (i := 23) (v := .bool true) rfl (by kernel_rfl) (by kernel_rfl) (by kernel_rfl) (fun _ _ _ h => h) (Or.inl ⟨by kernel_rfl, fun s hs => by have c := hs; clear hs; go_simp⟩) hHeld ?_
            refine wpAnyH_done (by kernel_rfl) ?_ _
            clear hHeld
            go_simp
            have HO : Hid (oneTree (ndsV xs) = true) := Lib.hid (by rw [HEQ.out, HPL.out]; simpa using HBB.out)
            go_wp2
            go_ret
            exact ⟨ret_bool HO.out.symm, HBD.out.trans (HB5.out.mono HBD.out.size)⟩
          · have HBB := Lib.hid hb
            clear hb
            refine wp_region_held_drew (S := (fun s => s.cell? ⟨T, 0, none⟩ = some (.slice va xs.length vc))) (by kernel_rfl) cTd (fun hHeld => ?_)
            refine wpAnyH_take (i := 0) (v := .int .i64 rv) rfl (by kernel_rfl) (by kernel_rfl) (by kernel_rfl) (fun _ _ _ h => h) (Or.inl ⟨by kernel_rfl, fun s hs => by have c := hs; clear hs; go_simp⟩) hHeld ?_
            refine wpAnyH_take (i := 1) (v := .bool true) rfl (by kernel_rfl) (by kernel_rfl) (by kernel_rfl) (fun _ _ _ h => h) (Or.inl ⟨by kernel_rfl, fun s hs => by have c := hs; clear hs; go_simp; have := HRR.out; omega⟩) hHeld ?_
            refine wpAnyH_take (i := 2) (v := .bool true) rfl (by kernel_rfl) (by kernel_rfl) (by kernel_rfl) (fun _ _ _ h => h) (Or.inl ⟨by kernel_rfl, fun s hs => by have c := hs; clear hs; go_simp⟩) hHeld ?_
            refine wpAnyH_take (i := 3) (v := .int .i64 kv) rfl (by kernel_rfl) (by kernel_rfl) (by kernel_rfl) (fun _ _ _ h => h) (Or.inl ⟨by kernel_rfl, fun s hs => by have c := hs; clear hs; go_simp⟩) hHeld ?_
            refine wpAnyH_take (i := 4) (v := .pointer (some ⟨T, 0, none⟩)) rfl (by kernel_rfl) (by kernel_rfl) (by kernel_rfl) (fun _ _ _ h => h) (Or.inl ⟨by kernel_rfl, fun s hs => by have c := hs; clear hs; go_simp⟩) hHeld ?_
            refine wpAnyH_take (i := 5) (v := .pointer (some ⟨T, 0, none⟩)) rfl (by kernel_rfl) (by kernel_rfl) (by kernel_rfl) (fun _ _ _ h => h) (Or.inl ⟨by kernel_rfl, fun s hs => by have c := hs; clear hs; go_simp⟩) hHeld ?_
            refine wpAnyH_take (i := 6) (v := .pointer (some ⟨T, 0, none⟩)) rfl (by kernel_rfl) (by kernel_rfl) (by kernel_rfl) (fun _ _ _ h => h) (Or.inl ⟨by kernel_rfl, fun s hs => by have c := hs; clear hs; go_simp⟩) hHeld ?_
            refine wpAnyH_take (i := 7) (v := .slice va xs.length vc) rfl (by kernel_rfl) (by kernel_rfl) (by kernel_rfl) (fun _ _ _ h => h) (Or.inl ⟨by kernel_rfl, fun s hs => by have c := hs; clear hs; go_simp⟩) hHeld ?_
            refine wpAnyH_take (i := 8) (v := .int .i64 xs.length) rfl (by kernel_rfl) (by kernel_rfl) (by kernel_rfl) (fun _ _ _ h => h) (Or.inl ⟨by kernel_rfl, fun s hs => by have c := hs; clear hs; go_simp⟩) hHeld ?_
            refine wpAnyH_take (i := 9) (v := .int .i64 ((xs.length : Int) - 1)) rfl (by kernel_rfl) (by kernel_rfl) (by kernel_rfl) (fun _ _ _ h => h) (Or.inl ⟨by kernel_rfl, fun s hs => by have c := hs; clear hs; go_simp; exact wrap_pred HL2.out⟩) hHeld ?_
            refine wpAnyH_take (i := 10) (v := .bool true) rfl (by kernel_rfl) (by kernel_rfl) (by kernel_rfl) (fun _ _ _ h => h) (Or.inl ⟨by kernel_rfl, fun s hs => by have c := hs; clear hs; go_simp; have := HKK.out; have := HP1.out; omega⟩) hHeld ?_
            refine wpAnyH_take (i := 11) (v := .bool true) rfl (by kernel_rfl) (by kernel_rfl) (by kernel_rfl) (fun _ _ _ h => h) (Or.inl ⟨by kernel_rfl, fun s hs => by have c := hs; clear hs; go_simp⟩) hHeld ?_
            refine wpAnyH_take (i := 12) (v := .bool true) rfl (by kernel_rfl) (by kernel_rfl) (by kernel_rfl) (fun _ _ _ h => h) (Or.inl ⟨by kernel_rfl, fun s hs => by have c := hs; clear hs; go_simp⟩) hHeld ?_
            refine wpAnyH_take (i := 13) (v := .pointer (some ⟨T, 0, none⟩)) rfl (by kernel_rfl) (by kernel_rfl) (by kernel_rfl) (fun _ _ _ h => h) (Or.inl ⟨by kernel_rfl, fun s hs => by have c := hs; clear hs; go_simp⟩) hHeld ?_
            refine wpAnyH_take (i := 16) (v := .pointer (some ⟨T, 0, none⟩)) rfl (by kernel_rfl) (by kernel_rfl) (by kernel_rfl) (fun _ _ _ h => h) (Or.inl ⟨by kernel_rfl, fun s hs => by have c := hs; clear hs; go_simp⟩) hHeld ?_
            refine wpAnyH_take (i := 17) (v := .pointer (some ⟨T, 0, none⟩)) rfl (by kernel_rfl) (by kernel_rfl) (by kernel_rfl) (fun _ _ _ h => h) (Or.inl ⟨by kernel_rfl, fun s hs => by have c := hs; clear hs; go_simp⟩) hHeld ?_
            refine wpAnyH_take (i := 18) (v := .pointer (some ⟨T, 0, none⟩)) rfl (by kernel_rfl) (by kernel_rfl) (by kernel_rfl) (fun _ _ _ h => h) (Or.inl ⟨by kernel_rfl, fun s hs => by have c := hs; clear hs; go_simp⟩) hHeld ?_
            refine wpAnyH_take (i := 19) (v := .slice va xs.length vc) rfl (by kernel_rfl) (by kernel_rfl) (by kernel_rfl) (fun _ _ _ h => h) (Or.inl ⟨by kernel_rfl, fun s hs => by have c := hs; clear hs; go_simp⟩) hHeld ?_
            refine wpAnyH_take (i := 20) (v := .int .i64 xs.length) rfl (by kernel_rfl) (by kernel_rfl) (by kernel_rfl) (fun _ _ _ h => h) (Or.inl ⟨by kernel_rfl, fun s hs => by have c := hs; clear hs; go_simp⟩) hHeld ?_
            refine wpAnyH_ready (rs := [14]) (by kernel_rfl) (by simp) ?_
            refine AllReadyH.cons rfl (fun K hK => ?_) AllReadyH.nil
            rw [if_pos (by kernel_rfl)]
            go_simp
            refine HORD.out.mono ?_
            rintro e w5 ⟨v5, rfl, hv5, hb5⟩
            obtain ⟨a5, c5, rfl⟩ := RowAt.slice (IntsFrom.at_ hv5)
            rw [HPL.out]
            have HB5 := Lib.hid hb5
            have cT5 : w5.cell? ⟨T, 0, none⟩ = some (.slice va xs.length vc) := ((bcell hb5).1 T 0 HTL.out).trans cTd
            clear hv5 hb5
            refine hK.out _ _ cT5 (fun hHeld => ?_)
            refine wpAnyH_take (i := 15) (v := .int .i64 pl) rfl (by kernel_rfl) (by kernel_rfl) (by kernel_rfl) (fun _ _ _ h => h) (Or.inl ⟨by kernel_rfl, fun s hs => by have c := hs; clear hs; go_simp⟩) hHeld ?_
            refine wpAnyH_take (i := 21) (v := .bool false) rfl (by kernel_rfl) (by kernel_rfl) (by kernel_rfl) (fun _ _ _ h => h) (Or.inl ⟨by kernel_rfl, fun s hs => by have c := hs; clear hs; go_simp; have := HBB.out; omega⟩) hHeld ?_
            refine wpAnyH_take (i := 22) (v := .bool false) rfl (by kernel_rfl) (by kernel_rfl) (by kernel_rfl) (fun _ _ _ h => h) (Or.inl ⟨by kernel_rfl, fun s hs => by have c := hs; clear hs; go_simp⟩) hHeld ?_
            refine wpAnyH_take (i := 23) (v := .bool false) rfl (by kernel_rfl) (by kernel_rfl) (by kernel_rfl) (fun _ _ _ h => h) (Or.inl ⟨by kernel_rfl, fun s hs => by have c := hs; clear hs; go_simp⟩) hHeld ?_
            refine wpAnyH_done (by kernel_rfl) ?_ _
            clear hHeld
            go_simp
            have HO : Hid (oneTree (ndsV xs) = false) := Lib.hid (by rw [HEQ.out, HPL.out]; simpa using HBB.out)
            go_wp2
            go_ret
            exact ⟨ret_bool HO.out.symm, HBD.out.trans (HB5.out.mono HBD.out.size)⟩
        · have HF : Hid (oneTree (ndsV xs) = false) := Lib.hid (by
            rw [oneTree_eq HALL.out, ← HRV2.out, ← HKV2.out, ndsV_len, show (kv == xs.length - 1) = false by simpa using hk]
            simp)
          have HRR := Lib.hid hr; have HKK := Lib.hid hk
          clear hr hk
          refine wp_region_held_drew (S := (fun s => s.cell? ⟨T, 0, none⟩ = some (.slice va xs.length vc))) (by kernel_rfl) cTd (fun hHeld => ?_)
          refine wpAnyH_take (i := 0) (v := .int .i64 rv) rfl (by kernel_rfl) (by kernel_rfl) (by kernel_rfl) (fun _ _ _ h => h) (Or.inl ⟨by kernel_rfl, fun s hs => by have c := hs; clear hs; go_simp⟩) hHeld ?_
          refine wpAnyH_take (i := 1) (v := .bool true) rfl (by kernel_rfl) (by kernel_rfl) (by kernel_rfl) (fun _ _ _ h => h) (Or.inl ⟨by kernel_rfl, fun s hs => by have c := hs; clear hs; go_simp; have := HRR.out; omega⟩) hHeld ?_
          refine wpAnyH_take (i := 2) (v := .bool true) rfl (by kernel_rfl) (by kernel_rfl) (by kernel_rfl) (fun _ _ _ h => h) (Or.inl ⟨by kernel_rfl, fun s hs => by have c := hs; clear hs; go_simp⟩) hHeld ?_
          refine wpAnyH_take (i := 3) (v := .int .i64 kv) rfl (by kernel_rfl) (by kernel_rfl) (by kernel_rfl) (fun _ _ _ h => h) (Or.inl ⟨by kernel_rfl, fun s hs => by have c := hs; clear hs; go_simp⟩) hHeld ?_
          refine wpAnyH_take (i := 4) (v := .pointer (some ⟨T, 0, none⟩)) rfl (by kernel_rfl) (by kernel_rfl) (by kernel_rfl) (fun _ _ _ h => h) (Or.inl ⟨by kernel_rfl, fun s hs => by have c := hs; clear hs; go_simp⟩) hHeld ?_
          refine wpAnyH_take (i := 5) (v := .pointer (some ⟨T, 0, none⟩)) rfl (by kernel_rfl) (by kernel_rfl) (by kernel_rfl) (fun _ _ _ h => h) (Or.inl ⟨by kernel_rfl, fun s hs => by have c := hs; clear hs; go_simp⟩) hHeld ?_
          refine wpAnyH_take (i := 6) (v := .pointer (some ⟨T, 0, none⟩)) rfl (by kernel_rfl) (by kernel_rfl) (by kernel_rfl) (fun _ _ _ h => h) (Or.inl ⟨by kernel_rfl, fun s hs => by have c := hs; clear hs; go_simp⟩) hHeld ?_
          refine wpAnyH_take (i := 7) (v := .slice va xs.length vc) rfl (by kernel_rfl) (by kernel_rfl) (by kernel_rfl) (fun _ _ _ h => h) (Or.inl ⟨by kernel_rfl, fun s hs => by have c := hs; clear hs; go_simp⟩) hHeld ?_
          refine wpAnyH_take (i := 8) (v := .int .i64 xs.length) rfl (by kernel_rfl) (by kernel_rfl) (by kernel_rfl) (fun _ _ _ h => h) (Or.inl ⟨by kernel_rfl, fun s hs => by have c := hs; clear hs; go_simp⟩) hHeld ?_
          refine wpAnyH_take (i := 9) (v := .int .i64 ((xs.length : Int) - 1)) rfl (by kernel_rfl) (by kernel_rfl) (by kernel_rfl) (fun _ _ _ h => h) (Or.inl ⟨by kernel_rfl, fun s hs => by have c := hs; clear hs; go_simp; exact wrap_pred HL2.out⟩) hHeld ?_
          refine wpAnyH_take (i := 10) (v := .bool false) rfl (by kernel_rfl) (by kernel_rfl) (by kernel_rfl) (fun _ _ _ h => h) (Or.inl ⟨by kernel_rfl, fun s hs => by have c := hs; clear hs; go_simp; have := HKK.out; have := HP1.out; omega⟩) hHeld ?_
          refine wpAnyH_take (i := 11) (v := .bool false) rfl (by kernel_rfl) (by kernel_rfl) (by kernel_rfl) (fun _ _ _ h => h) (Or.inl ⟨by kernel_rfl, fun s hs => by have c := hs; clear hs; go_simp⟩) hHeld ?_
          refine wpAnyH_take (i := 12) (v := .bool false) rfl (by kernel_rfl) (by kernel_rfl) (by kernel_rfl) (fun _ _ _ h => h) (Or.inl ⟨by kernel_rfl, fun s hs => by have c := hs; clear hs; go_simp⟩) hHeld ?_
          refine wpAnyH_take (i := 13) (v := undef) rfl (by kernel_rfl) (by kernel_rfl) (by kernel_rfl) (fun _ _ _ h => h) (Or.inr ⟨by kernel_rfl, rfl⟩) hHeld ?_
          refine wpAnyH_take (i := 14) (v := undef) rfl (by kernel_rfl) (by kernel_rfl) (by kernel_rfl) (fun _ _ _ h => h) (Or.inr ⟨by kernel_rfl, rfl⟩) hHeld ?_
          refine wpAnyH_take (i := 15) (v := undef) rfl (by kernel_rfl) (by kernel_rfl) (by kernel_rfl) (fun _ _ _ h => h) (Or.inr ⟨by kernel_rfl, rfl⟩) hHeld ?_
          refine wpAnyH_take (i := 16) (v := undef) rfl (by kernel_rfl) (by kernel_rfl) (by kernel_rfl) (fun _ _ _ h => h) (Or.inr ⟨by kernel_rfl, rfl⟩) hHeld ?_
          refine wpAnyH_take (i := 17) (v := undef) rfl (by kernel_rfl) (by kernel_rfl) (by kernel_rfl) (fun _ _ _ h => h) (Or.inr ⟨by kernel_rfl, rfl⟩) hHeld ?_
          refine wpAnyH_take (i := 18) (v := undef) rfl (by kernel_rfl) (by kernel_rfl) (by kernel_rfl) (fun _ _ _ h => h) (Or.inr ⟨by kernel_rfl, rfl⟩) hHeld ?_
          refine wpAnyH_take (i := 19) (v := undef) rfl (by kernel_rfl) (by kernel_rfl) (by kernel_rfl) (fun _ _ _ h => h) (Or.inr ⟨by kernel_rfl, rfl⟩) hHeld ?_
          refine wpAnyH_take (i := 20) (v := undef) rfl (by kernel_rfl) (by kernel_rfl) (by kernel_rfl) (fun _ _ _ h => h) (Or.inr ⟨by kernel_rfl, rfl⟩) hHeld ?_
          refine wpAnyH_take (i := 21) (v := undef) rfl (by kernel_rfl) (by kernel_rfl) (by kernel_rfl) (fun _ _ _ h => h) (Or.inr ⟨by kernel_rfl, rfl⟩) hHeld ?_
          refine wpAnyH_take (i := 22) (v := .bool false) rfl (by kernel_rfl) (by kernel_rfl) (by kernel_rfl) (fun _ _ _ h => h) (Or.inl ⟨by kernel_rfl, fun s hs => by have c := hs; clear hs; go_simp⟩) hHeld ?_
          refine wpAnyH_take (i := 23) (v := .bool false) rfl (by kernel_rfl) (by kernel_rfl) (by kernel_rfl) (fun _ _ _ h => h) (Or.inl ⟨by kernel_rfl, fun s hs => by have c := hs; clear hs; go_simp⟩) hHeld ?_
          refine wpAnyH_done (by kernel_rfl) ?_ _
          clear hHeld
          go_simp
          go_wp2
          go_ret
          exact ⟨ret_bool HF.out.symm, HBD.out⟩
      · have HF : Hid (oneTree (ndsV xs) = false) := Lib.hid (by
          rw [oneTree_eq HALL.out, ← HRV2.out, show (rv == 1) = false by simpa using hr]
          rfl)
        have HRR := Lib.hid hr
        clear hr
        refine wp_region_held_drew (S := (fun s => s.cell? ⟨T, 0, none⟩ = some (.slice va xs.length vc))) (by kernel_rfl) cTd (fun hHeld => ?_)
        refine wpAnyH_take (i := 0) (v := .int .i64 rv) rfl (by kernel_rfl) (by kernel_rfl) (by kernel_rfl) (fun _ _ _ h => h) (Or.inl ⟨by kernel_rfl, fun s hs => by have c := hs; clear hs; go_simp⟩) hHeld ?_
        refine wpAnyH_take (i := 1) (v := .bool false) rfl (by kernel_rfl) (by kernel_rfl) (by kernel_rfl) (fun _ _ _ h => h) (Or.inl ⟨by kernel_rfl, fun s hs => by have c := hs; clear hs; go_simp; have := HRR.out; omega⟩) hHeld ?_
        refine wpAnyH_take (i := 2) (v := .bool false) rfl (by kernel_rfl) (by kernel_rfl) (by kernel_rfl) (fun _ _ _ h => h) (Or.inl ⟨by kernel_rfl, fun s hs => by have c := hs; clear hs; go_simp⟩) hHeld ?_
        refine wpAnyH_take (i := 3) (v := undef) rfl (by kernel_rfl) (by kernel_rfl) (by kernel_rfl) (fun _ _ _ h => h) (Or.inr ⟨by kernel_rfl, rfl⟩) hHeld ?_
        refine wpAnyH_take (i := 4) (v := undef) rfl (by kernel_rfl) (by kernel_rfl) (by kernel_rfl) (fun _ _ _ h => h) (Or.inr ⟨by kernel_rfl, rfl⟩) hHeld ?_
        refine wpAnyH_take (i := 5) (v := undef) rfl (by kernel_rfl) (by kernel_rfl) (by kernel_rfl) (fun _ _ _ h => h) (Or.inr ⟨by kernel_rfl, rfl⟩) hHeld ?_
        refine wpAnyH_take (i := 6) (v := undef) rfl (by kernel_rfl) (by kernel_rfl) (by kernel_rfl) (fun _ _ _ h => h) (Or.inr ⟨by kernel_rfl, rfl⟩) hHeld ?_
        refine wpAnyH_take (i := 7) (v := undef) rfl (by kernel_rfl) (by kernel_rfl) (by kernel_rfl) (fun _ _ _ h => h) (Or.inr ⟨by kernel_rfl, rfl⟩) hHeld ?_
        refine wpAnyH_take (i := 8) (v := undef) rfl (by kernel_rfl) (by kernel_rfl) (by kernel_rfl) (fun _ _ _ h => h) (Or.inr ⟨by kernel_rfl, rfl⟩) hHeld ?_
        refine wpAnyH_take (i := 9) (v := undef) rfl (by kernel_rfl) (by kernel_rfl) (by kernel_rfl) (fun _ _ _ h => h) (Or.inr ⟨by kernel_rfl, rfl⟩) hHeld ?_
        refine wpAnyH_take (i := 10) (v := undef) rfl (by kernel_rfl) (by kernel_rfl) (by kernel_rfl) (fun _ _ _ h => h) (Or.inr ⟨by kernel_rfl, rfl⟩) hHeld ?_
        refine wpAnyH_take (i := 11) (v := .bool false) rfl (by kernel_rfl) (by kernel_rfl) (by kernel_rfl) (fun _ _ _ h => h) (Or.inl ⟨by kernel_rfl, fun s hs => by have c := hs; clear hs; go_simp⟩) hHeld ?_
        refine wpAnyH_take (i := 12) (v := .bool false) rfl (by kernel_rfl) (by kernel_rfl) (by kernel_rfl) (fun _ _ _ h => h) (Or.inl ⟨by kernel_rfl, fun s hs => by have c := hs; clear hs; go_simp⟩) hHeld ?_
        refine wpAnyH_take (i := 13) (v := undef) rfl (by kernel_rfl) (by kernel_rfl) (by kernel_rfl) (fun _ _ _ h => h) (Or.inr ⟨by kernel_rfl, rfl⟩) hHeld ?_
        refine wpAnyH_take (i := 14) (v := undef) rfl (by kernel_rfl) (by kernel_rfl) (by kernel_rfl) (fun _ _ _ h => h) (Or.inr ⟨by kernel_rfl, rfl⟩) hHeld ?_
        refine wpAnyH_take (i := 15) (v := undef) rfl (by kernel_rfl) (by kernel_rfl) (by kernel_rfl) (fun _ _ _ h => h) (Or.inr ⟨by kernel_rfl, rfl⟩) hHeld ?_
        refine wpAnyH_take (i := 16) (v := undef) rfl (by kernel_rfl) (by kernel_rfl) (by kernel_rfl) (fun _ _ _ h => h) (Or.inr ⟨by kernel_rfl, rfl⟩) hHeld ?_
        refine wpAnyH_take (i := 17) (v := undef) rfl (by kernel_rfl) (by kernel_rfl) (by kernel_rfl) (fun _ _ _ h => h) (Or.inr ⟨by kernel_rfl, rfl⟩) hHeld ?_
        refine wpAnyH_take (i := 18) (v := undef) rfl (by kernel_rfl) (by kernel_rfl) (by kernel_rfl) (fun _ _ _ h => h) (Or.inr ⟨by kernel_rfl, rfl⟩) hHeld ?_
        refine wpAnyH_take (i := 19) (v := undef) rfl (by kernel_rfl) (by kernel_rfl) (by kernel_rfl) (fun _ _ _ h => h) (Or.inr ⟨by kernel_rfl, rfl⟩) hHeld ?_
        refine wpAnyH_take (i := 20) (v := undef) rfl (by kernel_rfl) (by kernel_rfl) (by kernel_rfl) (fun _ _ _ h => h) (Or.inr ⟨by kernel_rfl, rfl⟩) hHeld ?_
        refine wpAnyH_take (i := 21) (v := undef) rfl (by kernel_rfl) (by kernel_rfl) (by kernel_rfl) (fun _ _ _ h => h) (Or.inr ⟨by kernel_rfl, rfl⟩) hHeld ?_
        refine wpAnyH_take (i := 22) (v := .bool false) rfl (by kernel_rfl) (by kernel_rfl) (by kernel_rfl) (fun _ _ _ h => h) (Or.inl ⟨by kernel_rfl, fun s hs => by have c := hs; clear hs; go_simp⟩) hHeld ?_
        refine wpAnyH_take (i := 23) (v := .bool false) rfl (by kernel_rfl) (by kernel_rfl) (by kernel_rfl) (fun _ _ _ h => h) (Or.inl ⟨by kernel_rfl, fun s hs => by have c := hs; clear hs; go_simp⟩) hHeld ?_
        refine wpAnyH_done (by kernel_rfl) ?_ _
        clear hHeld
        go_simp
        go_wp2
        go_ret
        exact ⟨ret_bool HF.out.symm, HBD.out⟩
end Go.Proofs.YthbmnacleneflaaGreatDoor
/-
  Contracts, for a run of one goroutine, of jalousieref23.has and jalousieref8.Ints: is a number in a row; are two rows the same. Condition: the rows lie in memory.
-/
set_option linter.unusedSimpArgs false
set_option linter.unusedVariables false
namespace Go.Proofs.YthbmnacleneflaaGreatDoor
open Go Go.RowKit

set_option maxRecDepth 100000 in
/-- jalousieref23.has. -/
theorem has_any (w : World) (B : Nat) (v : Value) (l : List Int) (hv : IntsAt B w v l) (hB : B ≤ w.heap.size) (x : Int) :
    Calls Tryz.prog 33 #[v, .int .i64 x] w fun e w' => e = .returned (.bool (decide (x ∈ l))) ∧ w' = w := by
  obtain ⟨va, vc, rfl⟩ := RowAt.slice hv
  have hll : (l.length : Int) ≤ 9223372036854775807 := by
    have := RowAt.le hv
    have e : maxLen = 9223372036854775807 := by decide
    omega
  have HV := Lib.hid hv
  clear hv
  go_enter Tryz.func33, Tryz.ntmps33
  go_wp2
  go_loop [9] (fun i => ∃ k : Nat, k ≤ l.length ∧ i = .int .i64 k ∧ x ∉ l.take k) (fun i => l.length - (intOf i).toNat)
  case atStart => exact ⟨0, Nat.zero_le _, rfl, by simp⟩
  case round =>
    obtain ⟨k, hk, rfl, hn⟩ := hrel
    have HN := Lib.hid hn; have HK := Lib.hid hk
    clear hn
    by_cases hlt : k < l.length
    · obtain ⟨b, off, rfl, _, hr⟩ := RowAt.place HV.out (by omega)
      have hc : w.cell? ⟨b, off + k, none⟩ = some (.int .i64 l[k]) := hr k _ (intCells_get hlt)
      have HM : Hid (l[k] ∈ l) := Lib.hid (List.getElem_mem hlt)
      have HT : Hid (l.take (k + 1) = l.take k ++ [l[k]]) := Lib.hid (take_snoc hlt)
      generalize l[k] = u at hc HM HT
      clear hr
      by_cases hu : x = u
      · have hq : (x == u) = true := by simpa using hu
        have HD : Hid (decide (x ∈ l) = true) := Lib.hid (by rw [hu]; simpa using HM.out)
        clear hu
        go_wp2
        go_ret
        exact ⟨ret_bool HD.out.symm, rfl⟩
      · have hq : (x == u) = false := by simpa using hu
        have HU := Lib.hid hu
        clear hu
        go_wp2
        exact ⟨⟨k + 1, by omega, by go_num, by rw [HT.out]; intro h; rcases List.mem_append.1 h with h | h; exact HN.out h; exact HU.out (List.mem_singleton.1 h)⟩, by simp [intOf]; omega⟩
    · have hke : k = l.length := by have := HK.out; omega
      have HD : Hid (decide (x ∈ l) = false) := Lib.hid (by have := HN.out; rw [hke, List.take_length] at this; simpa using this)
      clear hke
      go_wp2
      go_ret
      exact ⟨ret_bool HD.out.symm, rfl⟩
set_option maxRecDepth 100000 in
set_option maxHeartbeats 1000000 in
/-- jalousieref8.Ints: two rows that are one. -/
theorem ints_any (w : World) (A B : Nat) (v v' : Value) (l l' : List Int) (hv : IntsAt A w v l) (hv' : IntsAt B w v' l') (he : l = l') :
    Calls Tryz.prog 9 #[v, v'] w fun e w' => e = .returned (.bool true) ∧ Below w.heap.size w w' := by
  subst he
  obtain ⟨va, vc, rfl⟩ := RowAt.slice hv
  obtain ⟨va', vc', rfl⟩ := RowAt.slice hv'
  have hll : (l.length : Int) ≤ 9223372036854775807 := by
    have := RowAt.le hv
    have e : maxLen = 9223372036854775807 := by decide
    omega
  have HV := Lib.hid hv; have HV' := Lib.hid hv'
  have hne : ((l.length : Int) != (l.length : Int)) = false := by simp
  clear hv hv'
  go_enter Tryz.func9, Tryz.ntmps9
  go_wp2
  go_loopw [13] (fun i wr => ∃ k : Nat, k ≤ l.length ∧ i = .int .i64 k ∧ ∃ m, wr = w.drewN m) (fun i _ => l.length - (intOf i).toNat)
  case atStart => exact ⟨0, Nat.zero_le _, rfl, 0, rfl⟩
  case round =>
    obtain ⟨k, hk, rfl, m, rfl⟩ := hrel
    have HK := Lib.hid hk
    by_cases hlt : k < l.length
    · obtain ⟨b, off, rfl, _, hr⟩ := RowAt.place HV.out (by omega)
      obtain ⟨b', off', rfl, _, hr'⟩ := RowAt.place HV'.out (by omega)
      have hc : w.cell? ⟨b, off + k, none⟩ = some (.int .i64 l[k]) := hr k _ (intCells_get hlt)
      have hc' : w.cell? ⟨b', off' + k, none⟩ = some (.int .i64 l[k]) := hr' k _ (intCells_get hlt)
      generalize l[k] = u at hc hc'
      have hu : (u != u) = false := by simp
      clear hr hr'
      go_wp2
      go_quiet (fail)
      go_wp2
      go_roundw
      case rel => exact ⟨k + 1, by omega, by go_num, m + nq, rfl⟩
      case measure => simp [intOf]; omega
    · go_wp2
      go_ret
      exact ⟨rfl, below_drewN (Below.refl _ _) m⟩
end Go.Proofs.YthbmnacleneflaaGreatDoor
/-
  Contract, for a run of one goroutine, of jalousieref23.Closure: those among any numbers, and all below them. Condition: the row lies in memory and is one tree; the numbers lie in memory.
-/
set_option linter.unusedSimpArgs false
set_option linter.unusedVariables false
namespace Go.Proofs.YthbmnacleneflaaGreatDoor
open Go Go.RowKit
open Go.Proofs.YthbmnacleneflaaGreatDoor.dt (Nd fnd pre Deep ups Fits Dist fnd_some fnd_mem fnd_neg dist_root dist_kid dist_par dist_inj dist_lt deep_of pre_len pre_nodup pre_mem all_dist dist_of_pre oneTree elOk kidOk rootsN kidsN rootOf fits_of root_of_mem cloL Whole ups_mem ups_add clo_ups)

/-- The way up from an element. -/
theorem chain {ns : List Nd} {r : Int} (hf : Fits ns r) {x : Int} {d j : Nat} (hx : Dist ns r x d) (hj : j ≤ d) : ∃ z n, ups ns j x = some z ∧ fnd ns z = some n ∧ Dist ns r z (d - j) ∧ (j < d → ups ns (j + 1) x = some n.par) ∧ (j = d → n.par = -1) := by
  obtain ⟨m, hm, hmp⟩ := hf.root
  obtain ⟨z, hz, hzm⟩ := ups_mem d x r hx ⟨m, hm⟩ j hj
  obtain ⟨n, hn, rfl⟩ := List.mem_map.1 hzm
  have hfn := fnd_mem hf.ids hn
  have hd : Dist ns r n.id (d - j) := by
    have h := hx
    unfold Go.Proofs.YthbmnacleneflaaGreatDoor.dt.Dist at h
    rw [show d = j + (d - j) by omega, ups_add, hz] at h
    exact h
  refine ⟨n.id, n, hz, hfn, hd, fun _ => ?_, fun he => ?_⟩
  · rw [ups_add, hz]
    show ups ns 1 n.id = _
    unfold Go.Proofs.YthbmnacleneflaaGreatDoor.dt.ups
    rw [hfn]
    rfl
  · rw [he, Nat.sub_self] at hd
    have e : n.id = r := by simpa [Go.Proofs.YthbmnacleneflaaGreatDoor.dt.Dist, Go.Proofs.YthbmnacleneflaaGreatDoor.dt.ups] using hd
    rw [e, hm] at hfn
    cases hfn
    exact hmp
theorem clo_p {ns : List Nd} {r : Int} (hw : Whole ns r) (ids : List Int) : ∃ p : Int → Bool, cloL ns r ids = (pre ns ns.length r).filter p ∧ ∀ x d, Dist ns r x d → (p x = true ↔ ∃ j z, j ≤ d ∧ ups ns j x = some z ∧ z ∈ ids) := by
  refine ⟨_, clo_ups hw ids, fun x d hx => ?_⟩
  rw [@decide_eq_true_iff _ (Classical.propDecidable _)]
  constructor
  · rintro ⟨k, z, hk, j, hj, hz, hi⟩
    have := dist_inj hw.fits hx hk
    exact ⟨j, z, by omega, hz, hi⟩
  · rintro ⟨j, z, hj, hz, hi⟩
    exact ⟨d, z, hx, j, hj, hz, hi⟩
open Classical in
/-- How far the root is, and one. -/
noncomputable def distOf (ns : List Nd) (r z : Int) : Nat := if h : ∃ d, Dist ns r z d then h.choose + 1 else 0
theorem distOf_eq {ns : List Nd} {r z : Int} (hf : Fits ns r) {d : Nat} (h : Dist ns r z d) : distOf ns r z = d + 1 := by
  unfold distOf
  rw [dif_pos ⟨d, h⟩]
  have h2 : ∃ d, Dist ns r z d := ⟨d, h⟩
  rw [dist_inj hf h2.choose_spec h]
theorem distOf_neg {ns : List Nd} {r : Int} (hf : Fits ns r) : distOf ns r (-1) = 0 := by
  unfold distOf
  rw [dif_neg]
  rintro ⟨d, h⟩
  obtain ⟨z, n, hz, hn, _⟩ := chain hf h (Nat.zero_le d)
  have e : z = -1 := by simpa [Go.Proofs.YthbmnacleneflaaGreatDoor.dt.ups] using hz.symm
  rw [e, fnd_neg hf.nonneg] at hn
  cases hn

set_option maxRecDepth 100000 in
set_option maxHeartbeats 8000000 in
/-- jalousieref23.Closure. -/
theorem rclosure_any (w : World) (U T : Nat) (xs : List Ev) (next : Int) (hR : RowT w U T xs next) (hU : U ≤ w.heap.size) (hw : Whole (ndsV xs) (rootOf (ndsV xs))) (v : Value) (ids : List Int) (hv : IntsAt w.heap.size w v ids) :
    Calls Tryz.prog 10 #[.pointer (some ⟨T, 0, none⟩), v] w fun e w' => ∃ v', e = .returned v' ∧ IntsFrom w.heap.size w'.heap.size w' v' (cloL (ndsV xs) (rootOf (ndsV xs)) ids) ∧ Below w.heap.size w w' := by
  have hf := hw.fits
  have hl := hR.len
  have HORD := Lib.hid (rorder_any w U T xs next hR hU hf.ids xs.length (.inr (deep_of hf xs.length _ 0 dist_root (by rw [ndsV_len]; omega))) (by have := pre_len hf xs.length dist_root; rw [ndsV_len] at this; omega))
  obtain ⟨p, hp, hpx⟩ := clo_p hw ids
  rw [ndsV_len] at hp
  have HPL : Hid ((pre (ndsV xs) xs.length (rootOf (ndsV xs))).length ≤ 256) := Lib.hid (by have := pre_len hf xs.length dist_root; rw [ndsV_len] at this; omega)
  have HDI : Hid (∀ x ∈ pre (ndsV xs) xs.length (rootOf (ndsV xs)), ∃ d, Dist (ndsV xs) (rootOf (ndsV xs)) x d) := Lib.hid fun x hx => dist_of_pre hf hx
  have HUP : Hid (∀ wr z n, Below w.heap.size w wr → fnd (ndsV xs) z = some n → Calls Tryz.prog 32 #[.pointer (some ⟨T, 0, none⟩), .int .i64 z] wr fun e w' => e = .returned (.int .i64 n.par) ∧ Below wr.heap.size wr w') :=
    Lib.hid fun wr z n hb hn => rup_yes wr U T xs next (hR.keep (hb.mono hU)) (Nat.le_trans hU hb.size) hf.ids z n hn
  have HHAS : Hid (∀ wr z, Below w.heap.size w wr → Calls Tryz.prog 33 #[v, .int .i64 z] wr fun e w' => e = .returned (.bool (decide (z ∈ ids))) ∧ w' = wr) :=
    Lib.hid fun wr z hb => has_any wr w.heap.size v ids (hv.keep hb) hb.size z
  have HF := Lib.hid hf; have HP := Lib.hid hp; have HPX := Lib.hid hpx
  clear hR hU hw hv hf hl hp hpx
  rw [HP.out]
  generalize pre (ndsV xs) xs.length (rootOf (ndsV xs)) = PR at HORD HPL HDI HP ⊢
  generalize rootOf (ndsV xs) = RO at HDI HF HPX HP
  go_enter Tryz.func10, Tryz.ntmps10
  go_wp2_with (go_at_call 31; refine HORD.out.mono ?_; rintro e w1 ⟨vp, rfl, hi1, hb1⟩; obtain ⟨pa, pc, rfl⟩ := RowAt.slice (IntsFrom.at_ hi1); have HI1 := Lib.hid hi1; have HB1 := Lib.hid hb1; clear hi1 hb1)
  have hpl : (PR.length : Int) ≤ 256 := by have := HPL.out; omega
  go_loopw [5, 15] (fun o i wr => ∃ (k : Nat) (L : List Int), k ≤ PR.length ∧ i = .int .i64 k ∧ wr.ownsRow w1.heap.size 3 1 o L.length (intCells L) ∧ L = (PR.take k).filter p ∧ Below w1.heap.size w1 wr) (fun _ i _ => PR.length - (intOf i).toNat)
  case atStart => exact ⟨0, [], Nat.zero_le _, rfl, World.ownsRow_nil _ _ _ _, rfl, Below.refl _ _⟩
  case round =>
    obtain ⟨k, L, hk, rfl, hown, hL, hb⟩ := hrel
    have HLL := Lib.hid hL; have HOWN := Lib.hid hown; have HB := Lib.hid hb; have HK := Lib.hid hk
    clear hL hown hb
    obtain ⟨oa, oc, rfl⟩ := own_shape HOWN.out
    by_cases hlt : k < PR.length
    · obtain ⟨qb, qoff, rfl, hqb, hqr⟩ := RowAt.place (IntsFrom.at_ HI1.out) (by omega)
      have hqb2 := (RowFrom.blk HI1.out (by omega) (b := qb) rfl).2
      have hc2 : wr.cell? ⟨qb, qoff + k, none⟩ = some (.int .i64 PR[k]) := ((bcell HB.out).1 qb (qoff + k) hqb).trans (ints_cell hqr hlt)
      have htk := take_snoc hlt
      obtain ⟨d, hd⟩ := HDI.out _ (List.getElem_mem hlt)
      generalize PR[k] = x at hc2 htk hd
      have HTK := Lib.hid htk; have HD := Lib.hid hd; have HLT := Lib.hid hlt
      have HON : Hid (L.length < 1000000) := Lib.hid (by rw [HLL.out]; have := List.length_filter_le p (PR.take k); have := HPL.out; have := List.length_take_le k PR; omega)
      have HLE : Hid (L.length ≤ 256) := Lib.hid (by rw [HLL.out]; have h1 := List.length_filter_le p (PR.take k); have := HPL.out; rw [List.length_take] at h1; omega)
      clear htk hd hqr hqb hqb2
      obtain ⟨wo, hwo⟩ : ∃ wo, wo = wr := ⟨_, rfl⟩
      subst hwo
      go_wp2
      go_loopw [5, 8] (fun o u wr => o = .slice oa L.length oc ∧ Below wo.heap.size wo wr ∧ ∃ j : Nat, (∀ i z, i < j → ups (ndsV xs) i x = some z → z ∉ ids) ∧ ((∃ z, u = .int .i64 z ∧ j ≤ d ∧ ups (ndsV xs) j x = some z) ∨ (u = .int .i64 (-1) ∧ j = d + 1))) (fun _ u _ => distOf (ndsV xs) RO (intOf u))
      case atStart => exact ⟨rfl, Below.refl _ _, 0, fun i z h => by omega, .inl ⟨x, rfl, Nat.zero_le _, rfl⟩⟩
      case round =>
        obtain ⟨rfl, hbq, j, hno, h⟩ := hrel
        have HBQ := Lib.hid hbq; have HNO := Lib.hid hno
        have HW : Hid (Below w.heap.size w wr) := Lib.hid ((HB1.out.trans (HB.out.mono HB1.out.size)).trans (hbq.mono (Nat.le_trans HB1.out.size HB.out.size)))
        have HOWN2 := Lib.hid (own_keep HOWN.out fun q _ h2 => hbq.block q h2)
        clear hbq hno
        rcases h with ⟨z, rfl, hjd, hz⟩ | ⟨rfl, hj⟩
        · obtain ⟨z', n, hz', hn, hdz, hnx, hlast⟩ := chain HF.out HD.out hjd
          obtain rfl : z = z' := by rw [hz] at hz'; exact Option.some.inj hz'
          have hz0 : decide ((0 : Int) ≤ z) = true := by
            have h1 := fnd_some hn
            have := HF.out.nonneg n h1.1
            simp; omega
          have HZ := Lib.hid hz; have HN := Lib.hid hn; have HDZ := Lib.hid hdz; have HNX := Lib.hid hnx; have HLA := Lib.hid hlast; have HJD := Lib.hid hjd
          clear hz hz' hn hdz hnx hlast
          by_cases hin : z ∈ ids
          · have hq : decide (z ∈ ids) = true := by simpa using hin
            have HPT : Hid (p x = true) := Lib.hid ((HPX.out x d HD.out).2 ⟨j, z, hjd, HZ.out, hin⟩)
            clear hin
            go_wp2_with (first
              | (go_at_call 33; refine (HHAS.out wr z HW.out).mono ?_; rintro e w2 ⟨rfl, rfl⟩; rw [hq])
              | (refine wpl_slice1_int rfl _ rfl x rfl ?_; intro w4 hs4 hc4 hb4; have HC4 := Lib.hid hc4; have HB4 := Lib.hid hb4; have HS4 := Lib.hid hs4; have HOWN4 := Lib.hid (own_keep HOWN2.out fun q _ h2 => hb4.block q h2); clear hs4 hc4 hb4)
              | (at_builtin; refine wpl_append_int rfl _ _ rfl w1.heap.size _ _ rfl HOWN4.out _ x (0, 0) rfl HC4.out HON.out (Nat.le_trans (Nat.le_trans HB.out.size HBQ.out.size) HB4.out.size) ?_; intro v5 w5 hown5 hg5 hl5; have HOWN5 := Lib.hid hown5; have HG5 := Lib.hid hg5; clear hown5 hg5 hl5))
            go_roundw
            case rel =>
              refine ⟨k + 1, _, by have := HLT.out; omega, by go_num, HOWN5.out, ?_, ?_⟩
              · rw [HTK.out, List.filter_append, List.filter_cons_of_pos HPT.out, List.filter_nil, HLL.out]
              · exact ((HB.out.trans (HBQ.out.mono HB.out.size)).trans (HB4.out.mono (Nat.le_trans HB.out.size HBQ.out.size))).grown HG5.out (Nat.le_trans (Nat.le_trans HB.out.size HBQ.out.size) HB4.out.size) (fun q hq => (HOWN4.out.lt q hq).1)
            case measure => have := HLT.out; simp [intOf]; omega
          · have hq : decide (z ∈ ids) = false := by simpa using hin
            have HNI := Lib.hid hin
            have HCU := Lib.hid (HUP.out wr z n HW.out HN.out)
            clear hin
            have HNO2 : Hid (∀ i u, i < j + 1 → ups (ndsV xs) i x = some u → u ∉ ids) := Lib.hid fun i u hi hu => by
              by_cases hij : i < j
              · exact HNO.out i u hij hu
              · obtain rfl : i = j := by omega
                rw [HZ.out] at hu
                obtain rfl := Option.some.inj hu
                exact HNI.out
            by_cases hjd2 : j < d
            · have HX2 := Lib.hid (HNX.out hjd2)
              have HD2 : Hid (Dist (ndsV xs) RO n.par (d - j - 1)) := Lib.hid (dist_par (d := d - j - 1) HN.out (by rw [show d - j - 1 + 1 = d - j by omega]; exact HDZ.out))
              have HJ2 := Lib.hid hjd2
              clear hjd2
              generalize n.par = pz at HCU HX2 HD2
              go_wp2_with (first
                | (go_at_call 33; refine (HHAS.out wr z HW.out).mono ?_; rintro e w2 ⟨rfl, rfl⟩; rw [hq])
                | (go_at_call 32; refine HCU.out.mono ?_; rintro e w3 ⟨rfl, hb3⟩; have HB3 := Lib.hid hb3; clear hb3))
              go_roundw
              case rel => exact ⟨rfl, HBQ.out.trans (HB3.out.mono HBQ.out.size), j + 1, HNO2.out, .inl ⟨pz, rfl, HJ2.out, HX2.out⟩⟩
              case measure =>
                show distOf (ndsV xs) RO pz < distOf (ndsV xs) RO z
                rw [distOf_eq HF.out HD2.out, distOf_eq HF.out HDZ.out]
                have := HJ2.out
                omega
            · have hje : j = d := by omega
              have hpz := HLA.out hje
              have HJE := Lib.hid hje
              rw [hpz] at HCU
              clear hjd2 hje hpz
              go_wp2_with (first
                | (go_at_call 33; refine (HHAS.out wr z HW.out).mono ?_; rintro e w2 ⟨rfl, rfl⟩; rw [hq])
                | (go_at_call 32; refine HCU.out.mono ?_; rintro e w3 ⟨rfl, hb3⟩; have HB3 := Lib.hid hb3; clear hb3))
              go_roundw
              case rel => exact ⟨rfl, HBQ.out.trans (HB3.out.mono HBQ.out.size), j + 1, HNO2.out, .inr ⟨rfl, by rw [HJE.out]⟩⟩
              case measure =>
                show distOf (ndsV xs) RO (-1) < distOf (ndsV xs) RO z
                rw [distOf_neg HF.out, distOf_eq HF.out HDZ.out]
                omega
        · have HPF : Hid (p x = false) := Lib.hid (by
            cases hq : p x with
            | false => rfl
            | true =>
              obtain ⟨i, z, hi, hz, hin⟩ := (HPX.out x d HD.out).1 hq
              exact absurd hin (HNO.out i z (by omega) hz))
          go_wp2
          go_roundw
          case rel =>
            refine ⟨k + 1, L, by have := HLT.out; omega, by go_num, HOWN2.out, ?_, HB.out.trans (HBQ.out.mono HB.out.size)⟩
            rw [HTK.out, List.filter_append, List.filter_cons_of_neg (by rw [HPF.out]; exact Bool.false_ne_true), List.filter_nil, List.append_nil, HLL.out]
          case measure => have := HLT.out; simp [intOf]; omega
    · have hke : k = PR.length := by have := HK.out; omega
      go_wp2
      go_ret
      refine ⟨_, rfl, ?_, HB1.out.trans (HB.out.mono HB1.out.size)⟩
      have h1 := RowFrom.of_own HOWN.out (by decide)
      have h2 := HLL.out
      rw [hke, List.take_length] at h2
      rw [← h2]
      exact RowFrom.mono h1 HB1.out.size (Nat.le_refl _)
end Go.Proofs.YthbmnacleneflaaGreatDoor
/-
  Contract, for a run of one goroutine, of jalousieref8.Load: elements as a row, if they are one tree; else what is wrong. Condition: the elements lie in memory.
-/
set_option linter.unusedSimpArgs false
set_option linter.unusedVariables false
namespace Go.Proofs.YthbmnacleneflaaGreatDoor
open Go Go.RowKit
open Go.Proofs.YthbmnacleneflaaGreatDoor.dt (Nd fnd pre Deep ups Fits Dist fnd_some fnd_mem fnd_neg dist_root dist_kid dist_par dist_inj dist_lt deep_of pre_len pre_nodup pre_mem all_dist dist_of_pre oneTree elOk kidOk rootsN kidsN rootOf fits_of root_of_mem cloL Whole region_T T_take T_next T_list T_done wpAnyT Qk)

theorem rbox_is {bt : Int} {bn : ByteArray} {n1 d1 n2 d2 : Int} {v : Bool} (h : boxB bt bn n1 d1 n2 d2 = v) (w : World) (hb : I64 bt) (hs : bn.size ≤ maxLen) (h1 : I64 n1) (h2 : I64 d1) (h3 : I64 n2) (h4 : I64 d2) :
    Calls Tryz.prog 21 #[.agg #[.int .i64 bt, .string bn, .int .i64 n1, .int .i64 d1, .int .i64 n2, .int .i64 d2]] w fun e w' => e = .returned (.bool v) ∧ Below w.heap.size w w' := by
  subst h
  exact rbox_any bt bn n1 d1 n2 d2 w hb hs h1 h2 h3 h4
/-- What jalousieref8.Load hands back. -/
def RLoadP (w : World) (els : List El) (e : Ending) (w' : World) : Prop :=
  ∃ t, e = .returned (.tuple #[t, .int .i64 (loadE els)]) ∧ Below w.heap.size w w' ∧ (loadE els ≠ 0 → t = .pointer none) ∧
    (loadE els = 0 → ∃ T ys next, t = .pointer (some ⟨T, 0, none⟩) ∧ ys.map (·.el) = els ∧ RowT w' w'.heap.size T ys next ∧ Whole (ndsV ys) (rootOf (ndsV ys)))
theorem RLoadP.no {w w' : World} {els : List El} {c : Int} (h : loadE els = c) (hc : c ≠ 0) (hb : Below w.heap.size w w') : RLoadP w els (.returned (.tuple #[.pointer none, .int .i64 c])) w' :=
  ⟨.pointer none, ret_two h.symm, hb, fun _ => rfl, fun h0 => absurd (h.symm.trans h0) hc⟩
/-- What is known of the elements looked at so far. -/
structure ScanAt (xs : List Ev) (k : Nat) (last : Int) : Prop where
  prev : (k = 0 ∧ last = -1) ∨ (0 < k ∧ ∃ h : k - 1 < xs.length, last = xs[k - 1].el.id)
  scan : scanE (xs.map (·.el)) (-1) = scanE ((xs.drop k).map (·.el)) last
  le : ∀ j, ∀ h : j < xs.length, j < k → 0 ≤ xs[j].el.id ∧ xs[j].el.id ≤ last
  inc : ∀ i j, ∀ h : i < xs.length, ∀ h2 : j < xs.length, i < j → j < k → xs[i].el.id < xs[j].el.id
  lo : -1 ≤ last
  hi : last ≤ 1073741824
theorem ScanAt.next {xs : List Ev} {k : Nat} {last : Int} (h : ScanAt xs k last) (hk : k < xs.length) (hw : wrongE xs[k].el last = 0) : ScanAt xs (k + 1) xs[k].el.id := by
  have hz := wrong_zero hw
  refine ⟨.inr ⟨by omega, by simpa using hk, by simp⟩, ?_, fun j hj hjk => ?_, fun i j hi hj hij hjk => ?_, by omega, hz.2.2⟩
  · rw [h.scan, drop_cons hk, List.map_cons, scanE_cons, if_pos hw]
  · by_cases e : j = k
    · subst e; exact ⟨hz.1, Int.le_refl _⟩
    · have := h.le j hj (by omega); exact ⟨this.1, by omega⟩
  · by_cases e : j = k
    · subst e; have := h.le i hi hij; omega
    · exact h.inc i j hi hj hij (by omega)
theorem ScanAt.stop {xs : List Ev} {k : Nat} {last c : Int} (h : ScanAt xs k last) (hk : k < xs.length) (hw : wrongE xs[k].el last = c) (hc : c ≠ 0) : scanE (xs.map (·.el)) (-1) = c := by
  rw [h.scan, drop_cons hk, List.map_cons, scanE_cons, if_neg (by rw [hw]; exact hc), hw]
theorem ScanAt.nodup {xs : List Ev} {last : Int} (h : ScanAt xs xs.length last) : ((ndsV xs).map Nd.id).Nodup := by
  rw [List.nodup_iff_pairwise_ne, List.pairwise_iff_getElem]
  intro i j hi hj hij
  have hi' : i < xs.length := by simpa [ndsV] using hi
  have hj' : j < xs.length := by simpa [ndsV] using hj
  have := h.inc i j hi' hj' hij hj'
  simp only [ndsV, List.getElem_map, El.nd]
  omega
theorem ndsV_els {xs ys : List Ev} (h : ys.map (·.el) = xs.map (·.el)) : ndsV ys = ndsV xs := by
  have e : ∀ l : List Ev, ndsV l = (l.map (·.el)).map El.nd := fun l => by simp [ndsV]
  rw [e, e, h]

set_option maxRecDepth 100000 in
set_option maxHeartbeats 16000000 in
theorem rload_main (w : World) (v : Value) (xs : List Ev) (hx : ElsAt w.heap.size w v xs) (h1 : 1 ≤ xs.length) (h2 : xs.length ≤ 256) :
    Calls Tryz.prog 6 #[v] w (RLoadP w (xs.map (·.el))) := by
  have hlen : (xs.map (·.el)).length = xs.length := List.length_map _
  have HSC : Hid (∀ c, c ≠ 0 → scanE (xs.map (·.el)) (-1) = c → loadE (xs.map (·.el)) = c) := Lib.hid fun c hc he => by
    unfold loadE
    rw [hlen, if_neg (by omega), if_neg (by omega), if_pos (by rw [he]; exact hc), he]
  have HLD : Hid (scanE (xs.map (·.el)) (-1) = 0 → loadE (xs.map (·.el)) = if oneTree (ndsV xs) = false then 5 else @ite _ (DeepN (ndsV xs) (rootOf (ndsV xs))) (Classical.propDecidable _) 7 0) := Lib.hid fun he => by
    have e : ndsV xs = (xs.map (·.el)).map El.nd := by simp [ndsV]
    rw [e]
    unfold loadE
    rw [hlen, if_neg (by omega), if_neg (by omega), if_neg (by rw [he]; simp)]
  obtain ⟨va, vc, rfl⟩ := RowAt.slice hx.row
  have HX := Lib.hid hx; have HL := Lib.hid h2; have HL1 := Lib.hid h1
  have hll : (xs.length : Int) ≤ 256 := by omega
  have t0 : ((xs.length : Int) == 0) = false := by rw [beq_eq_false_iff_ne]; omega
  have t1 : decide ((256 : Int) < (xs.length : Int)) = false := by simp; omega
  clear hx h2 h1 hlen
  go_enter Tryz.func6, Tryz.ntmps6
  go_wp2
  go_loopw [20] (fun i wr => ∃ (k : Nat) (last : Int), k ≤ xs.length ∧ i = .int .i64 k ∧ ScanAt xs k last ∧ Below w.heap.size w wr) (fun i _ => xs.length - (intOf i).toNat)
  case atStart => exact ⟨0, -1, Nat.zero_le _, rfl, ⟨.inl ⟨rfl, rfl⟩, rfl, fun j h h2 => by omega, fun i j h h2 h3 h4 => by omega, Int.le_refl _, by decide⟩, Below.refl _ _⟩
  case round =>
    clear t0 t1
    obtain ⟨k, last, hk, rfl, hsc, hb⟩ := hrel
    have HS := Lib.hid hsc; have HB := Lib.hid hb; have HK := Lib.hid hk
    clear hsc hb
    by_cases hlt : k < xs.length
    · obtain ⟨bx, off, rfl, hbx, hrx⟩ := RowAt.place HX.out.row (by omega)
      obtain ⟨y, hy⟩ : ∃ y, xs[k] = y := ⟨_, rfl⟩
      have hxm : y ∈ xs := by rw [← hy]; exact List.getElem_mem hlt
      have HOK : Hid y.el.ok := Lib.hid (HX.out.ok y hxm)
      have HEL : Hid (∀ j u, y.cells.toList[j]? = some u → wr.cell? ⟨bx, off + k * 11 + j, none⟩ = some u) := Lib.hid (by
        intro j u hu
        rw [(bcell HB.out).1 bx _ hbx]
        have := elem_cells hrx hlt
        rw [hy] at this
        exact this j u hu)
      have HRX : Hid (∀ wz j, ∀ hj : j < xs.length, Below w.heap.size w wz → wz.cell? ⟨bx, off + j * 11, none⟩ = some (.int .i64 xs[j].el.id)) := Lib.hid fun wz j hj hz => by
        rw [(bcell hz).1 bx _ hbx]
        exact elem_cells hrx hj 0 _ rfl
      have HAT : Hid (AttrsAt w.heap.size w y.av y.el.attrs) := Lib.hid (HX.out.attrs y hxm)
      have HONE : Hid (y.kv.oneCell' = true ∧ y.av.oneCell' = true) := Lib.hid ⟨at_one (HX.out.kids y hxm), at_one HAT.out⟩
      obtain ⟨aa, ac, hav⟩ := RowAt.slice HAT.out
      have HAV := Lib.hid hav
      have HAT2 : Hid (AttrsAt w.heap.size w (.slice aa y.el.attrs.length ac) y.el.attrs) := Lib.hid (hav ▸ HAT.out)
      have HST : Hid (∀ c, c ≠ 0 → wrongE y.el last = c → loadE (xs.map (·.el)) = c) := Lib.hid fun c hc he => HSC.out c hc (HS.out.stop hlt (by rw [hy]; exact he) hc)
      have HNX : Hid (wrongE y.el last = 0 → ScanAt xs (k + 1) y.el.id) := Lib.hid fun he => by have := HS.out.next hlt (by rw [hy]; exact he); rw [hy] at this; exact this
      have HWE : Hid (wrongE y.el last = if y.el.id < 0 ∨ 1073741824 < y.el.id ∨ y.el.id ≤ last then 13 else if nameB y.el.tag = false then 10 else if 16 < y.el.attrs.length then 6 else restE y.el.attrs y.el.bt y.el.bn y.el.n1 y.el.d1 y.el.n2 y.el.d2) := Lib.hid rfl
      have HRE : Hid (restE y.el.attrs y.el.bt y.el.bn y.el.n1 y.el.d1 y.el.n2 y.el.d2 = if attrsE y.el.attrs y.el.attrs.length 0 ≠ 0 then attrsE y.el.attrs y.el.attrs.length 0 else if boxB y.el.bt y.el.bn y.el.n1 y.el.d1 y.el.n2 y.el.d2 = false then 8 else 0) := Lib.hid rfl
      clear hy hxm hrx hbx hav
      obtain ⟨wo, hwo⟩ : ∃ wo, wo = wr := ⟨_, rfl⟩
      subst hwo
      go_wp2_with (first
        | (refine wpList_load_range rfl 47 _ rfl bx (off + k * 11) rfl y.cells _ HEL.out Tryz.underlying47 rfl size47 ?_)
        | (refine wpl_alloc rfl 47 rfl _ (zero47 _) ?_; intro w3 hs3 hc3 hb3; have HS3 := Lib.hid hs3; have HC3 := Lib.hid hc3; have HB3 := Lib.hid hb3; clear hs3 hc3 hb3)
        | (refine wpl_store_el rfl _ _ rfl wo.heap.size y rfl rfl _ HC3.out rfl HONE.out ?_; intro w4 hs4 hc4 hf4; have HC4 := Lib.hid hc4; have HP4 : Hid (wo.heap.size < w4.heap.size) := Lib.hid (by have := hf4.2.2.2.1; have := HS3.out; omega); have HB4 := Lib.hid (HB3.out.trans (hf4.below (by have := HS3.out; omega) (Nat.le_refl _))); clear hs4 hc4 hf4))
      have HW4 : Hid (Below w.heap.size w w4) := Lib.hid (HB.out.trans (HB4.out.mono HB.out.size))
      have c0 : w4.cell? ⟨wo.heap.size, 0, none⟩ = some (.int .i64 y.el.id) := blk_cell HC4.out 0 _ rfl
      clear HS3 HC3 HB3 HB4
      by_cases ha : y.el.id < 0
      · have q0 : decide (y.el.id < 0) = true := by simpa using ha
        have HZ : Hid (loadE (xs.map (·.el)) = 13) := Lib.hid (HST.out 13 (by decide) (by rw [HWE.out, if_pos (.inl ha)]))
        have HA0 := Lib.hid ha
        clear ha q0
        have c0d : w4.drew.cell? ⟨wo.heap.size, 0, none⟩ = some (.int .i64 y.el.id) := c0
        refine wp_region_held_drew (S := (fun s => s = w4.drew)) (by kernel_rfl) rfl (fun hHeld => ?_)
        refine wpAnyH_take (i := 0) (v := .pointer (some ⟨wo.heap.size, 0, none⟩)) rfl (by kernel_rfl) (by kernel_rfl) (by kernel_rfl) (fun _ _ _ h => h) (Or.inl ⟨by kernel_rfl, fun s hs => by subst hs; go_simp⟩) hHeld ?_
        refine wpAnyH_take (i := 1) (v := .int .i64 y.el.id) rfl (by kernel_rfl) (by kernel_rfl) (by kernel_rfl) (fun _ _ _ h => h) (Or.inl ⟨by kernel_rfl, fun s hs => by subst hs; go_simp⟩) hHeld ?_
        refine wpAnyH_take (i := 2) (v := .bool true) rfl (by kernel_rfl) (by kernel_rfl) (by kernel_rfl) (fun _ _ _ h => h) (Or.inl ⟨by kernel_rfl, fun s hs => by subst hs; go_simp; exact HA0.out⟩) hHeld ?_
        refine wpAnyH_take (i := 3) (v := .bool true) rfl (by kernel_rfl) (by kernel_rfl) (by kernel_rfl) (fun _ _ _ h => h) (Or.inl ⟨by kernel_rfl, fun s hs => by subst hs; go_simp⟩) hHeld ?_
        refine wpAnyH_take (i := 4) (v := undef) rfl (by kernel_rfl) (by kernel_rfl) (by kernel_rfl) (fun _ _ _ h => h) (Or.inr ⟨by kernel_rfl, rfl⟩) hHeld ?_
        refine wpAnyH_take (i := 5) (v := undef) rfl (by kernel_rfl) (by kernel_rfl) (by kernel_rfl) (fun _ _ _ h => h) (Or.inr ⟨by kernel_rfl, rfl⟩) hHeld ?_
        refine wpAnyH_take (i := 6) (v := undef) rfl (by kernel_rfl) (by kernel_rfl) (by kernel_rfl) (fun _ _ _ h => h) (Or.inr ⟨by kernel_rfl, rfl⟩) hHeld ?_
        refine wpAnyH_take (i := 7) (v := .bool true) rfl (by kernel_rfl) (by kernel_rfl) (by kernel_rfl) (fun _ _ _ h => h) (Or.inl ⟨by kernel_rfl, fun s hs => by subst hs; go_simp⟩) hHeld ?_
        refine wpAnyH_take (i := 8) (v := .bool true) rfl (by kernel_rfl) (by kernel_rfl) (by kernel_rfl) (fun _ _ _ h => h) (Or.inl ⟨by kernel_rfl, fun s hs => by subst hs; go_simp⟩) hHeld ?_
        refine wpAnyH_take (i := 9) (v := undef) rfl (by kernel_rfl) (by kernel_rfl) (by kernel_rfl) (fun _ _ _ h => h) (Or.inr ⟨by kernel_rfl, rfl⟩) hHeld ?_
        refine wpAnyH_take (i := 10) (v := undef) rfl (by kernel_rfl) (by kernel_rfl) (by kernel_rfl) (fun _ _ _ h => h) (Or.inr ⟨by kernel_rfl, rfl⟩) hHeld ?_
        refine wpAnyH_take (i := 11) (v := undef) rfl (by kernel_rfl) (by kernel_rfl) (by kernel_rfl) (fun _ _ _ h => h) (Or.inr ⟨by kernel_rfl, rfl⟩) hHeld ?_
        refine wpAnyH_take (i := 12) (v := undef) rfl (by kernel_rfl) (by kernel_rfl) (by kernel_rfl) (fun _ _ _ h => h) (Or.inr ⟨by kernel_rfl, rfl⟩) hHeld ?_
        refine wpAnyH_take (i := 13) (v := undef) rfl (by kernel_rfl) (by kernel_rfl) (by kernel_rfl) (fun _ _ _ h => h) (Or.inr ⟨by kernel_rfl, rfl⟩) hHeld ?_
        refine wpAnyH_take (i := 14) (v := undef) rfl (by kernel_rfl) (by kernel_rfl) (by kernel_rfl) (fun _ _ _ h => h) (Or.inr ⟨by kernel_rfl, rfl⟩) hHeld ?_
        refine wpAnyH_take (i := 15) (v := undef) rfl (by kernel_rfl) (by kernel_rfl) (by kernel_rfl) (fun _ _ _ h => h) (Or.inr ⟨by kernel_rfl, rfl⟩) hHeld ?_
        refine wpAnyH_take (i := 16) (v := undef) rfl (by kernel_rfl) (by kernel_rfl) (by kernel_rfl) (fun _ _ _ h => h) (Or.inr ⟨by kernel_rfl, rfl⟩) hHeld ?_
        refine wpAnyH_take (i := 17) (v := undef) rfl (by kernel_rfl) (by kernel_rfl) (by kernel_rfl) (fun _ _ _ h => h) (Or.inr ⟨by kernel_rfl, rfl⟩) hHeld ?_
        refine wpAnyH_take (i := 18) (v := undef) rfl (by kernel_rfl) (by kernel_rfl) (by kernel_rfl) (fun _ _ _ h => h) (Or.inr ⟨by kernel_rfl, rfl⟩) hHeld ?_
        refine wpAnyH_take (i := 19) (v := undef) rfl (by kernel_rfl) (by kernel_rfl) (by kernel_rfl) (fun _ _ _ h => h) (Or.inr ⟨by kernel_rfl, rfl⟩) hHeld ?_
        refine wpAnyH_take (i := 20) (v := undef) rfl (by kernel_rfl) (by kernel_rfl) (by kernel_rfl) (fun _ _ _ h => h) (Or.inr ⟨by kernel_rfl, rfl⟩) hHeld ?_
        refine wpAnyH_take (i := 21) (v := undef) rfl (by kernel_rfl) (by kernel_rfl) (by kernel_rfl) (fun _ _ _ h => h) (Or.inr ⟨by kernel_rfl, rfl⟩) hHeld ?_
        refine wpAnyH_take (i := 22) (v := .bool true) rfl (by kernel_rfl) (by kernel_rfl) (by kernel_rfl) (fun _ _ _ h => h) (Or.inl ⟨by kernel_rfl, fun s hs => by subst hs; go_simp⟩) hHeld ?_
        refine wpAnyH_take (i := 23) (v := .bool true) rfl (by kernel_rfl) (by kernel_rfl) (by kernel_rfl) (fun _ _ _ h => h) (Or.inl ⟨by kernel_rfl, fun s hs => by subst hs; go_simp⟩) hHeld ?_
        refine wpAnyH_done (by kernel_rfl) ?_ _
        clear hHeld
        go_simp
        go_wp2
        go_ret2
        exact RLoadP.no HZ.out (by decide) (below_drewN HW4.out 1)
      · have q0 : decide (y.el.id < 0) = false := by simpa using ha
        by_cases hb : 1073741824 < y.el.id
        · have q1 : decide (1073741824 < y.el.id) = true := by simpa using hb
          have HZ : Hid (loadE (xs.map (·.el)) = 13) := Lib.hid (HST.out 13 (by decide) (by rw [HWE.out, if_pos (.inr (.inl hb))]))
          have HA0 := Lib.hid ha; have HB0 := Lib.hid hb
          clear ha hb q0 q1
          have c0d : w4.drew.cell? ⟨wo.heap.size, 0, none⟩ = some (.int .i64 y.el.id) := c0
          refine wp_region_held_drew (S := (fun s => s = w4.drew)) (by kernel_rfl) rfl (fun hHeld => ?_)
          refine wpAnyH_take (i := 0) (v := .pointer (some ⟨wo.heap.size, 0, none⟩)) rfl (by kernel_rfl) (by kernel_rfl) (by kernel_rfl) (fun _ _ _ h => h) (Or.inl ⟨by kernel_rfl, fun s hs => by subst hs; go_simp⟩) hHeld ?_
          refine wpAnyH_take (i := 1) (v := .int .i64 y.el.id) rfl (by kernel_rfl) (by kernel_rfl) (by kernel_rfl) (fun _ _ _ h => h) (Or.inl ⟨by kernel_rfl, fun s hs => by subst hs; go_simp⟩) hHeld ?_
          refine wpAnyH_take (i := 2) (v := .bool false) rfl (by kernel_rfl) (by kernel_rfl) (by kernel_rfl) (fun _ _ _ h => h) (Or.inl ⟨by kernel_rfl, fun s hs => by subst hs; go_simp; exact Int.not_lt.1 HA0.out⟩) hHeld ?_
          refine wpAnyH_take (i := 3) (v := .bool false) rfl (by kernel_rfl) (by kernel_rfl) (by kernel_rfl) (fun _ _ _ h => h) (Or.inl ⟨by kernel_rfl, fun s hs => by subst hs; go_simp⟩) hHeld ?_
          refine wpAnyH_take (i := 4) (v := .pointer (some ⟨wo.heap.size, 0, none⟩)) rfl (by kernel_rfl) (by kernel_rfl) (by kernel_rfl) (fun _ _ _ h => h) (Or.inl ⟨by kernel_rfl, fun s hs => by subst hs; go_simp⟩) hHeld ?_
          refine wpAnyH_take (i := 5) (v := .int .i64 y.el.id) rfl (by kernel_rfl) (by kernel_rfl) (by kernel_rfl) (fun _ _ _ h => h) (Or.inl ⟨by kernel_rfl, fun s hs => by subst hs; go_simp⟩) hHeld ?_
          refine wpAnyH_take (i := 6) (v := .bool true) rfl (by kernel_rfl) (by kernel_rfl) (by kernel_rfl) (fun _ _ _ h => h) (Or.inl ⟨by kernel_rfl, fun s hs => by subst hs; go_simp; exact HB0.out⟩) hHeld ?_
          refine wpAnyH_take (i := 7) (v := .bool true) rfl (by kernel_rfl) (by kernel_rfl) (by kernel_rfl) (fun _ _ _ h => h) (Or.inl ⟨by kernel_rfl, fun s hs => by subst hs; go_simp⟩) hHeld ?_
          refine wpAnyH_take (i := 8) (v := .bool true) rfl (by kernel_rfl) (by kernel_rfl) (by kernel_rfl) (fun _ _ _ h => h) (Or.inl ⟨by kernel_rfl, fun s hs => by subst hs; go_simp⟩) hHeld ?_
          refine wpAnyH_take (i := 9) (v := undef) rfl (by kernel_rfl) (by kernel_rfl) (by kernel_rfl) (fun _ _ _ h => h) (Or.inr ⟨by kernel_rfl, rfl⟩) hHeld ?_
          refine wpAnyH_take (i := 10) (v := undef) rfl (by kernel_rfl) (by kernel_rfl) (by kernel_rfl) (fun _ _ _ h => h) (Or.inr ⟨by kernel_rfl, rfl⟩) hHeld ?_
          refine wpAnyH_take (i := 11) (v := undef) rfl (by kernel_rfl) (by kernel_rfl) (by kernel_rfl) (fun _ _ _ h => h) (Or.inr ⟨by kernel_rfl, rfl⟩) hHeld ?_
          refine wpAnyH_take (i := 12) (v := undef) rfl (by kernel_rfl) (by kernel_rfl) (by kernel_rfl) (fun _ _ _ h => h) (Or.inr ⟨by kernel_rfl, rfl⟩) hHeld ?_
          refine wpAnyH_take (i := 13) (v := undef) rfl (by kernel_rfl) (by kernel_rfl) (by kernel_rfl) (fun _ _ _ h => h) (Or.inr ⟨by kernel_rfl, rfl⟩) hHeld ?_
          refine wpAnyH_take (i := 14) (v := undef) rfl (by kernel_rfl) (by kernel_rfl) (by kernel_rfl) (fun _ _ _ h => h) (Or.inr ⟨by kernel_rfl, rfl⟩) hHeld ?_
          refine wpAnyH_take (i := 15) (v := undef) rfl (by kernel_rfl) (by kernel_rfl) (by kernel_rfl) (fun _ _ _ h => h) (Or.inr ⟨by kernel_rfl, rfl⟩) hHeld ?_
          refine wpAnyH_take (i := 16) (v := undef) rfl (by kernel_rfl) (by kernel_rfl) (by kernel_rfl) (fun _ _ _ h => h) (Or.inr ⟨by kernel_rfl, rfl⟩) hHeld ?_
          refine wpAnyH_take (i := 17) (v := undef) rfl (by kernel_rfl) (by kernel_rfl) (by kernel_rfl) (fun _ _ _ h => h) (Or.inr ⟨by kernel_rfl, rfl⟩) hHeld ?_
          refine wpAnyH_take (i := 18) (v := undef) rfl (by kernel_rfl) (by kernel_rfl) (by kernel_rfl) (fun _ _ _ h => h) (Or.inr ⟨by kernel_rfl, rfl⟩) hHeld ?_
          refine wpAnyH_take (i := 19) (v := undef) rfl (by kernel_rfl) (by kernel_rfl) (by kernel_rfl) (fun _ _ _ h => h) (Or.inr ⟨by kernel_rfl, rfl⟩) hHeld ?_
          refine wpAnyH_take (i := 20) (v := undef) rfl (by kernel_rfl) (by kernel_rfl) (by kernel_rfl) (fun _ _ _ h => h) (Or.inr ⟨by kernel_rfl, rfl⟩) hHeld ?_
          refine wpAnyH_take (i := 21) (v := undef) rfl (by kernel_rfl) (by kernel_rfl) (by kernel_rfl) (fun _ _ _ h => h) (Or.inr ⟨by kernel_rfl, rfl⟩) hHeld ?_
          refine wpAnyH_take (i := 22) (v := .bool true) rfl (by kernel_rfl) (by kernel_rfl) (by kernel_rfl) (fun _ _ _ h => h) (Or.inl ⟨by kernel_rfl, fun s hs => by subst hs; go_simp⟩) hHeld ?_
          refine wpAnyH_take (i := 23) (v := .bool true) rfl (by kernel_rfl) (by kernel_rfl) (by kernel_rfl) (fun _ _ _ h => h) (Or.inl ⟨by kernel_rfl, fun s hs => by subst hs; go_simp⟩) hHeld ?_
          refine wpAnyH_done (by kernel_rfl) ?_ _
          clear hHeld
          go_simp
          go_wp2
          go_ret2
          exact RLoadP.no HZ.out (by decide) (below_drewN HW4.out 1)
        · have q1 : decide (1073741824 < y.el.id) = false := by simpa using hb
          by_cases hk0 : k = 0
          · have hlast : last = -1 := by rcases HS.out.prev with ⟨_, e⟩ | ⟨e, _⟩; exact e; omega
            have HC : Hid (¬ (y.el.id < 0 ∨ 1073741824 < y.el.id ∨ y.el.id ≤ last)) := Lib.hid (by omega)
            subst hk0
            have HA0 := Lib.hid ha; have HB0 := Lib.hid hb
            clear ha hb hlast q0 q1
            have c0d : w4.drew.cell? ⟨wo.heap.size, 0, none⟩ = some (.int .i64 y.el.id) := c0
            refine wp_region_held_drew (S := (fun s => s = w4.drew)) (by kernel_rfl) rfl (fun hHeld => ?_)
            refine wpAnyH_take (i := 0) (v := .pointer (some ⟨wo.heap.size, 0, none⟩)) rfl (by kernel_rfl) (by kernel_rfl) (by kernel_rfl) (fun _ _ _ h => h) (Or.inl ⟨by kernel_rfl, fun s hs => by subst hs; go_simp⟩) hHeld ?_
            refine wpAnyH_take (i := 1) (v := .int .i64 y.el.id) rfl (by kernel_rfl) (by kernel_rfl) (by kernel_rfl) (fun _ _ _ h => h) (Or.inl ⟨by kernel_rfl, fun s hs => by subst hs; go_simp⟩) hHeld ?_
            refine wpAnyH_take (i := 2) (v := .bool false) rfl (by kernel_rfl) (by kernel_rfl) (by kernel_rfl) (fun _ _ _ h => h) (Or.inl ⟨by kernel_rfl, fun s hs => by subst hs; go_simp; exact Int.not_lt.1 HA0.out⟩) hHeld ?_
            refine wpAnyH_take (i := 3) (v := .bool false) rfl (by kernel_rfl) (by kernel_rfl) (by kernel_rfl) (fun _ _ _ h => h) (Or.inl ⟨by kernel_rfl, fun s hs => by subst hs; go_simp⟩) hHeld ?_
            refine wpAnyH_take (i := 4) (v := .pointer (some ⟨wo.heap.size, 0, none⟩)) rfl (by kernel_rfl) (by kernel_rfl) (by kernel_rfl) (fun _ _ _ h => h) (Or.inl ⟨by kernel_rfl, fun s hs => by subst hs; go_simp⟩) hHeld ?_
            refine wpAnyH_take (i := 5) (v := .int .i64 y.el.id) rfl (by kernel_rfl) (by kernel_rfl) (by kernel_rfl) (fun _ _ _ h => h) (Or.inl ⟨by kernel_rfl, fun s hs => by subst hs; go_simp⟩) hHeld ?_
            refine wpAnyH_take (i := 6) (v := .bool false) rfl (by kernel_rfl) (by kernel_rfl) (by kernel_rfl) (fun _ _ _ h => h) (Or.inl ⟨by kernel_rfl, fun s hs => by subst hs; go_simp; exact Int.not_lt.1 HB0.out⟩) hHeld ?_
            refine wpAnyH_take (i := 7) (v := .bool false) rfl (by kernel_rfl) (by kernel_rfl) (by kernel_rfl) (fun _ _ _ h => h) (Or.inl ⟨by kernel_rfl, fun s hs => by subst hs; go_simp⟩) hHeld ?_
            refine wpAnyH_take (i := 8) (v := .bool false) rfl (by kernel_rfl) (by kernel_rfl) (by kernel_rfl) (fun _ _ _ h => h) (Or.inl ⟨by kernel_rfl, fun s hs => by subst hs; go_simp⟩) hHeld ?_
            refine wpAnyH_take (i := 9) (v := .int .i64 (0 : Nat)) rfl (by kernel_rfl) (by kernel_rfl) (by kernel_rfl) (fun _ _ _ h => h) (Or.inl ⟨by kernel_rfl, fun s hs => by subst hs; go_simp⟩) hHeld ?_
            refine wpAnyH_take (i := 10) (v := .bool false) rfl (by kernel_rfl) (by kernel_rfl) (by kernel_rfl) (fun _ _ _ h => h) (Or.inl ⟨by kernel_rfl, fun s hs => by subst hs; go_simp⟩) hHeld ?_
            refine wpAnyH_take (i := 11) (v := .bool false) rfl (by kernel_rfl) (by kernel_rfl) (by kernel_rfl) (fun _ _ _ h => h) (Or.inl ⟨by kernel_rfl, fun s hs => by subst hs; go_simp⟩) hHeld ?_
            refine wpAnyH_take (i := 12) (v := undef) rfl (by kernel_rfl) (by kernel_rfl) (by kernel_rfl) (fun _ _ _ h => h) (Or.inr ⟨by kernel_rfl, rfl⟩) hHeld ?_
            refine wpAnyH_take (i := 13) (v := undef) rfl (by kernel_rfl) (by kernel_rfl) (by kernel_rfl) (fun _ _ _ h => h) (Or.inr ⟨by kernel_rfl, rfl⟩) hHeld ?_
            refine wpAnyH_take (i := 14) (v := undef) rfl (by kernel_rfl) (by kernel_rfl) (by kernel_rfl) (fun _ _ _ h => h) (Or.inr ⟨by kernel_rfl, rfl⟩) hHeld ?_
            refine wpAnyH_take (i := 15) (v := undef) rfl (by kernel_rfl) (by kernel_rfl) (by kernel_rfl) (fun _ _ _ h => h) (Or.inr ⟨by kernel_rfl, rfl⟩) hHeld ?_
            refine wpAnyH_take (i := 16) (v := undef) rfl (by kernel_rfl) (by kernel_rfl) (by kernel_rfl) (fun _ _ _ h => h) (Or.inr ⟨by kernel_rfl, rfl⟩) hHeld ?_
            refine wpAnyH_take (i := 17) (v := undef) rfl (by kernel_rfl) (by kernel_rfl) (by kernel_rfl) (fun _ _ _ h => h) (Or.inr ⟨by kernel_rfl, rfl⟩) hHeld ?_
            refine wpAnyH_take (i := 18) (v := undef) rfl (by kernel_rfl) (by kernel_rfl) (by kernel_rfl) (fun _ _ _ h => h) (Or.inr ⟨by kernel_rfl, rfl⟩) hHeld ?_
            refine wpAnyH_take (i := 19) (v := undef) rfl (by kernel_rfl) (by kernel_rfl) (by kernel_rfl) (fun _ _ _ h => h) (Or.inr ⟨by kernel_rfl, rfl⟩) hHeld ?_
            refine wpAnyH_take (i := 20) (v := undef) rfl (by kernel_rfl) (by kernel_rfl) (by kernel_rfl) (fun _ _ _ h => h) (Or.inr ⟨by kernel_rfl, rfl⟩) hHeld ?_
            refine wpAnyH_take (i := 21) (v := .bool false) rfl (by kernel_rfl) (by kernel_rfl) (by kernel_rfl) (fun _ _ _ h => h) (Or.inl ⟨by kernel_rfl, fun s hs => by subst hs; go_simp⟩) hHeld ?_
            refine wpAnyH_take (i := 22) (v := .bool false) rfl (by kernel_rfl) (by kernel_rfl) (by kernel_rfl) (fun _ _ _ h => h) (Or.inl ⟨by kernel_rfl, fun s hs => by subst hs; go_simp⟩) hHeld ?_
            refine wpAnyH_take (i := 23) (v := .bool false) rfl (by kernel_rfl) (by kernel_rfl) (by kernel_rfl) (fun _ _ _ h => h) (Or.inl ⟨by kernel_rfl, fun s hs => by subst hs; go_simp⟩) hHeld ?_
            refine wpAnyH_done (by kernel_rfl) ?_ _
            clear hHeld
            go_simp
            clear c0
            have HW5 : Hid (Below w.heap.size w w4.drew) := Lib.hid (below_drewN HW4.out 1)
            have HC5 : Hid ((w4.drew).heap[wo.heap.size]? = some (.cells y.cells 47 (0, 0))) := HC4
            have HP5 : Hid (wo.heap.size < (w4.drew).heap.size) := HP4
            clear HW4 HC4 HP4
            generalize w4.drew = w5 at HW5 HC5 HP5 ⊢
            have c2 : w5.cell? ⟨wo.heap.size, 2, none⟩ = some (.string y.el.tag) := blk_cell HC5.out 2 _ rfl
            cases hq : nameB y.el.tag with
            | false =>
              have HQ := Lib.hid hq
              have HZ : Hid (loadE (xs.map (·.el)) = 10) := Lib.hid (HST.out 10 (by decide) (by rw [HWE.out, if_neg HC.out, if_pos hq]))
              clear hq
              go_wp2_with (go_at_call 19; refine (rname_is HQ.out _ HOK.out.tag).mono ?_; rintro e w6 ⟨rfl, hb6⟩; have HW6 := Lib.hid (HW5.out.trans (hb6.mono HW5.out.size)); have HC6 := Lib.hid ((hb6.block _ HP5.out).trans HC5.out); have HP6 := Lib.hid (Nat.lt_of_lt_of_le HP5.out hb6.size); have c4 : w6.cell? ⟨wo.heap.size, 4, none⟩ = some (.slice aa y.el.attrs.length ac) := (by rw [← HAV.out]; exact blk_cell HC6.out 4 _ rfl); clear hb6)
              go_ret2
              exact RLoadP.no HZ.out (by decide) HW6.out
            | true =>
              have HQ := Lib.hid hq
              have HC2 : Hid (¬ (nameB y.el.tag = false)) := Lib.hid (by rw [hq]; decide)
              clear hq
              by_cases h16 : 16 < y.el.attrs.length
              · have q3 : decide ((16 : Int) < (y.el.attrs.length : Int)) = true := by simp; omega
                have HZ : Hid (loadE (xs.map (·.el)) = 6) := Lib.hid (HST.out 6 (by decide) (by rw [HWE.out, if_neg HC.out, if_neg HC2.out, if_pos h16]))
                clear h16
                go_wp2_with (go_at_call 19; refine (rname_is HQ.out _ HOK.out.tag).mono ?_; rintro e w6 ⟨rfl, hb6⟩; have HW6 := Lib.hid (HW5.out.trans (hb6.mono HW5.out.size)); have HC6 := Lib.hid ((hb6.block _ HP5.out).trans HC5.out); have HP6 := Lib.hid (Nat.lt_of_lt_of_le HP5.out hb6.size); have c4 : w6.cell? ⟨wo.heap.size, 4, none⟩ = some (.slice aa y.el.attrs.length ac) := (by rw [← HAV.out]; exact blk_cell HC6.out 4 _ rfl); clear hb6)
                go_ret2
                exact RLoadP.no HZ.out (by decide) HW6.out
              · have q3 : decide ((16 : Int) < (y.el.attrs.length : Int)) = false := by simp; omega
                have H16 : Hid (y.el.attrs.length ≤ 16) := Lib.hid (by omega)
                have HWR : Hid (wrongE y.el last = restE y.el.attrs y.el.bt y.el.bn y.el.n1 y.el.d1 y.el.n2 y.el.d2) := Lib.hid (by rw [HWE.out, if_neg HC.out, if_neg HC2.out, if_neg h16])
                clear h16
                obtain ⟨ae, hae⟩ : ∃ ae, attrsE y.el.attrs y.el.attrs.length 0 = ae := ⟨_, rfl⟩
                have HAE := Lib.hid hae
                clear hae
                by_cases hae : ae = 0
                · have q4 : (ae != 0) = false := by simpa using hae
                  have HA0 := Lib.hid hae
                  clear hae
                  cases hbx : boxB y.el.bt y.el.bn y.el.n1 y.el.d1 y.el.n2 y.el.d2 with
                  | false =>
                    have HBX := Lib.hid hbx
                    have HZ : Hid (loadE (xs.map (·.el)) = 8) := Lib.hid (HST.out 8 (by decide) (by rw [HWR.out, HRE.out, HAE.out, HA0.out, hbx]; rfl))
                    clear hbx
                    go_wp2_with (first
                      | (go_at_call 19; refine (rname_is HQ.out _ HOK.out.tag).mono ?_; rintro e w6 ⟨rfl, hb6⟩; have HW6 := Lib.hid (HW5.out.trans (hb6.mono HW5.out.size)); have HC6 := Lib.hid ((hb6.block _ HP5.out).trans HC5.out); have HP6 := Lib.hid (Nat.lt_of_lt_of_le HP5.out hb6.size); have c4 : w6.cell? ⟨wo.heap.size, 4, none⟩ = some (.slice aa y.el.attrs.length ac) := (by rw [← HAV.out]; exact blk_cell HC6.out 4 _ rfl); clear hb6)
                      | (go_at_call 20; refine (attrs_any aa _ ac _ y.el.attrs rfl H16.out ((HAT2.out.keep HW6.out).mono HW6.out.size) HOK.out.attrs).mono ?_; rintro e w7 ⟨rfl, hb7⟩; rw [HAE.out]; have HW7 := Lib.hid (HW6.out.trans (hb7.mono HW6.out.size)); have HC7 := Lib.hid ((hb7.block _ HP6.out).trans HC6.out); have b0 : w7.cell? ⟨wo.heap.size, 5, none⟩ = some (.int .i64 y.el.bt) := blk_cell HC7.out 5 _ rfl; have b1 : w7.cell? ⟨wo.heap.size, 6, none⟩ = some (.string y.el.bn) := blk_cell HC7.out 6 _ rfl; have b2 : w7.cell? ⟨wo.heap.size, 7, none⟩ = some (.int .i64 y.el.n1) := blk_cell HC7.out 7 _ rfl; have b3 : w7.cell? ⟨wo.heap.size, 8, none⟩ = some (.int .i64 y.el.d1) := blk_cell HC7.out 8 _ rfl; have b4 : w7.cell? ⟨wo.heap.size, 9, none⟩ = some (.int .i64 y.el.n2) := blk_cell HC7.out 9 _ rfl; have b5 : w7.cell? ⟨wo.heap.size, 10, none⟩ = some (.int .i64 y.el.d2) := blk_cell HC7.out 10 _ rfl; clear hb7)
                      | (go_at_call 21; refine (rbox_is HBX.out _ HOK.out.bt HOK.out.bn HOK.out.n1 HOK.out.d1 HOK.out.n2 HOK.out.d2).mono ?_; rintro e w8 ⟨rfl, hb8⟩; have HW8 := Lib.hid (HW7.out.trans (hb8.mono HW7.out.size)); clear hb8))
                    go_ret2
                    exact RLoadP.no HZ.out (by decide) HW8.out
                  | true =>
                    have HBX := Lib.hid hbx
                    have HZ : Hid (wrongE y.el last = 0) := Lib.hid (by rw [HWR.out, HRE.out, HAE.out, HA0.out, hbx]; rfl)
                    clear hbx
                    go_wp2_with (first
                      | (go_at_call 19; refine (rname_is HQ.out _ HOK.out.tag).mono ?_; rintro e w6 ⟨rfl, hb6⟩; have HW6 := Lib.hid (HW5.out.trans (hb6.mono HW5.out.size)); have HC6 := Lib.hid ((hb6.block _ HP5.out).trans HC5.out); have HP6 := Lib.hid (Nat.lt_of_lt_of_le HP5.out hb6.size); have c4 : w6.cell? ⟨wo.heap.size, 4, none⟩ = some (.slice aa y.el.attrs.length ac) := (by rw [← HAV.out]; exact blk_cell HC6.out 4 _ rfl); clear hb6)
                      | (go_at_call 20; refine (attrs_any aa _ ac _ y.el.attrs rfl H16.out ((HAT2.out.keep HW6.out).mono HW6.out.size) HOK.out.attrs).mono ?_; rintro e w7 ⟨rfl, hb7⟩; rw [HAE.out]; have HW7 := Lib.hid (HW6.out.trans (hb7.mono HW6.out.size)); have HC7 := Lib.hid ((hb7.block _ HP6.out).trans HC6.out); have b0 : w7.cell? ⟨wo.heap.size, 5, none⟩ = some (.int .i64 y.el.bt) := blk_cell HC7.out 5 _ rfl; have b1 : w7.cell? ⟨wo.heap.size, 6, none⟩ = some (.string y.el.bn) := blk_cell HC7.out 6 _ rfl; have b2 : w7.cell? ⟨wo.heap.size, 7, none⟩ = some (.int .i64 y.el.n1) := blk_cell HC7.out 7 _ rfl; have b3 : w7.cell? ⟨wo.heap.size, 8, none⟩ = some (.int .i64 y.el.d1) := blk_cell HC7.out 8 _ rfl; have b4 : w7.cell? ⟨wo.heap.size, 9, none⟩ = some (.int .i64 y.el.n2) := blk_cell HC7.out 9 _ rfl; have b5 : w7.cell? ⟨wo.heap.size, 10, none⟩ = some (.int .i64 y.el.d2) := blk_cell HC7.out 10 _ rfl; clear hb7)
                      | (go_at_call 21; refine (rbox_is HBX.out _ HOK.out.bt HOK.out.bn HOK.out.n1 HOK.out.d1 HOK.out.n2 HOK.out.d2).mono ?_; rintro e w8 ⟨rfl, hb8⟩; have HW8 := Lib.hid (HW7.out.trans (hb8.mono HW7.out.size)); clear hb8))
                    go_roundw
                    case rel => exact ⟨_, y.el.id, by omega, by go_num, HNX.out HZ.out, HW8.out⟩
                    case measure => simp [intOf]; omega
                · have q4 : (ae != 0) = true := by simpa using hae
                  have HZ : Hid (loadE (xs.map (·.el)) = ae) := Lib.hid (HST.out ae hae (by rw [HWR.out, HRE.out, HAE.out, if_pos hae]))
                  have HNE := Lib.hid hae
                  clear hae
                  go_wp2_with (first
                    | (go_at_call 19; refine (rname_is HQ.out _ HOK.out.tag).mono ?_; rintro e w6 ⟨rfl, hb6⟩; have HW6 := Lib.hid (HW5.out.trans (hb6.mono HW5.out.size)); have HC6 := Lib.hid ((hb6.block _ HP5.out).trans HC5.out); have HP6 := Lib.hid (Nat.lt_of_lt_of_le HP5.out hb6.size); have c4 : w6.cell? ⟨wo.heap.size, 4, none⟩ = some (.slice aa y.el.attrs.length ac) := (by rw [← HAV.out]; exact blk_cell HC6.out 4 _ rfl); clear hb6)
                    | (go_at_call 20; refine (attrs_any aa _ ac _ y.el.attrs rfl H16.out ((HAT2.out.keep HW6.out).mono HW6.out.size) HOK.out.attrs).mono ?_; rintro e w7 ⟨rfl, hb7⟩; rw [HAE.out]; have HW7 := Lib.hid (HW6.out.trans (hb7.mono HW6.out.size)); have HC7 := Lib.hid ((hb7.block _ HP6.out).trans HC6.out); have b0 : w7.cell? ⟨wo.heap.size, 5, none⟩ = some (.int .i64 y.el.bt) := blk_cell HC7.out 5 _ rfl; have b1 : w7.cell? ⟨wo.heap.size, 6, none⟩ = some (.string y.el.bn) := blk_cell HC7.out 6 _ rfl; have b2 : w7.cell? ⟨wo.heap.size, 7, none⟩ = some (.int .i64 y.el.n1) := blk_cell HC7.out 7 _ rfl; have b3 : w7.cell? ⟨wo.heap.size, 8, none⟩ = some (.int .i64 y.el.d1) := blk_cell HC7.out 8 _ rfl; have b4 : w7.cell? ⟨wo.heap.size, 9, none⟩ = some (.int .i64 y.el.n2) := blk_cell HC7.out 9 _ rfl; have b5 : w7.cell? ⟨wo.heap.size, 10, none⟩ = some (.int .i64 y.el.d2) := blk_cell HC7.out 10 _ rfl; clear hb7))
                  go_ret2
                  exact RLoadP.no HZ.out HNE.out HW7.out
          · obtain ⟨k', rfl⟩ : ∃ k', k = k' + 1 := ⟨k - 1, by omega⟩
            have hkl' : k' < xs.length := by omega
            have hlast : last = xs[k'].el.id := by rcases HS.out.prev with ⟨e, _⟩ | ⟨_, h, e⟩; omega; simpa using e
            have cp : w4.cell? ⟨bx, off + k' * 11, none⟩ = some (.int .i64 last) := by rw [hlast]; exact HRX.out w4 k' hkl' HW4.out
            have hkl2 : (k' : Int) < (xs.length : Int) := by omega
            have hk1 : decide ((0 : Int) < (k' : Int) + 1) = true := by simp <;> omega
            clear hlast hk0
            by_cases hc : y.el.id ≤ last
            · have q2 : decide (y.el.id ≤ last) = true := by simpa using hc
              have HZ : Hid (loadE (xs.map (·.el)) = 13) := Lib.hid (HST.out 13 (by decide) (by rw [HWE.out, if_pos (.inr (.inr hc))]))
              have HA0 := Lib.hid ha; have HB0 := Lib.hid hb; have HC0 := Lib.hid hc; have HWK : Hid (IntKind.i64.wrap (k' : Int) = (k' : Int)) := Lib.hid (by simp [IntKind.wrap, IntKind.bits, IntKind.signed]; omega)
              clear ha hb hc q0 q1 q2
              have c0d : w4.drew.cell? ⟨wo.heap.size, 0, none⟩ = some (.int .i64 y.el.id) := c0
              refine wp_region_held_drew (S := (fun s => s = w4.drew)) (by kernel_rfl) rfl (fun hHeld => ?_)
              refine wpAnyH_take (i := 0) (v := .pointer (some ⟨wo.heap.size, 0, none⟩)) rfl (by kernel_rfl) (by kernel_rfl) (by kernel_rfl) (fun _ _ _ h => h) (Or.inl ⟨by kernel_rfl, fun s hs => by subst hs; go_simp⟩) hHeld ?_
              refine wpAnyH_take (i := 1) (v := .int .i64 y.el.id) rfl (by kernel_rfl) (by kernel_rfl) (by kernel_rfl) (fun _ _ _ h => h) (Or.inl ⟨by kernel_rfl, fun s hs => by subst hs; go_simp⟩) hHeld ?_
              have cpd : w4.drew.cell? ⟨bx, off + k' * 11, none⟩ = some (.int .i64 last) := cp
              refine wpAnyH_take (i := 2) (v := .bool false) rfl (by kernel_rfl) (by kernel_rfl) (by kernel_rfl) (fun _ _ _ h => h) (Or.inl ⟨by kernel_rfl, fun s hs => by subst hs; go_simp; exact Int.not_lt.1 HA0.out⟩) hHeld ?_
              refine wpAnyH_take (i := 3) (v := .bool false) rfl (by kernel_rfl) (by kernel_rfl) (by kernel_rfl) (fun _ _ _ h => h) (Or.inl ⟨by kernel_rfl, fun s hs => by subst hs; go_simp⟩) hHeld ?_
              refine wpAnyH_take (i := 4) (v := .pointer (some ⟨wo.heap.size, 0, none⟩)) rfl (by kernel_rfl) (by kernel_rfl) (by kernel_rfl) (fun _ _ _ h => h) (Or.inl ⟨by kernel_rfl, fun s hs => by subst hs; go_simp⟩) hHeld ?_
              refine wpAnyH_take (i := 5) (v := .int .i64 y.el.id) rfl (by kernel_rfl) (by kernel_rfl) (by kernel_rfl) (fun _ _ _ h => h) (Or.inl ⟨by kernel_rfl, fun s hs => by subst hs; go_simp⟩) hHeld ?_
              refine wpAnyH_take (i := 6) (v := .bool false) rfl (by kernel_rfl) (by kernel_rfl) (by kernel_rfl) (fun _ _ _ h => h) (Or.inl ⟨by kernel_rfl, fun s hs => by subst hs; go_simp; exact Int.not_lt.1 HB0.out⟩) hHeld ?_
              refine wpAnyH_take (i := 7) (v := .bool false) rfl (by kernel_rfl) (by kernel_rfl) (by kernel_rfl) (fun _ _ _ h => h) (Or.inl ⟨by kernel_rfl, fun s hs => by subst hs; go_simp⟩) hHeld ?_
              refine wpAnyH_take (i := 8) (v := .bool false) rfl (by kernel_rfl) (by kernel_rfl) (by kernel_rfl) (fun _ _ _ h => h) (Or.inl ⟨by kernel_rfl, fun s hs => by subst hs; go_simp⟩) hHeld ?_
              refine wpAnyH_take (i := 9) (v := .int .i64 ((k' + 1 : Nat) : Int)) rfl (by kernel_rfl) (by kernel_rfl) (by kernel_rfl) (fun _ _ _ h => h) (Or.inl ⟨by kernel_rfl, fun s hs => by subst hs; go_simp⟩) hHeld ?_
              refine wpAnyH_take (i := 10) (v := .bool true) rfl (by kernel_rfl) (by kernel_rfl) (by kernel_rfl) (fun _ _ _ h => h) (Or.inl ⟨by kernel_rfl, fun s hs => by subst hs; go_simp⟩) hHeld ?_
              refine wpAnyH_take (i := 11) (v := .bool true) rfl (by kernel_rfl) (by kernel_rfl) (by kernel_rfl) (fun _ _ _ h => h) (Or.inl ⟨by kernel_rfl, fun s hs => by subst hs; go_simp⟩) hHeld ?_
              refine wpAnyH_take (i := 12) (v := .pointer (some ⟨wo.heap.size, 0, none⟩)) rfl (by kernel_rfl) (by kernel_rfl) (by kernel_rfl) (fun _ _ _ h => h) (Or.inl ⟨by kernel_rfl, fun s hs => by subst hs; go_simp⟩) hHeld ?_
              refine wpAnyH_take (i := 13) (v := .int .i64 y.el.id) rfl (by kernel_rfl) (by kernel_rfl) (by kernel_rfl) (fun _ _ _ h => h) (Or.inl ⟨by kernel_rfl, fun s hs => by subst hs; go_simp⟩) hHeld ?_
              refine wpAnyH_take (i := 14) (v := .slice (some ⟨bx, off, none⟩) xs.length vc) rfl (by kernel_rfl) (by kernel_rfl) (by kernel_rfl) (fun _ _ _ h => h) (Or.inl ⟨by kernel_rfl, fun s hs => by subst hs; go_simp⟩) hHeld ?_
              refine wpAnyH_take (i := 15) (v := .int .i64 ((k' + 1 : Nat) : Int)) rfl (by kernel_rfl) (by kernel_rfl) (by kernel_rfl) (fun _ _ _ h => h) (Or.inl ⟨by kernel_rfl, fun s hs => by subst hs; go_simp⟩) hHeld ?_
              refine wpAnyH_take (i := 16) (v := .int .i64 (k' : Int)) rfl (by kernel_rfl) (by kernel_rfl) (by kernel_rfl) (fun _ _ _ h => h) (Or.inl ⟨by kernel_rfl, fun s hs => by subst hs; go_simp; exact HWK.out⟩) hHeld ?_
              refine wpAnyH_take (i := 17) (v := .pointer (some ⟨bx, off + k' * 11, none⟩)) rfl (by kernel_rfl) (by kernel_rfl) (by kernel_rfl) (fun _ _ _ h => h) (Or.inl ⟨by kernel_rfl, fun s hs => by subst hs; go_simp⟩) hHeld ?_
              refine wpAnyH_take (i := 18) (v := .pointer (some ⟨bx, off + k' * 11, none⟩)) rfl (by kernel_rfl) (by kernel_rfl) (by kernel_rfl) (fun _ _ _ h => h) (Or.inl ⟨by kernel_rfl, fun s hs => by subst hs; go_simp⟩) hHeld ?_
              refine wpAnyH_take (i := 19) (v := .int .i64 last) rfl (by kernel_rfl) (by kernel_rfl) (by kernel_rfl) (fun _ _ _ h => h) (Or.inl ⟨by kernel_rfl, fun s hs => by subst hs; go_simp⟩) hHeld ?_
              refine wpAnyH_take (i := 20) (v := .bool true) rfl (by kernel_rfl) (by kernel_rfl) (by kernel_rfl) (fun _ _ _ h => h) (Or.inl ⟨by kernel_rfl, fun s hs => by subst hs; go_simp; exact HC0.out⟩) hHeld ?_
              refine wpAnyH_take (i := 21) (v := .bool true) rfl (by kernel_rfl) (by kernel_rfl) (by kernel_rfl) (fun _ _ _ h => h) (Or.inl ⟨by kernel_rfl, fun s hs => by subst hs; go_simp⟩) hHeld ?_
              refine wpAnyH_take (i := 22) (v := .bool true) rfl (by kernel_rfl) (by kernel_rfl) (by kernel_rfl) (fun _ _ _ h => h) (Or.inl ⟨by kernel_rfl, fun s hs => by subst hs; go_simp⟩) hHeld ?_
              refine wpAnyH_take (i := 23) (v := .bool true) rfl (by kernel_rfl) (by kernel_rfl) (by kernel_rfl) (fun _ _ _ h => h) (Or.inl ⟨by kernel_rfl, fun s hs => by subst hs; go_simp⟩) hHeld ?_
              refine wpAnyH_done (by kernel_rfl) ?_ _
              clear hHeld
              go_simp
              go_wp2
              go_ret2
              exact RLoadP.no HZ.out (by decide) (below_drewN HW4.out 1)
            · have q2 : decide (y.el.id ≤ last) = false := by simpa using hc
              have HC : Hid (¬ (y.el.id < 0 ∨ 1073741824 < y.el.id ∨ y.el.id ≤ last)) := Lib.hid (by omega)
              have HA0 := Lib.hid ha; have HB0 := Lib.hid hb; have HC0 := Lib.hid hc; have HWK : Hid (IntKind.i64.wrap (k' : Int) = (k' : Int)) := Lib.hid (by simp [IntKind.wrap, IntKind.bits, IntKind.signed]; omega)
              clear ha hb hc q0 q1 q2
              have c0d : w4.drew.cell? ⟨wo.heap.size, 0, none⟩ = some (.int .i64 y.el.id) := c0
              refine wp_region_held_drew (S := (fun s => s = w4.drew)) (by kernel_rfl) rfl (fun hHeld => ?_)
              refine wpAnyH_take (i := 0) (v := .pointer (some ⟨wo.heap.size, 0, none⟩)) rfl (by kernel_rfl) (by kernel_rfl) (by kernel_rfl) (fun _ _ _ h => h) (Or.inl ⟨by kernel_rfl, fun s hs => by subst hs; go_simp⟩) hHeld ?_
              refine wpAnyH_take (i := 1) (v := .int .i64 y.el.id) rfl (by kernel_rfl) (by kernel_rfl) (by kernel_rfl) (fun _ _ _ h => h) (Or.inl ⟨by kernel_rfl, fun s hs => by subst hs; go_simp⟩) hHeld ?_
              have cpd : w4.drew.cell? ⟨bx, off + k' * 11, none⟩ = some (.int .i64 last) := cp
              refine wpAnyH_take (i := 2) (v := .bool false) rfl (by kernel_rfl) (by kernel_rfl) (by kernel_rfl) (fun _ _ _ h => h) (Or.inl ⟨by kernel_rfl, fun s hs => by subst hs; go_simp; exact Int.not_lt.1 HA0.out⟩) hHeld ?_
              refine wpAnyH_take (i := 3) (v := .bool false) rfl (by kernel_rfl) (by kernel_rfl) (by kernel_rfl) (fun _ _ _ h => h) (Or.inl ⟨by kernel_rfl, fun s hs => by subst hs; go_simp⟩) hHeld ?_
              refine wpAnyH_take (i := 4) (v := .pointer (some ⟨wo.heap.size, 0, none⟩)) rfl (by kernel_rfl) (by kernel_rfl) (by kernel_rfl) (fun _ _ _ h => h) (Or.inl ⟨by kernel_rfl, fun s hs => by subst hs; go_simp⟩) hHeld ?_
              refine wpAnyH_take (i := 5) (v := .int .i64 y.el.id) rfl (by kernel_rfl) (by kernel_rfl) (by kernel_rfl) (fun _ _ _ h => h) (Or.inl ⟨by kernel_rfl, fun s hs => by subst hs; go_simp⟩) hHeld ?_
              refine wpAnyH_take (i := 6) (v := .bool false) rfl (by kernel_rfl) (by kernel_rfl) (by kernel_rfl) (fun _ _ _ h => h) (Or.inl ⟨by kernel_rfl, fun s hs => by subst hs; go_simp; exact Int.not_lt.1 HB0.out⟩) hHeld ?_
              refine wpAnyH_take (i := 7) (v := .bool false) rfl (by kernel_rfl) (by kernel_rfl) (by kernel_rfl) (fun _ _ _ h => h) (Or.inl ⟨by kernel_rfl, fun s hs => by subst hs; go_simp⟩) hHeld ?_
              refine wpAnyH_take (i := 8) (v := .bool false) rfl (by kernel_rfl) (by kernel_rfl) (by kernel_rfl) (fun _ _ _ h => h) (Or.inl ⟨by kernel_rfl, fun s hs => by subst hs; go_simp⟩) hHeld ?_
              refine wpAnyH_take (i := 9) (v := .int .i64 ((k' + 1 : Nat) : Int)) rfl (by kernel_rfl) (by kernel_rfl) (by kernel_rfl) (fun _ _ _ h => h) (Or.inl ⟨by kernel_rfl, fun s hs => by subst hs; go_simp⟩) hHeld ?_
              refine wpAnyH_take (i := 10) (v := .bool true) rfl (by kernel_rfl) (by kernel_rfl) (by kernel_rfl) (fun _ _ _ h => h) (Or.inl ⟨by kernel_rfl, fun s hs => by subst hs; go_simp⟩) hHeld ?_
              refine wpAnyH_take (i := 11) (v := .bool true) rfl (by kernel_rfl) (by kernel_rfl) (by kernel_rfl) (fun _ _ _ h => h) (Or.inl ⟨by kernel_rfl, fun s hs => by subst hs; go_simp⟩) hHeld ?_
              refine wpAnyH_take (i := 12) (v := .pointer (some ⟨wo.heap.size, 0, none⟩)) rfl (by kernel_rfl) (by kernel_rfl) (by kernel_rfl) (fun _ _ _ h => h) (Or.inl ⟨by kernel_rfl, fun s hs => by subst hs; go_simp⟩) hHeld ?_
              refine wpAnyH_take (i := 13) (v := .int .i64 y.el.id) rfl (by kernel_rfl) (by kernel_rfl) (by kernel_rfl) (fun _ _ _ h => h) (Or.inl ⟨by kernel_rfl, fun s hs => by subst hs; go_simp⟩) hHeld ?_
              refine wpAnyH_take (i := 14) (v := .slice (some ⟨bx, off, none⟩) xs.length vc) rfl (by kernel_rfl) (by kernel_rfl) (by kernel_rfl) (fun _ _ _ h => h) (Or.inl ⟨by kernel_rfl, fun s hs => by subst hs; go_simp⟩) hHeld ?_
              refine wpAnyH_take (i := 15) (v := .int .i64 ((k' + 1 : Nat) : Int)) rfl (by kernel_rfl) (by kernel_rfl) (by kernel_rfl) (fun _ _ _ h => h) (Or.inl ⟨by kernel_rfl, fun s hs => by subst hs; go_simp⟩) hHeld ?_
              refine wpAnyH_take (i := 16) (v := .int .i64 (k' : Int)) rfl (by kernel_rfl) (by kernel_rfl) (by kernel_rfl) (fun _ _ _ h => h) (Or.inl ⟨by kernel_rfl, fun s hs => by subst hs; go_simp; exact HWK.out⟩) hHeld ?_
              refine wpAnyH_take (i := 17) (v := .pointer (some ⟨bx, off + k' * 11, none⟩)) rfl (by kernel_rfl) (by kernel_rfl) (by kernel_rfl) (fun _ _ _ h => h) (Or.inl ⟨by kernel_rfl, fun s hs => by subst hs; go_simp⟩) hHeld ?_
              refine wpAnyH_take (i := 18) (v := .pointer (some ⟨bx, off + k' * 11, none⟩)) rfl (by kernel_rfl) (by kernel_rfl) (by kernel_rfl) (fun _ _ _ h => h) (Or.inl ⟨by kernel_rfl, fun s hs => by subst hs; go_simp⟩) hHeld ?_
              refine wpAnyH_take (i := 19) (v := .int .i64 last) rfl (by kernel_rfl) (by kernel_rfl) (by kernel_rfl) (fun _ _ _ h => h) (Or.inl ⟨by kernel_rfl, fun s hs => by subst hs; go_simp⟩) hHeld ?_
              refine wpAnyH_take (i := 20) (v := .bool false) rfl (by kernel_rfl) (by kernel_rfl) (by kernel_rfl) (fun _ _ _ h => h) (Or.inl ⟨by kernel_rfl, fun s hs => by subst hs; go_simp; exact Int.not_le.1 HC0.out⟩) hHeld ?_
              refine wpAnyH_take (i := 21) (v := .bool false) rfl (by kernel_rfl) (by kernel_rfl) (by kernel_rfl) (fun _ _ _ h => h) (Or.inl ⟨by kernel_rfl, fun s hs => by subst hs; go_simp⟩) hHeld ?_
              refine wpAnyH_take (i := 22) (v := .bool false) rfl (by kernel_rfl) (by kernel_rfl) (by kernel_rfl) (fun _ _ _ h => h) (Or.inl ⟨by kernel_rfl, fun s hs => by subst hs; go_simp⟩) hHeld ?_
              refine wpAnyH_take (i := 23) (v := .bool false) rfl (by kernel_rfl) (by kernel_rfl) (by kernel_rfl) (fun _ _ _ h => h) (Or.inl ⟨by kernel_rfl, fun s hs => by subst hs; go_simp⟩) hHeld ?_
              refine wpAnyH_done (by kernel_rfl) ?_ _
              clear hHeld
              go_simp
              clear c0 cp hk1
              have HW5 : Hid (Below w.heap.size w w4.drew) := Lib.hid (below_drewN HW4.out 1)
              have HC5 : Hid ((w4.drew).heap[wo.heap.size]? = some (.cells y.cells 47 (0, 0))) := HC4
              have HP5 : Hid (wo.heap.size < (w4.drew).heap.size) := HP4
              clear HW4 HC4 HP4
              generalize w4.drew = w5 at HW5 HC5 HP5 ⊢
              have c2 : w5.cell? ⟨wo.heap.size, 2, none⟩ = some (.string y.el.tag) := blk_cell HC5.out 2 _ rfl
              cases hq : nameB y.el.tag with
              | false =>
                have HQ := Lib.hid hq
                have HZ : Hid (loadE (xs.map (·.el)) = 10) := Lib.hid (HST.out 10 (by decide) (by rw [HWE.out, if_neg HC.out, if_pos hq]))
                clear hq
                go_wp2_with (go_at_call 19; refine (rname_is HQ.out _ HOK.out.tag).mono ?_; rintro e w6 ⟨rfl, hb6⟩; have HW6 := Lib.hid (HW5.out.trans (hb6.mono HW5.out.size)); have HC6 := Lib.hid ((hb6.block _ HP5.out).trans HC5.out); have HP6 := Lib.hid (Nat.lt_of_lt_of_le HP5.out hb6.size); have c4 : w6.cell? ⟨wo.heap.size, 4, none⟩ = some (.slice aa y.el.attrs.length ac) := (by rw [← HAV.out]; exact blk_cell HC6.out 4 _ rfl); clear hb6)
                go_ret2
                exact RLoadP.no HZ.out (by decide) HW6.out
              | true =>
                have HQ := Lib.hid hq
                have HC2 : Hid (¬ (nameB y.el.tag = false)) := Lib.hid (by rw [hq]; decide)
                clear hq
                by_cases h16 : 16 < y.el.attrs.length
                · have q3 : decide ((16 : Int) < (y.el.attrs.length : Int)) = true := by simp; omega
                  have HZ : Hid (loadE (xs.map (·.el)) = 6) := Lib.hid (HST.out 6 (by decide) (by rw [HWE.out, if_neg HC.out, if_neg HC2.out, if_pos h16]))
                  clear h16
                  go_wp2_with (go_at_call 19; refine (rname_is HQ.out _ HOK.out.tag).mono ?_; rintro e w6 ⟨rfl, hb6⟩; have HW6 := Lib.hid (HW5.out.trans (hb6.mono HW5.out.size)); have HC6 := Lib.hid ((hb6.block _ HP5.out).trans HC5.out); have HP6 := Lib.hid (Nat.lt_of_lt_of_le HP5.out hb6.size); have c4 : w6.cell? ⟨wo.heap.size, 4, none⟩ = some (.slice aa y.el.attrs.length ac) := (by rw [← HAV.out]; exact blk_cell HC6.out 4 _ rfl); clear hb6)
                  go_ret2
                  exact RLoadP.no HZ.out (by decide) HW6.out
                · have q3 : decide ((16 : Int) < (y.el.attrs.length : Int)) = false := by simp; omega
                  have H16 : Hid (y.el.attrs.length ≤ 16) := Lib.hid (by omega)
                  have HWR : Hid (wrongE y.el last = restE y.el.attrs y.el.bt y.el.bn y.el.n1 y.el.d1 y.el.n2 y.el.d2) := Lib.hid (by rw [HWE.out, if_neg HC.out, if_neg HC2.out, if_neg h16])
                  clear h16
                  obtain ⟨ae, hae⟩ : ∃ ae, attrsE y.el.attrs y.el.attrs.length 0 = ae := ⟨_, rfl⟩
                  have HAE := Lib.hid hae
                  clear hae
                  by_cases hae : ae = 0
                  · have q4 : (ae != 0) = false := by simpa using hae
                    have HA0 := Lib.hid hae
                    clear hae
                    cases hbx : boxB y.el.bt y.el.bn y.el.n1 y.el.d1 y.el.n2 y.el.d2 with
                    | false =>
                      have HBX := Lib.hid hbx
                      have HZ : Hid (loadE (xs.map (·.el)) = 8) := Lib.hid (HST.out 8 (by decide) (by rw [HWR.out, HRE.out, HAE.out, HA0.out, hbx]; rfl))
                      clear hbx
                      go_wp2_with (first
                        | (go_at_call 19; refine (rname_is HQ.out _ HOK.out.tag).mono ?_; rintro e w6 ⟨rfl, hb6⟩; have HW6 := Lib.hid (HW5.out.trans (hb6.mono HW5.out.size)); have HC6 := Lib.hid ((hb6.block _ HP5.out).trans HC5.out); have HP6 := Lib.hid (Nat.lt_of_lt_of_le HP5.out hb6.size); have c4 : w6.cell? ⟨wo.heap.size, 4, none⟩ = some (.slice aa y.el.attrs.length ac) := (by rw [← HAV.out]; exact blk_cell HC6.out 4 _ rfl); clear hb6)
                        | (go_at_call 20; refine (attrs_any aa _ ac _ y.el.attrs rfl H16.out ((HAT2.out.keep HW6.out).mono HW6.out.size) HOK.out.attrs).mono ?_; rintro e w7 ⟨rfl, hb7⟩; rw [HAE.out]; have HW7 := Lib.hid (HW6.out.trans (hb7.mono HW6.out.size)); have HC7 := Lib.hid ((hb7.block _ HP6.out).trans HC6.out); have b0 : w7.cell? ⟨wo.heap.size, 5, none⟩ = some (.int .i64 y.el.bt) := blk_cell HC7.out 5 _ rfl; have b1 : w7.cell? ⟨wo.heap.size, 6, none⟩ = some (.string y.el.bn) := blk_cell HC7.out 6 _ rfl; have b2 : w7.cell? ⟨wo.heap.size, 7, none⟩ = some (.int .i64 y.el.n1) := blk_cell HC7.out 7 _ rfl; have b3 : w7.cell? ⟨wo.heap.size, 8, none⟩ = some (.int .i64 y.el.d1) := blk_cell HC7.out 8 _ rfl; have b4 : w7.cell? ⟨wo.heap.size, 9, none⟩ = some (.int .i64 y.el.n2) := blk_cell HC7.out 9 _ rfl; have b5 : w7.cell? ⟨wo.heap.size, 10, none⟩ = some (.int .i64 y.el.d2) := blk_cell HC7.out 10 _ rfl; clear hb7)
                        | (go_at_call 21; refine (rbox_is HBX.out _ HOK.out.bt HOK.out.bn HOK.out.n1 HOK.out.d1 HOK.out.n2 HOK.out.d2).mono ?_; rintro e w8 ⟨rfl, hb8⟩; have HW8 := Lib.hid (HW7.out.trans (hb8.mono HW7.out.size)); clear hb8))
                      go_ret2
                      exact RLoadP.no HZ.out (by decide) HW8.out
                    | true =>
                      have HBX := Lib.hid hbx
                      have HZ : Hid (wrongE y.el last = 0) := Lib.hid (by rw [HWR.out, HRE.out, HAE.out, HA0.out, hbx]; rfl)
                      clear hbx
                      go_wp2_with (first
                        | (go_at_call 19; refine (rname_is HQ.out _ HOK.out.tag).mono ?_; rintro e w6 ⟨rfl, hb6⟩; have HW6 := Lib.hid (HW5.out.trans (hb6.mono HW5.out.size)); have HC6 := Lib.hid ((hb6.block _ HP5.out).trans HC5.out); have HP6 := Lib.hid (Nat.lt_of_lt_of_le HP5.out hb6.size); have c4 : w6.cell? ⟨wo.heap.size, 4, none⟩ = some (.slice aa y.el.attrs.length ac) := (by rw [← HAV.out]; exact blk_cell HC6.out 4 _ rfl); clear hb6)
                        | (go_at_call 20; refine (attrs_any aa _ ac _ y.el.attrs rfl H16.out ((HAT2.out.keep HW6.out).mono HW6.out.size) HOK.out.attrs).mono ?_; rintro e w7 ⟨rfl, hb7⟩; rw [HAE.out]; have HW7 := Lib.hid (HW6.out.trans (hb7.mono HW6.out.size)); have HC7 := Lib.hid ((hb7.block _ HP6.out).trans HC6.out); have b0 : w7.cell? ⟨wo.heap.size, 5, none⟩ = some (.int .i64 y.el.bt) := blk_cell HC7.out 5 _ rfl; have b1 : w7.cell? ⟨wo.heap.size, 6, none⟩ = some (.string y.el.bn) := blk_cell HC7.out 6 _ rfl; have b2 : w7.cell? ⟨wo.heap.size, 7, none⟩ = some (.int .i64 y.el.n1) := blk_cell HC7.out 7 _ rfl; have b3 : w7.cell? ⟨wo.heap.size, 8, none⟩ = some (.int .i64 y.el.d1) := blk_cell HC7.out 8 _ rfl; have b4 : w7.cell? ⟨wo.heap.size, 9, none⟩ = some (.int .i64 y.el.n2) := blk_cell HC7.out 9 _ rfl; have b5 : w7.cell? ⟨wo.heap.size, 10, none⟩ = some (.int .i64 y.el.d2) := blk_cell HC7.out 10 _ rfl; clear hb7)
                        | (go_at_call 21; refine (rbox_is HBX.out _ HOK.out.bt HOK.out.bn HOK.out.n1 HOK.out.d1 HOK.out.n2 HOK.out.d2).mono ?_; rintro e w8 ⟨rfl, hb8⟩; have HW8 := Lib.hid (HW7.out.trans (hb8.mono HW7.out.size)); clear hb8))
                      go_roundw
                      case rel => exact ⟨_, y.el.id, by omega, by go_num, HNX.out HZ.out, HW8.out⟩
                      case measure => simp [intOf]; omega
                  · have q4 : (ae != 0) = true := by simpa using hae
                    have HZ : Hid (loadE (xs.map (·.el)) = ae) := Lib.hid (HST.out ae hae (by rw [HWR.out, HRE.out, HAE.out, if_pos hae]))
                    have HNE := Lib.hid hae
                    clear hae
                    go_wp2_with (first
                      | (go_at_call 19; refine (rname_is HQ.out _ HOK.out.tag).mono ?_; rintro e w6 ⟨rfl, hb6⟩; have HW6 := Lib.hid (HW5.out.trans (hb6.mono HW5.out.size)); have HC6 := Lib.hid ((hb6.block _ HP5.out).trans HC5.out); have HP6 := Lib.hid (Nat.lt_of_lt_of_le HP5.out hb6.size); have c4 : w6.cell? ⟨wo.heap.size, 4, none⟩ = some (.slice aa y.el.attrs.length ac) := (by rw [← HAV.out]; exact blk_cell HC6.out 4 _ rfl); clear hb6)
                      | (go_at_call 20; refine (attrs_any aa _ ac _ y.el.attrs rfl H16.out ((HAT2.out.keep HW6.out).mono HW6.out.size) HOK.out.attrs).mono ?_; rintro e w7 ⟨rfl, hb7⟩; rw [HAE.out]; have HW7 := Lib.hid (HW6.out.trans (hb7.mono HW6.out.size)); have HC7 := Lib.hid ((hb7.block _ HP6.out).trans HC6.out); have b0 : w7.cell? ⟨wo.heap.size, 5, none⟩ = some (.int .i64 y.el.bt) := blk_cell HC7.out 5 _ rfl; have b1 : w7.cell? ⟨wo.heap.size, 6, none⟩ = some (.string y.el.bn) := blk_cell HC7.out 6 _ rfl; have b2 : w7.cell? ⟨wo.heap.size, 7, none⟩ = some (.int .i64 y.el.n1) := blk_cell HC7.out 7 _ rfl; have b3 : w7.cell? ⟨wo.heap.size, 8, none⟩ = some (.int .i64 y.el.d1) := blk_cell HC7.out 8 _ rfl; have b4 : w7.cell? ⟨wo.heap.size, 9, none⟩ = some (.int .i64 y.el.n2) := blk_cell HC7.out 9 _ rfl; have b5 : w7.cell? ⟨wo.heap.size, 10, none⟩ = some (.int .i64 y.el.d2) := blk_cell HC7.out 10 _ rfl; clear hb7))
                    go_ret2
                    exact RLoadP.no HZ.out HNE.out HW7.out
    · have hke : k = xs.length := by have := HK.out; omega
      have HNL := Lib.hid hlt
      have hkl : (xs.length : Int) - 1 < (xs.length : Int) := by omega
      have HSZ : Hid (scanE (xs.map (·.el)) (-1) = 0) := Lib.hid (by rw [HS.out.scan, hke, List.drop_length]; rfl)
      have HLOAD := Lib.hid (HLD.out HSZ.out)
      have hsc := HS.out
      rw [hke] at hsc
      have HND := Lib.hid hsc.nodup
      have HNN : Hid (∀ n ∈ ndsV xs, 0 ≤ n.id) := Lib.hid fun n hn => by
        obtain ⟨y, hy, rfl⟩ := List.mem_map.1 hn
        obtain ⟨j, hj, rfl⟩ := List.mem_iff_getElem.1 hy
        exact (hsc.le j hj hj).1
      obtain ⟨m, hm⟩ : ∃ m, xs.length = m + 1 := ⟨xs.length - 1, by have := HL1.out; omega⟩
      obtain ⟨bx, off, rfl, hbx, hrx⟩ := RowAt.place HX.out.row (by omega)
      have hml : m < xs.length := by omega
      have cl : wr.cell? ⟨bx, off + m * 11, none⟩ = some (.int .i64 last) := by
        have e : last = xs[m].el.id := by
          rcases hsc.prev with ⟨e, _⟩ | ⟨_, h, e⟩
          · omega
          · rw [e]; congr 2; simp [hm]
        rw [(bcell HB.out).1 bx _ hbx, e]
        exact elem_cells hrx hml 0 _ rfl
      have hlw : IntKind.i64.wrap (last + 1) = last + 1 := by
        have := hsc.lo; have := hsc.hi
        simp [IntKind.wrap, IntKind.bits, IntKind.signed]; omega
      have hmw : IntKind.i64.wrap ((xs.length : Int) - 1) = (m : Int) := by rw [hm]; simp [IntKind.wrap, IntKind.bits, IntKind.signed]; have := HL.out; omega
      have hml2 : (m : Int) < (xs.length : Int) := by omega
      have HXS0 := Lib.hid ((HX.out.keep HB.out).mono HB.out.size)
      clear hsc hbx hrx hke hm
      obtain ⟨wS, hws⟩ : ∃ wS, wS = wr := ⟨_, rfl⟩
      subst hws
      have HXS : Hid (ElsAt wS.heap.size wS (.slice (some ⟨bx, off, none⟩) xs.length vc) xs) := HXS0
      clear HXS0
      go_wp2
      have HC1 : Hid ((wS.alloc (.cells #[.slice none 0 0, .int .i64 (last + 1)] 40)).heap[wS.heap.size]? = some (.cells #[.slice none 0 0, .int .i64 (last + 1)] 40 (0, 0))) := Lib.hid (heap_alloc_at wS _)
      have HB1 : Hid (Below wS.heap.size wS (wS.alloc (.cells #[.slice none 0 0, .int .i64 (last + 1)] 40))) := Lib.hid (below_new wS _)
      generalize wS.alloc (.cells #[.slice none 0 0, .int .i64 (last + 1)] 40) = w1 at HC1 HB1 ⊢
      clear cl hlw hmw hml2 hkl
      generalize last + 1 = next at HC1 ⊢
      go_loopw [82] (fun i wr => ∃ (k : Nat) (ys : List Ev), k ≤ xs.length ∧ i = .int .i64 k ∧ RowL wS wr wS.heap.size ys ((xs.take k).map (·.el)) next) (fun i _ => xs.length - (intOf i).toNat)
      case atStart => exact ⟨0, [], Nat.zero_le _, rfl, ⟨_, HC1.out, RowG.nil _ _⟩, rfl, Nat.le_refl _, HB1.out⟩
      case round =>
        clear hlt
        obtain ⟨k, ys, hk, rfl, hr⟩ := hrel
        obtain ⟨rv, hrt, hrg⟩ := hr.t
        have HR := Lib.hid hr; have HRT := Lib.hid hrt; have HRG := Lib.hid hrg; have HK := Lib.hid hk
        clear hr hrt hrg
        by_cases hlt : k < xs.length
        · obtain ⟨b9, o9, e9, hbx, hrx⟩ := RowAt.place HXS.out.row (by omega)
          cases e9
          obtain ⟨x, hx⟩ : ∃ x, xs[k] = x := ⟨_, rfl⟩
          have hxm : x ∈ xs := by rw [← hx]; exact List.getElem_mem hlt
          have HOK : Hid x.el.ok := Lib.hid (HXS.out.ok x hxm)
          have HEL : Hid (∀ j u, x.cells.toList[j]? = some u → wr.cell? ⟨bx, off + k * 11 + j, none⟩ = some u) := Lib.hid (by
            intro j u hu
            rw [(bcell HR.out.below).1 bx _ hbx]
            have := elem_cells hrx hlt
            rw [hx] at this
            exact this j u hu)
          have HKI : Hid (IntsAt wS.heap.size wr x.kv x.el.kids) := Lib.hid ((HXS.out.kids x hxm).keep HR.out.below)
          have HAI : Hid (AttrsAt wS.heap.size wr x.av x.el.attrs) := Lib.hid ((HXS.out.attrs x hxm).keep HR.out.below)
          have HWR : Hid (wS.heap.size < wr.heap.size) := Lib.hid (lt_of_block HRT.out)
          have HTK : Hid ((xs.take (k + 1)).map (·.el) = (xs.take k).map (·.el) ++ [x.el]) := Lib.hid (by rw [take_snoc hlt, List.map_append, hx]; rfl)
          have HYL : Hid (ys.length < 1000000) := Lib.hid (by have := congrArg List.length HR.out.els; simp only [List.length_map, List.length_take] at this; have := HL.out; omega)
          clear hx hxm hrx hbx
          go_wp2_with (first
            | (refine wpList_load_range rfl 47 _ rfl bx (off + k * 11) rfl x.cells _ HEL.out Tryz.underlying47 rfl size47 ?_)
            | (refine wpl_alloc rfl 47 rfl _ (zero47 _) ?_; intro w3 hs3 hc3 hb3; have HS3 := Lib.hid hs3; have HC3 := Lib.hid hc3; have HB3 := Lib.hid hb3; clear hs3 hc3 hb3)
            | (refine wpl_store_el rfl _ _ rfl wr.heap.size x rfl rfl _ HC3.out rfl ⟨at_one HKI.out, at_one HAI.out⟩ ?_; intro w4 hs4 hc4 hf4; have HC4 := Lib.hid hc4; have HB4 := Lib.hid (HB3.out.trans (hf4.below (by have := HS3.out; omega) (Nat.le_refl _))); clear hs4 hc4 hf4))
          have HT4 : Hid (w4.heap[wS.heap.size]? = some (.cells #[rv, .int .i64 next] 40 (0, 0))) := Lib.hid ((HB4.out.block _ HWR.out).trans HRT.out)
          have HKW : Hid (wS.heap.size ≤ wr.heap.size) := Lib.hid (Nat.le_of_lt HWR.out)
          have HSS : Hid (w4.drew.heap[wS.heap.size]? = some (.cells #[rv, .int .i64 next] 40 (0, 0)) ∧ w4.drew.heap[wr.heap.size]? = some (.cells x.cells 47 (0, 0))) := Lib.hid ⟨HT4.out, HC4.out⟩
          refine region_T 11 (fun s => s.heap[wS.heap.size]? = some (.cells #[rv, .int .i64 next] 40 (0, 0)) ∧ s.heap[wr.heap.size]? = some (.cells x.cells 47 (0, 0))) (by kernel_rfl) ?_
          refine T_take (i := 0) (v := .pointer (some ⟨wS.heap.size, 0, none⟩)) rfl (by kernel_rfl) rfl (by kernel_rfl) (by kernel_rfl) (by kernel_rfl) (fun _ _ _ h => h) (Or.inl ⟨by kernel_rfl, fun s hs => by go_simp⟩) HSS.out ?_
          refine T_take (i := 1) (v := .pointer (some ⟨wS.heap.size, 0, none⟩)) rfl (by kernel_rfl) rfl (by kernel_rfl) (by kernel_rfl) (by kernel_rfl) (fun _ _ _ h => h) (Or.inl ⟨by kernel_rfl, fun s hs => by go_simp⟩) HSS.out ?_
          refine T_take (i := 2) (v := .pointer (some ⟨wS.heap.size, 0, none⟩)) rfl (by kernel_rfl) rfl (by kernel_rfl) (by kernel_rfl) (by kernel_rfl) (fun _ _ _ h => h) (Or.inl ⟨by kernel_rfl, fun s hs => by go_simp⟩) HSS.out ?_
          refine T_take (i := 3) (v := .pointer (some ⟨wS.heap.size, 0, none⟩)) rfl (by kernel_rfl) rfl (by kernel_rfl) (by kernel_rfl) (by kernel_rfl) (fun _ _ _ h => h) (Or.inl ⟨by kernel_rfl, fun s hs => by go_simp⟩) HSS.out ?_
          refine T_take (i := 4) (v := rv) rfl (by kernel_rfl) rfl (by kernel_rfl) (by kernel_rfl) (by kernel_rfl) (fun _ _ _ h => h) (Or.inl ⟨by kernel_rfl, fun s hs => by have c := blk_cell hs.1 0 _ rfl; go_simp⟩) HSS.out ?_
          refine T_take (i := 5) (v := .agg x.cells) rfl (by kernel_rfl) rfl (by kernel_rfl) (by kernel_rfl) (by kernel_rfl) (fun _ _ _ h => h) (Or.inl ⟨by kernel_rfl, fun s hs => by exact exec_load_row 47 _ rfl wr.heap.size rfl 47 x.cells (0, 0) _ hs.2 Tryz.underlying47 rfl size47⟩) HSS.out ?_
          have HB4' : Hid (Below wr.heap.size wr w4.drew) := Lib.hid ⟨HB4.out.os, HB4.out.tape, HB4.out.output, HB4.out.size, HB4.out.block⟩
          clear HT4 HC4 HB4
          generalize w4.drew = w5 at HB4' HSS ⊢
          refine T_list (i := 6) (by kernel_rfl) rfl (fun K hK => ?_)
          go_wp2_with (go_at_call 22; refine (clone_el x w5 HOK.out ((HKI.out.keep (HB4'.out.mono HKW.out)).mono (Nat.le_trans HKW.out HB4'.out.size)) ((HAI.out.keep (HB4'.out.mono HKW.out)).mono (Nat.le_trans HKW.out HB4'.out.size))).mono ?_; rintro e w6 ⟨y, hye, rfl, hb6, hk6, ha6⟩; have HYE := Lib.hid hye; have HB6 := Lib.hid hb6; have HK6 := Lib.hid hk6; have HA6 := Lib.hid ha6; have HSS6 := Lib.hid (And.intro ((hb6.block _ (lt_of_block HSS.out.1)).trans HSS.out.1) ((hb6.block _ (lt_of_block HSS.out.2)).trans HSS.out.2)); clear hye hb6 hk6 ha6)
          refine hK.out _ _ (fun _ => HSS6.out) (fun _ => ?_)
          refine T_list (i := 7) (by kernel_rfl) rfl (fun K hK => ?_)
          refine wpl_slice1_el rfl _ rfl y rfl ?_
          intro w7 hs7 hc7 hb7
          have HS7 := Lib.hid hs7; have HC7 := Lib.hid hc7; have HB7 := Lib.hid hb7; have HR7 := Lib.hid (((HRG.out.below HB4'.out (Nat.le_refl _)).below HB6.out (Nat.le_refl _)).below hb7 (Nat.le_refl _))
          have HSS7 := Lib.hid (And.intro ((hb7.block _ (lt_of_block HSS6.out.1)).trans HSS6.out.1) ((hb7.block _ (lt_of_block HSS6.out.2)).trans HSS6.out.2))
          clear hs7 hc7 hb7
          refine hK.out _ _ (fun _ => HSS7.out) (fun _ => ?_)
          refine T_list (i := 8) (by kernel_rfl) rfl (fun K hK => ?_)
          refine wpl_append_el rfl _ _ rfl (wS.heap.size + 1) ys rv rfl HR7.out.own w6.heap.size y (0, 0) rfl HC7.out ⟨from_one HK6.out, from_one HA6.out⟩ HYL.out (by have := HB7.out.size; have := HB6.out.size; have := HB4'.out.size; have := HWR.out; omega) ?_
          intro v8 w8 hown8 hg8 hl8
          have HOWN8 := Lib.hid hown8; have HG8 := Lib.hid hg8; have HL8 := Lib.hid hl8
          have HSS8 := Lib.hid (And.intro ((hg8.block wS.heap.size (lt_of_block HSS7.out.1) (fun q => by have := (HR7.out.own.lt _ q.symm).1; omega)).trans HSS7.out.1) ((hg8.block wr.heap.size (lt_of_block HSS7.out.2) (fun q => by have := (HRG.out.own.lt _ q.symm).2; omega)).trans HSS7.out.2))
          have H18 : Hid (v8.oneCell' = true) := Lib.hid (by rcases hown8.2 with ⟨q, _⟩ | ⟨_, _, _, q, _⟩ <;> rw [q] <;> rfl)
          clear hown8 hg8 hl8
          refine hK.out _ _ (fun _ => HSS8.out) (fun _ => ?_)
          refine T_list (i := 9) (by kernel_rfl) rfl (fun K hK => ?_)
          go_wp2
          refine hK.out _ _ (fun _ => HSS8.out) (fun _ => ?_)
          refine T_list (i := 10) (by kernel_rfl) rfl (fun K hK => ?_)
          go_wp2
          refine hK.out _ _ (fun _ => HSS8.out) (fun _ => ?_)
          refine T_list (i := 11) (by kernel_rfl) rfl (fun K hK => ?_)
          refine wpl_store_one rfl 22 size22 _ _ rfl wS.heap.size 0 v8 rfl rfl H18.out _ _ HSS8.out.1 (by simp) ?_
          intro w9 hs9 hc9 hf9
          have HS9 := Lib.hid hs9; have HC9 := Lib.hid hc9; have HF9 := Lib.hid hf9
          clear hs9 hc9 hf9
          refine hK.out _ _ (fun q => absurd rfl q) (fun _ => ?_)
          refine T_done (by kernel_rfl) ?_ _
          have HEI : Hid (ElIn (wS.heap.size + 1) w7.heap.size w7 rv.ownBlock y) := Lib.hid (by
            have k7 := RowFrom.keep_below HK6.out HB7.out (Nat.le_refl _)
            have a7 := RowFrom.keep_below HA6.out HB7.out (Nat.le_refl _)
            rw [← HYE.out] at k7 a7
            exact ElIn.fresh (C := w5.heap.size) (RowFrom.mono k7 (Nat.le_refl _) HB7.out.size) (RowFrom.mono a7 (Nat.le_refl _) HB7.out.size) (by have := HB4'.out.size; have := HWR.out; omega) (fun q hq => by have := (HRG.out.own.lt _ hq).2; have := HB4'.out.size; omega))
          have HRG8 : Hid (RowG (wS.heap.size + 1) w8 v8 (ys ++ [y])) := Lib.hid (HR7.out.more HEI.out HOWN8.out HG8.out HL8.out)
          have HRG9 : Hid (RowG (wS.heap.size + 1) w9 v8 (ys ++ [y])) := Lib.hid (HRG8.out.kept HF9.out.2.2.2.1 HF9.out.1 HF9.out.2.1 HF9.out.2.2.1 (fun q h1 h2 => HF9.out.2.2.2.2 q h2 (by omega)))
          have HBB : Hid (Below wS.heap.size wS w9) := Lib.hid (HR.out.below.trans ((HB4'.out.mono HKW.out).trans ((HB6.out.mono (Nat.le_trans HKW.out HB4'.out.size)).trans ((HB7.out.mono (Nat.le_trans HKW.out (Nat.le_trans HB4'.out.size HB6.out.size))).trans ((Below.refl wS.heap.size w7).grown HG8.out (Nat.le_trans HKW.out (Nat.le_trans HB4'.out.size (Nat.le_trans HB6.out.size HB7.out.size))) (fun q hq => by have := (HR7.out.own.lt _ hq).1; omega) |>.trans (HF9.out.below (by have := HWR.out; have := HB4'.out.size; have := HB6.out.size; have := HB7.out.size; have := HG8.out.size; omega) (Nat.le_refl _)))))))
          clear HSS HSS6 HSS7 HSS8
          go_wp2
          go_roundw
          case rel => exact ⟨k + 1, ys ++ [y], by omega, by go_num, ⟨v8, HC9.out, HRG9.out⟩, by rw [List.map_append, HR.out.els, HTK.out, ← HYE.out]; rfl, Nat.le_refl _, HBB.out⟩
          case measure => simp [intOf]; omega
        · have hke : k = xs.length := by have := HK.out; omega
          have HYE : Hid (ys.map (·.el) = xs.map (·.el)) := Lib.hid (by rw [HR.out.els, hke, List.take_length])
          have HYL : Hid (ys.length = xs.length) := Lib.hid (by have := congrArg List.length HYE.out; simpa using this)
          have HT : Hid (RowT wr wr.heap.size wS.heap.size ys next) := Lib.hid ⟨⟨rv, HRT.out, (RowFrom.of_own HRG.out.own (by decide)).at_⟩, fun y hy => IntsFrom.at_ (HRG.out.els y hy).kids, fun y hy => (HRG.out.els y hy).one.2, fun y hy => (by
            have h1 : y.el ∈ ys.map (·.el) := List.mem_map_of_mem (f := fun y : Ev => y.el) hy
            rw [HYE.out] at h1
            obtain ⟨x, hx, e⟩ := List.mem_map.1 h1
            rw [← e]
            exact HX.out.ok x hx), lt_of_block HRT.out, (by rw [HYL.out]; exact HL.out)⟩
          have HWA : Hid (Below w.heap.size w wr) := Lib.hid (HB.out.trans (HR.out.below.mono HB.out.size))
          have HNV := Lib.hid (ndsV_els HYE.out)
          have HWC := Lib.hid (rwhole_any wr wr.heap.size wS.heap.size ys next HT.out (Nat.le_refl _) (by rw [HNV.out]; exact HND.out) (by rw [HNV.out]; exact HNN.out))
          clear hke
          cases hot : oneTree (ndsV xs) with
          | false =>
            have HZ : Hid (loadE (xs.map (·.el)) = 5) := Lib.hid (by rw [HLOAD.out, if_pos hot])
            have HO : Hid (oneTree (ndsV ys) = false) := Lib.hid (by rw [HNV.out]; exact hot)
            clear hot
            go_wp2_with (go_at_call 23; refine HWC.out.mono ?_; rintro e w2 ⟨rfl, hb2⟩; rw [HO.out]; have HB2 := Lib.hid hb2; clear hb2)
            go_ret2
            exact RLoadP.no HZ.out (by decide) (HWA.out.trans (HB2.out.mono HWA.out.size))
          | true =>
            have HO : Hid (oneTree (ndsV ys) = true) := Lib.hid (by rw [HNV.out]; exact hot)
            have HLR : Hid (loadE (xs.map (·.el)) = @ite _ (DeepN (ndsV xs) (rootOf (ndsV xs))) (Classical.propDecidable _) 7 0) := Lib.hid (by rw [HLOAD.out, if_neg (by rw [hot]; decide)])
            have HWH : Hid (Whole (ndsV ys) (rootOf (ndsV ys))) := Lib.hid (by
              have hone := HO.out
              have hall : ∀ n ∈ ndsV ys, elOk (ndsV ys) n = true := by
                unfold oneTree at hone
                simp only [Bool.and_eq_true, List.all_eq_true] at hone
                exact hone.1.1.1
              have hone2 := HO.out
              rw [oneTree_eq hall] at hone2
              simp only [Bool.and_eq_true, beq_iff_eq] at hone2
              exact ⟨fits_of (by rw [HNV.out]; exact HND.out) (by rw [HNV.out]; exact HNN.out) hall hone2.1.1, hone2.2⟩)
            clear hot
            go_wp2_with (go_at_call 23; refine HWC.out.mono ?_; rintro e w2 ⟨rfl, hb2⟩; rw [HO.out]; have HB2 := Lib.hid hb2; clear hb2)
            have HT2 := Lib.hid ((HT.out.keep HB2.out).wide HB2.out.size)
            have HW2 := Lib.hid (HWA.out.trans (HB2.out.mono HWA.out.size))
            have HDEP : Hid (∀ wz x d, Below w2.heap.size w2 wz → Dist (ndsV ys) (rootOf (ndsV ys)) x d → d < 1000 → Calls Tryz.prog 24 #[.pointer (some ⟨wS.heap.size, 0, none⟩), .int .i64 x] wz fun e w' => e = .returned (.int .i64 ((d : Int) + 1)) ∧ Below wz.heap.size wz w') :=
              Lib.hid fun wz x d hz hd hl => rdepth_any wz w2.heap.size wS.heap.size ys next _ (HT2.out.keep hz) hz.size HWH.out.fits x d hd hl
            go_loopw [103] (fun i wr => ∃ k : Nat, k ≤ xs.length ∧ i = .int .i64 k ∧ (∀ j, ∀ h : j < xs.length, j < k → ∀ d, Dist (ndsV ys) (rootOf (ndsV ys)) xs[j].el.id d → d + 1 ≤ 32) ∧ Below w2.heap.size w2 wr) (fun i _ => xs.length - (intOf i).toNat)
            case atStart => exact ⟨0, Nat.zero_le _, rfl, fun j h h2 => by omega, Below.refl _ _⟩
            case round =>
              obtain ⟨q, hq, rfl, hno, hb⟩ := hrel
              have HNO := Lib.hid hno; have HBQ := Lib.hid hb; have HQ := Lib.hid hq
              have HWQ : Hid (Below w.heap.size w wr) := Lib.hid (HW2.out.trans (hb.mono HW2.out.size))
              clear hno hb
              by_cases hlq : q < xs.length
              · obtain ⟨b9, o9, e9, hb9, hr9⟩ := RowAt.place HX.out.row (by omega)
                cases e9
                obtain ⟨y, hy⟩ : ∃ y, xs[q] = y := ⟨_, rfl⟩
                have hxm : y ∈ xs := by rw [← hy]; exact List.getElem_mem hlq
                have HEL : Hid (∀ j u, y.cells.toList[j]? = some u → wr.cell? ⟨bx, off + q * 11 + j, none⟩ = some u) := Lib.hid (by
                  intro j u hu
                  rw [(bcell HWQ.out).1 bx _ hb9]
                  have := elem_cells hr9 hlq
                  rw [hy] at this
                  exact this j u hu)
                have HONE : Hid (y.kv.oneCell' = true ∧ y.av.oneCell' = true) := Lib.hid ⟨at_one (HX.out.kids y hxm), at_one (HX.out.attrs y hxm)⟩
                have hnm : y.el.nd ∈ ndsV xs := List.mem_map_of_mem (f := fun x : Ev => x.el.nd) hxm
                have hnm2 : y.el.nd ∈ ndsV ys := by rw [HNV.out]; exact hnm
                obtain ⟨d, hd⟩ := HWH.out.dist hnm2
                have hdl := dist_lt HWH.out.fits hd
                rw [ndsV_len, HYL.out] at hdl
                have hd' : Dist (ndsV ys) (rootOf (ndsV ys)) y.el.id d := hd
                have HD := Lib.hid hd'; have HNM := Lib.hid hnm
                have HDL : Hid (d < 1000) := Lib.hid (by have := HL.out; omega)
                have hdl2 : (d : Int) < 256 := by have := HL.out; omega
                have HXQ : Hid (∀ h : q < xs.length, xs[q].el.id = y.el.id) := Lib.hid fun h => by rw [hy]
                clear hy hxm hr9 hb9 hnm hnm2 hd hd' hdl
                obtain ⟨wo, hwo⟩ : ∃ wo, wo = wr := ⟨_, rfl⟩
                subst hwo
                by_cases hdp : 32 < d + 1
                · have hq1 : decide ((32 : Int) < (d : Int) + 1) = true := by simp; omega
                  have HZ : Hid (loadE (xs.map (·.el)) = 7) := Lib.hid (by
                    rw [HLR.out]
                    exact @if_pos _ (Classical.propDecidable _) ⟨y.el.nd, HNM.out, d, by rw [← HNV.out]; exact HD.out, hdp⟩ _ _ _)
                  clear hdp
                  go_wp2_with (first
                    | (refine wpList_load_range rfl 47 _ rfl bx (off + q * 11) rfl y.cells _ HEL.out Tryz.underlying47 rfl size47 ?_)
                    | (refine wpl_alloc rfl 47 rfl _ (zero47 _) ?_; intro w3 hs3 hc3 hb3; have HS3 := Lib.hid hs3; have HC3 := Lib.hid hc3; have HB3 := Lib.hid hb3; clear hs3 hc3 hb3)
                    | (refine wpl_store_el rfl _ _ rfl wo.heap.size y rfl rfl _ HC3.out rfl HONE.out ?_; intro w4 hs4 hc4 hf4; have HC4 := Lib.hid hc4; have HB4 := Lib.hid (HB3.out.trans (hf4.below (by have := HS3.out; omega) (Nat.le_refl _))); have c0 : w4.cell? ⟨wo.heap.size, 0, none⟩ = some (.int .i64 y.el.id) := blk_cell hc4 0 _ rfl; clear hs4 hc4 hf4)
                    | (go_at_call 24; refine (HDEP.out w4 y.el.id d (HBQ.out.trans (HB4.out.mono HBQ.out.size)) HD.out HDL.out).mono ?_; rintro e w5 ⟨rfl, hb5⟩; have HB5 := Lib.hid hb5; clear hb5))
                  go_ret2
                  exact RLoadP.no HZ.out (by decide) ((HWQ.out.trans (HB4.out.mono HWQ.out.size)).trans (HB5.out.mono (Nat.le_trans HWQ.out.size HB4.out.size)))
                · have hq1 : decide ((32 : Int) < (d : Int) + 1) = false := by simp; omega
                  have HDP := Lib.hid hdp
                  clear hdp
                  go_wp2_with (first
                    | (refine wpList_load_range rfl 47 _ rfl bx (off + q * 11) rfl y.cells _ HEL.out Tryz.underlying47 rfl size47 ?_)
                    | (refine wpl_alloc rfl 47 rfl _ (zero47 _) ?_; intro w3 hs3 hc3 hb3; have HS3 := Lib.hid hs3; have HC3 := Lib.hid hc3; have HB3 := Lib.hid hb3; clear hs3 hc3 hb3)
                    | (refine wpl_store_el rfl _ _ rfl wo.heap.size y rfl rfl _ HC3.out rfl HONE.out ?_; intro w4 hs4 hc4 hf4; have HC4 := Lib.hid hc4; have HB4 := Lib.hid (HB3.out.trans (hf4.below (by have := HS3.out; omega) (Nat.le_refl _))); have c0 : w4.cell? ⟨wo.heap.size, 0, none⟩ = some (.int .i64 y.el.id) := blk_cell hc4 0 _ rfl; clear hs4 hc4 hf4)
                    | (go_at_call 24; refine (HDEP.out w4 y.el.id d (HBQ.out.trans (HB4.out.mono HBQ.out.size)) HD.out HDL.out).mono ?_; rintro e w5 ⟨rfl, hb5⟩; have HB5 := Lib.hid hb5; clear hb5))
                  go_roundw
                  case rel =>
                    refine ⟨q + 1, by omega, by go_num, fun j h h2 d' hd' => ?_, (HBQ.out.trans (HB4.out.mono HBQ.out.size)).trans (HB5.out.mono (Nat.le_trans HBQ.out.size HB4.out.size))⟩
                    by_cases hj : j = q
                    · subst hj
                      rw [HXQ.out h] at hd'
                      have := dist_inj HWH.out.fits hd' HD.out
                      have := HDP.out
                      omega
                    · exact HNO.out j h (by omega) d' hd'
                  case measure => simp [intOf]; omega
              · have hqe : q = xs.length := by have := HQ.out; omega
                have HZ : Hid (loadE (xs.map (·.el)) = 0) := Lib.hid (by
                  rw [HLR.out]
                  refine @if_neg _ (Classical.propDecidable _) (fun ⟨n, hn, d, hd, hl⟩ => ?_) _ _ _
                  obtain ⟨y, hy, rfl⟩ := List.mem_map.1 hn
                  obtain ⟨j, hj, rfl⟩ := List.mem_iff_getElem.1 hy
                  have := HNO.out j hj (by omega) d (by rw [HNV.out]; exact hd)
                  omega)
                clear hqe
                go_wp2
                go_ret2
                exact ⟨_, ret_two HZ.out.symm, HWQ.out, fun h => absurd HZ.out h, fun _ => ⟨wS.heap.size, ys, next, rfl, HYE.out, (HT2.out.keep HBQ.out).wide HBQ.out.size, HWH.out⟩⟩
set_option maxRecDepth 100000 in
set_option maxHeartbeats 1000000 in
/-- jalousieref8.Load. -/
theorem rload_any (w : World) (v : Value) (xs : List Ev) (hx : ElsAt w.heap.size w v xs) : Calls Tryz.prog 6 #[v] w (RLoadP w (xs.map (·.el))) := by
  have hlen : (xs.map (·.el)).length = xs.length := List.length_map _
  by_cases h0 : xs.length = 0
  · have HZ : Hid (loadE (xs.map (·.el)) = 1) := Lib.hid (by unfold loadE; rw [hlen, if_pos h0])
    obtain ⟨a, c, rfl⟩ := RowAt.slice hx.row
    have t0 : ((xs.length : Int) == 0) = true := by rw [h0]; rfl
    clear hx hlen h0
    go_enter Tryz.func6, Tryz.ntmps6
    go_wp2
    go_ret2
    exact RLoadP.no HZ.out (by decide) (Below.refl _ _)
  by_cases h2 : 256 < xs.length
  · have HZ : Hid (loadE (xs.map (·.el)) = 6) := Lib.hid (by unfold loadE; rw [hlen, if_neg h0, if_pos h2])
    obtain ⟨a, c, rfl⟩ := RowAt.slice hx.row
    have t0 : ((xs.length : Int) == 0) = false := by rw [beq_eq_false_iff_ne]; omega
    have t1 : decide ((256 : Int) < (xs.length : Int)) = true := by simp; omega
    clear hx hlen h0
    go_enter Tryz.func6, Tryz.ntmps6
    go_wp2
    go_ret2
    exact RLoadP.no HZ.out (by decide) (Below.refl _ _)
  exact rload_main w v xs hx (by omega) (by omega)
end Go.Proofs.YthbmnacleneflaaGreatDoor
