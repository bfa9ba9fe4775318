/-
  Contract, for a run of one goroutine, of dom.MayBox. Condition: the numbers are of their kinds; the name's length fits.
-/
import Derived.Test.YthbmnacleneflaaGreatDoorD1
import Derived.Maps.AppendAt
set_option linter.unusedSimpArgs false
set_option linter.unusedVariables false
set_option linter.unusedSimpArgs false
set_option linter.unusedVariables false
namespace Go.Proofs.YthbmnacleneflaaGreatDoor
open Go Go.RowKit


/-- May a box be? -/
noncomputable def boxB (bt : Int) (bn : ByteArray) (n1 d1 n2 d2 : Int) : Bool := decide (0 ≤ bt) && decide (bt ≤ 2) && (bn.toList.isEmpty || nameB bn) && sideB n1 d1 && sideB n2 d2

set_option maxRecDepth 100000 in
set_option maxHeartbeats 1000000 in
theorem box_0 (bt : Int) (bn : ByteArray) (n1 d1 n2 d2 : Int) (w : World) (hb : I64 bt) (hs : bn.size ≤ maxLen) (h1 : I64 n1) (h2 : I64 d1) (h3 : I64 n2) (h4 : I64 d2)  (t0 : decide (0 ≤ bt) = false) :
    Calls Tryz.prog 38 #[.agg #[.int .i64 bt, .string bn, .int .i64 n1, .int .i64 d1, .int .i64 n2, .int .i64 d2]] w fun e w' => e = .returned (.bool (boxB bt bn n1 d1 n2 d2)) ∧ Below w.heap.size w w' := by
  have HNM := Lib.hid hs; have HN1 := Lib.hid h1; have HD1 := Lib.hid h2; have HN2 := Lib.hid h3; have HD2 := Lib.hid h4
  have HS := Lib.hid (show boxB bt bn n1 d1 n2 d2 = (decide (0 ≤ bt) && decide (bt ≤ 2) && (bn.toList.isEmpty || nameB bn) && sideB n1 d1 && sideB n2 d2) from rfl)
  have hcell : ∀ j v, (#[.int .i64 bt, .string bn, .int .i64 n1, .int .i64 d1, .int .i64 n2, .int .i64 d2] : Array Value)[j]? = some v → (w.alloc (.cells #[.int .i64 bt, .string bn, .int .i64 n1, .int .i64 d1, .int .i64 n2, .int .i64 d2] 45)).cell? ⟨w.heap.size, j, none⟩ = some v := fun j v hv => (World.cell?_alloc_at _ _ _ _ rfl).trans hv
  have HC2 := Lib.hid (hcell 2 _ rfl); have HC3 := Lib.hid (hcell 3 _ rfl); have HC4 := Lib.hid (hcell 4 _ rfl); have HC5 := Lib.hid (hcell 5 _ rfl)
  have HB := Lib.hid (Below.refl (w.heap.size + 1) (w.alloc (.cells #[.int .i64 bt, .string bn, .int .i64 n1, .int .i64 d1, .int .i64 n2, .int .i64 d2] 45)))
  have HLE := Lib.hid (show w.heap.size + 1 ≤ (w.alloc (.cells #[.int .i64 bt, .string bn, .int .i64 n1, .int .i64 d1, .int .i64 n2, .int .i64 d2] 45)).heap.size by simp)
  clear hcell hb hs h1 h2 h3 h4
  have T0 := Lib.hid t0
  go_enter Tryz.func38, Tryz.ntmps38
  go_wp2_with (first | (go_at_call 37; refine (may_name bn _ HNM.out).mono ?_; rintro e w1 ⟨rfl, hb⟩; have HB := Lib.hid (HB.out.trans (hb.mono (Nat.le_trans HLE.out HB.out.size))); have hc2 := ((bcell HB.out).1 w.heap.size 2 (Nat.lt_succ_self _)).trans HC2.out; have hc3 := ((bcell HB.out).1 w.heap.size 3 (Nat.lt_succ_self _)).trans HC3.out; have hc4 := ((bcell HB.out).1 w.heap.size 4 (Nat.lt_succ_self _)).trans HC4.out; have hc5 := ((bcell HB.out).1 w.heap.size 5 (Nat.lt_succ_self _)).trans HC5.out; clear hb) | (go_at_call 56; refine (side_any _ _ _ (by first | exact HN1.out | exact HN2.out) (by first | exact HD1.out | exact HD2.out)).mono ?_; rintro e w1 ⟨rfl, hb⟩; have HB := Lib.hid (HB.out.trans (hb.mono (Nat.le_trans HLE.out HB.out.size))); have hc2 := ((bcell HB.out).1 w.heap.size 2 (Nat.lt_succ_self _)).trans HC2.out; have hc3 := ((bcell HB.out).1 w.heap.size 3 (Nat.lt_succ_self _)).trans HC3.out; have hc4 := ((bcell HB.out).1 w.heap.size 4 (Nat.lt_succ_self _)).trans HC4.out; have hc5 := ((bcell HB.out).1 w.heap.size 5 (Nat.lt_succ_self _)).trans HC5.out; clear hb))
  go_ret
  exact ⟨ret_bool (by rw [HS.out]; simp only [T0.out]; rfl), (((Below.refl w.heap.size w).alloc (Nat.le_refl _) (.cells #[.int .i64 bt, .string bn, .int .i64 n1, .int .i64 d1, .int .i64 n2, .int .i64 d2] 45)).trans (HB.out.mono (Nat.le_succ _)))⟩
set_option maxRecDepth 100000 in
set_option maxHeartbeats 1000000 in
theorem box_1 (bt : Int) (bn : ByteArray) (n1 d1 n2 d2 : Int) (w : World) (hb : I64 bt) (hs : bn.size ≤ maxLen) (h1 : I64 n1) (h2 : I64 d1) (h3 : I64 n2) (h4 : I64 d2)  (t0 : decide (0 ≤ bt) = true) (t1 : decide (bt ≤ 2) = false) :
    Calls Tryz.prog 38 #[.agg #[.int .i64 bt, .string bn, .int .i64 n1, .int .i64 d1, .int .i64 n2, .int .i64 d2]] w fun e w' => e = .returned (.bool (boxB bt bn n1 d1 n2 d2)) ∧ Below w.heap.size w w' := by
  have HNM := Lib.hid hs; have HN1 := Lib.hid h1; have HD1 := Lib.hid h2; have HN2 := Lib.hid h3; have HD2 := Lib.hid h4
  have HS := Lib.hid (show boxB bt bn n1 d1 n2 d2 = (decide (0 ≤ bt) && decide (bt ≤ 2) && (bn.toList.isEmpty || nameB bn) && sideB n1 d1 && sideB n2 d2) from rfl)
  have hcell : ∀ j v, (#[.int .i64 bt, .string bn, .int .i64 n1, .int .i64 d1, .int .i64 n2, .int .i64 d2] : Array Value)[j]? = some v → (w.alloc (.cells #[.int .i64 bt, .string bn, .int .i64 n1, .int .i64 d1, .int .i64 n2, .int .i64 d2] 45)).cell? ⟨w.heap.size, j, none⟩ = some v := fun j v hv => (World.cell?_alloc_at _ _ _ _ rfl).trans hv
  have HC2 := Lib.hid (hcell 2 _ rfl); have HC3 := Lib.hid (hcell 3 _ rfl); have HC4 := Lib.hid (hcell 4 _ rfl); have HC5 := Lib.hid (hcell 5 _ rfl)
  have HB := Lib.hid (Below.refl (w.heap.size + 1) (w.alloc (.cells #[.int .i64 bt, .string bn, .int .i64 n1, .int .i64 d1, .int .i64 n2, .int .i64 d2] 45)))
  have HLE := Lib.hid (show w.heap.size + 1 ≤ (w.alloc (.cells #[.int .i64 bt, .string bn, .int .i64 n1, .int .i64 d1, .int .i64 n2, .int .i64 d2] 45)).heap.size by simp)
  clear hcell hb hs h1 h2 h3 h4
  have T0 := Lib.hid t0
  have T1 := Lib.hid t1
  go_enter Tryz.func38, Tryz.ntmps38
  go_wp2_with (first | (go_at_call 37; refine (may_name bn _ HNM.out).mono ?_; rintro e w1 ⟨rfl, hb⟩; have HB := Lib.hid (HB.out.trans (hb.mono (Nat.le_trans HLE.out HB.out.size))); have hc2 := ((bcell HB.out).1 w.heap.size 2 (Nat.lt_succ_self _)).trans HC2.out; have hc3 := ((bcell HB.out).1 w.heap.size 3 (Nat.lt_succ_self _)).trans HC3.out; have hc4 := ((bcell HB.out).1 w.heap.size 4 (Nat.lt_succ_self _)).trans HC4.out; have hc5 := ((bcell HB.out).1 w.heap.size 5 (Nat.lt_succ_self _)).trans HC5.out; clear hb) | (go_at_call 56; refine (side_any _ _ _ (by first | exact HN1.out | exact HN2.out) (by first | exact HD1.out | exact HD2.out)).mono ?_; rintro e w1 ⟨rfl, hb⟩; have HB := Lib.hid (HB.out.trans (hb.mono (Nat.le_trans HLE.out HB.out.size))); have hc2 := ((bcell HB.out).1 w.heap.size 2 (Nat.lt_succ_self _)).trans HC2.out; have hc3 := ((bcell HB.out).1 w.heap.size 3 (Nat.lt_succ_self _)).trans HC3.out; have hc4 := ((bcell HB.out).1 w.heap.size 4 (Nat.lt_succ_self _)).trans HC4.out; have hc5 := ((bcell HB.out).1 w.heap.size 5 (Nat.lt_succ_self _)).trans HC5.out; clear hb))
  go_ret
  exact ⟨ret_bool (by rw [HS.out]; simp only [T0.out, T1.out]; rfl), (((Below.refl w.heap.size w).alloc (Nat.le_refl _) (.cells #[.int .i64 bt, .string bn, .int .i64 n1, .int .i64 d1, .int .i64 n2, .int .i64 d2] 45)).trans (HB.out.mono (Nat.le_succ _)))⟩
set_option maxRecDepth 100000 in
set_option maxHeartbeats 1000000 in
theorem box_2 (bt : Int) (bn : ByteArray) (n1 d1 n2 d2 : Int) (w : World) (hb : I64 bt) (hs : bn.size ≤ maxLen) (h1 : I64 n1) (h2 : I64 d1) (h3 : I64 n2) (h4 : I64 d2)  (t0 : decide (0 ≤ bt) = true) (t1 : decide (bt ≤ 2) = true) (t2 : bn.toList.isEmpty = false) (t3 : nameB bn = false) :
    Calls Tryz.prog 38 #[.agg #[.int .i64 bt, .string bn, .int .i64 n1, .int .i64 d1, .int .i64 n2, .int .i64 d2]] w fun e w' => e = .returned (.bool (boxB bt bn n1 d1 n2 d2)) ∧ Below w.heap.size w w' := by
  have HNM := Lib.hid hs; have HN1 := Lib.hid h1; have HD1 := Lib.hid h2; have HN2 := Lib.hid h3; have HD2 := Lib.hid h4
  have HS := Lib.hid (show boxB bt bn n1 d1 n2 d2 = (decide (0 ≤ bt) && decide (bt ≤ 2) && (bn.toList.isEmpty || nameB bn) && sideB n1 d1 && sideB n2 d2) from rfl)
  have hcell : ∀ j v, (#[.int .i64 bt, .string bn, .int .i64 n1, .int .i64 d1, .int .i64 n2, .int .i64 d2] : Array Value)[j]? = some v → (w.alloc (.cells #[.int .i64 bt, .string bn, .int .i64 n1, .int .i64 d1, .int .i64 n2, .int .i64 d2] 45)).cell? ⟨w.heap.size, j, none⟩ = some v := fun j v hv => (World.cell?_alloc_at _ _ _ _ rfl).trans hv
  have HC2 := Lib.hid (hcell 2 _ rfl); have HC3 := Lib.hid (hcell 3 _ rfl); have HC4 := Lib.hid (hcell 4 _ rfl); have HC5 := Lib.hid (hcell 5 _ rfl)
  have HB := Lib.hid (Below.refl (w.heap.size + 1) (w.alloc (.cells #[.int .i64 bt, .string bn, .int .i64 n1, .int .i64 d1, .int .i64 n2, .int .i64 d2] 45)))
  have HLE := Lib.hid (show w.heap.size + 1 ≤ (w.alloc (.cells #[.int .i64 bt, .string bn, .int .i64 n1, .int .i64 d1, .int .i64 n2, .int .i64 d2] 45)).heap.size by simp)
  clear hcell hb hs h1 h2 h3 h4
  have T0 := Lib.hid t0
  have T1 := Lib.hid t1
  have T2 := Lib.hid t2
  have T3 := Lib.hid t3
  go_enter Tryz.func38, Tryz.ntmps38
  go_wp2_with (first | (go_at_call 37; refine (may_name bn _ HNM.out).mono ?_; rintro e w1 ⟨rfl, hb⟩; have HB := Lib.hid (HB.out.trans (hb.mono (Nat.le_trans HLE.out HB.out.size))); have hc2 := ((bcell HB.out).1 w.heap.size 2 (Nat.lt_succ_self _)).trans HC2.out; have hc3 := ((bcell HB.out).1 w.heap.size 3 (Nat.lt_succ_self _)).trans HC3.out; have hc4 := ((bcell HB.out).1 w.heap.size 4 (Nat.lt_succ_self _)).trans HC4.out; have hc5 := ((bcell HB.out).1 w.heap.size 5 (Nat.lt_succ_self _)).trans HC5.out; clear hb) | (go_at_call 56; refine (side_any _ _ _ (by first | exact HN1.out | exact HN2.out) (by first | exact HD1.out | exact HD2.out)).mono ?_; rintro e w1 ⟨rfl, hb⟩; have HB := Lib.hid (HB.out.trans (hb.mono (Nat.le_trans HLE.out HB.out.size))); have hc2 := ((bcell HB.out).1 w.heap.size 2 (Nat.lt_succ_self _)).trans HC2.out; have hc3 := ((bcell HB.out).1 w.heap.size 3 (Nat.lt_succ_self _)).trans HC3.out; have hc4 := ((bcell HB.out).1 w.heap.size 4 (Nat.lt_succ_self _)).trans HC4.out; have hc5 := ((bcell HB.out).1 w.heap.size 5 (Nat.lt_succ_self _)).trans HC5.out; clear hb))
  go_ret
  exact ⟨ret_bool (by rw [HS.out]; simp only [T0.out, T1.out, T2.out, T3.out]; rfl), (((Below.refl w.heap.size w).alloc (Nat.le_refl _) (.cells #[.int .i64 bt, .string bn, .int .i64 n1, .int .i64 d1, .int .i64 n2, .int .i64 d2] 45)).trans (HB.out.mono (Nat.le_succ _)))⟩
set_option maxRecDepth 100000 in
set_option maxHeartbeats 1000000 in
theorem box_3 (bt : Int) (bn : ByteArray) (n1 d1 n2 d2 : Int) (w : World) (hb : I64 bt) (hs : bn.size ≤ maxLen) (h1 : I64 n1) (h2 : I64 d1) (h3 : I64 n2) (h4 : I64 d2)  (t0 : decide (0 ≤ bt) = true) (t1 : decide (bt ≤ 2) = true) (t2 : bn.toList.isEmpty = false) (t3 : nameB bn = true) (t4 : sideB n1 d1 = false) :
    Calls Tryz.prog 38 #[.agg #[.int .i64 bt, .string bn, .int .i64 n1, .int .i64 d1, .int .i64 n2, .int .i64 d2]] w fun e w' => e = .returned (.bool (boxB bt bn n1 d1 n2 d2)) ∧ Below w.heap.size w w' := by
  have HNM := Lib.hid hs; have HN1 := Lib.hid h1; have HD1 := Lib.hid h2; have HN2 := Lib.hid h3; have HD2 := Lib.hid h4
  have HS := Lib.hid (show boxB bt bn n1 d1 n2 d2 = (decide (0 ≤ bt) && decide (bt ≤ 2) && (bn.toList.isEmpty || nameB bn) && sideB n1 d1 && sideB n2 d2) from rfl)
  have hcell : ∀ j v, (#[.int .i64 bt, .string bn, .int .i64 n1, .int .i64 d1, .int .i64 n2, .int .i64 d2] : Array Value)[j]? = some v → (w.alloc (.cells #[.int .i64 bt, .string bn, .int .i64 n1, .int .i64 d1, .int .i64 n2, .int .i64 d2] 45)).cell? ⟨w.heap.size, j, none⟩ = some v := fun j v hv => (World.cell?_alloc_at _ _ _ _ rfl).trans hv
  have HC2 := Lib.hid (hcell 2 _ rfl); have HC3 := Lib.hid (hcell 3 _ rfl); have HC4 := Lib.hid (hcell 4 _ rfl); have HC5 := Lib.hid (hcell 5 _ rfl)
  have HB := Lib.hid (Below.refl (w.heap.size + 1) (w.alloc (.cells #[.int .i64 bt, .string bn, .int .i64 n1, .int .i64 d1, .int .i64 n2, .int .i64 d2] 45)))
  have HLE := Lib.hid (show w.heap.size + 1 ≤ (w.alloc (.cells #[.int .i64 bt, .string bn, .int .i64 n1, .int .i64 d1, .int .i64 n2, .int .i64 d2] 45)).heap.size by simp)
  clear hcell hb hs h1 h2 h3 h4
  have T0 := Lib.hid t0
  have T1 := Lib.hid t1
  have T2 := Lib.hid t2
  have T3 := Lib.hid t3
  have T4 := Lib.hid t4
  go_enter Tryz.func38, Tryz.ntmps38
  go_wp2_with (first | (go_at_call 37; refine (may_name bn _ HNM.out).mono ?_; rintro e w1 ⟨rfl, hb⟩; have HB := Lib.hid (HB.out.trans (hb.mono (Nat.le_trans HLE.out HB.out.size))); have hc2 := ((bcell HB.out).1 w.heap.size 2 (Nat.lt_succ_self _)).trans HC2.out; have hc3 := ((bcell HB.out).1 w.heap.size 3 (Nat.lt_succ_self _)).trans HC3.out; have hc4 := ((bcell HB.out).1 w.heap.size 4 (Nat.lt_succ_self _)).trans HC4.out; have hc5 := ((bcell HB.out).1 w.heap.size 5 (Nat.lt_succ_self _)).trans HC5.out; clear hb) | (go_at_call 56; refine (side_any _ _ _ (by first | exact HN1.out | exact HN2.out) (by first | exact HD1.out | exact HD2.out)).mono ?_; rintro e w1 ⟨rfl, hb⟩; have HB := Lib.hid (HB.out.trans (hb.mono (Nat.le_trans HLE.out HB.out.size))); have hc2 := ((bcell HB.out).1 w.heap.size 2 (Nat.lt_succ_self _)).trans HC2.out; have hc3 := ((bcell HB.out).1 w.heap.size 3 (Nat.lt_succ_self _)).trans HC3.out; have hc4 := ((bcell HB.out).1 w.heap.size 4 (Nat.lt_succ_self _)).trans HC4.out; have hc5 := ((bcell HB.out).1 w.heap.size 5 (Nat.lt_succ_self _)).trans HC5.out; clear hb))
  go_ret
  exact ⟨ret_bool (by rw [HS.out]; simp only [T0.out, T1.out, T2.out, T3.out, T4.out]; rfl), (((Below.refl w.heap.size w).alloc (Nat.le_refl _) (.cells #[.int .i64 bt, .string bn, .int .i64 n1, .int .i64 d1, .int .i64 n2, .int .i64 d2] 45)).trans (HB.out.mono (Nat.le_succ _)))⟩
set_option maxRecDepth 100000 in
set_option maxHeartbeats 1000000 in
theorem box_4 (bt : Int) (bn : ByteArray) (n1 d1 n2 d2 : Int) (w : World) (hb : I64 bt) (hs : bn.size ≤ maxLen) (h1 : I64 n1) (h2 : I64 d1) (h3 : I64 n2) (h4 : I64 d2)  (t0 : decide (0 ≤ bt) = true) (t1 : decide (bt ≤ 2) = true) (t2 : bn.toList.isEmpty = false) (t3 : nameB bn = true) (t4 : sideB n1 d1 = true) (t5 : sideB n2 d2 = false) :
    Calls Tryz.prog 38 #[.agg #[.int .i64 bt, .string bn, .int .i64 n1, .int .i64 d1, .int .i64 n2, .int .i64 d2]] w fun e w' => e = .returned (.bool (boxB bt bn n1 d1 n2 d2)) ∧ Below w.heap.size w w' := by
  have HNM := Lib.hid hs; have HN1 := Lib.hid h1; have HD1 := Lib.hid h2; have HN2 := Lib.hid h3; have HD2 := Lib.hid h4
  have HS := Lib.hid (show boxB bt bn n1 d1 n2 d2 = (decide (0 ≤ bt) && decide (bt ≤ 2) && (bn.toList.isEmpty || nameB bn) && sideB n1 d1 && sideB n2 d2) from rfl)
  have hcell : ∀ j v, (#[.int .i64 bt, .string bn, .int .i64 n1, .int .i64 d1, .int .i64 n2, .int .i64 d2] : Array Value)[j]? = some v → (w.alloc (.cells #[.int .i64 bt, .string bn, .int .i64 n1, .int .i64 d1, .int .i64 n2, .int .i64 d2] 45)).cell? ⟨w.heap.size, j, none⟩ = some v := fun j v hv => (World.cell?_alloc_at _ _ _ _ rfl).trans hv
  have HC2 := Lib.hid (hcell 2 _ rfl); have HC3 := Lib.hid (hcell 3 _ rfl); have HC4 := Lib.hid (hcell 4 _ rfl); have HC5 := Lib.hid (hcell 5 _ rfl)
  have HB := Lib.hid (Below.refl (w.heap.size + 1) (w.alloc (.cells #[.int .i64 bt, .string bn, .int .i64 n1, .int .i64 d1, .int .i64 n2, .int .i64 d2] 45)))
  have HLE := Lib.hid (show w.heap.size + 1 ≤ (w.alloc (.cells #[.int .i64 bt, .string bn, .int .i64 n1, .int .i64 d1, .int .i64 n2, .int .i64 d2] 45)).heap.size by simp)
  clear hcell hb hs h1 h2 h3 h4
  have T0 := Lib.hid t0
  have T1 := Lib.hid t1
  have T2 := Lib.hid t2
  have T3 := Lib.hid t3
  have T4 := Lib.hid t4
  have T5 := Lib.hid t5
  go_enter Tryz.func38, Tryz.ntmps38
  go_wp2_with (first | (go_at_call 37; refine (may_name bn _ HNM.out).mono ?_; rintro e w1 ⟨rfl, hb⟩; have HB := Lib.hid (HB.out.trans (hb.mono (Nat.le_trans HLE.out HB.out.size))); have hc2 := ((bcell HB.out).1 w.heap.size 2 (Nat.lt_succ_self _)).trans HC2.out; have hc3 := ((bcell HB.out).1 w.heap.size 3 (Nat.lt_succ_self _)).trans HC3.out; have hc4 := ((bcell HB.out).1 w.heap.size 4 (Nat.lt_succ_self _)).trans HC4.out; have hc5 := ((bcell HB.out).1 w.heap.size 5 (Nat.lt_succ_self _)).trans HC5.out; clear hb) | (go_at_call 56; refine (side_any _ _ _ (by first | exact HN1.out | exact HN2.out) (by first | exact HD1.out | exact HD2.out)).mono ?_; rintro e w1 ⟨rfl, hb⟩; have HB := Lib.hid (HB.out.trans (hb.mono (Nat.le_trans HLE.out HB.out.size))); have hc2 := ((bcell HB.out).1 w.heap.size 2 (Nat.lt_succ_self _)).trans HC2.out; have hc3 := ((bcell HB.out).1 w.heap.size 3 (Nat.lt_succ_self _)).trans HC3.out; have hc4 := ((bcell HB.out).1 w.heap.size 4 (Nat.lt_succ_self _)).trans HC4.out; have hc5 := ((bcell HB.out).1 w.heap.size 5 (Nat.lt_succ_self _)).trans HC5.out; clear hb))
  go_ret
  exact ⟨ret_bool (by rw [HS.out]; simp only [T0.out, T1.out, T2.out, T3.out, T4.out, T5.out]; rfl), (((Below.refl w.heap.size w).alloc (Nat.le_refl _) (.cells #[.int .i64 bt, .string bn, .int .i64 n1, .int .i64 d1, .int .i64 n2, .int .i64 d2] 45)).trans (HB.out.mono (Nat.le_succ _)))⟩
set_option maxRecDepth 100000 in
set_option maxHeartbeats 1000000 in
theorem box_5 (bt : Int) (bn : ByteArray) (n1 d1 n2 d2 : Int) (w : World) (hb : I64 bt) (hs : bn.size ≤ maxLen) (h1 : I64 n1) (h2 : I64 d1) (h3 : I64 n2) (h4 : I64 d2)  (t0 : decide (0 ≤ bt) = true) (t1 : decide (bt ≤ 2) = true) (t2 : bn.toList.isEmpty = false) (t3 : nameB bn = true) (t4 : sideB n1 d1 = true) (t5 : sideB n2 d2 = true) :
    Calls Tryz.prog 38 #[.agg #[.int .i64 bt, .string bn, .int .i64 n1, .int .i64 d1, .int .i64 n2, .int .i64 d2]] w fun e w' => e = .returned (.bool (boxB bt bn n1 d1 n2 d2)) ∧ Below w.heap.size w w' := by
  have HNM := Lib.hid hs; have HN1 := Lib.hid h1; have HD1 := Lib.hid h2; have HN2 := Lib.hid h3; have HD2 := Lib.hid h4
  have HS := Lib.hid (show boxB bt bn n1 d1 n2 d2 = (decide (0 ≤ bt) && decide (bt ≤ 2) && (bn.toList.isEmpty || nameB bn) && sideB n1 d1 && sideB n2 d2) from rfl)
  have hcell : ∀ j v, (#[.int .i64 bt, .string bn, .int .i64 n1, .int .i64 d1, .int .i64 n2, .int .i64 d2] : Array Value)[j]? = some v → (w.alloc (.cells #[.int .i64 bt, .string bn, .int .i64 n1, .int .i64 d1, .int .i64 n2, .int .i64 d2] 45)).cell? ⟨w.heap.size, j, none⟩ = some v := fun j v hv => (World.cell?_alloc_at _ _ _ _ rfl).trans hv
  have HC2 := Lib.hid (hcell 2 _ rfl); have HC3 := Lib.hid (hcell 3 _ rfl); have HC4 := Lib.hid (hcell 4 _ rfl); have HC5 := Lib.hid (hcell 5 _ rfl)
  have HB := Lib.hid (Below.refl (w.heap.size + 1) (w.alloc (.cells #[.int .i64 bt, .string bn, .int .i64 n1, .int .i64 d1, .int .i64 n2, .int .i64 d2] 45)))
  have HLE := Lib.hid (show w.heap.size + 1 ≤ (w.alloc (.cells #[.int .i64 bt, .string bn, .int .i64 n1, .int .i64 d1, .int .i64 n2, .int .i64 d2] 45)).heap.size by simp)
  clear hcell hb hs h1 h2 h3 h4
  have T0 := Lib.hid t0
  have T1 := Lib.hid t1
  have T2 := Lib.hid t2
  have T3 := Lib.hid t3
  have T4 := Lib.hid t4
  have T5 := Lib.hid t5
  go_enter Tryz.func38, Tryz.ntmps38
  go_wp2_with (first | (go_at_call 37; refine (may_name bn _ HNM.out).mono ?_; rintro e w1 ⟨rfl, hb⟩; have HB := Lib.hid (HB.out.trans (hb.mono (Nat.le_trans HLE.out HB.out.size))); have hc2 := ((bcell HB.out).1 w.heap.size 2 (Nat.lt_succ_self _)).trans HC2.out; have hc3 := ((bcell HB.out).1 w.heap.size 3 (Nat.lt_succ_self _)).trans HC3.out; have hc4 := ((bcell HB.out).1 w.heap.size 4 (Nat.lt_succ_self _)).trans HC4.out; have hc5 := ((bcell HB.out).1 w.heap.size 5 (Nat.lt_succ_self _)).trans HC5.out; clear hb) | (go_at_call 56; refine (side_any _ _ _ (by first | exact HN1.out | exact HN2.out) (by first | exact HD1.out | exact HD2.out)).mono ?_; rintro e w1 ⟨rfl, hb⟩; have HB := Lib.hid (HB.out.trans (hb.mono (Nat.le_trans HLE.out HB.out.size))); have hc2 := ((bcell HB.out).1 w.heap.size 2 (Nat.lt_succ_self _)).trans HC2.out; have hc3 := ((bcell HB.out).1 w.heap.size 3 (Nat.lt_succ_self _)).trans HC3.out; have hc4 := ((bcell HB.out).1 w.heap.size 4 (Nat.lt_succ_self _)).trans HC4.out; have hc5 := ((bcell HB.out).1 w.heap.size 5 (Nat.lt_succ_self _)).trans HC5.out; clear hb))
  go_ret
  exact ⟨ret_bool (by rw [HS.out]; simp only [T0.out, T1.out, T2.out, T3.out, T4.out, T5.out]; rfl), (((Below.refl w.heap.size w).alloc (Nat.le_refl _) (.cells #[.int .i64 bt, .string bn, .int .i64 n1, .int .i64 d1, .int .i64 n2, .int .i64 d2] 45)).trans (HB.out.mono (Nat.le_succ _)))⟩
set_option maxRecDepth 100000 in
set_option maxHeartbeats 1000000 in
theorem box_6 (bt : Int) (bn : ByteArray) (n1 d1 n2 d2 : Int) (w : World) (hb : I64 bt) (hs : bn.size ≤ maxLen) (h1 : I64 n1) (h2 : I64 d1) (h3 : I64 n2) (h4 : I64 d2)  (t0 : decide (0 ≤ bt) = true) (t1 : decide (bt ≤ 2) = true) (t2 : bn.toList.isEmpty = true) (t4 : sideB n1 d1 = false) :
    Calls Tryz.prog 38 #[.agg #[.int .i64 bt, .string bn, .int .i64 n1, .int .i64 d1, .int .i64 n2, .int .i64 d2]] w fun e w' => e = .returned (.bool (boxB bt bn n1 d1 n2 d2)) ∧ Below w.heap.size w w' := by
  have HNM := Lib.hid hs; have HN1 := Lib.hid h1; have HD1 := Lib.hid h2; have HN2 := Lib.hid h3; have HD2 := Lib.hid h4
  have HS := Lib.hid (show boxB bt bn n1 d1 n2 d2 = (decide (0 ≤ bt) && decide (bt ≤ 2) && (bn.toList.isEmpty || nameB bn) && sideB n1 d1 && sideB n2 d2) from rfl)
  have hcell : ∀ j v, (#[.int .i64 bt, .string bn, .int .i64 n1, .int .i64 d1, .int .i64 n2, .int .i64 d2] : Array Value)[j]? = some v → (w.alloc (.cells #[.int .i64 bt, .string bn, .int .i64 n1, .int .i64 d1, .int .i64 n2, .int .i64 d2] 45)).cell? ⟨w.heap.size, j, none⟩ = some v := fun j v hv => (World.cell?_alloc_at _ _ _ _ rfl).trans hv
  have HC2 := Lib.hid (hcell 2 _ rfl); have HC3 := Lib.hid (hcell 3 _ rfl); have HC4 := Lib.hid (hcell 4 _ rfl); have HC5 := Lib.hid (hcell 5 _ rfl)
  have HB := Lib.hid (Below.refl (w.heap.size + 1) (w.alloc (.cells #[.int .i64 bt, .string bn, .int .i64 n1, .int .i64 d1, .int .i64 n2, .int .i64 d2] 45)))
  have HLE := Lib.hid (show w.heap.size + 1 ≤ (w.alloc (.cells #[.int .i64 bt, .string bn, .int .i64 n1, .int .i64 d1, .int .i64 n2, .int .i64 d2] 45)).heap.size by simp)
  clear hcell hb hs h1 h2 h3 h4
  have T0 := Lib.hid t0
  have T1 := Lib.hid t1
  have T2 := Lib.hid t2
  have T4 := Lib.hid t4
  go_enter Tryz.func38, Tryz.ntmps38
  go_wp2_with (first | (go_at_call 37; refine (may_name bn _ HNM.out).mono ?_; rintro e w1 ⟨rfl, hb⟩; have HB := Lib.hid (HB.out.trans (hb.mono (Nat.le_trans HLE.out HB.out.size))); have hc2 := ((bcell HB.out).1 w.heap.size 2 (Nat.lt_succ_self _)).trans HC2.out; have hc3 := ((bcell HB.out).1 w.heap.size 3 (Nat.lt_succ_self _)).trans HC3.out; have hc4 := ((bcell HB.out).1 w.heap.size 4 (Nat.lt_succ_self _)).trans HC4.out; have hc5 := ((bcell HB.out).1 w.heap.size 5 (Nat.lt_succ_self _)).trans HC5.out; clear hb) | (go_at_call 56; refine (side_any _ _ _ (by first | exact HN1.out | exact HN2.out) (by first | exact HD1.out | exact HD2.out)).mono ?_; rintro e w1 ⟨rfl, hb⟩; have HB := Lib.hid (HB.out.trans (hb.mono (Nat.le_trans HLE.out HB.out.size))); have hc2 := ((bcell HB.out).1 w.heap.size 2 (Nat.lt_succ_self _)).trans HC2.out; have hc3 := ((bcell HB.out).1 w.heap.size 3 (Nat.lt_succ_self _)).trans HC3.out; have hc4 := ((bcell HB.out).1 w.heap.size 4 (Nat.lt_succ_self _)).trans HC4.out; have hc5 := ((bcell HB.out).1 w.heap.size 5 (Nat.lt_succ_self _)).trans HC5.out; clear hb))
  go_ret
  exact ⟨ret_bool (by rw [HS.out]; simp only [T0.out, T1.out, T2.out, T4.out]; rfl), (((Below.refl w.heap.size w).alloc (Nat.le_refl _) (.cells #[.int .i64 bt, .string bn, .int .i64 n1, .int .i64 d1, .int .i64 n2, .int .i64 d2] 45)).trans (HB.out.mono (Nat.le_succ _)))⟩
set_option maxRecDepth 100000 in
set_option maxHeartbeats 1000000 in
theorem box_7 (bt : Int) (bn : ByteArray) (n1 d1 n2 d2 : Int) (w : World) (hb : I64 bt) (hs : bn.size ≤ maxLen) (h1 : I64 n1) (h2 : I64 d1) (h3 : I64 n2) (h4 : I64 d2)  (t0 : decide (0 ≤ bt) = true) (t1 : decide (bt ≤ 2) = true) (t2 : bn.toList.isEmpty = true) (t4 : sideB n1 d1 = true) (t5 : sideB n2 d2 = false) :
    Calls Tryz.prog 38 #[.agg #[.int .i64 bt, .string bn, .int .i64 n1, .int .i64 d1, .int .i64 n2, .int .i64 d2]] w fun e w' => e = .returned (.bool (boxB bt bn n1 d1 n2 d2)) ∧ Below w.heap.size w w' := by
  have HNM := Lib.hid hs; have HN1 := Lib.hid h1; have HD1 := Lib.hid h2; have HN2 := Lib.hid h3; have HD2 := Lib.hid h4
  have HS := Lib.hid (show boxB bt bn n1 d1 n2 d2 = (decide (0 ≤ bt) && decide (bt ≤ 2) && (bn.toList.isEmpty || nameB bn) && sideB n1 d1 && sideB n2 d2) from rfl)
  have hcell : ∀ j v, (#[.int .i64 bt, .string bn, .int .i64 n1, .int .i64 d1, .int .i64 n2, .int .i64 d2] : Array Value)[j]? = some v → (w.alloc (.cells #[.int .i64 bt, .string bn, .int .i64 n1, .int .i64 d1, .int .i64 n2, .int .i64 d2] 45)).cell? ⟨w.heap.size, j, none⟩ = some v := fun j v hv => (World.cell?_alloc_at _ _ _ _ rfl).trans hv
  have HC2 := Lib.hid (hcell 2 _ rfl); have HC3 := Lib.hid (hcell 3 _ rfl); have HC4 := Lib.hid (hcell 4 _ rfl); have HC5 := Lib.hid (hcell 5 _ rfl)
  have HB := Lib.hid (Below.refl (w.heap.size + 1) (w.alloc (.cells #[.int .i64 bt, .string bn, .int .i64 n1, .int .i64 d1, .int .i64 n2, .int .i64 d2] 45)))
  have HLE := Lib.hid (show w.heap.size + 1 ≤ (w.alloc (.cells #[.int .i64 bt, .string bn, .int .i64 n1, .int .i64 d1, .int .i64 n2, .int .i64 d2] 45)).heap.size by simp)
  clear hcell hb hs h1 h2 h3 h4
  have T0 := Lib.hid t0
  have T1 := Lib.hid t1
  have T2 := Lib.hid t2
  have T4 := Lib.hid t4
  have T5 := Lib.hid t5
  go_enter Tryz.func38, Tryz.ntmps38
  go_wp2_with (first | (go_at_call 37; refine (may_name bn _ HNM.out).mono ?_; rintro e w1 ⟨rfl, hb⟩; have HB := Lib.hid (HB.out.trans (hb.mono (Nat.le_trans HLE.out HB.out.size))); have hc2 := ((bcell HB.out).1 w.heap.size 2 (Nat.lt_succ_self _)).trans HC2.out; have hc3 := ((bcell HB.out).1 w.heap.size 3 (Nat.lt_succ_self _)).trans HC3.out; have hc4 := ((bcell HB.out).1 w.heap.size 4 (Nat.lt_succ_self _)).trans HC4.out; have hc5 := ((bcell HB.out).1 w.heap.size 5 (Nat.lt_succ_self _)).trans HC5.out; clear hb) | (go_at_call 56; refine (side_any _ _ _ (by first | exact HN1.out | exact HN2.out) (by first | exact HD1.out | exact HD2.out)).mono ?_; rintro e w1 ⟨rfl, hb⟩; have HB := Lib.hid (HB.out.trans (hb.mono (Nat.le_trans HLE.out HB.out.size))); have hc2 := ((bcell HB.out).1 w.heap.size 2 (Nat.lt_succ_self _)).trans HC2.out; have hc3 := ((bcell HB.out).1 w.heap.size 3 (Nat.lt_succ_self _)).trans HC3.out; have hc4 := ((bcell HB.out).1 w.heap.size 4 (Nat.lt_succ_self _)).trans HC4.out; have hc5 := ((bcell HB.out).1 w.heap.size 5 (Nat.lt_succ_self _)).trans HC5.out; clear hb))
  go_ret
  exact ⟨ret_bool (by rw [HS.out]; simp only [T0.out, T1.out, T2.out, T4.out, T5.out]; rfl), (((Below.refl w.heap.size w).alloc (Nat.le_refl _) (.cells #[.int .i64 bt, .string bn, .int .i64 n1, .int .i64 d1, .int .i64 n2, .int .i64 d2] 45)).trans (HB.out.mono (Nat.le_succ _)))⟩
set_option maxRecDepth 100000 in
set_option maxHeartbeats 1000000 in
theorem box_8 (bt : Int) (bn : ByteArray) (n1 d1 n2 d2 : Int) (w : World) (hb : I64 bt) (hs : bn.size ≤ maxLen) (h1 : I64 n1) (h2 : I64 d1) (h3 : I64 n2) (h4 : I64 d2)  (t0 : decide (0 ≤ bt) = true) (t1 : decide (bt ≤ 2) = true) (t2 : bn.toList.isEmpty = true) (t4 : sideB n1 d1 = true) (t5 : sideB n2 d2 = true) :
    Calls Tryz.prog 38 #[.agg #[.int .i64 bt, .string bn, .int .i64 n1, .int .i64 d1, .int .i64 n2, .int .i64 d2]] w fun e w' => e = .returned (.bool (boxB bt bn n1 d1 n2 d2)) ∧ Below w.heap.size w w' := by
  have HNM := Lib.hid hs; have HN1 := Lib.hid h1; have HD1 := Lib.hid h2; have HN2 := Lib.hid h3; have HD2 := Lib.hid h4
  have HS := Lib.hid (show boxB bt bn n1 d1 n2 d2 = (decide (0 ≤ bt) && decide (bt ≤ 2) && (bn.toList.isEmpty || nameB bn) && sideB n1 d1 && sideB n2 d2) from rfl)
  have hcell : ∀ j v, (#[.int .i64 bt, .string bn, .int .i64 n1, .int .i64 d1, .int .i64 n2, .int .i64 d2] : Array Value)[j]? = some v → (w.alloc (.cells #[.int .i64 bt, .string bn, .int .i64 n1, .int .i64 d1, .int .i64 n2, .int .i64 d2] 45)).cell? ⟨w.heap.size, j, none⟩ = some v := fun j v hv => (World.cell?_alloc_at _ _ _ _ rfl).trans hv
  have HC2 := Lib.hid (hcell 2 _ rfl); have HC3 := Lib.hid (hcell 3 _ rfl); have HC4 := Lib.hid (hcell 4 _ rfl); have HC5 := Lib.hid (hcell 5 _ rfl)
  have HB := Lib.hid (Below.refl (w.heap.size + 1) (w.alloc (.cells #[.int .i64 bt, .string bn, .int .i64 n1, .int .i64 d1, .int .i64 n2, .int .i64 d2] 45)))
  have HLE := Lib.hid (show w.heap.size + 1 ≤ (w.alloc (.cells #[.int .i64 bt, .string bn, .int .i64 n1, .int .i64 d1, .int .i64 n2, .int .i64 d2] 45)).heap.size by simp)
  clear hcell hb hs h1 h2 h3 h4
  have T0 := Lib.hid t0
  have T1 := Lib.hid t1
  have T2 := Lib.hid t2
  have T4 := Lib.hid t4
  have T5 := Lib.hid t5
  go_enter Tryz.func38, Tryz.ntmps38
  go_wp2_with (first | (go_at_call 37; refine (may_name bn _ HNM.out).mono ?_; rintro e w1 ⟨rfl, hb⟩; have HB := Lib.hid (HB.out.trans (hb.mono (Nat.le_trans HLE.out HB.out.size))); have hc2 := ((bcell HB.out).1 w.heap.size 2 (Nat.lt_succ_self _)).trans HC2.out; have hc3 := ((bcell HB.out).1 w.heap.size 3 (Nat.lt_succ_self _)).trans HC3.out; have hc4 := ((bcell HB.out).1 w.heap.size 4 (Nat.lt_succ_self _)).trans HC4.out; have hc5 := ((bcell HB.out).1 w.heap.size 5 (Nat.lt_succ_self _)).trans HC5.out; clear hb) | (go_at_call 56; refine (side_any _ _ _ (by first | exact HN1.out | exact HN2.out) (by first | exact HD1.out | exact HD2.out)).mono ?_; rintro e w1 ⟨rfl, hb⟩; have HB := Lib.hid (HB.out.trans (hb.mono (Nat.le_trans HLE.out HB.out.size))); have hc2 := ((bcell HB.out).1 w.heap.size 2 (Nat.lt_succ_self _)).trans HC2.out; have hc3 := ((bcell HB.out).1 w.heap.size 3 (Nat.lt_succ_self _)).trans HC3.out; have hc4 := ((bcell HB.out).1 w.heap.size 4 (Nat.lt_succ_self _)).trans HC4.out; have hc5 := ((bcell HB.out).1 w.heap.size 5 (Nat.lt_succ_self _)).trans HC5.out; clear hb))
  go_ret
  exact ⟨ret_bool (by rw [HS.out]; simp only [T0.out, T1.out, T2.out, T4.out, T5.out]; rfl), (((Below.refl w.heap.size w).alloc (Nat.le_refl _) (.cells #[.int .i64 bt, .string bn, .int .i64 n1, .int .i64 d1, .int .i64 n2, .int .i64 d2] 45)).trans (HB.out.mono (Nat.le_succ _)))⟩
/-- dom.MayBox. -/
theorem box_any (bt : Int) (bn : ByteArray) (n1 d1 n2 d2 : Int) (w : World) (hb : I64 bt) (hs : bn.size ≤ maxLen) (h1 : I64 n1) (h2 : I64 d1) (h3 : I64 n2) (h4 : I64 d2)  :
    Calls Tryz.prog 38 #[.agg #[.int .i64 bt, .string bn, .int .i64 n1, .int .i64 d1, .int .i64 n2, .int .i64 d2]] w fun e w' => e = .returned (.bool (boxB bt bn n1 d1 n2 d2)) ∧ Below w.heap.size w w' := by
  cases t0 : decide (0 ≤ bt) with
  | false =>
    exact box_0 bt bn n1 d1 n2 d2 w hb hs h1 h2 h3 h4 t0
  | true =>
    cases t1 : decide (bt ≤ 2) with
    | false =>
      exact box_1 bt bn n1 d1 n2 d2 w hb hs h1 h2 h3 h4 t0 t1
    | true =>
      cases t2 : bn.toList.isEmpty with
      | false =>
        cases t3 : nameB bn with
        | false =>
          exact box_2 bt bn n1 d1 n2 d2 w hb hs h1 h2 h3 h4 t0 t1 t2 t3
        | true =>
          cases t4 : sideB n1 d1 with
          | false =>
            exact box_3 bt bn n1 d1 n2 d2 w hb hs h1 h2 h3 h4 t0 t1 t2 t3 t4
          | true =>
            cases t5 : sideB n2 d2 with
            | false =>
              exact box_4 bt bn n1 d1 n2 d2 w hb hs h1 h2 h3 h4 t0 t1 t2 t3 t4 t5
            | true =>
              exact box_5 bt bn n1 d1 n2 d2 w hb hs h1 h2 h3 h4 t0 t1 t2 t3 t4 t5
      | true =>
        cases t4 : sideB n1 d1 with
        | false =>
          exact box_6 bt bn n1 d1 n2 d2 w hb hs h1 h2 h3 h4 t0 t1 t2 t4
        | true =>
          cases t5 : sideB n2 d2 with
          | false =>
            exact box_7 bt bn n1 d1 n2 d2 w hb hs h1 h2 h3 h4 t0 t1 t2 t4 t5
          | true =>
            exact box_8 bt bn n1 d1 n2 d2 w hb hs h1 h2 h3 h4 t0 t1 t2 t4 t5
end Go.Proofs.YthbmnacleneflaaGreatDoor
/-
  Rows of elements in memory: as they came, as the call laid them; one element loaded. No condition of its own.
-/
set_option linter.unusedSimpArgs false
set_option linter.unusedVariables false
namespace Go.Proofs.YthbmnacleneflaaGreatDoor
open Go Go.RowKit

/-- An element by itself. -/
structure El where
  id : Int
  par : Int
  tag : ByteArray
  kids : List Int
  attrs : List (ByteArray × ByteArray)
  bt : Int
  bn : ByteArray
  n1 : Int
  d1 : Int
  n2 : Int
  d2 : Int
def El.cells (e : El) (kv av : Value) : Array Value := #[.int .i64 e.id, .int .i64 e.par, .string e.tag, kv, av, .int .i64 e.bt, .string e.bn, .int .i64 e.n1, .int .i64 e.d1, .int .i64 e.n2, .int .i64 e.d2]
structure El.ok (e : El) : Prop where
  id : I64 e.id
  par : I64 e.par
  tag : e.tag.size ≤ maxLen
  kids : ∀ k ∈ e.kids, I64 k
  kn : e.kids.length * 8 ≤ 140737488355328
  attrs : ∀ p ∈ e.attrs, p.1.size ≤ maxLen ∧ p.2.size ≤ maxLen
  an : e.attrs.length * 32 ≤ 140737488355328
  bt : I64 e.bt
  bn : e.bn.size ≤ maxLen
  n1 : I64 e.n1
  d1 : I64 e.d1
  n2 : I64 e.n2
  d2 : I64 e.d2
/-- An element with the values of its kids' and attributes' slices. -/
structure Ev where
  el : El
  kv : Value
  av : Value
def Ev.cells (x : Ev) : Array Value := x.el.cells x.kv x.av
def evCells (l : List Ev) : List Value := l.flatMap fun x => x.cells.toList
theorem Ev.size (x : Ev) : x.cells.size = 11 := rfl
theorem evCells_length (l : List Ev) : (evCells l).length = l.length * 11 := by
  unfold evCells
  induction l with
  | nil => rfl
  | cons a l ih => rw [List.flatMap_cons, List.length_append, ih]; simp [Ev.cells, El.cells]; omega
theorem evCells_get : ∀ (l : List Ev) (i : Nat) (h : i < l.length) (j : Nat), j < 11 → (evCells l)[i * 11 + j]? = l[i].cells[j]? := by
  intro l
  induction l with
  | nil => intro i h; simp at h
  | cons a l ih =>
    intro i h j hj
    have e : evCells (a :: l) = a.cells.toList ++ evCells l := rfl
    have hs : a.cells.toList.length = 11 := by simp [Ev.size]
    cases i with
    | zero => rw [e, Nat.zero_mul, Nat.zero_add, List.getElem?_append_left (by omega)]; simp
    | succ i =>
      have := ih i (by simpa using h) j hj
      rw [e, List.getElem?_append_right (by omega), hs, show (i + 1) * 11 + j - 11 = i * 11 + j by omega, this]
      simp
theorem evCells_append (l m : List Ev) : evCells (l ++ m) = evCells l ++ evCells m := by simp [evCells]
theorem evCells_one (x : Ev) : evCells [x] = x.cells.toList := by simp [evCells]
theorem one_int {l : List Ev} (h : ∀ x ∈ l, x.kv.oneCell' = true ∧ x.av.oneCell' = true) : ∀ u ∈ evCells l, u.oneCell' = true := by
  intro u hu
  obtain ⟨x, hx, hu⟩ := List.mem_flatMap.1 hu
  simp only [Ev.cells, El.cells, List.mem_cons, List.not_mem_nil, or_false] at hu
  rcases hu with rfl | rfl | rfl | rfl | rfl | rfl | rfl | rfl | rfl | rfl | rfl <;> first | rfl | exact (h x hx).1 | exact (h x hx).2
/-- A row of elements in memory. -/
structure ElsAt (B : Nat) (w : World) (v : Value) (l : List Ev) : Prop where
  row : RowAt B w v l.length (evCells l)
  kids : ∀ x ∈ l, IntsAt B w x.kv x.el.kids
  attrs : ∀ x ∈ l, AttrsAt B w x.av x.el.attrs
  ok : ∀ x ∈ l, x.el.ok
theorem IntsAt.keep {B : Nat} {w w' : World} {v : Value} {l : List Int} (h : IntsAt B w v l) (hb : Below B w w') : IntsAt B w' v l := RowAt.keep h hb
theorem AttrsAt.keep {B : Nat} {w w' : World} {v : Value} {l : List (ByteArray × ByteArray)} (h : AttrsAt B w v l) (hb : Below B w w') : AttrsAt B w' v l := RowAt.keep h hb
theorem IntsAt.mono {B B' : Nat} {w : World} {v : Value} {l : List Int} (h : IntsAt B w v l) (hb : B ≤ B') : IntsAt B' w v l := RowAt.mono h hb
theorem AttrsAt.mono {B B' : Nat} {w : World} {v : Value} {l : List (ByteArray × ByteArray)} (h : AttrsAt B w v l) (hb : B ≤ B') : AttrsAt B' w v l := RowAt.mono h hb
theorem ElsAt.keep {B : Nat} {w w' : World} {v : Value} {l : List Ev} (h : ElsAt B w v l) (hb : Below B w w') : ElsAt B w' v l :=
  ⟨h.row.keep hb, fun x hx => (h.kids x hx).keep hb, fun x hx => (h.attrs x hx).keep hb, h.ok⟩
theorem ElsAt.mono {B B' : Nat} {w : World} {v : Value} {l : List Ev} (h : ElsAt B w v l) (hb : B ≤ B') : ElsAt B' w v l :=
  ⟨h.row.mono hb, fun x hx => (h.kids x hx).mono hb, fun x hx => (h.attrs x hx).mono hb, h.ok⟩
theorem RowAt.slice {B : Nat} {w : World} {v : Value} {n : Nat} {cs : List Value} (h : RowAt B w v n cs) : ∃ a cap, v = .slice a n cap := by
  obtain ⟨a, cap, h1, _⟩ := h; exact ⟨a, cap, h1⟩
theorem RowAt.le {B : Nat} {w : World} {v : Value} {n : Nat} {cs : List Value} (h : RowAt B w v n cs) : n ≤ maxLen := by
  obtain ⟨a, cap, _, h1, h2, _⟩ := h; omega
/-- Where the cells of a row that is not empty lie. -/
theorem RowAt.place {B : Nat} {w : World} {a : Option Addr} {n cap : Nat} {cs : List Value} (h : RowAt B w (.slice a n cap) n cs) (hn : 0 < n) : ∃ b off, a = some ⟨b, off, none⟩ ∧ b < B ∧ w.rangeAt b off cs := by
  obtain ⟨a', cap', e, _, _, h | ⟨_, b, off, h1, h2, h3⟩⟩ := h
  · omega
  · cases e; exact ⟨b, off, h1, h2, h3⟩
/-- One element of a row: its cells. -/
theorem elem_cells {w : World} {b off : Nat} {l : List Ev} (h : w.rangeAt b off (evCells l)) {i : Nat} (hi : i < l.length) : ∀ j u, l[i].cells.toList[j]? = some u → w.cell? ⟨b, off + i * 11 + j, none⟩ = some u := by
  intro j u hu
  have hj : j < 11 := by
    have := (List.getElem?_eq_some_iff.1 hu).1
    simpa [Ev.size] using this
  rw [Nat.add_assoc]
  exact h (i * 11 + j) u (by rw [evCells_get l i hi j hj]; simpa using hu)

/-- A load of a struct whose cells are known, wherever it stands. -/
theorem run_loadVar_range {P : Program} (w : World) (b off : Nat) (ty : TypeId) (cs : Array Value) (d : TypeDesc) (hg : ∀ j u, cs.toList[j]? = some u → w.cell? ⟨b, off + j, none⟩ = some u)
    (hu : P.underlying ty = some d) (hd : (match d with | .struct _ | .array _ _ => true | _ => false) = true) (hi : (P.info? ty).map (·.size) = some cs.size) : (loadVar ty ⟨b, off, none⟩).run P w = .ok (.agg cs) w := by
  have hl : (loadCells ⟨b, off, none⟩ cs.toList.length).run P w = .ok cs.toList.toArray w :=
    run_loadCells_list (P := P) w ⟨b, off, none⟩ cs.toList (fun j v hv => by
      have hadd : (⟨b, off, none⟩ : Addr).add j = ⟨b, off + j, none⟩ := Addr.add_mid b off j
      rw [hadd]
      exact hg j v hv)
  cases hq : P.info? ty with
  | none => simp [hq] at hi
  | some i =>
    have hs : i.size = cs.size := by simpa [hq] using hi
    have hagg : (isAgg ty).run P w = .ok true w := by
      unfold isAgg
      rw [Sem.run_bind, run_underlying hu w]
      cases d <;> simp_all
    simp only [Array.length_toList, Array.toArray_toList] at hl
    simp [loadVar, Sem.run_bind, hagg, sizeOf, typeInfo, hq, hs, hl]
theorem wpList_load_range {P : Program} {ops : Array Oper} {rest : List Oper} {o : Oper} {a : Act} {w : World} {Q : Exit → Act → World → Prop} (hgd : o.guard = none) (ty : TypeId) (x : Operand) (ho : o.op = .load ty x)
    (b off : Nat) (hx : a.eval x = .pointer (some ⟨b, off, none⟩)) (cs : Array Value) (d : TypeDesc) (hg : ∀ j u, cs.toList[j]? = some u → w.cell? ⟨b, off + j, none⟩ = some u)
    (hu : P.underlying ty = some d) (hd : (match d with | .struct _ | .array _ _ => true | _ => false) = true) (hi : (P.info? ty).map (·.size) = some cs.size) (h : wpList P ops Q rest (a.put o.dst (.agg cs)) w) : wpList P ops Q (o :: rest) a w :=
  wpList_plain hgd fun _ hK => by
    unfold Oper.wp execOp
    simp only [ho, hx, Instr.loadAt, Instr.sureAddr, Sem.run_bind, Sem.run_pure, Result.andThen_ok, run_loadVar_range w b off ty cs d hg hu hd hi]
    exact hK _ _ h
end Go.Proofs.YthbmnacleneflaaGreatDoor
/-
  append at the walk's operations, where the slice is the call's own: one element, one number, the numbers of another slice. Condition: lengths that fit.
-/
set_option linter.unusedSimpArgs false
set_option linter.unusedVariables false
namespace Go.Proofs.YthbmnacleneflaaGreatDoor
open Go Go.RowKit

theorem info47 : (Tryz.prog.info? 47).map (fun i => (i.zero, i.size, i.bytes)) = some (some (.agg #[.int .i64 0, .int .i64 0, .string ⟨#[]⟩, .slice none 0 0, .slice none 0 0, .int .i64 0, .string ⟨#[]⟩, .int .i64 0, .int .i64 0, .int .i64 0, .int .i64 0]), 11, 136) := by kernel_rfl
section
variable {ops : Array Oper} {rest : List Oper} {o : Oper} {a : Act} {Q : Exit → Act → World → Prop} {w : World}
/-- append(l, x), x one element. -/
theorem wpl_append_el (hgd : o.guard = none) (s x : Operand) (ho : o.op = .call { callee := .builtin .append, args := #[s, x], argTypes := #[22, 22] }) (base : Nat) (xs : List Ev) (d : Value) (hs : a.eval s = d) (hown : w.ownsRow base 47 11 d xs.length (evCells xs))
    (b : Nat) (y : Ev) (fz : Nat × Nat) (hx : a.eval x = .slice (some ⟨b, 0, none⟩) 1 1) (hb : w.heap[b]? = some (.cells y.cells 47 fz)) (h1 : y.kv.oneCell' = true ∧ y.av.oneCell' = true) (hn : xs.length < 1000000) (hbase : base ≤ w.heap.size)
    (h : ∀ v' w', w'.ownsRow base 47 11 v' (xs ++ [y]).length (evCells (xs ++ [y])) → w.grownBy w' d.ownBlock → (v'.ownBlock = d.ownBlock ∨ v'.ownBlock = some w.heap.size) → wpList Tryz.prog ops Q rest (a.put o.dst v') w') : wpList Tryz.prog ops Q (o :: rest) a w := by
  obtain ⟨i, hi, hz, hsz, hby⟩ := info_parts info47
  refine Go.wpList_append_own_at w hgd s x 22 ho base 47 i _ 11 136 Tryz.underlying22 hi hz hsz hby rfl (by decide) d xs.length (evCells xs) hs hown ⟨b, 0, none⟩ 1 1 y.cells.toList hx (by simp [Ev.size]) (fun j u hu => ?_) (fun u hu => one_int (l := [y]) (by simpa using h1) u (by rw [evCells_one]; exact hu)) (by unfold maxLen; omega) (by omega) hbase (fun v' w' k1 k2 _ k3 => h v' w' ?_ k2 k3)
  · rw [Addr.add_mid, Nat.zero_add, cell_of_row w b j y.cells 47 fz hb]
    simpa using hu
  · rw [evCells_append, evCells_one, List.length_append]
    exact k1
/-- append(l, x), x one number. -/
theorem wpl_append_int (hgd : o.guard = none) (s x : Operand) (ho : o.op = .call { callee := .builtin .append, args := #[s, x], argTypes := #[23, 23] }) (base : Nat) (xs : List Int) (d : Value) (hs : a.eval s = d) (hown : w.ownsRow base 3 1 d xs.length (intCells xs))
    (b : Nat) (y : Int) (fz : Nat × Nat) (hx : a.eval x = .slice (some ⟨b, 0, none⟩) 1 1) (hb : w.heap[b]? = some (.cells #[.int .i64 y] 3 fz)) (hn : xs.length < 1000000) (hbase : base ≤ w.heap.size)
    (h : ∀ v' w', w'.ownsRow base 3 1 v' (xs ++ [y]).length (intCells (xs ++ [y])) → w.grownBy w' d.ownBlock → (v'.ownBlock = d.ownBlock ∨ v'.ownBlock = some w.heap.size) → wpList Tryz.prog ops Q rest (a.put o.dst v') w') : wpList Tryz.prog ops Q (o :: rest) a w := by
  obtain ⟨i, hi, hz, hsz, hby⟩ := info_parts info3
  refine Go.wpList_append_own_at w hgd s x 23 ho base 3 i _ 1 8 Tryz.underlying23 hi hz hsz hby rfl (by decide) d xs.length (intCells xs) hs hown ⟨b, 0, none⟩ 1 1 [.int .i64 y] hx rfl (fun j u hu => ?_) (fun u hu => one_ints [y] u hu) (by unfold maxLen; omega) (by omega) hbase (fun v' w' k1 k2 _ k3 => h v' w' ?_ k2 k3)
  · rw [Addr.add_mid, Nat.zero_add, cell_of_row w b j _ 3 fz hb]
    simpa using hu
  · rw [List.length_append, show intCells (xs ++ [y]) = intCells xs ++ [.int .i64 y] by simp [intCells]]
    exact k1
/-- append(l, m...), m numbers in memory. -/
theorem wpl_append_ints (hgd : o.guard = none) (s x : Operand) (ho : o.op = .call { callee := .builtin .append, args := #[s, x], argTypes := #[23, 23] }) (base B : Nat) (xs ys : List Int) (d v : Value) (hs : a.eval s = d) (hown : w.ownsRow base 3 1 d xs.length (intCells xs))
    (hx : a.eval x = v) (hv : IntsAt B w v ys) (hn : xs.length + ys.length < 1000000) (hbase : base ≤ w.heap.size)
    (h : ∀ v' w', w'.ownsRow base 3 1 v' (xs ++ ys).length (intCells (xs ++ ys)) → w.grownBy w' d.ownBlock → (v'.ownBlock = d.ownBlock ∨ v'.ownBlock = some w.heap.size) → wpList Tryz.prog ops Q rest (a.put o.dst v') w') : wpList Tryz.prog ops Q (o :: rest) a w := by
  obtain ⟨i, hi, hz, hsz, hby⟩ := info_parts info3
  obtain ⟨ad, cap, rfl, hc1, hc2, hh⟩ := hv
  have happ : intCells (xs ++ ys) = intCells xs ++ intCells ys := by simp [intCells]
  cases ad with
  | none =>
    rcases hh with ⟨h0, h1, hc⟩ | ⟨_, b, off, e, _⟩
    · have hc0 := hc rfl
      have hy : ys = [] := List.eq_nil_of_length_eq_zero h0
      subst hy
      subst hc0
      refine wpList_append_run hgd s x 23 ho hs hx (run_append_owned_none (P := Tryz.prog) (w := w) base 23 _ 3 i 1 Tryz.underlying23 hi d _ _ hown) (h d w ?_ (World.grownBy.refl _ _) (.inl rfl))
      simpa using hown
    · cases e
  | some ad =>
    have hcell : ∀ j u, (intCells ys)[j]? = some u → w.cell? (ad.add j) = some u := by
      rcases hh with ⟨h0, h1, _⟩ | ⟨_, b, off, e, _, hr⟩
      · intro j u hu; rw [h1] at hu; simp at hu
      · intro j u hu
        obtain rfl := Option.some.inj e
        rw [Addr.add_mid]
        exact hr j u hu
    refine Go.wpList_append_own_at w hgd s x 23 ho base 3 i _ 1 8 Tryz.underlying23 hi hz hsz hby rfl (by decide) d xs.length (intCells xs) hs hown ad ys.length cap (intCells ys) hx (by simp [intCells]) hcell (one_ints ys) (by unfold maxLen; omega) (by omega) hbase (fun v' w' k1 k2 _ k3 => h v' w' ?_ k2 k3)
    rw [happ, List.length_append]
    exact k1
end
end Go.Proofs.YthbmnacleneflaaGreatDoor
/-
  The tree of elements in memory: its block, its map, the elements' blocks; what keeps it. No condition of its own.
-/
set_option linter.unusedSimpArgs false
set_option linter.unusedVariables false
namespace Go.Proofs.YthbmnacleneflaaGreatDoor
open Go Go.RowKit
open Go.Proofs.YthbmnacleneflaaGreatDoor.dt (Nd fnd pre Deep ups Fits Dist fnd_some fnd_mem fnd_neg dist_root dist_kid deep_of pre_len all_dist dist_of_pre oneTree elOk kidOk rootsN kidsN rootOf fits_of root_of_mem cloL)

def El.nd (e : El) : Nd := ⟨e.id, e.par, e.kids⟩
abbrev Ns := List (El × Nat)
def keysOf (ns : Ns) : List (Int × Nat) := ns.map fun p => (p.1.id, p.2)
def ndsOf (ns : Ns) : List Nd := ns.map fun p => p.1.nd
theorem keys_fst (ns : Ns) : (keysOf ns).map (·.1) = (ndsOf ns).map Nd.id := by simp [keysOf, ndsOf, El.nd]
theorem keys_len (ns : Ns) : (keysOf ns).length = ns.length := by simp [keysOf]
theorem nds_len (ns : Ns) : (ndsOf ns).length = ns.length := by simp [ndsOf]
theorem key_mem {ns : Ns} {x : Int} {b : Nat} (h : (x, b) ∈ keysOf ns) : ∃ e, (e, b) ∈ ns ∧ e.id = x := by
  obtain ⟨⟨e, b'⟩, hp, he⟩ := List.mem_map.1 h
  simp only [Prod.mk.injEq] at he
  obtain ⟨rfl, rfl⟩ := he
  exact ⟨e, hp, rfl⟩
theorem fnd_key {ns : Ns} (hd : ((ndsOf ns).map Nd.id).Nodup) {e : El} {b : Nat} (h : (e, b) ∈ ns) : fnd (ndsOf ns) e.id = some e.nd :=
  fnd_mem (n := e.nd) hd (List.mem_map_of_mem (f := fun p : El × Nat => p.1.nd) h)
theorem fnd_nokey {ns : Ns} {x : Int} (h : x ∉ (keysOf ns).map (·.1)) : fnd (ndsOf ns) x = none := by
  cases hf : fnd (ndsOf ns) x with
  | none => rfl
  | some n =>
    obtain ⟨hm, rfl⟩ := fnd_some hf
    rw [keys_fst] at h
    exact absurd (List.mem_map_of_mem hm) h
theorem key_of_fnd {ns : Ns} {x : Int} {n : Nd} (h : fnd (ndsOf ns) x = some n) : ∃ e b, (e, b) ∈ ns ∧ e.nd = n ∧ e.id = x := by
  obtain ⟨hm, hx⟩ := fnd_some h
  obtain ⟨⟨e, b⟩, hp, rfl⟩ := List.mem_map.1 hm
  exact ⟨e, b, hp, rfl, hx⟩

/-- An element's block, its rows among the blocks from A to U. -/
structure NodeAt (A U : Nat) (w : World) (b : Nat) (e : El) : Prop where
  lo : A ≤ b
  hi : b < U
  blk : ∃ kv av, w.heap[b]? = some (.cells (e.cells kv av) 47 (0, 0)) ∧ IntsFrom A U w kv e.kids ∧ AttrsFrom A U w av e.attrs
theorem NodeAt.keep {A U : Nat} {w w' : World} {b : Nat} {e : El} (h : NodeAt A U w b e) (hb : ∀ j, A ≤ j → j < U → w'.heap[j]? = w.heap[j]?) : NodeAt A U w' b e := by
  obtain ⟨kv, av, h1, h2, h3⟩ := h.blk
  exact ⟨h.lo, h.hi, kv, av, (hb b h.lo h.hi).trans h1, RowFrom.keep h2 hb, RowFrom.keep h3 hb⟩
theorem NodeAt.mono {A U U' : Nat} {w : World} {b : Nat} {e : El} (h : NodeAt A U w b e) (hU : U ≤ U') : NodeAt A U' w b e := by
  obtain ⟨kv, av, h1, h2, h3⟩ := h.blk
  exact ⟨h.lo, Nat.lt_of_lt_of_le h.hi hU, kv, av, h1, RowFrom.mono h2 (Nat.le_refl _) hU, RowFrom.mono h3 (Nat.le_refl _) hU⟩
/-- The tree: block T, its map B, its elements' blocks between N and U. -/
structure TreeM (w : World) (U B N T : Nat) (ns : Ns) (root next : Int) : Prop where
  t : w.heap[T]? = some (.cells #[.map (some B), .int .i64 root, .int .i64 next] 51 (0, 0))
  m : MapIs w B (keysOf ns)
  nodes : ∀ p ∈ ns, NodeAt N U w p.2 p.1
  ok : ∀ p ∈ ns, p.1.ok
  tn : T < N
  bn : B < N
  ne : T ≠ B
  nu : N ≤ U
  len : ns.length ≤ 256
section
variable {w w' : World} {U B N T : Nat} {ns : Ns} {root next : Int}
theorem TreeM.keep (h : TreeM w U B N T ns root next) (hb : ∀ j, j < U → w'.heap[j]? = w.heap[j]?) : TreeM w' U B N T ns root next :=
  ⟨(hb T (by have := h.tn; have := h.nu; omega)).trans h.t, h.m.kept (hb B (by have := h.bn; have := h.nu; omega)), fun p hp => (h.nodes p hp).keep fun j _ hj => hb j hj, h.ok, h.tn, h.bn, h.ne, h.nu, h.len⟩
theorem TreeM.below (h : TreeM w U B N T ns root next) {C : Nat} (hb : Below C w w') (hC : U ≤ C) : TreeM w' U B N T ns root next := h.keep fun j hj => hb.block j (by omega)
theorem TreeM.wide (h : TreeM w U B N T ns root next) {U' : Nat} (hU : U ≤ U') : TreeM w U' B N T ns root next :=
  ⟨h.t, h.m, fun p hp => (h.nodes p hp).mono hU, h.ok, h.tn, h.bn, h.ne, Nat.le_trans h.nu hU, h.len⟩
theorem TreeM.cellT (h : TreeM w U B N T ns root next) : w.cell? ⟨T, 0, none⟩ = some (.map (some B)) ∧ w.cell? ⟨T, 1, none⟩ = some (.int .i64 root) ∧ w.cell? ⟨T, 2, none⟩ = some (.int .i64 next) :=
  ⟨blk_cell h.t 0 _ rfl, blk_cell h.t 1 _ rfl, blk_cell h.t 2 _ rfl⟩
theorem TreeM.freeT (h : TreeM w U B N T ns root next) (o : Nat) : w.frozen? ⟨T, o, none⟩ = false := blk_free h.t o
/-- The root's number is put anew. -/
theorem TreeM.setRoot (h : TreeM w U B N T ns root next) (r : Int) : TreeM (w.setCell ⟨T, 1, none⟩ (.int .i64 r)) U B N T ns r next :=
  ⟨blk_set h.t 1 _, h.m.kept (Below.heap_setCell _ _ _ _ (Ne.symm h.ne)), fun p hp => (h.nodes p hp).keep fun j hj _ => Below.heap_setCell _ _ _ _ (by have := h.tn; show j ≠ T; omega), h.ok, h.tn, h.bn, h.ne, h.nu, h.len⟩
theorem TreeM.setNext (h : TreeM w U B N T ns root next) (r : Int) : TreeM (w.setCell ⟨T, 2, none⟩ (.int .i64 r)) U B N T ns root r :=
  ⟨blk_set h.t 2 _, h.m.kept (Below.heap_setCell _ _ _ _ (Ne.symm h.ne)), fun p hp => (h.nodes p hp).keep fun j hj _ => Below.heap_setCell _ _ _ _ (by have := h.tn; show j ≠ T; omega), h.ok, h.tn, h.bn, h.ne, h.nu, h.len⟩
/-- What is known of an element that the map leads to. -/
theorem TreeM.node (h : TreeM w U B N T ns root next) {x : Int} {b : Nat} (hx : (x, b) ∈ keysOf ns) : ∃ e, (e, b) ∈ ns ∧ e.id = x ∧ NodeAt N U w b e ∧ e.ok := by
  obtain ⟨e, he, hid⟩ := key_mem hx
  exact ⟨e, he, hid, h.nodes _ he, h.ok _ he⟩
theorem NodeAt.cells {A U : Nat} {b : Nat} {e : El} (h : NodeAt A U w b e) : ∃ a n c, w.cell? ⟨b, 1, none⟩ = some (.int .i64 e.par) ∧ w.cell? ⟨b, 3, none⟩ = some (.slice a e.kids.length c) ∧ IntsFrom A U w (.slice a e.kids.length c) e.kids ∧ n = e.kids.length := by
  obtain ⟨kv, av, h1, h2, h3⟩ := h.blk
  obtain ⟨a, c, hk, _⟩ := id h2
  subst hk
  exact ⟨a, _, c, blk_cell h1 1 _ rfl, blk_cell h1 3 _ rfl, h2, rfl⟩
/-- Nothing has turned but a block. -/
def Frame (base : Nat) (x : Nat) (w w' : World) : Prop := w'.os = w.os ∧ w'.tape = w.tape ∧ w'.output = w.output ∧ w.heap.size ≤ w'.heap.size ∧ ∀ j, j < base → j ≠ x → w'.heap[j]? = w.heap[j]?
theorem Frame.refl (base x : Nat) (w : World) : Frame base x w w := ⟨rfl, rfl, rfl, Nat.le_refl _, fun _ _ _ => rfl⟩
theorem Frame.trans {base x : Nat} {a b c : World} (h : Frame base x a b) (k : Frame base x b c) : Frame base x a c :=
  ⟨k.1.trans h.1, k.2.1.trans h.2.1, k.2.2.1.trans h.2.2.1, Nat.le_trans h.2.2.2.1 k.2.2.2.1, fun j h1 h2 => (k.2.2.2.2 j h1 h2).trans (h.2.2.2.2 j h1 h2)⟩
theorem Frame.alloc {base x : Nat} (w : World) (o : Obj) (h : base ≤ w.heap.size) : Frame base x w (w.alloc o) :=
  have hb := (Below.refl w.heap.size w).alloc (Nat.le_refl _) o
  ⟨hb.os, hb.tape, hb.output, hb.size, fun j hj _ => hb.block j (by omega)⟩
theorem Frame.of_below {base x : Nat} (h : Below base w w') : Frame base x w w' := ⟨h.os, h.tape, h.output, h.size, fun j hj _ => h.block j hj⟩
theorem Frame.of_grown {base x : Nat} {row : Option Nat} (h : w.grownBy w' row) (hr : ∀ k, row = some k → base ≤ k) (hb : base ≤ w.heap.size) : Frame base x w w' :=
  ⟨h.os, h.tape, h.output, h.size, fun j hj _ => h.block j (by omega) fun e => by have := hr j e.symm; omega⟩
theorem Frame.setCell {base x : Nat} (w : World) (o : Nat) (v : Value) : Frame base x w (w.setCell ⟨x, o, none⟩ v) :=
  ⟨rfl, rfl, rfl, by simp [World.setCell], fun j _ hj => Below.heap_setCell _ _ _ _ hj⟩
theorem Frame.mono {base base' x : Nat} (h : Frame base x w w') (hb : base' ≤ base) : Frame base' x w w' := ⟨h.1, h.2.1, h.2.2.1, h.2.2.2.1, fun j hj hx => h.2.2.2.2 j (by omega) hx⟩
theorem Frame.below {base x B' : Nat} (h : Frame base x w w') (h1 : B' ≤ base) (h2 : B' ≤ x) : Below B' w w' := ⟨h.1, h.2.1, h.2.2.1, h.2.2.2.1, fun j hj => h.2.2.2.2 j (by omega) (by omega)⟩
end
end Go.Proofs.YthbmnacleneflaaGreatDoor
/-
  A growing row of elements of the call's own, each with rows of its own: what keeps it. No condition of its own.
-/
set_option linter.unusedSimpArgs false
set_option linter.unusedVariables false
namespace Go.Proofs.YthbmnacleneflaaGreatDoor
open Go Go.RowKit

theorem RowFrom.blk {A B : Nat} {w : World} {v : Value} {n : Nat} {cs : List Value} (h : RowFrom A B w v n cs) (hn : 0 < n) {b : Nat} (hb : v.ownBlock = some b) : A ≤ b ∧ b < B := by
  obtain ⟨a, cap, h1, h2, h3, h4⟩ := h
  rcases h4 with ⟨h0, _⟩ | ⟨x, b', off, y1, y0, y2, y3⟩
  · omega
  · subst h1
    subst y1
    simp only [Value.ownBlock, Option.some.injEq] at hb
    omega
theorem RowFrom.keepO {A B : Nat} {w w' : World} {v : Value} {n : Nat} {cs : List Value} (h : RowFrom A B w v n cs) (hb : ∀ b, 0 < n → v.ownBlock = some b → w'.heap[b]? = w.heap[b]?) : RowFrom A B w' v n cs := by
  obtain ⟨a, cap, h1, h2, h3, h4⟩ := h
  refine ⟨a, cap, h1, h2, h3, h4.imp id fun ⟨x, b, off, y1, y0, y2, y3⟩ => ⟨x, b, off, y1, y0, y2, fun j v hv => (World.cell?_of_block (hb b x ?_)).trans (y3 j v hv)⟩⟩
  subst h1
  subst y1
  rfl
/-- An element of the growing row. -/
structure ElIn (A U : Nat) (w : World) (row : Option Nat) (x : Ev) : Prop where
  kids : IntsFrom A U w x.kv x.el.kids
  attrs : AttrsFrom A U w x.av x.el.attrs
  k1 : ∀ b, 0 < x.el.kids.length → x.kv.ownBlock = some b → row ≠ some b
  a1 : ∀ b, 0 < x.el.attrs.length → x.av.ownBlock = some b → row ≠ some b
theorem ElIn.one {A U : Nat} {w : World} {row : Option Nat} {x : Ev} (h : ElIn A U w row x) : x.kv.oneCell' = true ∧ x.av.oneCell' = true := by
  obtain ⟨a, c, h1, _⟩ := h.kids
  obtain ⟨a', c', h1', _⟩ := h.attrs
  rw [h1, h1']
  exact ⟨rfl, rfl⟩
theorem ElIn.grown {A U U' : Nat} {w w' : World} {row row' : Option Nat} {x : Ev} (h : ElIn A U w row x) (hg : ∀ b, b < U → row ≠ some b → w'.heap[b]? = w.heap[b]?) (hU : U ≤ U') (hr : row' = row ∨ ∀ b, row' = some b → U ≤ b) : ElIn A U' w' row' x := by
  have key : ∀ b, b < U → row ≠ some b → row' ≠ some b := fun b hb hn => by
    rcases hr with rfl | hr
    · exact hn
    · intro e; have := hr b e; omega
  exact ⟨RowFrom.mono (RowFrom.keepO h.kids fun b hn hb => hg b (RowFrom.blk h.kids hn hb).2 (h.k1 b hn hb)) (Nat.le_refl _) hU, RowFrom.mono (RowFrom.keepO h.attrs fun b hn hb => hg b (RowFrom.blk h.attrs hn hb).2 (h.a1 b hn hb)) (Nat.le_refl _) hU, fun b hn hb => key b (RowFrom.blk h.kids hn hb).2 (h.k1 b hn hb), fun b hn hb => key b (RowFrom.blk h.attrs hn hb).2 (h.a1 b hn hb)⟩
/-- The growing row. -/
structure RowG (A : Nat) (w : World) (v : Value) (xs : List Ev) : Prop where
  own : w.ownsRow A 47 11 v xs.length (evCells xs)
  els : ∀ x ∈ xs, ElIn A w.heap.size w v.ownBlock x
theorem RowG.nil (A : Nat) (w : World) : RowG A w (.slice none 0 0) [] := ⟨World.ownsRow_nil w A 47 11, fun x h => by cases h⟩
theorem RowG.kept {A : Nat} {w w' : World} {v : Value} {xs : List Ev} (h : RowG A w v xs) (hs : w.heap.size ≤ w'.heap.size) (hos : w'.os = w.os) (ht : w'.tape = w.tape) (ho : w'.output = w.output) (hk : ∀ b, A ≤ b → b < w.heap.size → w'.heap[b]? = w.heap[b]?) : RowG A w' v xs := by
  have hel : ∀ x ∈ xs, ElIn A w'.heap.size w' v.ownBlock x := fun x hx => by
    have h1 := h.els x hx
    exact ⟨RowFrom.mono (RowFrom.keepO h1.kids fun b hn hb => hk b (RowFrom.blk h1.kids hn hb).1 (RowFrom.blk h1.kids hn hb).2) (Nat.le_refl _) hs, RowFrom.mono (RowFrom.keepO h1.attrs fun b hn hb => hk b (RowFrom.blk h1.attrs hn hb).1 (RowFrom.blk h1.attrs hn hb).2) (Nat.le_refl _) hs, h1.k1, h1.a1⟩
  refine ⟨?_, hel⟩
  obtain ⟨hl, h2⟩ := h.own
  refine ⟨hl, h2.imp id fun ⟨g, cap, cur, y1, y2, y3, y4⟩ => ⟨g, cap, cur, y1, y2, (hk g y2 (lt_of_block y3)).trans y3, y4⟩⟩
theorem RowG.below {A C : Nat} {w w' : World} {v : Value} {xs : List Ev} (h : RowG A w v xs) (hb : Below C w w') (hC : w.heap.size ≤ C) : RowG A w' v xs :=
  h.kept hb.size hb.os hb.tape hb.output fun b _ h2 => hb.block b (by omega)
/-- One element more. -/
theorem RowG.more {A : Nat} {w w' : World} {v v' : Value} {xs : List Ev} {y : Ev} (h : RowG A w v xs) (hy : ElIn A w.heap.size w v.ownBlock y) (hown : w'.ownsRow A 47 11 v' (xs ++ [y]).length (evCells (xs ++ [y]))) (hg : w.grownBy w' v.ownBlock) (hl : v'.ownBlock = v.ownBlock ∨ v'.ownBlock = some w.heap.size) : RowG A w' v' (xs ++ [y]) := by
  have hr : v'.ownBlock = v.ownBlock ∨ ∀ b, v'.ownBlock = some b → w.heap.size ≤ b := hl.imp id fun e b hb => by rw [e] at hb; simp only [Option.some.injEq] at hb; omega
  have hk : ∀ b, b < w.heap.size → v.ownBlock ≠ some b → w'.heap[b]? = w.heap[b]? := fun b h1 h2 => hg.block b h1 (Ne.symm h2)
  refine ⟨hown, fun x hx => ?_⟩
  rcases List.mem_append.1 hx with hx | hx
  · exact (h.els x hx).grown hk hg.size hr
  · simp only [List.mem_singleton] at hx
    subst hx
    exact hy.grown hk hg.size hr
/-- A new copy stands beside the growing row. -/
theorem ElIn.fresh {A C U : Nat} {w : World} {row : Option Nat} {x : Ev} (hk : IntsFrom C U w x.kv x.el.kids) (ha : AttrsFrom C U w x.av x.el.attrs) (hA : A ≤ C) (hr : ∀ b, row = some b → b < C) : ElIn A U w row x :=
  ⟨RowFrom.mono hk hA (Nat.le_refl _), RowFrom.mono ha hA (Nat.le_refl _), fun b hn hb e => by have := hr b e; have := (RowFrom.blk hk hn hb).1; omega, fun b hn hb e => by have := hr b e; have := (RowFrom.blk ha hn hb).1; omega⟩
/-- A grown row, read. -/
theorem RowG.at_ {A : Nat} {w : World} {v : Value} {xs : List Ev} (h : RowG A w v xs) (hok : ∀ x ∈ xs, x.el.ok) : ElsAt w.heap.size w v xs :=
  ⟨(RowFrom.of_own h.own (by decide)).at_, fun x hx => IntsFrom.at_ (h.els x hx).kids, fun x hx => AttrsFrom.at_ (h.els x hx).attrs, hok⟩
end Go.Proofs.YthbmnacleneflaaGreatDoor
/-
  Operations that make or write memory, at the walk's operations: the world behind them as a variable with what is known of it. No condition of its own.
-/
set_option linter.unusedSimpArgs false
set_option linter.unusedVariables false
namespace Go.Proofs.YthbmnacleneflaaGreatDoor
open Go Go.RowKit

section
variable {ops : Array Oper} {rest : List Oper} {o : Oper} {a : Act} {Q : Exit → Act → World → Prop} {w : World}
theorem wpl_value (hgd : o.guard = none) {v : Value} {w' : World} (hr : (execOp a.eval o).run Tryz.prog w = .ok (.value v) w') (h : wpList Tryz.prog ops Q rest (a.put o.dst v) w') : wpList Tryz.prog ops Q (o :: rest) a w :=
  wpList_plain hgd fun _ hK => by unfold Oper.wp; rw [hr]; exact hK _ _ h
theorem below_new (w : World) (x : Obj) : Below w.heap.size w (w.alloc x) := (Below.refl _ _).alloc (Nat.le_refl _) _
theorem size_new (w : World) (x : Obj) : (w.alloc x).heap.size = w.heap.size + 1 := by simp
/-- A new variable with a value. -/
theorem wpl_box (hgd : o.guard = none) (t : TypeId) (x : Operand) (hop : o.op = .box t x) (v : Value) (hx : a.eval x = v)
    (h : ∀ w', w'.heap.size = w.heap.size + 1 → w'.heap[w.heap.size]? = some (.cells v.cells t (0, 0)) → Below w.heap.size w w' → wpList Tryz.prog ops Q rest (a.put o.dst (.pointer (some ⟨w.heap.size, 0, none⟩))) w') : wpList Tryz.prog ops Q (o :: rest) a w := by
  refine wpl_value hgd (w' := w.alloc (.cells v.cells t)) ?_ (h _ (size_new _ _) (heap_alloc_at w _) (below_new w _))
  unfold execOp
  simp [hop, hx, Instr.box, newVar, newRow, Result.andThen]
/-- A new variable. -/
theorem wpl_alloc (hgd : o.guard = none) (t : TypeId) (hop : o.op = .alloc t) (z : Value) (hz : (zeroValue t).run Tryz.prog w = .ok z w)
    (h : ∀ w', w'.heap.size = w.heap.size + 1 → w'.heap[w.heap.size]? = some (.cells z.cells t (0, 0)) → Below w.heap.size w w' → wpList Tryz.prog ops Q rest (a.put o.dst (.pointer (some ⟨w.heap.size, 0, none⟩))) w') : wpList Tryz.prog ops Q (o :: rest) a w := by
  refine wpl_value hgd (w' := w.alloc (.cells z.cells t)) ?_ (h _ (size_new _ _) (heap_alloc_at w _) (below_new w _))
  unfold execOp
  simp [hop, Instr.alloc, hz, newVar, newRow, Result.andThen]
theorem zero47 (w : World) : (zeroValue 47).run Tryz.prog w = .ok (.agg #[.int .i64 0, .int .i64 0, .string ⟨#[]⟩, .slice none 0 0, .slice none 0 0, .int .i64 0, .string ⟨#[]⟩, .int .i64 0, .int .i64 0, .int .i64 0, .int .i64 0]) w := by
  obtain ⟨i, hi, hz, _⟩ := info_parts info47
  simp [zeroValue, typeInfo, hi, hz]
theorem zero23 (w : World) : (zeroValue 23).run Tryz.prog w = .ok (.slice none 0 0) w := by kernel_rfl
theorem zero84 (w : World) : (zeroValue 84).run Tryz.prog w = .ok .nilFunc w := by kernel_rfl
/-- A new map. -/
theorem wpl_make_met (hgd : o.guard = none) (hop : o.op = .makeMap 82 none) (h : ∀ w', w'.heap.size = w.heap.size + 1 → MetIs w' w.heap.size [] → Below w.heap.size w w' → wpList Tryz.prog ops Q rest (a.put o.dst (.map (some w.heap.size))) w') : wpList Tryz.prog ops Q (o :: rest) a w := by
  refine wpl_value hgd (w' := w.alloc (.map #[] 0)) ?_ (h _ (size_new _ _) (MetIs.made w) (below_new w _))
  unfold execOp
  simp [hop, run_makeMap, Result.andThen]
theorem wpl_make_set (hgd : o.guard = none) (hop : o.op = .makeMap 59 none) (h : ∀ w', w'.heap.size = w.heap.size + 1 → SetIs w' w.heap.size 0 (fun _ => False) → Below w.heap.size w w' → wpList Tryz.prog ops Q rest (a.put o.dst (.map (some w.heap.size))) w') : wpList Tryz.prog ops Q (o :: rest) a w := by
  refine wpl_value hgd (w' := w.alloc (.map #[] 0)) ?_ (h _ (size_new _ _) (SetIs.made w) (below_new w _))
  unfold execOp
  simp [hop, run_makeMap, Result.andThen]
theorem wpl_make_el (hgd : o.guard = none) (hop : o.op = .makeMap 49 none) (h : ∀ w', w'.heap.size = w.heap.size + 1 → MapIs w' w.heap.size [] → Below w.heap.size w w' → wpList Tryz.prog ops Q rest (a.put o.dst (.map (some w.heap.size))) w') : wpList Tryz.prog ops Q (o :: rest) a w := by
  refine wpl_value hgd (w' := w.alloc (.map #[] 0)) ?_ (h _ (size_new _ _) (MapIs.made w) (below_new w _))
  unfold execOp
  simp [hop, run_makeMap, Result.andThen]
theorem range1 : Array.range 1 = #[0] := by decide
theorem range11 : Array.range 11 = #[0, 1, 2, 3, 4, 5, 6, 7, 8, 9, 10] := by decide
/-- A slice literal of one element. -/
theorem wpl_slice1_int (hgd : o.guard = none) (x : Operand) (hop : o.op = .buildSlice 23 1 #[(0, x)]) (y : Int) (hx : a.eval x = .int .i64 y)
    (h : ∀ w', w'.heap.size = w.heap.size + 1 → w'.heap[w.heap.size]? = some (.cells #[.int .i64 y] 3 (0, 0)) → Below w.heap.size w w' → wpList Tryz.prog ops Q rest (a.put o.dst (.slice (some ⟨w.heap.size, 0, none⟩) 1 1)) w') : wpList Tryz.prog ops Q (o :: rest) a w := by
  refine wpl_value hgd (w' := w.alloc (.cells #[.int .i64 y] 3)) ?_ (h _ (size_new _ _) (heap_alloc_at w _) (below_new w _))
  obtain ⟨i, hi, hz, hs, hb⟩ := info_parts info3
  unfold execOp
  simp [hop, hx, Instr.buildSlice, run_underlying Tryz.underlying23, sizeOf, zeroValue, typeInfo, hi, hz, hs, Builtin.zeroCells, Instr.fill, Value.cells, newRow, Result.andThen, range1]
theorem wpl_slice1_el (hgd : o.guard = none) (x : Operand) (hop : o.op = .buildSlice 22 1 #[(0, x)]) (y : Ev) (hx : a.eval x = .agg y.cells)
    (h : ∀ w', w'.heap.size = w.heap.size + 1 → w'.heap[w.heap.size]? = some (.cells y.cells 47 (0, 0)) → Below w.heap.size w w' → wpList Tryz.prog ops Q rest (a.put o.dst (.slice (some ⟨w.heap.size, 0, none⟩) 1 1)) w') : wpList Tryz.prog ops Q (o :: rest) a w := by
  refine wpl_value hgd (w' := w.alloc (.cells y.cells 47)) ?_ (h _ (size_new _ _) (heap_alloc_at w _) (below_new w _))
  obtain ⟨i, hi, hz, hs, hb⟩ := info_parts info47
  unfold execOp
  simp [hop, hx, Instr.buildSlice, run_underlying Tryz.underlying22, sizeOf, zeroValue, typeInfo, hi, hz, hs, Builtin.zeroCells, Instr.fill, Value.cells, newRow, Result.andThen, Ev.cells, El.cells, range11]
theorem one_cells {x : Ev} (h : x.kv.oneCell' = true ∧ x.av.oneCell' = true) : x.cells.all (·.oneCell') = true := by
  rw [Array.all_eq_true_iff_forall_mem]
  intro u hu
  exact one_int (l := [x]) (by simpa using h) u (by rw [evCells_one]; simpa using hu)
/-- A whole element is stored into a variable of its own. -/
theorem wpl_store_el (hgd : o.guard = none) (x y : Operand) (hop : o.op = .store 47 x y) (b : Nat) (e : Ev) (hx : a.eval x = .pointer (some ⟨b, 0, none⟩)) (hy : a.eval y = .agg e.cells) (old : Array Value) (hb : w.heap[b]? = some (.cells old 47 (0, 0))) (hold : old.size = 11) (h1 : e.kv.oneCell' = true ∧ e.av.oneCell' = true)
    (h : ∀ w', w'.heap.size = w.heap.size → w'.heap[b]? = some (.cells e.cells 47 (0, 0)) → Frame w.heap.size b w w' → wpList Tryz.prog ops Q rest (a.put o.dst undef) w') : wpList Tryz.prog ops Q (o :: rest) a w :=
  wpList_store_row hgd 47 x y hop b e.cells hx hy 47 old hb size47 hold (one_cells h1) (h _ (by simp [World.setRow]) (setRow_heap _ _ _ _ _ _ hb) ⟨rfl, rfl, rfl, by simp [World.setRow], fun j _ hj => setRow_other _ _ _ _ hj⟩)
theorem run_store_one (a : Addr) (v u : Value) (hv : v.oneCell' = true) (hc : w.cell? a = some u) (hf : w.frozen? a = false) : (store a v).run Tryz.prog w = .ok () (w.setCell a v) := by
  cases v <;> first | (simp [Value.oneCell'] at hv; done) | simp [store, Sem.run, hc, hf]
theorem cells_of_one (v : Value) (hv : v.oneCell' = true) : v.cells = #[v] := by
  cases v <;> first | (simp [Value.oneCell'] at hv; done) | rfl
/-- A cell of a known block is stored. -/
theorem wpl_store_one (hgd : o.guard = none) (ty : TypeId) (hs : (Tryz.prog.info? ty).map (·.size) = some 1) (x y : Operand) (hop : o.op = .store ty x y) (b off : Nat) (v : Value) (hx : a.eval x = .pointer (some ⟨b, off, none⟩)) (hy : a.eval y = v) (hv : v.oneCell' = true) (cs : Array Value) (t : TypeId) (hb : w.heap[b]? = some (.cells cs t (0, 0))) (ho : off < cs.size)
    (h : ∀ w', w'.heap.size = w.heap.size → w'.heap[b]? = some (.cells (cs.setIfInBounds off v) t (0, 0)) → Frame w.heap.size b w w' → wpList Tryz.prog ops Q rest (a.put o.dst undef) w') : wpList Tryz.prog ops Q (o :: rest) a w := by
  have hc : w.cell? ⟨b, off, none⟩ = some cs[off] := by rw [cell_of_row w b off cs t (0, 0) hb, Array.getElem?_eq_getElem ho]
  have hf : w.frozen? ⟨b, off, none⟩ = false := blk_free hb off
  have hw := h (w.setCell ⟨b, off, none⟩ v) (by simp [World.setCell]) (blk_set hb off v) ⟨rfl, rfl, rfl, by simp [World.setCell], fun j _ hj => Below.heap_setCell _ _ _ _ hj⟩
  refine wpList_plain hgd fun _ hK => ?_
  cases hi : Tryz.prog.info? ty with
  | none => simp [hi] at hs
  | some i =>
    have hsz : i.size = 1 := by simpa [hi] using hs
    have hadd : (⟨b, off, none⟩ : Addr).add 0 = ⟨b, off, none⟩ := Addr.add_mid b off 0
    unfold Oper.wp execOp
    simp only [hop, hx, hy, Instr.storeAt, Instr.sureAddr, Sem.run_bind, Sem.run_pure, Result.andThen_ok]
    simp [storeVar, sizeOf, typeInfo, hi, hsz, cells_of_one v hv, storeCells, hadd, run_store_one _ v _ hv hc hf, Result.andThen]
    exact hK _ _ hw
theorem size3 : (Tryz.prog.info? 3).map (·.size) = some 1 := by kernel_rfl
theorem size22 : (Tryz.prog.info? 22).map (·.size) = some 1 := by kernel_rfl
theorem size23 : (Tryz.prog.info? 23).map (·.size) = some 1 := by kernel_rfl
theorem size84 : (Tryz.prog.info? 84).map (·.size) = some 1 := by kernel_rfl
/-- One cell is stored. -/
theorem wpl_store_int (hgd : o.guard = none) (x y : Operand) (hop : o.op = .store 3 x y) (b off : Nat) (v : Int) (hx : a.eval x = .pointer (some ⟨b, off, none⟩)) (hy : a.eval y = .int .i64 v) (u : Value) (hc : w.cell? ⟨b, off, none⟩ = some u) (hf : w.frozen? ⟨b, off, none⟩ = false)
    (h : wpList Tryz.prog ops Q rest (a.put o.dst undef) (w.setCell ⟨b, off, none⟩ (.int .i64 v))) : wpList Tryz.prog ops Q (o :: rest) a w :=
  wpList_plain hgd fun _ hK => by
    obtain ⟨i, hi, hz, hs, hb⟩ := info_parts info3
    unfold Oper.wp execOp
    simp only [hop, hx, hy, Instr.storeAt, Instr.sureAddr, Sem.run_bind, Sem.run_pure, Result.andThen_ok]
    simp [storeVar, sizeOf, typeInfo, hi, hs, Value.cells, storeCells, store, Sem.run, Addr.add_mid, hc, hf, Result.andThen]
    exact hK _ _ h
end
end Go.Proofs.YthbmnacleneflaaGreatDoor
