/-
  The law DepsClosure answers true. Condition: the elements and the numbers lie in memory; awake answers true.
-/
import Derived.Test.YthbmnacleneflaaGreatDoorD8
import Derived.Test.YthbmnacleneflaaGreatDoorD7
set_option linter.unusedSimpArgs false
set_option linter.unusedVariables false
set_option linter.unusedSimpArgs false
set_option linter.unusedVariables false
namespace Go.Proofs.YthbmnacleneflaaGreatDoor
open Go Go.RowKit
open Go.Proofs.YthbmnacleneflaaGreatDoor.dt (Nd pre rootOf cloL Whole clo_clo)

theorem closure_nil (w : World) (v : Value) : Calls Tryz.prog 7 #[.pointer none, v] w fun e w' => e = .returned (.slice none 0 0) ∧ w' = w := by
  go_enter Tryz.func7, Tryz.ntmps7
  go_wp2
  go_ret
  exact ⟨rfl, rfl⟩
set_option maxRecDepth 100000 in
set_option maxHeartbeats 4000000 in
theorem depsClosure_no (w : World) (v : Value) (xs : List Ev) (hx : ElsAt w.heap.size w v xs) (vi : Value) (haw : Awakes w) (hle : loadE (xs.map (·.el)) ≠ 0) :
    Calls Tryz.prog 3 #[v, vi] w fun e w' => e = .returned (.bool true) ∧ Below w.heap.size w w' := by
  have HLD := Lib.hid (load_any w v xs hx)
  have HRD : Hid (∀ wr, Below w.heap.size w wr → Calls Tryz.prog 6 #[v] wr (RLoadP wr (xs.map (·.el)))) := Lib.hid fun wr hb => rload_any wr v xs ((hx.keep hb).mono hb.size)
  have HAW := Lib.hid haw; have HLE := Lib.hid hle
  have q0 : (loadE (xs.map (·.el)) != 0) = true := by simpa using hle
  have q1 : (loadE (xs.map (·.el)) != loadE (xs.map (·.el))) = false := by simp
  have q2 : (loadE (xs.map (·.el)) == loadE (xs.map (·.el))) = true := by simp
  clear hx haw hle
  go_enter Tryz.func3, Tryz.ntmps3
  go_wp2_with (first
    | (go_at_call 5; refine HLD.out.mono ?_; rintro e w1 ⟨t, rfl, hb1, ht, _⟩; obtain rfl := ht HLE.out; have HB1 := Lib.hid hb1; clear hb1 ht)
    | (go_at_call 6; refine (HRD.out w1 HB1.out).mono ?_; rintro e w2 ⟨t, rfl, hb2, ht, _⟩; obtain rfl := ht HLE.out; have HB2 := Lib.hid (HB1.out.trans (hb2.mono HB1.out.size)); clear hb2 ht)
    | (go_at_call 7; refine (closure_nil w2 vi).mono ?_; rintro e w3 ⟨rfl, rfl⟩)
    | (go_at_call 8; refine (HAW.out w3 HB2.out).mono ?_; rintro e w4 ⟨rfl, hb4⟩; have HB4 := Lib.hid (HB2.out.trans (hb4.mono HB2.out.size)); clear hb4))
  go_ret
  exact ⟨rfl, HB4.out⟩
theorem clo_ids {ns : Ns} {r : Int} (h : Whole (ndsOf ns) r) (hok : ∀ p ∈ ns, p.1.ok) (ids : List Int) : (∀ i ∈ cloL (ndsOf ns) r ids, I64 i) ∧ (cloL (ndsOf ns) r ids).length ≤ ns.length := by
  have hl : (ndsOf ns).length = ns.length := by simp [ndsOf]
  constructor
  · intro i hi
    have := (List.mem_filter.1 hi).1
    rw [hl] at this
    exact pre_ids h hok this
  · refine Nat.le_trans (List.length_filter_le _ _) ?_
    rw [h.len, hl]
    exact Nat.le_refl _
set_option maxRecDepth 100000 in
set_option maxHeartbeats 4000000 in
theorem depsClosure_yes (w : World) (v : Value) (xs : List Ev) (hx : ElsAt w.heap.size w v xs) (vi : Value) (ids : List Int) (hv : IntsAt w.heap.size w vi ids) (hi : ∀ i ∈ ids, I64 i) (hil : ids.length ≤ 17592186044416) (haw : Awakes w) (hle : loadE (xs.map (·.el)) = 0) :
    Calls Tryz.prog 3 #[v, vi] w fun e w' => e = .returned (.bool true) ∧ Below w.heap.size w w' := by
  have HLD := Lib.hid (load_any w v xs hx)
  have HRD : Hid (∀ wr, Below w.heap.size w wr → Calls Tryz.prog 6 #[v] wr (RLoadP wr (xs.map (·.el)))) := Lib.hid fun wr hb => rload_any wr v xs ((hx.keep hb).mono hb.size)
  have HAW := Lib.hid haw; have HLE := Lib.hid hle; have HV := Lib.hid hv; have HI := Lib.hid hi; have HIL := Lib.hid hil
  have q0 : (loadE (xs.map (·.el)) != 0) = false := by simpa using hle
  have q1 : (loadE (xs.map (·.el)) != loadE (xs.map (·.el))) = false := by simp
  clear hx haw hle hv hi hil
  go_enter Tryz.func3, Tryz.ntmps3
  go_wp2_with (first
    | (go_at_call 5; refine HLD.out.mono ?_; rintro e w1 ⟨t, rfl, hb1, _, ht⟩; obtain ⟨B, N, T, ns, nx, rfl, hels, hT, hW⟩ := ht HLE.out; have HB1 := Lib.hid hb1; have HELS := Lib.hid hels; have HT := Lib.hid hT; have HWH := Lib.hid hW; clear hb1 ht hels hT hW)
    | (go_at_call 6; refine (HRD.out w1 HB1.out).mono ?_; rintro e w2 ⟨t, rfl, hb2, _, ht⟩; obtain ⟨TR, ys, nr, rfl, hyel, hR, hWR⟩ := ht HLE.out; have HB12 := Lib.hid hb2; have HB2 := Lib.hid (HB1.out.trans (hb2.mono HB1.out.size)); have HYEL := Lib.hid hyel; have HR := Lib.hid hR; have HWR := Lib.hid hWR; clear hb2 ht hyel hR hWR; have HT2 := Lib.hid ((HT.out.below HB12.out (Nat.le_refl _)).wide HB12.out.size); have HNS : Hid (ndsV ys = ndsOf ns) := Lib.hid (by rw [nds_of_els HELS.out, ← HYEL.out]; simp [ndsV]))
    | (have hgd := HB5; clear hgd; go_at_call 7; refine (closure_any w5 w5.heap.size B N T ns _ nx ((HT2.out.below HB25.out (Nat.le_refl _)).wide HB25.out.size) (Nat.le_refl _) HWH.out v3 _ HV35.out (clo_ids HWH.out HT2.out.ok ids).1 (Nat.le_trans (clo_ids HWH.out HT2.out.ok ids).2 (Nat.le_trans HT2.out.len (by decide)))).mono ?_; rintro e w6 ⟨v6, rfl, hi6, hb6⟩; have HI6 := Lib.hid hi6; have HB56 := Lib.hid hb6; have HB6 := Lib.hid (HB5.out.trans (hb6.mono HB5.out.size)); clear hi6 hb6)
    | (go_at_call 7; refine (closure_any w2 w2.heap.size B N T ns _ nx HT2.out (Nat.le_refl _) HWH.out vi ids ((HV.out.keep HB2.out).mono HB2.out.size) HI.out HIL.out).mono ?_; rintro e w3 ⟨v3, rfl, hi3, hb3⟩; have HI3 := Lib.hid hi3; have HB23 := Lib.hid hb3; have HB3 := Lib.hid (HB2.out.trans (hb3.mono HB2.out.size)); clear hi3 hb3)
    | (go_at_call 10; refine (rclosure_any w3 w3.heap.size TR ys nr ((HR.out.keep HB23.out).wide HB23.out.size) (Nat.le_refl _) HWR.out vi ids ((HV.out.keep HB3.out).mono HB3.out.size)).mono ?_; rintro e w4 ⟨v4, rfl, hi4, hb4⟩; rw [HNS.out] at hi4; have HI4 := Lib.hid hi4; have HB34 := Lib.hid hb4; have HB4 := Lib.hid (HB3.out.trans (hb4.mono HB3.out.size)); clear hi4 hb4)
    | (have hgd := HB6; clear hgd; go_at_call 9; refine (ints_any w6 w6.heap.size w6.heap.size v6 v3 _ _ (IntsFrom.at_ HI6.out) ((HV35.out.keep HB56.out).mono HB56.out.size) (clo_clo HWH.out ids)).mono ?_; rintro e w7 ⟨rfl, hb7⟩; have HB7 := Lib.hid (HB6.out.trans (hb7.mono HB6.out.size)); clear hb7)
    | (go_at_call 9; refine (ints_any w4 w3.heap.size w4.heap.size v3 v4 _ _ ((IntsFrom.at_ HI3.out).keep HB34.out) (IntsFrom.at_ HI4.out) rfl).mono ?_; rintro e w5 ⟨rfl, hb5⟩; have HB45 := Lib.hid hb5; have HB5 := Lib.hid (HB4.out.trans (hb5.mono HB4.out.size)); have HB25 := Lib.hid ((HB23.out.trans (HB34.out.mono HB23.out.size)).trans (hb5.mono (Nat.le_trans HB23.out.size HB34.out.size))); have HV35 := Lib.hid (((IntsFrom.at_ HI3.out).keep (HB34.out.trans (hb5.mono HB34.out.size))).mono (Nat.le_trans HB34.out.size hb5.size)); clear hb5)
    | (go_at_call 8; refine (HAW.out w7 HB7.out).mono ?_; rintro e w8 ⟨rfl, hb8⟩; have HB8 := Lib.hid (HB7.out.trans (hb8.mono HB7.out.size)); clear hb8))
  go_ret
  exact ⟨rfl, HB8.out⟩
/-- jalousielaw25.DepsClosure. -/
theorem depsClosure_any (w : World) (v : Value) (xs : List Ev) (hx : ElsAt w.heap.size w v xs) (vi : Value) (ids : List Int) (hv : IntsAt w.heap.size w vi ids) (hi : ∀ i ∈ ids, I64 i) (hil : ids.length ≤ 17592186044416) (haw : Awakes w) :
    Calls Tryz.prog 3 #[v, vi] w fun e w' => e = .returned (.bool true) ∧ Below w.heap.size w w' := by
  by_cases h : loadE (xs.map (·.el)) = 0
  · exact depsClosure_yes w v xs hx vi ids hv hi hil haw h
  · exact depsClosure_no w v xs hx vi haw h
end Go.Proofs.YthbmnacleneflaaGreatDoor
