/-
  Contract, for a run of one goroutine, of dom.wrong: what is wrong with an element by itself. Condition: the numbers are of their kinds; the attributes lie in memory.
-/
import Derived.Test.YthbmnacleneflaaGreatDoorD2
import Derived.Deep.RegionHeld3
set_option linter.unusedSimpArgs false
set_option linter.unusedVariables false
set_option linter.unusedSimpArgs false
set_option linter.unusedVariables false
namespace Go.Proofs.YthbmnacleneflaaGreatDoor
open Go Go.RowKit

/-- Is a text not behind another? -/
def leS (a b : ByteArray) : Bool := Op.bytesLess a.toList b.toList || a.toList == b.toList
/-- What is wrong with the k-th attribute. -/
noncomputable def attrE (l : List (ByteArray × ByteArray)) (k : Nat) : Int :=
  if nameB (l.getD k default).1 = false then 10 else if 0 < k ∧ leS (l.getD k default).1 (l.getD (k - 1) default).1 = true then 10 else if 256 < (l.getD k default).2.size then 2 else 0
noncomputable def attrsE (l : List (ByteArray × ByteArray)) : Nat → Nat → Int
  | 0, _ => 0
  | f + 1, k => if attrE l k = 0 then attrsE l f (k + 1) else attrE l k
/-- What is wrong behind the first tests. -/
noncomputable def restE (attrs : List (ByteArray × ByteArray)) (bt : Int) (bn : ByteArray) (n1 d1 n2 d2 : Int) : Int :=
  if attrsE attrs attrs.length 0 ≠ 0 then attrsE attrs attrs.length 0 else if boxB bt bn n1 d1 n2 d2 = false then 8 else 0
/-- What is wrong with an element. -/
noncomputable def wrongE (e : El) (last : Int) : Int :=
  if e.id < 0 ∨ 1073741824 < e.id ∨ e.id ≤ last then 13 else if nameB e.tag = false then 10 else if 16 < e.attrs.length then 6 else restE e.attrs e.bt e.bn e.n1 e.d1 e.n2 e.d2

theorem name_is {s : ByteArray} {v : Bool} (h : nameB s = v) (w : World) (hs : s.size ≤ maxLen) : Calls Tryz.prog 37 #[.string s] w fun e w' => e = .returned (.bool v) ∧ Below w.heap.size w w' := by
  subst h
  exact may_name s w hs
theorem box_is {bt : Int} {bn : ByteArray} {n1 d1 n2 d2 : Int} {v : Bool} (h : boxB bt bn n1 d1 n2 d2 = v) (w : World) (hb : I64 bt) (hs : bn.size ≤ maxLen) (h1 : I64 n1) (h2 : I64 d1) (h3 : I64 n2) (h4 : I64 d2) :
    Calls Tryz.prog 38 #[.agg #[.int .i64 bt, .string bn, .int .i64 n1, .int .i64 d1, .int .i64 n2, .int .i64 d2]] w fun e w' => e = .returned (.bool v) ∧ Below w.heap.size w w' := by
  subst h
  exact box_any bt bn n1 d1 n2 d2 w hb hs h1 h2 h3 h4
theorem attrsE_next {l : List (ByteArray × ByteArray)} {k : Nat} (hk : k < l.length) (h : attrE l k = 0) : attrsE l (l.length - (k + 1)) (k + 1) = attrsE l (l.length - k) k := by
  rw [show l.length - k = (l.length - (k + 1)) + 1 by omega]
  simp only [attrsE, h, if_true]
theorem attrsE_stop {l : List (ByteArray × ByteArray)} {k : Nat} {c : Int} (hk : k < l.length) (h : attrE l k = c) (hc : c ≠ 0) : attrsE l (l.length - k) k = c := by
  rw [show l.length - k = (l.length - (k + 1)) + 1 by omega]
  simp only [attrsE, h, if_neg hc]
theorem leS_true {a b : ByteArray} (h : leS a b = true) : Op.bytesLess a.toList b.toList = true ∨ a.toList = b.toList := by
  unfold leS at h
  simpa using h
theorem leS_false {a b : ByteArray} (h : leS a b = false) : Op.bytesLess a.toList b.toList = false ∧ ¬ a.toList = b.toList := by
  unfold leS at h
  simpa using h
theorem sub_one_nat {k : Nat} (h : 0 < k) (h2 : (k : Int) < 17) : IntKind.i64.wrap ((k : Int) - 1) = ((k - 1 : Nat) : Int) := by
  simp [IntKind.wrap, IntKind.bits, IntKind.signed]; omega
theorem ret_int {a b : Int} (h : a = b) : Ending.returned (.int .i64 a) = .returned (.int .i64 b) := by rw [h]

set_option maxRecDepth 100000 in
set_option maxHeartbeats 8000000 in
theorem wrong_loop (id par last : Int) (tag : ByteArray) (kv : Value) (aa : Option Addr) (an ac : Nat) (bt : Int) (bn : ByteArray) (n1 d1 n2 d2 : Int) (w : World) (attrs : List (ByteArray × ByteArray)) (hlen : attrs.length = an)
   (t0 : decide (id < 0) = false) (t1 : decide (1073741824 < id) = false) (t2 : decide (id ≤ last) = false) (t3 : nameB tag = true) (t4 : decide ((16 : Int) < (an : Int)) = false) (hs : tag.size ≤ maxLen)
   (ha : AttrsAt w.heap.size w (.slice aa an ac) attrs) (hal : ∀ p ∈ attrs, p.1.size ≤ maxLen ∧ p.2.size ≤ maxLen) (hbt : I64 bt) (hbn : bn.size ≤ maxLen) (h1 : I64 n1) (h2 : I64 d1) (h3 : I64 n2) (h4 : I64 d2) :
    Calls Tryz.prog 15 #[.agg #[.int .i64 id, .int .i64 par, .string tag, kv, .slice aa an ac, .int .i64 bt, .string bn, .int .i64 n1, .int .i64 d1, .int .i64 n2, .int .i64 d2], .int .i64 last] w fun e w' => e = .returned (.int .i64 (restE attrs bt bn n1 d1 n2 d2)) ∧ Below w.heap.size w w' := by
  have HNM := Lib.hid hs; have HL := Lib.hid hlen; have HAL := Lib.hid hal; have HBX := Lib.hid (And.intro hbt (And.intro hbn (And.intro h1 (And.intro h2 (And.intro h3 h4)))))
  have hcell : ∀ j v, (#[.int .i64 id, .int .i64 par, .string tag, kv, .slice aa an ac, .int .i64 bt, .string bn, .int .i64 n1, .int .i64 d1, .int .i64 n2, .int .i64 d2] : Array Value)[j]? = some v → (w.alloc (.cells #[.int .i64 id, .int .i64 par, .string tag, kv, .slice aa an ac, .int .i64 bt, .string bn, .int .i64 n1, .int .i64 d1, .int .i64 n2, .int .i64 d2] 47)).cell? ⟨w.heap.size, j, none⟩ = some v := fun j v hv => (World.cell?_alloc_at _ _ _ _ rfl).trans hv
  have HC := Lib.hid hcell
  have HB := Lib.hid (Below.refl (w.heap.size + 1) (w.alloc (.cells #[.int .i64 id, .int .i64 par, .string tag, kv, .slice aa an ac, .int .i64 bt, .string bn, .int .i64 n1, .int .i64 d1, .int .i64 n2, .int .i64 d2] 47)))
  have HLE := Lib.hid (show w.heap.size + 1 ≤ (w.alloc (.cells #[.int .i64 id, .int .i64 par, .string tag, kv, .slice aa an ac, .int .i64 bt, .string bn, .int .i64 n1, .int .i64 d1, .int .i64 n2, .int .i64 d2] 47)).heap.size by simp)
  have HW := Lib.hid ((Below.refl w.heap.size w).alloc (Nat.le_refl _) (.cells #[.int .i64 id, .int .i64 par, .string tag, kv, .slice aa an ac, .int .i64 bt, .string bn, .int .i64 n1, .int .i64 d1, .int .i64 n2, .int .i64 d2] 47))
  have HA := Lib.hid ha
  have HR : Hid (∀ c, c = restE attrs bt bn n1 d1 n2 d2 → Ending.returned (.int .i64 c) = .returned (.int .i64 (restE attrs bt bn n1 d1 n2 d2))) := Lib.hid (fun c h => ret_int h)
  have HRS : Hid (∀ c, c ≠ 0 → attrsE attrs attrs.length 0 = c → c = restE attrs bt bn n1 d1 n2 d2) := Lib.hid (fun c h e => by unfold restE; rw [e, if_pos h])
  have HRB : Hid (attrsE attrs attrs.length 0 = 0 → restE attrs bt bn n1 d1 n2 d2 = if boxB bt bn n1 d1 n2 d2 = false then 8 else 0) := Lib.hid (fun e => by unfold restE; rw [if_neg (by rw [e]; decide)])
  clear hs hcell hlen ha hal hbt hbn h1 h2 h3 h4
  generalize restE attrs bt bn n1 d1 n2 d2 = RV at HR HRS HRB ⊢
  go_enter Tryz.func15, Tryz.ntmps15
  go_wp2_with (go_at_call 37; refine (may_name tag _ HNM.out).mono ?_; rintro e w1 ⟨rfl, hb⟩; have HB := Lib.hid (HB.out.trans (hb.mono (Nat.le_trans HLE.out HB.out.size))); have hc4 := ((bcell HB.out).1 w.heap.size 4 (Nat.lt_succ_self _)).trans (HC.out 4 _ rfl); clear hb)
  go_loopw [35] (fun i wr => ∃ k : Nat, k ≤ an ∧ i = .int .i64 k ∧ Below (w.heap.size + 1) (w.alloc (.cells #[.int .i64 id, .int .i64 par, .string tag, kv, .slice aa an ac, .int .i64 bt, .string bn, .int .i64 n1, .int .i64 d1, .int .i64 n2, .int .i64 d2] 47)) wr ∧ attrsE attrs (attrs.length - k) k = attrsE attrs attrs.length 0) (fun i _ => an - (intOf i).toNat)
  case atStart => exact ⟨0, Nat.zero_le _, rfl, HB.out, rfl⟩
  case round =>
    clear HB hc4
    obtain ⟨k, hk, rfl, hb, he⟩ := hrel
    have HB := Lib.hid hb; have HE := Lib.hid he; have HKK := Lib.hid hk
    clear he
    by_cases hlt : k < an
    · have hc4 := ((bcell hb).1 w.heap.size 4 (Nat.lt_succ_self _)).trans (HC.out 4 _ rfl)
      obtain ⟨b, off, rfl, hbl, hr⟩ : ∃ b off, aa = some ⟨b, off, none⟩ ∧ b < w.heap.size ∧ w.rangeAt b off (attrCells attrs) := by
        obtain ⟨a, cap, e, _, _, h⟩ := HA.out
        cases e
        rcases h with ⟨h0, _⟩ | ⟨_, b, off, e, h1, h2⟩
        · have := HL.out; omega
        · exact ⟨b, off, e, h1, h2⟩
      have hcl : ∀ j u, (attrCells attrs)[j]? = some u → wr.cell? ⟨b, off + j, none⟩ = some u := fun j u hu => by
        rw [(bcell hb).1 b (off + j) (by omega), World.cell?_of_block (Below.heap_alloc w _ b hbl)]
        exact hr j u hu
      have HCL := Lib.hid hcl
      have HBL := Lib.hid (Nat.lt_of_lt_of_le (Nat.lt_succ_of_lt hbl) (Nat.le_trans HLE.out hb.size))
      have HWL := Lib.hid (Nat.lt_of_lt_of_le (Nat.lt_succ_self w.heap.size) (Nat.le_trans HLE.out hb.size))
      clear hcl hr hb
      have hk17 : (k : Int) < 17 := by have := of_decide_eq_false t4; omega
      have hka : k < attrs.length := by rw [HL.out]; exact hlt
      have HKA := Lib.hid hka
      obtain ⟨nm, vl, hnm, hA0, hA1⟩ : ∃ nm vl, attrs.getD k default = (nm, vl) ∧ wr.cell? ⟨b, off + k * 2, none⟩ = some (.string nm) ∧ wr.cell? ⟨b, off + k * 2 + 1, none⟩ = some (.string vl) :=
        ⟨_, _, by rw [List.getD_eq_getElem?_getD, List.getElem?_eq_getElem hka]; rfl, HCL.out (k * 2) _ (attrCells_get attrs k hka).1, by rw [Nat.add_assoc]; exact HCL.out (k * 2 + 1) _ (attrCells_get attrs k hka).2⟩
      have hmem : (nm, vl) ∈ attrs := by
        rw [← hnm, List.getD_eq_getElem?_getD, List.getElem?_eq_getElem hka]
        exact List.getElem_mem hka
      have HNL := Lib.hid (HAL.out _ hmem).1
      have HVL := Lib.hid (HAL.out _ hmem).2
      have HEQ := Lib.hid (show attrE attrs k = if nameB nm = false then 10 else if 0 < k ∧ leS nm (attrs.getD (k - 1) default).1 = true then 10 else if 256 < vl.size then 2 else 0 by unfold attrE; rw [hnm])
      have HST : Hid (∀ c, c ≠ 0 → attrE attrs k = c → c = RV) := Lib.hid (fun c h e => HRS.out c h (HE.out ▸ attrsE_stop hka e h))
      have HNX : Hid (attrE attrs k = 0 → attrsE attrs (attrs.length - (k + 1)) (k + 1) = attrsE attrs attrs.length 0) := Lib.hid (fun e => (attrsE_next hka e).trans HE.out)
      clear hka hnm hmem
      go_wp2_with fail
      have a0 : (wr.alloc (.cells #[.string nm, .string vl] 81)).cell? ⟨wr.heap.size, 0, none⟩ = some (.string nm) := (World.cell?_alloc_at _ _ _ _ rfl).trans rfl
      have a1 : (wr.alloc (.cells #[.string nm, .string vl] 81)).cell? ⟨wr.heap.size, 1, none⟩ = some (.string vl) := (World.cell?_alloc_at _ _ _ _ rfl).trans rfl
      have HBA := Lib.hid ((Below.refl wr.heap.size wr).alloc (Nat.le_refl _) (.cells #[.string nm, .string vl] 81))
      have HLT := Lib.hid (show wr.heap.size < (wr.alloc (.cells #[.string nm, .string vl] 81)).heap.size by simp)
      have d4 : (wr.alloc (.cells #[.string nm, .string vl] 81)).cell? ⟨w.heap.size, 4, none⟩ = some (.slice (some ⟨b, off, none⟩) an ac) := (World.cell?_of_block (HBA.out.block _ HWL.out)).trans hc4
      have HCL2 : Hid (∀ j u, (attrCells attrs)[j]? = some u → (wr.alloc (.cells #[.string nm, .string vl] 81)).cell? ⟨b, off + j, none⟩ = some u) := Lib.hid (fun j u hu => (World.cell?_of_block (HBA.out.block _ HBL.out)).trans (HCL.out j u hu))
      clear hA0 hA1 hc4
      generalize wr.alloc (.cells #[.string nm, .string vl] 81) = wa at a0 a1 d4 HCL2 HBA HLT ⊢
      cases hq : nameB nm with
      | false =>
        have HQ := Lib.hid hq
        clear hq d4
        refine wp_region_held_drew (S := (fun s => s.cell? ⟨wr.heap.size, 0, none⟩ = some (.string nm) ∧ s.cell? ⟨wr.heap.size, 1, none⟩ = some (.string vl) ∧ Below wa.heap.size wa s)) (by kernel_rfl) ⟨a0, a1, ⟨rfl, rfl, rfl, Nat.le_refl _, fun _ _ => rfl⟩⟩ (fun hHeld => ?_)
        refine wpAnyH_take (i := 0) (v := .pointer (some ⟨wr.heap.size, 0, none⟩)) rfl (by kernel_rfl) (by kernel_rfl) (by kernel_rfl) (fun _ _ _ h => h) (Or.inl ⟨by kernel_rfl, fun s hs => by obtain ⟨s0, s1, s2⟩ := hs; go_simp⟩) hHeld ?_
        refine wpAnyH_take (i := 1) (v := .string nm) rfl (by kernel_rfl) (by kernel_rfl) (by kernel_rfl) (fun _ _ _ h => h) (Or.inl ⟨by kernel_rfl, fun s hs => by obtain ⟨s0, s1, s2⟩ := hs; go_simp⟩) hHeld ?_
        refine wpAnyH_ready (rs := [2]) (by kernel_rfl) (by simp) ?_
        refine AllReadyH.cons rfl (fun K hK => ?_) AllReadyH.nil
        rw [if_pos (by kernel_rfl)]
        go_simp
        refine (name_is HQ.out _ HNL.out).mono ?_
        rintro e w1 ⟨rfl, hb⟩
        have g0 : w1.cell? ⟨wr.heap.size, 0, none⟩ = some (.string nm) := ((bcell hb).1 _ _ HLT.out).trans a0
        have g1 : w1.cell? ⟨wr.heap.size, 1, none⟩ = some (.string vl) := ((bcell hb).1 _ _ HLT.out).trans a1
        have g2 : Below wa.heap.size wa w1 := ⟨hb.os, hb.tape, hb.output, hb.size, hb.block⟩
        have HG := Lib.hid g2
        clear hb a0 a1
        refine hK.out _ _ ⟨g0, g1, g2⟩ (fun hHeld => ?_)
        refine wpAnyH_take (i := 3) (v := .bool true) rfl (by kernel_rfl) (by kernel_rfl) (by kernel_rfl) (fun _ _ _ h => h) (Or.inl ⟨by kernel_rfl, fun s hs => by obtain ⟨s0, s1, s2⟩ := hs; go_simp⟩) hHeld ?_
        refine wpAnyH_take (i := 4) (v := .bool true) rfl (by kernel_rfl) (by kernel_rfl) (by kernel_rfl) (fun _ _ _ h => h) (Or.inl ⟨by kernel_rfl, fun s hs => by obtain ⟨s0, s1, s2⟩ := hs; go_simp⟩) hHeld ?_
        refine wpAnyH_take (i := 5) (v := undef) rfl (by kernel_rfl) (by kernel_rfl) (by kernel_rfl) (fun _ _ _ h => h) (Or.inr ⟨by kernel_rfl, rfl⟩) hHeld ?_
        refine wpAnyH_take (i := 6) (v := undef) rfl (by kernel_rfl) (by kernel_rfl) (by kernel_rfl) (fun _ _ _ h => h) (Or.inr ⟨by kernel_rfl, rfl⟩) hHeld ?_
        refine wpAnyH_take (i := 7) (v := undef) rfl (by kernel_rfl) (by kernel_rfl) (by kernel_rfl) (fun _ _ _ h => h) (Or.inr ⟨by kernel_rfl, rfl⟩) hHeld ?_
        refine wpAnyH_take (i := 8) (v := undef) rfl (by kernel_rfl) (by kernel_rfl) (by kernel_rfl) (fun _ _ _ h => h) (Or.inr ⟨by kernel_rfl, rfl⟩) hHeld ?_
        refine wpAnyH_take (i := 9) (v := undef) rfl (by kernel_rfl) (by kernel_rfl) (by kernel_rfl) (fun _ _ _ h => h) (Or.inr ⟨by kernel_rfl, rfl⟩) hHeld ?_
        refine wpAnyH_take (i := 10) (v := undef) rfl (by kernel_rfl) (by kernel_rfl) (by kernel_rfl) (fun _ _ _ h => h) (Or.inr ⟨by kernel_rfl, rfl⟩) hHeld ?_
        refine wpAnyH_take (i := 11) (v := undef) rfl (by kernel_rfl) (by kernel_rfl) (by kernel_rfl) (fun _ _ _ h => h) (Or.inr ⟨by kernel_rfl, rfl⟩) hHeld ?_
        refine wpAnyH_take (i := 12) (v := undef) rfl (by kernel_rfl) (by kernel_rfl) (by kernel_rfl) (fun _ _ _ h => h) (Or.inr ⟨by kernel_rfl, rfl⟩) hHeld ?_
        refine wpAnyH_take (i := 13) (v := undef) rfl (by kernel_rfl) (by kernel_rfl) (by kernel_rfl) (fun _ _ _ h => h) (Or.inr ⟨by kernel_rfl, rfl⟩) hHeld ?_
        refine wpAnyH_take (i := 14) (v := undef) rfl (by kernel_rfl) (by kernel_rfl) (by kernel_rfl) (fun _ _ _ h => h) (Or.inr ⟨by kernel_rfl, rfl⟩) hHeld ?_
        refine wpAnyH_take (i := 15) (v := undef) rfl (by kernel_rfl) (by kernel_rfl) (by kernel_rfl) (fun _ _ _ h => h) (Or.inr ⟨by kernel_rfl, rfl⟩) hHeld ?_
        refine wpAnyH_take (i := 16) (v := undef) rfl (by kernel_rfl) (by kernel_rfl) (by kernel_rfl) (fun _ _ _ h => h) (Or.inr ⟨by kernel_rfl, rfl⟩) hHeld ?_
        refine wpAnyH_take (i := 17) (v := undef) rfl (by kernel_rfl) (by kernel_rfl) (by kernel_rfl) (fun _ _ _ h => h) (Or.inr ⟨by kernel_rfl, rfl⟩) hHeld ?_
        refine wpAnyH_take (i := 18) (v := undef) rfl (by kernel_rfl) (by kernel_rfl) (by kernel_rfl) (fun _ _ _ h => h) (Or.inr ⟨by kernel_rfl, rfl⟩) hHeld ?_
        refine wpAnyH_take (i := 19) (v := .bool true) rfl (by kernel_rfl) (by kernel_rfl) (by kernel_rfl) (fun _ _ _ h => h) (Or.inl ⟨by kernel_rfl, fun s hs => by obtain ⟨s0, s1, s2⟩ := hs; go_simp⟩) hHeld ?_
        refine wpAnyH_done (by kernel_rfl) ?_ _
        clear hHeld g2 g0 g1
        go_simp
        go_wp2
        go_ret
        exact ⟨HR.out _ (HST.out 10 (by decide) (by rw [HEQ.out, HQ.out]; rfl)), ((HW.out.trans ((HB.out.mono (Nat.le_succ _)))).trans ((HBA.out.trans (HG.out.mono (Nat.le_of_lt HLT.out))).mono (Nat.le_of_lt (Nat.lt_of_lt_of_le HLE.out HB.out.size))))⟩
      | true =>
        by_cases hk0 : 0 < k
        · obtain ⟨pn, hpe, hpn⟩ : ∃ pn, (attrs.getD (k - 1) default).1 = pn ∧ wa.cell? ⟨b, off + (k - 1) * 2, none⟩ = some (.string pn) := by
            have hk1 : k - 1 < attrs.length := by have := HKA.out; omega
            exact ⟨_, by rw [List.getD_eq_getElem?_getD, List.getElem?_eq_getElem hk1]; rfl, HCL2.out ((k - 1) * 2) _ (attrCells_get attrs (k - 1) hk1).1⟩
          have HPN := Lib.hid hpe
          clear hpe
          cases hls : leS nm pn with
          | true =>
            have hk0f : decide ((0 : Int) < (k : Int)) = true := by simp; omega
            have HK0 := Lib.hid hk0
            have HQ := Lib.hid hq
            have HLS := Lib.hid hls
            clear hq hk0
            refine wp_region_held_drew (S := (fun s => s.cell? ⟨wr.heap.size, 0, none⟩ = some (.string nm) ∧ s.cell? ⟨wr.heap.size, 1, none⟩ = some (.string vl) ∧ Below wa.heap.size wa s ∧ s.cell? ⟨w.heap.size, 4, none⟩ = some (.slice (some ⟨b, off, none⟩) an ac) ∧ s.cell? ⟨b, off + (k - 1) * 2, none⟩ = some (.string pn))) (by kernel_rfl) ⟨a0, a1, ⟨rfl, rfl, rfl, Nat.le_refl _, fun _ _ => rfl⟩, d4, hpn⟩ (fun hHeld => ?_)
            refine wpAnyH_take (i := 0) (v := .pointer (some ⟨wr.heap.size, 0, none⟩)) rfl (by kernel_rfl) (by kernel_rfl) (by kernel_rfl) (fun _ _ _ h => h) (Or.inl ⟨by kernel_rfl, fun s hs => by obtain ⟨s0, s1, s2, s3, s4⟩ := hs; go_simp⟩) hHeld ?_
            refine wpAnyH_take (i := 1) (v := .string nm) rfl (by kernel_rfl) (by kernel_rfl) (by kernel_rfl) (fun _ _ _ h => h) (Or.inl ⟨by kernel_rfl, fun s hs => by obtain ⟨s0, s1, s2, s3, s4⟩ := hs; go_simp⟩) hHeld ?_
            refine wpAnyH_ready (rs := [2]) (by kernel_rfl) (by simp) ?_
            refine AllReadyH.cons rfl (fun K hK => ?_) AllReadyH.nil
            rw [if_pos (by kernel_rfl)]
            go_simp
            refine (name_is HQ.out _ HNL.out).mono ?_
            rintro e w1 ⟨rfl, hb⟩
            have g0 : w1.cell? ⟨wr.heap.size, 0, none⟩ = some (.string nm) := ((bcell hb).1 _ _ HLT.out).trans a0
            have g1 : w1.cell? ⟨wr.heap.size, 1, none⟩ = some (.string vl) := ((bcell hb).1 _ _ HLT.out).trans a1
            have g2 : Below wa.heap.size wa w1 := ⟨hb.os, hb.tape, hb.output, hb.size, hb.block⟩
            have HG := Lib.hid g2
            have g3 : w1.cell? ⟨w.heap.size, 4, none⟩ = some (.slice (some ⟨b, off, none⟩) an ac) := ((bcell hb).1 _ _ (Nat.lt_trans HWL.out HLT.out)).trans d4
            have g4 : w1.cell? ⟨b, off + (k - 1) * 2, none⟩ = some (.string pn) := ((bcell hb).1 _ _ (Nat.lt_trans HBL.out HLT.out)).trans hpn
            clear hb a0 a1 d4 hpn
            refine hK.out _ _ ⟨g0, g1, g2, g3, g4⟩ (fun hHeld => ?_)
            refine wpAnyH_take (i := 3) (v := .bool false) rfl (by kernel_rfl) (by kernel_rfl) (by kernel_rfl) (fun _ _ _ h => h) (Or.inl ⟨by kernel_rfl, fun s hs => by obtain ⟨s0, s1, s2, s3, s4⟩ := hs; go_simp⟩) hHeld ?_
            refine wpAnyH_take (i := 4) (v := .bool false) rfl (by kernel_rfl) (by kernel_rfl) (by kernel_rfl) (fun _ _ _ h => h) (Or.inl ⟨by kernel_rfl, fun s hs => by obtain ⟨s0, s1, s2, s3, s4⟩ := hs; go_simp⟩) hHeld ?_
            refine wpAnyH_take (i := 5) (v := .int .i64 k) rfl (by kernel_rfl) (by kernel_rfl) (by kernel_rfl) (fun _ _ _ h => h) (Or.inl ⟨by kernel_rfl, fun s hs => by obtain ⟨s0, s1, s2, s3, s4⟩ := hs; go_simp⟩) hHeld ?_
            refine wpAnyH_take (i := 6) (v := .bool true) rfl (by kernel_rfl) (by kernel_rfl) (by kernel_rfl) (fun _ _ _ h => h) (Or.inl ⟨by kernel_rfl, fun s hs => by obtain ⟨s0, s1, s2, s3, s4⟩ := hs; go_simp; exact HK0.out⟩) hHeld ?_
            refine wpAnyH_take (i := 7) (v := .bool true) rfl (by kernel_rfl) (by kernel_rfl) (by kernel_rfl) (fun _ _ _ h => h) (Or.inl ⟨by kernel_rfl, fun s hs => by obtain ⟨s0, s1, s2, s3, s4⟩ := hs; go_simp⟩) hHeld ?_
            refine wpAnyH_take (i := 8) (v := .pointer (some ⟨wr.heap.size, 0, none⟩)) rfl (by kernel_rfl) (by kernel_rfl) (by kernel_rfl) (fun _ _ _ h => h) (Or.inl ⟨by kernel_rfl, fun s hs => by obtain ⟨s0, s1, s2, s3, s4⟩ := hs; go_simp⟩) hHeld ?_
            refine wpAnyH_take (i := 9) (v := .string nm) rfl (by kernel_rfl) (by kernel_rfl) (by kernel_rfl) (fun _ _ _ h => h) (Or.inl ⟨by kernel_rfl, fun s hs => by obtain ⟨s0, s1, s2, s3, s4⟩ := hs; go_simp⟩) hHeld ?_
            refine wpAnyH_take (i := 10) (v := .pointer (some ⟨w.heap.size, 4, none⟩)) rfl (by kernel_rfl) (by kernel_rfl) (by kernel_rfl) (fun _ _ _ h => h) (Or.inl ⟨by kernel_rfl, fun s hs => by obtain ⟨s0, s1, s2, s3, s4⟩ := hs; go_simp⟩) hHeld ?_
            refine wpAnyH_take (i := 11) (v := .slice (some ⟨b, off, none⟩) an ac) rfl (by kernel_rfl) (by kernel_rfl) (by kernel_rfl) (fun _ _ _ h => h) (Or.inl ⟨by kernel_rfl, fun s hs => by obtain ⟨s0, s1, s2, s3, s4⟩ := hs; go_simp⟩) hHeld ?_
            refine wpAnyH_take (i := 12) (v := .int .i64 k) rfl (by kernel_rfl) (by kernel_rfl) (by kernel_rfl) (fun _ _ _ h => h) (Or.inl ⟨by kernel_rfl, fun s hs => by obtain ⟨s0, s1, s2, s3, s4⟩ := hs; go_simp⟩) hHeld ?_
            refine wpAnyH_take (i := 13) (v := .int .i64 (k - 1 : Nat)) rfl (by kernel_rfl) (by kernel_rfl) (by kernel_rfl) (fun _ _ _ h => h) (Or.inl ⟨by kernel_rfl, fun s hs => by obtain ⟨s0, s1, s2, s3, s4⟩ := hs; go_simp; exact sub_one_nat HK0.out (by omega)⟩) hHeld ?_
            refine wpAnyH_take (i := 14) (v := .pointer (some ⟨b, off + (k - 1) * 2, none⟩)) rfl (by kernel_rfl) (by kernel_rfl) (by kernel_rfl) (fun _ _ _ h => h) (Or.inl ⟨by kernel_rfl, fun s hs => by obtain ⟨s0, s1, s2, s3, s4⟩ := hs; go_simp; intro hh; omega⟩) hHeld ?_
            refine wpAnyH_take (i := 15) (v := .pointer (some ⟨b, off + (k - 1) * 2, none⟩)) rfl (by kernel_rfl) (by kernel_rfl) (by kernel_rfl) (fun _ _ _ h => h) (Or.inl ⟨by kernel_rfl, fun s hs => by obtain ⟨s0, s1, s2, s3, s4⟩ := hs; go_simp⟩) hHeld ?_
            refine wpAnyH_take (i := 16) (v := .string pn) rfl (by kernel_rfl) (by kernel_rfl) (by kernel_rfl) (fun _ _ _ h => h) (Or.inl ⟨by kernel_rfl, fun s hs => by obtain ⟨s0, s1, s2, s3, s4⟩ := hs; go_simp⟩) hHeld ?_
            refine wpAnyH_take (i := 17) (v := .bool true) rfl (by kernel_rfl) (by kernel_rfl) (by kernel_rfl) (fun _ _ _ h => h) (Or.inl ⟨by kernel_rfl, fun s hs => by obtain ⟨s0, s1, s2, s3, s4⟩ := hs; go_simp; exact leS_true HLS.out⟩) hHeld ?_
            refine wpAnyH_take (i := 18) (v := .bool true) rfl (by kernel_rfl) (by kernel_rfl) (by kernel_rfl) (fun _ _ _ h => h) (Or.inl ⟨by kernel_rfl, fun s hs => by obtain ⟨s0, s1, s2, s3, s4⟩ := hs; go_simp⟩) hHeld ?_
            refine wpAnyH_take (i := 19) (v := .bool true) rfl (by kernel_rfl) (by kernel_rfl) (by kernel_rfl) (fun _ _ _ h => h) (Or.inl ⟨by kernel_rfl, fun s hs => by obtain ⟨s0, s1, s2, s3, s4⟩ := hs; go_simp⟩) hHeld ?_
            refine wpAnyH_done (by kernel_rfl) ?_ _
            clear hHeld g2 g0 g1 g3 g4
            go_simp
            go_wp2
            go_ret
            exact ⟨HR.out _ (HST.out 10 (by decide) (by rw [HEQ.out, HQ.out, HPN.out, if_neg (by decide : ¬ (true = false)), if_pos ⟨HK0.out, HLS.out⟩])), ((HW.out.trans ((HB.out.mono (Nat.le_succ _)))).trans ((HBA.out.trans (HG.out.mono (Nat.le_of_lt HLT.out))).mono (Nat.le_of_lt (Nat.lt_of_lt_of_le HLE.out HB.out.size))))⟩
          | false =>
            have hk0f : decide ((0 : Int) < (k : Int)) = true := by simp; omega
            have HK0 := Lib.hid hk0
            have HQ := Lib.hid hq
            have HLS := Lib.hid hls
            clear hq hk0
            refine wp_region_held_drew (S := (fun s => s.cell? ⟨wr.heap.size, 0, none⟩ = some (.string nm) ∧ s.cell? ⟨wr.heap.size, 1, none⟩ = some (.string vl) ∧ Below wa.heap.size wa s ∧ s.cell? ⟨w.heap.size, 4, none⟩ = some (.slice (some ⟨b, off, none⟩) an ac) ∧ s.cell? ⟨b, off + (k - 1) * 2, none⟩ = some (.string pn))) (by kernel_rfl) ⟨a0, a1, ⟨rfl, rfl, rfl, Nat.le_refl _, fun _ _ => rfl⟩, d4, hpn⟩ (fun hHeld => ?_)
            refine wpAnyH_take (i := 0) (v := .pointer (some ⟨wr.heap.size, 0, none⟩)) rfl (by kernel_rfl) (by kernel_rfl) (by kernel_rfl) (fun _ _ _ h => h) (Or.inl ⟨by kernel_rfl, fun s hs => by obtain ⟨s0, s1, s2, s3, s4⟩ := hs; go_simp⟩) hHeld ?_
            refine wpAnyH_take (i := 1) (v := .string nm) rfl (by kernel_rfl) (by kernel_rfl) (by kernel_rfl) (fun _ _ _ h => h) (Or.inl ⟨by kernel_rfl, fun s hs => by obtain ⟨s0, s1, s2, s3, s4⟩ := hs; go_simp⟩) hHeld ?_
            refine wpAnyH_ready (rs := [2]) (by kernel_rfl) (by simp) ?_
            refine AllReadyH.cons rfl (fun K hK => ?_) AllReadyH.nil
            rw [if_pos (by kernel_rfl)]
            go_simp
            refine (name_is HQ.out _ HNL.out).mono ?_
            rintro e w1 ⟨rfl, hb⟩
            have g0 : w1.cell? ⟨wr.heap.size, 0, none⟩ = some (.string nm) := ((bcell hb).1 _ _ HLT.out).trans a0
            have g1 : w1.cell? ⟨wr.heap.size, 1, none⟩ = some (.string vl) := ((bcell hb).1 _ _ HLT.out).trans a1
            have g2 : Below wa.heap.size wa w1 := ⟨hb.os, hb.tape, hb.output, hb.size, hb.block⟩
            have HG := Lib.hid g2
            have g3 : w1.cell? ⟨w.heap.size, 4, none⟩ = some (.slice (some ⟨b, off, none⟩) an ac) := ((bcell hb).1 _ _ (Nat.lt_trans HWL.out HLT.out)).trans d4
            have g4 : w1.cell? ⟨b, off + (k - 1) * 2, none⟩ = some (.string pn) := ((bcell hb).1 _ _ (Nat.lt_trans HBL.out HLT.out)).trans hpn
            clear hb a0 a1 d4 hpn
            refine hK.out _ _ ⟨g0, g1, g2, g3, g4⟩ (fun hHeld => ?_)
            refine wpAnyH_take (i := 3) (v := .bool false) rfl (by kernel_rfl) (by kernel_rfl) (by kernel_rfl) (fun _ _ _ h => h) (Or.inl ⟨by kernel_rfl, fun s hs => by obtain ⟨s0, s1, s2, s3, s4⟩ := hs; go_simp⟩) hHeld ?_
            refine wpAnyH_take (i := 4) (v := .bool false) rfl (by kernel_rfl) (by kernel_rfl) (by kernel_rfl) (fun _ _ _ h => h) (Or.inl ⟨by kernel_rfl, fun s hs => by obtain ⟨s0, s1, s2, s3, s4⟩ := hs; go_simp⟩) hHeld ?_
            refine wpAnyH_take (i := 5) (v := .int .i64 k) rfl (by kernel_rfl) (by kernel_rfl) (by kernel_rfl) (fun _ _ _ h => h) (Or.inl ⟨by kernel_rfl, fun s hs => by obtain ⟨s0, s1, s2, s3, s4⟩ := hs; go_simp⟩) hHeld ?_
            refine wpAnyH_take (i := 6) (v := .bool true) rfl (by kernel_rfl) (by kernel_rfl) (by kernel_rfl) (fun _ _ _ h => h) (Or.inl ⟨by kernel_rfl, fun s hs => by obtain ⟨s0, s1, s2, s3, s4⟩ := hs; go_simp; exact HK0.out⟩) hHeld ?_
            refine wpAnyH_take (i := 7) (v := .bool true) rfl (by kernel_rfl) (by kernel_rfl) (by kernel_rfl) (fun _ _ _ h => h) (Or.inl ⟨by kernel_rfl, fun s hs => by obtain ⟨s0, s1, s2, s3, s4⟩ := hs; go_simp⟩) hHeld ?_
            refine wpAnyH_take (i := 8) (v := .pointer (some ⟨wr.heap.size, 0, none⟩)) rfl (by kernel_rfl) (by kernel_rfl) (by kernel_rfl) (fun _ _ _ h => h) (Or.inl ⟨by kernel_rfl, fun s hs => by obtain ⟨s0, s1, s2, s3, s4⟩ := hs; go_simp⟩) hHeld ?_
            refine wpAnyH_take (i := 9) (v := .string nm) rfl (by kernel_rfl) (by kernel_rfl) (by kernel_rfl) (fun _ _ _ h => h) (Or.inl ⟨by kernel_rfl, fun s hs => by obtain ⟨s0, s1, s2, s3, s4⟩ := hs; go_simp⟩) hHeld ?_
            refine wpAnyH_take (i := 10) (v := .pointer (some ⟨w.heap.size, 4, none⟩)) rfl (by kernel_rfl) (by kernel_rfl) (by kernel_rfl) (fun _ _ _ h => h) (Or.inl ⟨by kernel_rfl, fun s hs => by obtain ⟨s0, s1, s2, s3, s4⟩ := hs; go_simp⟩) hHeld ?_
            refine wpAnyH_take (i := 11) (v := .slice (some ⟨b, off, none⟩) an ac) rfl (by kernel_rfl) (by kernel_rfl) (by kernel_rfl) (fun _ _ _ h => h) (Or.inl ⟨by kernel_rfl, fun s hs => by obtain ⟨s0, s1, s2, s3, s4⟩ := hs; go_simp⟩) hHeld ?_
            refine wpAnyH_take (i := 12) (v := .int .i64 k) rfl (by kernel_rfl) (by kernel_rfl) (by kernel_rfl) (fun _ _ _ h => h) (Or.inl ⟨by kernel_rfl, fun s hs => by obtain ⟨s0, s1, s2, s3, s4⟩ := hs; go_simp⟩) hHeld ?_
            refine wpAnyH_take (i := 13) (v := .int .i64 (k - 1 : Nat)) rfl (by kernel_rfl) (by kernel_rfl) (by kernel_rfl) (fun _ _ _ h => h) (Or.inl ⟨by kernel_rfl, fun s hs => by obtain ⟨s0, s1, s2, s3, s4⟩ := hs; go_simp; exact sub_one_nat HK0.out (by omega)⟩) hHeld ?_
            refine wpAnyH_take (i := 14) (v := .pointer (some ⟨b, off + (k - 1) * 2, none⟩)) rfl (by kernel_rfl) (by kernel_rfl) (by kernel_rfl) (fun _ _ _ h => h) (Or.inl ⟨by kernel_rfl, fun s hs => by obtain ⟨s0, s1, s2, s3, s4⟩ := hs; go_simp; intro hh; omega⟩) hHeld ?_
            refine wpAnyH_take (i := 15) (v := .pointer (some ⟨b, off + (k - 1) * 2, none⟩)) rfl (by kernel_rfl) (by kernel_rfl) (by kernel_rfl) (fun _ _ _ h => h) (Or.inl ⟨by kernel_rfl, fun s hs => by obtain ⟨s0, s1, s2, s3, s4⟩ := hs; go_simp⟩) hHeld ?_
            refine wpAnyH_take (i := 16) (v := .string pn) rfl (by kernel_rfl) (by kernel_rfl) (by kernel_rfl) (fun _ _ _ h => h) (Or.inl ⟨by kernel_rfl, fun s hs => by obtain ⟨s0, s1, s2, s3, s4⟩ := hs; go_simp⟩) hHeld ?_
            refine wpAnyH_take (i := 17) (v := .bool false) rfl (by kernel_rfl) (by kernel_rfl) (by kernel_rfl) (fun _ _ _ h => h) (Or.inl ⟨by kernel_rfl, fun s hs => by obtain ⟨s0, s1, s2, s3, s4⟩ := hs; go_simp; exact leS_false HLS.out⟩) hHeld ?_
            refine wpAnyH_take (i := 18) (v := .bool false) rfl (by kernel_rfl) (by kernel_rfl) (by kernel_rfl) (fun _ _ _ h => h) (Or.inl ⟨by kernel_rfl, fun s hs => by obtain ⟨s0, s1, s2, s3, s4⟩ := hs; go_simp⟩) hHeld ?_
            refine wpAnyH_take (i := 19) (v := .bool false) rfl (by kernel_rfl) (by kernel_rfl) (by kernel_rfl) (fun _ _ _ h => h) (Or.inl ⟨by kernel_rfl, fun s hs => by obtain ⟨s0, s1, s2, s3, s4⟩ := hs; go_simp⟩) hHeld ?_
            refine wpAnyH_done (by kernel_rfl) ?_ _
            clear g3 g4
            clear hHeld g2 g0
            go_simp
            by_cases hvl : 256 < vl.size
            · have hv2 : decide ((256 : Int) < (vl.size : Int)) = true := by simp; omega
              have HV := Lib.hid hvl
              clear hvl
              go_wp2
              go_ret
              exact ⟨HR.out _ (HST.out 2 (by decide) (by rw [HEQ.out, HQ.out]; rw [HPN.out, if_neg (by decide : ¬ (true = false)), if_neg (fun h => by have := h.2; rw [HLS.out] at this; cases this)]; rw [if_pos HV.out])), ((HW.out.trans ((HB.out.mono (Nat.le_succ _)))).trans ((HBA.out.trans (HG.out.mono (Nat.le_of_lt HLT.out))).mono (Nat.le_of_lt (Nat.lt_of_lt_of_le HLE.out HB.out.size))))⟩
            · have hv2 : decide ((256 : Int) < (vl.size : Int)) = false := by simp; omega
              have HV := Lib.hid hvl
              clear hvl
              go_wp2
              go_roundw
              case rel => exact ⟨k + 1, by omega, by go_num, (HB.out.trans ((HBA.out.trans (HG.out.mono (Nat.le_of_lt HLT.out))).mono (Nat.le_trans HLE.out HB.out.size))), HNX.out (by rw [HEQ.out, HQ.out]; rw [HPN.out, if_neg (by decide : ¬ (true = false)), if_neg (fun h => by have := h.2; rw [HLS.out] at this; cases this)]; rw [if_neg HV.out])⟩
              case measure => simp [intOf]; omega
        · have hk0f : decide ((0 : Int) < (k : Int)) = false := by simp; omega
          have HK0 := Lib.hid hk0
          have HQ := Lib.hid hq
          clear hq hk0 d4
          refine wp_region_held_drew (S := (fun s => s.cell? ⟨wr.heap.size, 0, none⟩ = some (.string nm) ∧ s.cell? ⟨wr.heap.size, 1, none⟩ = some (.string vl) ∧ Below wa.heap.size wa s)) (by kernel_rfl) ⟨a0, a1, ⟨rfl, rfl, rfl, Nat.le_refl _, fun _ _ => rfl⟩⟩ (fun hHeld => ?_)
          refine wpAnyH_take (i := 0) (v := .pointer (some ⟨wr.heap.size, 0, none⟩)) rfl (by kernel_rfl) (by kernel_rfl) (by kernel_rfl) (fun _ _ _ h => h) (Or.inl ⟨by kernel_rfl, fun s hs => by obtain ⟨s0, s1, s2⟩ := hs; go_simp⟩) hHeld ?_
          refine wpAnyH_take (i := 1) (v := .string nm) rfl (by kernel_rfl) (by kernel_rfl) (by kernel_rfl) (fun _ _ _ h => h) (Or.inl ⟨by kernel_rfl, fun s hs => by obtain ⟨s0, s1, s2⟩ := hs; go_simp⟩) hHeld ?_
          refine wpAnyH_ready (rs := [2]) (by kernel_rfl) (by simp) ?_
          refine AllReadyH.cons rfl (fun K hK => ?_) AllReadyH.nil
          rw [if_pos (by kernel_rfl)]
          go_simp
          refine (name_is HQ.out _ HNL.out).mono ?_
          rintro e w1 ⟨rfl, hb⟩
          have g0 : w1.cell? ⟨wr.heap.size, 0, none⟩ = some (.string nm) := ((bcell hb).1 _ _ HLT.out).trans a0
          have g1 : w1.cell? ⟨wr.heap.size, 1, none⟩ = some (.string vl) := ((bcell hb).1 _ _ HLT.out).trans a1
          have g2 : Below wa.heap.size wa w1 := ⟨hb.os, hb.tape, hb.output, hb.size, hb.block⟩
          have HG := Lib.hid g2
          clear hb a0 a1
          refine hK.out _ _ ⟨g0, g1, g2⟩ (fun hHeld => ?_)
          refine wpAnyH_take (i := 3) (v := .bool false) rfl (by kernel_rfl) (by kernel_rfl) (by kernel_rfl) (fun _ _ _ h => h) (Or.inl ⟨by kernel_rfl, fun s hs => by obtain ⟨s0, s1, s2⟩ := hs; go_simp⟩) hHeld ?_
          refine wpAnyH_take (i := 4) (v := .bool false) rfl (by kernel_rfl) (by kernel_rfl) (by kernel_rfl) (fun _ _ _ h => h) (Or.inl ⟨by kernel_rfl, fun s hs => by obtain ⟨s0, s1, s2⟩ := hs; go_simp⟩) hHeld ?_
          refine wpAnyH_take (i := 5) (v := .int .i64 k) rfl (by kernel_rfl) (by kernel_rfl) (by kernel_rfl) (fun _ _ _ h => h) (Or.inl ⟨by kernel_rfl, fun s hs => by obtain ⟨s0, s1, s2⟩ := hs; go_simp⟩) hHeld ?_
          refine wpAnyH_take (i := 6) (v := .bool false) rfl (by kernel_rfl) (by kernel_rfl) (by kernel_rfl) (fun _ _ _ h => h) (Or.inl ⟨by kernel_rfl, fun s hs => by obtain ⟨s0, s1, s2⟩ := hs; go_simp; have := HK0.out; omega⟩) hHeld ?_
          refine wpAnyH_take (i := 7) (v := .bool false) rfl (by kernel_rfl) (by kernel_rfl) (by kernel_rfl) (fun _ _ _ h => h) (Or.inl ⟨by kernel_rfl, fun s hs => by obtain ⟨s0, s1, s2⟩ := hs; go_simp⟩) hHeld ?_
          refine wpAnyH_take (i := 8) (v := undef) rfl (by kernel_rfl) (by kernel_rfl) (by kernel_rfl) (fun _ _ _ h => h) (Or.inr ⟨by kernel_rfl, rfl⟩) hHeld ?_
          refine wpAnyH_take (i := 9) (v := undef) rfl (by kernel_rfl) (by kernel_rfl) (by kernel_rfl) (fun _ _ _ h => h) (Or.inr ⟨by kernel_rfl, rfl⟩) hHeld ?_
          refine wpAnyH_take (i := 10) (v := undef) rfl (by kernel_rfl) (by kernel_rfl) (by kernel_rfl) (fun _ _ _ h => h) (Or.inr ⟨by kernel_rfl, rfl⟩) hHeld ?_
          refine wpAnyH_take (i := 11) (v := undef) rfl (by kernel_rfl) (by kernel_rfl) (by kernel_rfl) (fun _ _ _ h => h) (Or.inr ⟨by kernel_rfl, rfl⟩) hHeld ?_
          refine wpAnyH_take (i := 12) (v := undef) rfl (by kernel_rfl) (by kernel_rfl) (by kernel_rfl) (fun _ _ _ h => h) (Or.inr ⟨by kernel_rfl, rfl⟩) hHeld ?_
          refine wpAnyH_take (i := 13) (v := undef) rfl (by kernel_rfl) (by kernel_rfl) (by kernel_rfl) (fun _ _ _ h => h) (Or.inr ⟨by kernel_rfl, rfl⟩) hHeld ?_
          refine wpAnyH_take (i := 14) (v := undef) rfl (by kernel_rfl) (by kernel_rfl) (by kernel_rfl) (fun _ _ _ h => h) (Or.inr ⟨by kernel_rfl, rfl⟩) hHeld ?_
          refine wpAnyH_take (i := 15) (v := undef) rfl (by kernel_rfl) (by kernel_rfl) (by kernel_rfl) (fun _ _ _ h => h) (Or.inr ⟨by kernel_rfl, rfl⟩) hHeld ?_
          refine wpAnyH_take (i := 16) (v := undef) rfl (by kernel_rfl) (by kernel_rfl) (by kernel_rfl) (fun _ _ _ h => h) (Or.inr ⟨by kernel_rfl, rfl⟩) hHeld ?_
          refine wpAnyH_take (i := 17) (v := undef) rfl (by kernel_rfl) (by kernel_rfl) (by kernel_rfl) (fun _ _ _ h => h) (Or.inr ⟨by kernel_rfl, rfl⟩) hHeld ?_
          refine wpAnyH_take (i := 18) (v := .bool false) rfl (by kernel_rfl) (by kernel_rfl) (by kernel_rfl) (fun _ _ _ h => h) (Or.inl ⟨by kernel_rfl, fun s hs => by obtain ⟨s0, s1, s2⟩ := hs; go_simp⟩) hHeld ?_
          refine wpAnyH_take (i := 19) (v := .bool false) rfl (by kernel_rfl) (by kernel_rfl) (by kernel_rfl) (fun _ _ _ h => h) (Or.inl ⟨by kernel_rfl, fun s hs => by obtain ⟨s0, s1, s2⟩ := hs; go_simp⟩) hHeld ?_
          refine wpAnyH_done (by kernel_rfl) ?_ _
          clear hHeld g2 g0
          go_simp
          by_cases hvl : 256 < vl.size
          · have hv2 : decide ((256 : Int) < (vl.size : Int)) = true := by simp; omega
            have HV := Lib.hid hvl
            clear hvl
            go_wp2
            go_ret
            exact ⟨HR.out _ (HST.out 2 (by decide) (by rw [HEQ.out, HQ.out]; rw [if_neg (by decide : ¬ (true = false)), if_neg (fun h => HK0.out h.1)]; rw [if_pos HV.out])), ((HW.out.trans ((HB.out.mono (Nat.le_succ _)))).trans ((HBA.out.trans (HG.out.mono (Nat.le_of_lt HLT.out))).mono (Nat.le_of_lt (Nat.lt_of_lt_of_le HLE.out HB.out.size))))⟩
          · have hv2 : decide ((256 : Int) < (vl.size : Int)) = false := by simp; omega
            have HV := Lib.hid hvl
            clear hvl
            go_wp2
            go_roundw
            case rel => exact ⟨k + 1, by omega, by go_num, (HB.out.trans ((HBA.out.trans (HG.out.mono (Nat.le_of_lt HLT.out))).mono (Nat.le_trans HLE.out HB.out.size))), HNX.out (by rw [HEQ.out, HQ.out]; rw [if_neg (by decide : ¬ (true = false)), if_neg (fun h => HK0.out h.1)]; rw [if_neg HV.out])⟩
            case measure => simp [intOf]; omega
    · have hke : k = an := by have := HKK.out; omega
      have hz : attrsE attrs attrs.length 0 = 0 := by
        rw [← HE.out, hke, HL.out, Nat.sub_self]
        rfl
      have HRV := Lib.hid (HRB.out hz)
      clear hz hke
      have hc5 := ((bcell hb).1 w.heap.size 5 (Nat.lt_succ_self _)).trans (HC.out 5 _ rfl)
      have hc6 := ((bcell hb).1 w.heap.size 6 (Nat.lt_succ_self _)).trans (HC.out 6 _ rfl)
      have hc7 := ((bcell hb).1 w.heap.size 7 (Nat.lt_succ_self _)).trans (HC.out 7 _ rfl)
      have hc8 := ((bcell hb).1 w.heap.size 8 (Nat.lt_succ_self _)).trans (HC.out 8 _ rfl)
      have hc9 := ((bcell hb).1 w.heap.size 9 (Nat.lt_succ_self _)).trans (HC.out 9 _ rfl)
      have hc10 := ((bcell hb).1 w.heap.size 10 (Nat.lt_succ_self _)).trans (HC.out 10 _ rfl)
      clear hb
      cases hbx : boxB bt bn n1 d1 n2 d2 with
      | false =>
        have HX := Lib.hid hbx
        clear hbx
        go_wp2_with (go_at_call 38; refine (box_is HX.out _ HBX.out.1 HBX.out.2.1 HBX.out.2.2.1 HBX.out.2.2.2.1 HBX.out.2.2.2.2.1 HBX.out.2.2.2.2.2).mono ?_; rintro e w1 ⟨rfl, hb⟩; have HB2 := Lib.hid hb; clear hb)
        go_ret
        exact ⟨HR.out _ (by rw [HRV.out, HX.out]; rfl), HW.out.trans ((HB.out.mono (Nat.le_succ _)).trans (HB2.out.mono (Nat.le_of_lt (Nat.lt_of_lt_of_le HLE.out HB.out.size))))⟩
      | true =>
        have HX := Lib.hid hbx
        clear hbx
        go_wp2_with (go_at_call 38; refine (box_is HX.out _ HBX.out.1 HBX.out.2.1 HBX.out.2.2.1 HBX.out.2.2.2.1 HBX.out.2.2.2.2.1 HBX.out.2.2.2.2.2).mono ?_; rintro e w1 ⟨rfl, hb⟩; have HB2 := Lib.hid hb; clear hb)
        go_ret
        exact ⟨HR.out _ (by rw [HRV.out, HX.out]; rfl), HW.out.trans ((HB.out.mono (Nat.le_succ _)).trans (HB2.out.mono (Nat.le_of_lt (Nat.lt_of_lt_of_le HLE.out HB.out.size))))⟩
end Go.Proofs.YthbmnacleneflaaGreatDoor
/-
  Contract, for a run of one goroutine, of dom.wrong at any element. Condition: the numbers are of their kinds; the attributes lie in memory.
-/
set_option linter.unusedSimpArgs false
set_option linter.unusedVariables false
namespace Go.Proofs.YthbmnacleneflaaGreatDoor
open Go Go.RowKit

set_option maxRecDepth 100000 in
set_option maxHeartbeats 2000000 in
theorem wrong_w1 (id par last : Int) (tag : ByteArray) (kv : Value) (aa : Option Addr) (an ac : Nat) (bt : Int) (bn : ByteArray) (n1 d1 n2 d2 : Int) (w : World) (t0 : decide (id < 0) = true) :
    Calls Tryz.prog 15 #[.agg #[.int .i64 id, .int .i64 par, .string tag, kv, .slice aa an ac, .int .i64 bt, .string bn, .int .i64 n1, .int .i64 d1, .int .i64 n2, .int .i64 d2], .int .i64 last] w fun e w' => e = .returned (.int .i64 13) ∧ Below w.heap.size w w' := by
  go_enter Tryz.func15, Tryz.ntmps15
  go_wp2
  go_ret
  exact ⟨rfl, (Below.refl _ _).alloc (Nat.le_refl _) _⟩
set_option maxRecDepth 100000 in
set_option maxHeartbeats 2000000 in
theorem wrong_w2 (id par last : Int) (tag : ByteArray) (kv : Value) (aa : Option Addr) (an ac : Nat) (bt : Int) (bn : ByteArray) (n1 d1 n2 d2 : Int) (w : World) (t0 : decide (id < 0) = false) (t1 : decide (1073741824 < id) = true) :
    Calls Tryz.prog 15 #[.agg #[.int .i64 id, .int .i64 par, .string tag, kv, .slice aa an ac, .int .i64 bt, .string bn, .int .i64 n1, .int .i64 d1, .int .i64 n2, .int .i64 d2], .int .i64 last] w fun e w' => e = .returned (.int .i64 13) ∧ Below w.heap.size w w' := by
  go_enter Tryz.func15, Tryz.ntmps15
  go_wp2
  go_ret
  exact ⟨rfl, (Below.refl _ _).alloc (Nat.le_refl _) _⟩
set_option maxRecDepth 100000 in
set_option maxHeartbeats 2000000 in
theorem wrong_w3 (id par last : Int) (tag : ByteArray) (kv : Value) (aa : Option Addr) (an ac : Nat) (bt : Int) (bn : ByteArray) (n1 d1 n2 d2 : Int) (w : World) (t0 : decide (id < 0) = false) (t1 : decide (1073741824 < id) = false) (t2 : decide (id ≤ last) = true) :
    Calls Tryz.prog 15 #[.agg #[.int .i64 id, .int .i64 par, .string tag, kv, .slice aa an ac, .int .i64 bt, .string bn, .int .i64 n1, .int .i64 d1, .int .i64 n2, .int .i64 d2], .int .i64 last] w fun e w' => e = .returned (.int .i64 13) ∧ Below w.heap.size w w' := by
  go_enter Tryz.func15, Tryz.ntmps15
  go_wp2
  go_ret
  exact ⟨rfl, (Below.refl _ _).alloc (Nat.le_refl _) _⟩
set_option maxRecDepth 100000 in
set_option maxHeartbeats 2000000 in
theorem wrong_w4 (id par last : Int) (tag : ByteArray) (kv : Value) (aa : Option Addr) (an ac : Nat) (bt : Int) (bn : ByteArray) (n1 d1 n2 d2 : Int) (w : World) (t0 : decide (id < 0) = false) (t1 : decide (1073741824 < id) = false) (t2 : decide (id ≤ last) = false) (t3 : nameB tag = false) (hs : tag.size ≤ maxLen) :
    Calls Tryz.prog 15 #[.agg #[.int .i64 id, .int .i64 par, .string tag, kv, .slice aa an ac, .int .i64 bt, .string bn, .int .i64 n1, .int .i64 d1, .int .i64 n2, .int .i64 d2], .int .i64 last] w fun e w' => e = .returned (.int .i64 10) ∧ Below w.heap.size w w' := by
  have HNM := Lib.hid hs
  have hcell : ∀ j v, (#[.int .i64 id, .int .i64 par, .string tag, kv, .slice aa an ac, .int .i64 bt, .string bn, .int .i64 n1, .int .i64 d1, .int .i64 n2, .int .i64 d2] : Array Value)[j]? = some v → (w.alloc (.cells #[.int .i64 id, .int .i64 par, .string tag, kv, .slice aa an ac, .int .i64 bt, .string bn, .int .i64 n1, .int .i64 d1, .int .i64 n2, .int .i64 d2] 47)).cell? ⟨w.heap.size, j, none⟩ = some v := fun j v hv => (World.cell?_alloc_at _ _ _ _ rfl).trans hv
  have HC := Lib.hid hcell
  have HLE := Lib.hid (show w.heap.size < (w.alloc (.cells #[.int .i64 id, .int .i64 par, .string tag, kv, .slice aa an ac, .int .i64 bt, .string bn, .int .i64 n1, .int .i64 d1, .int .i64 n2, .int .i64 d2] 47)).heap.size by simp)
  have HW := Lib.hid ((Below.refl w.heap.size w).alloc (Nat.le_refl _) (.cells #[.int .i64 id, .int .i64 par, .string tag, kv, .slice aa an ac, .int .i64 bt, .string bn, .int .i64 n1, .int .i64 d1, .int .i64 n2, .int .i64 d2] 47))
  have HT := Lib.hid t3
  clear hs hcell t3
  go_enter Tryz.func15, Tryz.ntmps15
  go_wp2_with (go_at_call 37; refine (name_is HT.out _ HNM.out).mono ?_; rintro e w1 ⟨rfl, hb⟩; have HB := Lib.hid hb; have hc4 := ((bcell hb).1 w.heap.size 4 HLE.out).trans (HC.out 4 _ rfl); clear hb)
  go_ret
  exact ⟨rfl, HW.out.trans (HB.out.mono (Nat.le_of_lt HLE.out))⟩
set_option maxRecDepth 100000 in
set_option maxHeartbeats 2000000 in
theorem wrong_w5 (id par last : Int) (tag : ByteArray) (kv : Value) (aa : Option Addr) (an ac : Nat) (bt : Int) (bn : ByteArray) (n1 d1 n2 d2 : Int) (w : World) (t0 : decide (id < 0) = false) (t1 : decide (1073741824 < id) = false) (t2 : decide (id ≤ last) = false) (t3 : nameB tag = true) (hs : tag.size ≤ maxLen) (t4 : decide ((16 : Int) < (an : Int)) = true) :
    Calls Tryz.prog 15 #[.agg #[.int .i64 id, .int .i64 par, .string tag, kv, .slice aa an ac, .int .i64 bt, .string bn, .int .i64 n1, .int .i64 d1, .int .i64 n2, .int .i64 d2], .int .i64 last] w fun e w' => e = .returned (.int .i64 6) ∧ Below w.heap.size w w' := by
  have HNM := Lib.hid hs
  have hcell : ∀ j v, (#[.int .i64 id, .int .i64 par, .string tag, kv, .slice aa an ac, .int .i64 bt, .string bn, .int .i64 n1, .int .i64 d1, .int .i64 n2, .int .i64 d2] : Array Value)[j]? = some v → (w.alloc (.cells #[.int .i64 id, .int .i64 par, .string tag, kv, .slice aa an ac, .int .i64 bt, .string bn, .int .i64 n1, .int .i64 d1, .int .i64 n2, .int .i64 d2] 47)).cell? ⟨w.heap.size, j, none⟩ = some v := fun j v hv => (World.cell?_alloc_at _ _ _ _ rfl).trans hv
  have HC := Lib.hid hcell
  have HLE := Lib.hid (show w.heap.size < (w.alloc (.cells #[.int .i64 id, .int .i64 par, .string tag, kv, .slice aa an ac, .int .i64 bt, .string bn, .int .i64 n1, .int .i64 d1, .int .i64 n2, .int .i64 d2] 47)).heap.size by simp)
  have HW := Lib.hid ((Below.refl w.heap.size w).alloc (Nat.le_refl _) (.cells #[.int .i64 id, .int .i64 par, .string tag, kv, .slice aa an ac, .int .i64 bt, .string bn, .int .i64 n1, .int .i64 d1, .int .i64 n2, .int .i64 d2] 47))
  have HT := Lib.hid t3
  clear hs hcell t3
  go_enter Tryz.func15, Tryz.ntmps15
  go_wp2_with (go_at_call 37; refine (name_is HT.out _ HNM.out).mono ?_; rintro e w1 ⟨rfl, hb⟩; have HB := Lib.hid hb; have hc4 := ((bcell hb).1 w.heap.size 4 HLE.out).trans (HC.out 4 _ rfl); clear hb)
  go_ret
  exact ⟨rfl, HW.out.trans (HB.out.mono (Nat.le_of_lt HLE.out))⟩

/-- dom.wrong. -/
theorem wrong_any (x : Ev) (last : Int) (w : World) (hx : x.el.ok) (ha : AttrsAt w.heap.size w x.av x.el.attrs) :
    Calls Tryz.prog 15 #[.agg x.cells, .int .i64 last] w fun e w' => e = .returned (.int .i64 (wrongE x.el last)) ∧ Below w.heap.size w w' := by
  obtain ⟨⟨id, par, tag, kids, attrs, bt, bn, n1, d1, n2, d2⟩, kv, av⟩ := x
  obtain ⟨aa, ac, hav⟩ := RowAt.slice (v := av) (n := attrs.length) ha
  subst hav
  show Calls Tryz.prog 15 #[.agg #[.int .i64 id, .int .i64 par, .string tag, kv, .slice aa attrs.length ac, .int .i64 bt, .string bn, .int .i64 n1, .int .i64 d1, .int .i64 n2, .int .i64 d2], .int .i64 last] w _
  have hw : wrongE ⟨id, par, tag, kids, attrs, bt, bn, n1, d1, n2, d2⟩ last = if id < 0 ∨ 1073741824 < id ∨ id ≤ last then 13 else if nameB tag = false then 10 else if 16 < attrs.length then 6 else restE attrs bt bn n1 d1 n2 d2 := rfl
  rw [show (⟨⟨id, par, tag, kids, attrs, bt, bn, n1, d1, n2, d2⟩, kv, .slice aa attrs.length ac⟩ : Ev).el = ⟨id, par, tag, kids, attrs, bt, bn, n1, d1, n2, d2⟩ from rfl, hw]
  by_cases h0 : id < 0
  · rw [if_pos (.inl h0)]
    exact wrong_w1 id par last tag kv aa _ ac bt bn n1 d1 n2 d2 w (by simpa using h0)
  have t0 : decide (id < 0) = false := by simpa using h0
  by_cases h1 : 1073741824 < id
  · rw [if_pos (.inr (.inl h1))]
    exact wrong_w2 id par last tag kv aa _ ac bt bn n1 d1 n2 d2 w t0 (by simpa using h1)
  have t1 : decide (1073741824 < id) = false := by simpa using h1
  by_cases h2 : id ≤ last
  · rw [if_pos (.inr (.inr h2))]
    exact wrong_w3 id par last tag kv aa _ ac bt bn n1 d1 n2 d2 w t0 t1 (by simpa using h2)
  have t2 : decide (id ≤ last) = false := by simpa using h2
  rw [if_neg (by rintro (h | h | h) <;> contradiction)]
  cases t3 : nameB tag with
  | false =>
    rw [if_pos rfl]
    exact wrong_w4 id par last tag kv aa _ ac bt bn n1 d1 n2 d2 w t0 t1 t2 t3 hx.tag
  | true =>
    rw [if_neg (by decide)]
    by_cases h4 : 16 < attrs.length
    · rw [if_pos h4]
      exact wrong_w5 id par last tag kv aa _ ac bt bn n1 d1 n2 d2 w t0 t1 t2 t3 hx.tag (by simp; omega)
    · rw [if_neg h4]
      exact wrong_loop id par last tag kv aa _ ac bt bn n1 d1 n2 d2 w attrs rfl t0 t1 t2 t3 (by simp; omega) hx.tag ha hx.attrs hx.bt hx.bn hx.n1 hx.d1 hx.n2 hx.d2
end Go.Proofs.YthbmnacleneflaaGreatDoor
