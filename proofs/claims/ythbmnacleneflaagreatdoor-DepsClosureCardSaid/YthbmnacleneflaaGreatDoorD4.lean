/-
  Contracts, for a run of one goroutine, of dom's Tree.Below (with its closure) and Tree.Order: an element and all below it. Condition: the tree lies in memory; what is below the element ends.
-/
import Derived.Test.YthbmnacleneflaaGreatDoorD2
import Derived.Deep.RegionHeld3
set_option linter.unusedSimpArgs false
set_option linter.unusedVariables false
set_option linter.unusedSimpArgs false
set_option linter.unusedVariables false
namespace Go.Proofs.YthbmnacleneflaaGreatDoor
open Go Go.RowKit
open Go.Proofs.YthbmnacleneflaaGreatDoor.dt (Nd fnd pre Deep ups Fits Dist fnd_some fnd_mem fnd_neg dist_root dist_kid deep_of pre_len all_dist dist_of_pre oneTree elOk kidOk rootsN kidsN rootOf fits_of root_of_mem cloL)

theorem own_shape {w : World} {base : Nat} {e : TypeId} {v : Value} {n : Nat} {xs : List Value} (h : w.ownsRow base e 1 v n xs) : ∃ a c, v = .slice a n c := by
  rcases h.2 with ⟨rfl, rfl⟩ | ⟨g, cap, cur, rfl, _⟩
  · exact ⟨_, _, rfl⟩
  · exact ⟨_, _, rfl⟩
theorem take_snoc {α : Type} {l : List α} {j : Nat} (h : j < l.length) : l.take (j + 1) = l.take j ++ [l[j]] := by
  rw [List.take_add_one, List.getElem?_eq_getElem h]
  rfl
theorem take_flat_le {α : Type} (g : Int → List α) : ∀ (l : List Int) {j : Nat} (h : j < l.length), ((l.take j).flatMap g).length + (g l[j]).length ≤ (l.flatMap g).length := by
  intro l
  induction l with
  | nil => intro j h; simp at h
  | cons a l ih =>
    intro j h
    cases j with
    | zero => simp
    | succ j =>
      have := ih (j := j) (by simpa using h)
      simp only [List.take_succ_cons, List.flatMap_cons, List.length_append, List.getElem_cons_succ]
      omega
/-- The closure's variables. -/
structure WalkM (w : World) (U base bo bt bw T : Nat) (acc : List Int) : Prop where
  out : ∃ v, w.heap[bo]? = some (.cells #[v] 23 (0, 0)) ∧ w.ownsRow base 3 1 v acc.length (intCells acc)
  t : w.heap[bt]? = some (.cells #[.pointer (some ⟨T, 0, none⟩)] 24 (0, 0))
  wk : w.heap[bw]? = some (.cells #[.func (.func 40) #[] #[.pointer (some ⟨bo, 0, none⟩), .pointer (some ⟨bt, 0, none⟩), .pointer (some ⟨bw, 0, none⟩)]] 84 (0, 0))
  lo : U ≤ bo ∧ U ≤ bt ∧ U ≤ bw
  hi : bo < base ∧ bt < base ∧ bw < base
  size : base ≤ w.heap.size
  ne : bt ≠ bo ∧ bw ≠ bo
theorem WalkM.frame {w w' : World} {U base bo bt bw T : Nat} {acc acc' : List Int} (h : WalkM w U base bo bt bw T acc) (hf : Frame base bo w w') (ho : ∃ v, w'.heap[bo]? = some (.cells #[v] 23 (0, 0)) ∧ w'.ownsRow base 3 1 v acc'.length (intCells acc')) : WalkM w' U base bo bt bw T acc' :=
  ⟨ho, (hf.2.2.2.2 bt h.hi.2.1 h.ne.1).trans h.t, (hf.2.2.2.2 bw h.hi.2.2 h.ne.2).trans h.wk, h.lo, h.hi, Nat.le_trans h.size hf.2.2.2.1, h.ne⟩

set_option maxRecDepth 100000 in
set_option maxHeartbeats 4000000 in
/-- The closure of Below. -/
theorem walk_any (ns : Ns) (U B N T : Nat) (root next : Int) (base bo bt bw : Nat) (hkid : ∀ p ∈ ns, ∀ k ∈ p.1.kids, I64 k) : ∀ (f : Nat) (x : Int) (acc : List Int) (w : World), TreeM w U B N T ns root next → WalkM w U base bo bt bw T acc → Deep (ndsOf ns) f x → acc.length + (pre (ndsOf ns) f x).length ≤ ns.length →
    Calls Tryz.prog 40 #[.int .i64 x, .pointer (some ⟨bo, 0, none⟩), .pointer (some ⟨bt, 0, none⟩), .pointer (some ⟨bw, 0, none⟩)] w fun e w' => e = .returned (.tuple #[]) ∧ WalkM w' U base bo bt bw T (acc ++ pre (ndsOf ns) f x) ∧ Frame base bo w w' := by
  intro f
  induction f with
  | zero => intro x acc w _ _ h; exact h.elim
  | succ f ih =>
    intro x acc w hT hW ⟨n, hn, hdk⟩ hlen
    obtain ⟨e, b, hp, rfl, rfl⟩ := key_of_fnd hn
    have hpre : pre (ndsOf ns) (f + 1) e.id = e.id :: e.kids.flatMap (pre (ndsOf ns) f) := by
      unfold pre
      rw [hn]
      rfl
    have hdk' : ∀ k ∈ e.kids, Deep (ndsOf ns) f k := hdk
    rw [hpre] at hlen ⊢
    have HK := Lib.hid hdk'; have HLEN := Lib.hid hlen; have HT := Lib.hid hT; have HW := Lib.hid hW; have IH := Lib.hid ih; have HP := Lib.hid hp
    obtain ⟨v, hv, hown⟩ := hW.out
    obtain ⟨va, vc, rfl⟩ := own_shape hown
    have ho0 : w.cell? ⟨bo, 0, none⟩ = some (.slice va acc.length vc) := blk_cell hv 0 _ rfl
    have ht0 : w.cell? ⟨bt, 0, none⟩ = some (.pointer (some ⟨T, 0, none⟩)) := blk_cell hW.t 0 _ rfl
    have hT0 : w.cell? ⟨T, 0, none⟩ = some (.map (some B)) := hT.cellT.1
    have hml := (hT.m.kept (w' := w.drew) rfl).len
    have hcmp : decide (((keysOf ns).length : Int) < (acc.length : Int)) = false := by
      rw [keys_len]
      simp only [List.length_cons] at hlen
      simp; omega
    have HOWN := Lib.hid hown; have HV := Lib.hid hv
    have HLN := Lib.hid (show acc.length < 1000000 by have := hT.len; simp only [List.length_cons] at hlen; omega)
    have HX := Lib.hid (hT.ok _ hp).id
    have HCMP : Hid (acc.length ≤ (keysOf ns).length) := Lib.hid (by rw [keys_len]; simp only [List.length_cons] at hlen; omega)
    have HKI := Lib.hid (hkid _ hp)
    have HKN : Hid (e.kids.length * 8 ≤ 140737488355328) := Lib.hid (hT.ok _ hp).kn
    have HTL := Lib.hid hT.len
    clear hn hdk hdk' hpre hlen hT hW ih hp hown hv
    go_enter Tryz.func40, Tryz.ntmps40
    go_wp2
    refine wp_region_held_drew (S := (fun s => s = w.drew)) (by kernel_rfl) rfl (fun hHeld => ?_)
    refine wpAnyH_take (i := 0) (v := .slice va acc.length vc) rfl (by kernel_rfl) (by kernel_rfl) (by kernel_rfl) (fun _ _ _ h => h) (Or.inl ⟨by kernel_rfl, fun s hs => by subst hs; go_simp⟩) hHeld ?_
    refine wpAnyH_take (i := 1) (v := .int .i64 acc.length) rfl (by kernel_rfl) (by kernel_rfl) (by kernel_rfl) (fun _ _ _ h => h) (Or.inl ⟨by kernel_rfl, fun s hs => by subst hs; go_simp⟩) hHeld ?_
    refine wpAnyH_take (i := 2) (v := .pointer (some ⟨T, 0, none⟩)) rfl (by kernel_rfl) (by kernel_rfl) (by kernel_rfl) (fun _ _ _ h => h) (Or.inl ⟨by kernel_rfl, fun s hs => by subst hs; go_simp⟩) hHeld ?_
    refine wpAnyH_take (i := 3) (v := .pointer (some ⟨T, 0, none⟩)) rfl (by kernel_rfl) (by kernel_rfl) (by kernel_rfl) (fun _ _ _ h => h) (Or.inl ⟨by kernel_rfl, fun s hs => by subst hs; go_simp⟩) hHeld ?_
    refine wpAnyH_take (i := 4) (v := .pointer (some ⟨T, 0, none⟩)) rfl (by kernel_rfl) (by kernel_rfl) (by kernel_rfl) (fun _ _ _ h => h) (Or.inl ⟨by kernel_rfl, fun s hs => by subst hs; go_simp⟩) hHeld ?_
    refine wpAnyH_take (i := 5) (v := .map (some B)) rfl (by kernel_rfl) (by kernel_rfl) (by kernel_rfl) (fun _ _ _ h => h) (Or.inl ⟨by kernel_rfl, fun s hs => by subst hs; go_simp⟩) hHeld ?_
    refine wpAnyH_take (i := 6) (v := .int .i64 (keysOf ns).length) rfl (by kernel_rfl) (by kernel_rfl) (by kernel_rfl) (fun _ _ _ h => h) (Or.inl ⟨by kernel_rfl, fun s hs => by subst hs; go_simp⟩) hHeld ?_
    refine wpAnyH_take (i := 7) (v := .bool false) rfl (by kernel_rfl) (by kernel_rfl) (by kernel_rfl) (fun _ _ _ h => h) (Or.inl ⟨by kernel_rfl, fun s hs => by subst hs; go_simp; exact HCMP.out⟩) hHeld ?_
    refine wpAnyH_done (by kernel_rfl) ?_ _
    clear hHeld hml hcmp
    go_simp
    have ho1 : w.drew.cell? ⟨bo, 0, none⟩ = some (.slice va acc.length vc) := ho0
    have HF1 : Hid (Frame base bo w w.drew) := Lib.hid ⟨rfl, rfl, rfl, Nat.le_refl _, fun _ _ _ => rfl⟩
    have HOWN1 : Hid (w.drew.ownsRow base 3 1 (.slice va acc.length vc) acc.length (intCells acc)) := HOWN
    have HV1 : Hid (w.drew.heap[bo]? = some (.cells #[.slice va acc.length vc] 23 (0, 0))) := HV
    clear ho0 ht0 hT0
    generalize w.drew = w1 at HF1 HOWN1 HV1 ho1 ⊢
    have HBS : Hid (base ≤ w1.heap.size) := Lib.hid (Nat.le_trans HW.out.size HF1.out.2.2.2.1)
    have HTT : Hid (∀ w', Frame base bo w w' → TreeM w' U B N T ns root next) := Lib.hid fun w' hf => HT.out.keep fun j hj => hf.2.2.2.2 j (by have := HW.out.lo; have := HW.out.hi; omega) (by have := HW.out.lo; omega)
    go_wp2_with (first
      | (refine wpl_slice1_int rfl _ rfl e.id rfl ?_; intro w2 hs2 hb2 hbe2; have HB2 := Lib.hid hb2; have HOWN2 := Lib.hid (HOWN1.out.kept (row := none) ⟨hbe2.os, hbe2.tape, hbe2.output, hbe2.size, fun q hq _ => hbe2.block q hq⟩ (by cases va <;> simp [Value.ownBlock])); have HV2 := Lib.hid ((hbe2.block bo (lt_of_block HV1.out)).trans HV1.out); have HBS2 := Lib.hid (Nat.le_trans HBS.out hbe2.size); have HF2 := Lib.hid (HF1.out.trans (Frame.of_below (x := bo) (hbe2.mono HBS.out))); clear hs2 hb2 hbe2)
      | (at_builtin; refine wpl_append_int rfl _ _ rfl base acc _ rfl HOWN2.out w1.heap.size e.id (0, 0) rfl HB2.out HLN.out HBS2.out ?_; intro v3 w3 hown3 hgr3 hloc3; have HOWN3 := Lib.hid hown3; have HV3 := Lib.hid ((hgr3.block bo (lt_of_block HV2.out) (by have := HW.out.hi; intro q; have := (HOWN2.out.lt bo q.symm).1; omega)).trans HV2.out); have HF3 := Lib.hid (HF2.out.trans (Frame.of_grown (x := bo) hgr3 (fun q hq => (HOWN2.out.lt q hq).1) HBS2.out)); have H13 : Hid (v3.oneCell' = true) := Lib.hid (by obtain ⟨_, _, q⟩ := own_shape hown3; rw [q]; rfl); have HGS3 := Lib.hid (Nat.le_trans HBS2.out hgr3.size); clear hown3 hgr3 hloc3)
      | (refine wpl_store_one rfl 23 size23 _ _ rfl bo 0 v3 rfl rfl H13.out _ _ HV3.out Nat.zero_lt_one ?_; intro w4 hs4 hv4 hf4; have HF4 := Lib.hid (HF3.out.trans (hf4.mono HGS3.out)); have HOWN4 := Lib.hid (HOWN3.out.kept (row := some bo) ⟨hf4.1, hf4.2.1, hf4.2.2.1, hf4.2.2.2.1, fun q h1 h2 => hf4.2.2.2.2 q h1 (fun h3 => h2 (by rw [h3]))⟩ (Or.inr (fun q => by have := (HOWN3.out.lt bo q).1; have := HW.out.hi; omega))); have HW4 := Lib.hid (HW.out.frame (acc' := acc ++ [e.id]) HF4.out ⟨v3, hv4, HOWN4.out⟩); have HT4 := Lib.hid (HTT.out _ HF4.out); have ht4 : w4.cell? ⟨bt, 0, none⟩ = some (.pointer (some ⟨T, 0, none⟩)) := blk_cell HW4.out.t 0 _ rfl; have cT4 := HT4.out.cellT.1; obtain ⟨a3, _, c3, _, k3, hint3, _⟩ := (HT4.out.nodes _ HP.out).cells; have HINT3 := Lib.hid hint3; clear hint3 hs4 hv4 hf4 ho1)
      | (at_lookup; refine wpl_el_look_at rfl _ _ rfl rfl HT4.out.m e.id rfl b (List.mem_map_of_mem (f := fun p : El × Nat => (p.1.id, p.2)) HP.out) ?_))
    go_loopw [29] (fun i wr => ∃ j : Nat, j ≤ e.kids.length ∧ i = .int .i64 j ∧ WalkM wr U base bo bt bw T (acc ++ [e.id] ++ (e.kids.take j).flatMap (pre (ndsOf ns) f)) ∧ Frame base bo w4 wr) (fun i _ => e.kids.length - (intOf i).toNat)
    case atStart => exact ⟨0, Nat.zero_le _, rfl, by simpa using HW4.out, Frame.refl _ _ _⟩
    case round =>
      obtain ⟨j, hj, rfl, hw, hf⟩ := hrel
      have HWR := Lib.hid hw; have HFR := Lib.hid hf; have HJ := Lib.hid hj
      clear hw hf ht4 cT4 k3
      by_cases hlt : j < e.kids.length
      · obtain ⟨kb, off, rfl, hkb, hkr⟩ := RowAt.place (IntsFrom.at_ HINT3.out) (by omega)
        have hkc : wr.cell? ⟨kb, off + j, none⟩ = some (.int .i64 e.kids[j]) := by
          rw [World.cell?_of_block (HFR.out.2.2.2.2 kb (by have := HW.out.lo; have := HW.out.hi; omega) (by have := HW.out.lo; omega))]
          exact hkr j _ (intCells_get hlt)
        have hwk : wr.cell? ⟨bw, 0, none⟩ = some (.func (.func 40) #[] #[.pointer (some ⟨bo, 0, none⟩), .pointer (some ⟨bt, 0, none⟩), .pointer (some ⟨bw, 0, none⟩)]) := blk_cell HWR.out.wk 0 _ rfl
        have htk : e.kids.take (j + 1) = e.kids.take j ++ [e.kids[j]] := take_snoc hlt
        have hkm : e.kids[j] ∈ e.kids := List.getElem_mem hlt
        have hle : ((e.kids.take j).flatMap (pre (ndsOf ns) f)).length + (pre (ndsOf ns) f e.kids[j]).length ≤ (e.kids.flatMap (pre (ndsOf ns) f)).length := take_flat_le _ _ hlt
        generalize e.kids[j] = k at hkc htk hkm hle
        have HTK := Lib.hid htk; have HKM := Lib.hid hkm
        have HTR := Lib.hid (HTT.out _ (HF4.out.trans HFR.out))
        have HLE : Hid ((acc ++ [e.id] ++ (e.kids.take j).flatMap (pre (ndsOf ns) f)).length + (pre (ndsOf ns) f k).length ≤ ns.length) := Lib.hid (by have := HLEN.out; simp only [List.length_append, List.length_cons, List.length_nil] at this ⊢; omega)
        have hkl : (e.kids.length : Int) < 9223372036854775807 := by
          have := HKN.out
          omega
        clear htk hkm hle hkr hkb
        go_wp2_with (go_at_call 40; refine (IH.out k _ wr HTR.out HWR.out (HK.out k HKM.out) HLE.out).mono ?_; rintro e' w5 ⟨rfl, hw5, hf5⟩; have HW5 := Lib.hid hw5; have HF5 := Lib.hid hf5; clear hw5 hf5)
        go_roundw
        case rel => exact ⟨j + 1, by omega, by go_num, by rw [HTK.out, List.flatMap_append]; have := HW5.out; simpa using this, HFR.out.trans HF5.out⟩
        case measure => simp [intOf]; omega
      · have hje : j = e.kids.length := by have := HJ.out; omega
        go_wp2
        go_end0
        refine ⟨rfl, ?_, HF4.out.trans HFR.out⟩
        have := HWR.out
        rw [hje, List.take_length] at this
        simpa using this
end Go.Proofs.YthbmnacleneflaaGreatDoor
/-
  Contracts, for a run of one goroutine, of dom's Tree.Below, Tree.Order, Tree.depth: an element and all below it; how deep it stands. Condition: the tree lies in memory; what is below the element ends.
-/
set_option linter.unusedSimpArgs false
set_option linter.unusedVariables false
namespace Go.Proofs.YthbmnacleneflaaGreatDoor
open Go Go.RowKit
open Go.Proofs.YthbmnacleneflaaGreatDoor.dt (Nd fnd pre Deep ups Fits Dist fnd_some fnd_mem fnd_neg dist_root dist_kid dist_par dist_inj deep_of pre_len all_dist dist_of_pre oneTree elOk kidOk rootsN kidsN rootOf fits_of root_of_mem cloL)

theorem pre_none {ns : List Nd} {x : Int} (h : fnd ns x = none) (f : Nat) : pre ns f x = [] := by
  cases f with
  | zero => rfl
  | succ f => unfold pre; rw [h]
set_option maxRecDepth 100000 in
set_option maxHeartbeats 4000000 in
/-- (*dom.Tree).Below. -/
theorem below_any (w : World) (U B N T : Nat) (ns : Ns) (root next : Int) (hT : TreeM w U B N T ns root next) (hU : U ≤ w.heap.size) (x : Int) (hi : I64 x)
    (hdeep : ∀ n, fnd (ndsOf ns) x = some n → Deep (ndsOf ns) ns.length x ∧ (pre (ndsOf ns) ns.length x).length ≤ ns.length) :
    Calls Tryz.prog 25 #[.pointer (some ⟨T, 0, none⟩), .int .i64 x] w fun e w' => ∃ v, e = .returned v ∧ IntsFrom w.heap.size w'.heap.size w' v (pre (ndsOf ns) ns.length x) ∧ Below w.heap.size w w' := by
  have HT := Lib.hid hT; have HU := Lib.hid hU; have HI := Lib.hid hi; have HD := Lib.hid hdeep
  clear hT hU hi hdeep
  by_cases hin : x ∈ (keysOf ns).map (·.1)
  · obtain ⟨⟨x', b⟩, hb, hxx⟩ := List.mem_map.1 hin
    obtain rfl : x' = x := hxx
    have HB := Lib.hid hb
    obtain ⟨e, he, hid⟩ := key_mem hb
    have hfn : ∃ n, fnd (ndsOf ns) x' = some n := by
      cases hf : fnd (ndsOf ns) x' with
      | some n => exact ⟨n, rfl⟩
      | none =>
        have : ∀ n ∈ ndsOf ns, ¬ n.id = x' := fun n hn => by
          unfold Go.Proofs.YthbmnacleneflaaGreatDoor.dt.fnd at hf
          have := List.find?_eq_none.1 hf n hn
          simpa using this
        exact absurd hid (this e.nd (List.mem_map_of_mem (f := fun p : El × Nat => p.1.nd) he))
    obtain ⟨n, hn⟩ := hfn
    have HDD := Lib.hid (HD.out n hn)
    clear hin hb he hid hn
    go_enter Tryz.func25, Tryz.ntmps25
    go_wp2_with (first
      | (refine wpl_box rfl 24 _ rfl (.pointer (some ⟨T, 0, none⟩)) rfl ?_; intro w1 hs1 hb1 hbe1; have HS1 := Lib.hid hs1; have HBT := Lib.hid hb1; have HF1 := Lib.hid hbe1; have ct : w1.cell? ⟨w.heap.size, 0, none⟩ = some (.pointer (some ⟨T, 0, none⟩)) := blk_cell hb1 0 _ rfl; have HT1 := Lib.hid (HT.out.below hbe1 HU.out); have cT := HT1.out.cellT.1; clear hs1 hb1 hbe1)
      | (at_lookup; refine wpl_el_look_at rfl _ _ rfl rfl HT1.out.m x' rfl b HB.out ?_)
      | (refine wpl_alloc rfl 23 rfl _ (zero23 _) ?_; intro w2 hs2 hb2 hbe2; have HS2 := Lib.hid hs2; have HBO := Lib.hid hb2; have HF2 := Lib.hid hbe2; clear hs2 hb2 hbe2)
      | (refine wpl_alloc rfl 84 rfl _ (zero84 _) ?_; intro w3 hs3 hb3 hbe3; have HS3 := Lib.hid hs3; have HBW := Lib.hid hb3; have HF3 := Lib.hid hbe3; clear hs3 hb3 hbe3)
      | (refine wpl_store_one rfl 84 size84 _ _ rfl w2.heap.size 0 _ rfl rfl rfl _ _ HBW.out Nat.zero_lt_one ?_; intro w4 hs4 hv4 hf4; have HS4 := Lib.hid hs4; have HBW4 := Lib.hid hv4; have HF4 := Lib.hid hf4; have cw : w4.cell? ⟨w2.heap.size, 0, none⟩ = some (.func (.func 40) #[] #[.pointer (some ⟨w1.heap.size, 0, none⟩), .pointer (some ⟨w.heap.size, 0, none⟩), .pointer (some ⟨w2.heap.size, 0, none⟩)]) := blk_cell hv4 0 _ rfl; clear hs4 hv4 hf4 ct cT)
      | (go_at_call 40
         have HSZ := Lib.hid (show w1.heap.size = w.heap.size + 1 ∧ w2.heap.size = w.heap.size + 2 ∧ w3.heap.size = w.heap.size + 3 ∧ w4.heap.size = w.heap.size + 3 by have := HS1.out; have := HS2.out; have := HS3.out; have := HS4.out; omega)
         have HFF : Hid (Below w.heap.size w w4) := Lib.hid (((HF1.out.trans (HF2.out.mono (by have := HS1.out; omega))).trans (HF3.out.mono (by have := HSZ.out; omega))).trans (HF4.out.below (by have := HSZ.out; omega) (by have := HSZ.out; omega)))
         have hbt4 : w4.heap[w.heap.size]? = some (.cells #[.pointer (some ⟨T, 0, none⟩)] 24 (0, 0)) := (HF4.out.2.2.2.2 _ (by have := HSZ.out; omega) (by have := HSZ.out; omega)).trans ((HF3.out.block _ (by have := HSZ.out; omega)).trans ((HF2.out.block _ (by have := HSZ.out; omega)).trans HBT.out))
         have hbo4 : w4.heap[w1.heap.size]? = some (.cells #[.slice none 0 0] 23 (0, 0)) := (HF4.out.2.2.2.2 _ (by have := HSZ.out; omega) (by have := HSZ.out; omega)).trans ((HF3.out.block _ (by have := HSZ.out; omega)).trans HBO.out)
         have hwm : WalkM w4 U w3.heap.size w1.heap.size w.heap.size w2.heap.size T [] := ⟨⟨_, hbo4, World.ownsRow_nil _ _ _ _⟩, hbt4, HBW4.out, by have := HSZ.out; have := HU.out; omega, by have := HSZ.out; omega, by have := HSZ.out; omega, by have := HSZ.out; omega⟩
         refine (walk_any ns U B N T root next w3.heap.size w1.heap.size w.heap.size w2.heap.size (fun p hp k hk => (HT.out.ok p hp).kids k hk) ns.length x' [] w4 (HT.out.below HFF.out HU.out) hwm HDD.out.1 (by simpa using HDD.out.2)).mono ?_
         rintro e' w5 ⟨rfl, hw5, hf5⟩
         obtain ⟨v5, hv5, hown5⟩ := hw5.out
         have co : w5.cell? ⟨w1.heap.size, 0, none⟩ = some v5 := blk_cell hv5 0 _ rfl
         have HOWN5 := Lib.hid hown5; have HF5 := Lib.hid hf5
         clear hwm hbt4 hbo4 hw5 hf5 hv5 hown5 cw))
    go_ret
    refine ⟨v5, rfl, ?_, HFF.out.trans (HF5.out.below (by have := HSZ.out; omega) (by have := HSZ.out; omega))⟩
    have h1 := RowFrom.of_own HOWN5.out (by decide)
    rw [List.nil_append] at h1
    exact RowFrom.mono h1 (by have := HSZ.out; omega) (Nat.le_refl _)
  · have HN := Lib.hid hin
    have HP := Lib.hid (pre_none (fnd_nokey hin) ns.length)
    clear hin
    go_enter Tryz.func25, Tryz.ntmps25
    go_wp2_with (first
      | (refine wpl_box rfl 24 _ rfl (.pointer (some ⟨T, 0, none⟩)) rfl ?_; intro w1 hs1 hb1 hbe1; have HF1 := Lib.hid hbe1; have ct : w1.cell? ⟨w.heap.size, 0, none⟩ = some (.pointer (some ⟨T, 0, none⟩)) := blk_cell hb1 0 _ rfl; have HT1 := Lib.hid (HT.out.below hbe1 HU.out); have cT := HT1.out.cellT.1; clear hs1 hb1 hbe1)
      | (at_lookup; refine wpl_el_look_no rfl _ _ rfl rfl HT1.out.m x rfl HI.out HN.out ?_))
    go_ret
    refine ⟨_, rfl, ?_, HF1.out⟩
    rw [HP.out]
    exact ⟨none, 0, rfl, Nat.le_refl _, Nat.zero_le _, .inl ⟨rfl, rfl, fun _ => rfl⟩⟩

set_option maxRecDepth 100000 in
set_option maxHeartbeats 1000000 in
/-- (*dom.Tree).Order. -/
theorem order_any (w : World) (U B N T : Nat) (ns : Ns) (root next : Int) (hT : TreeM w U B N T ns root next) (hU : U ≤ w.heap.size) (hf : Fits (ndsOf ns) root) (hi : I64 root) :
    Calls Tryz.prog 26 #[.pointer (some ⟨T, 0, none⟩)] w fun e w' => ∃ v, e = .returned v ∧ IntsFrom w.heap.size w'.heap.size w' v (pre (ndsOf ns) ns.length root) ∧ Below w.heap.size w w' := by
  have HT := Lib.hid hT; have HU := Lib.hid hU; have HF := Lib.hid hf; have HI := Lib.hid hi
  have cT := hT.cellT.2.1
  clear hT hU hf hi
  have HC := Lib.hid (below_any w U B N T ns root next HT.out HU.out root HI.out (fun n hn => by
    have h1 := deep_of HF.out ns.length root 0 dist_root (by rw [nds_len]; omega)
    have h2 := pre_len HF.out ns.length dist_root
    rw [nds_len] at h2
    exact ⟨h1, h2⟩))
  go_enter Tryz.func26, Tryz.ntmps26
  go_wp2_with (go_at_call 25; refine HC.out.mono ?_; rintro e w1 ⟨v, rfl, hv, hb⟩; have HV := Lib.hid hv; have HB := Lib.hid hb; clear hv hb)
  go_ret
  exact ⟨v, rfl, HV.out, HB.out⟩

set_option maxRecDepth 100000 in
set_option maxHeartbeats 1000000 in
/-- (*dom.Tree).depth. -/
theorem depth_any (w : World) (U B N T : Nat) (ns : Ns) (root next : Int) (hT : TreeM w U B N T ns root next) (hf : Fits (ndsOf ns) root) (x : Int) (d : Nat) (hd : Dist (ndsOf ns) root x d) (hl : d < 1000) :
    Calls Tryz.prog 18 #[.pointer (some ⟨T, 0, none⟩), .int .i64 x] w fun e w' => e = .returned (.int .i64 ((d : Int) + 1)) ∧ w = w' := by
  have HT := Lib.hid hT; have HF := Lib.hid hf; have HD := Lib.hid hd
  have cT := hT.cellT.1; have cR := hT.cellT.2.1
  clear hT hf hd
  go_enter Tryz.func18, Tryz.ntmps18
  go_wp2
  go_loop [1, 5] (fun a n => ∃ (y : Int) (j d' : Nat), j + d' = d ∧ a = .int .i64 y ∧ n = .int .i64 (j + 1 : Nat) ∧ Dist (ndsOf ns) root y d') (fun _ n => d + 1 - (intOf n).toNat)
  case atStart => exact ⟨x, 0, d, Nat.zero_add _, rfl, rfl, HD.out⟩
  case round =>
    obtain ⟨y, j, d', hj, rfl, rfl, hy⟩ := hrel
    have HY := Lib.hid hy
    clear hy
    have hjd : (j : Int) < 1000 := by omega
    cases d' with
    | zero =>
      have hyr : y = root := by have := HY.out; simpa [Go.Proofs.YthbmnacleneflaaGreatDoor.dt.Dist, Go.Proofs.YthbmnacleneflaaGreatDoor.dt.ups] using this
      have hne : (y != root) = false := by simpa using hyr
      have hjd2 : j = d := by omega
      subst hjd2
      clear hyr
      go_wp2
      go_ret
      exact ⟨by simp, rfl⟩
    | succ d' =>
      have hne : (y != root) = true := by
        simp only [bne_iff_ne, ne_eq]
        intro e
        have h1 := HY.out
        rw [e] at h1
        have := dist_inj HF.out h1 dist_root
        omega
      have hfn : ∃ n, fnd (ndsOf ns) y = some n := by
        have h1 := HY.out
        unfold Go.Proofs.YthbmnacleneflaaGreatDoor.dt.Dist Go.Proofs.YthbmnacleneflaaGreatDoor.dt.ups at h1
        cases hf : fnd (ndsOf ns) y with
        | none => rw [hf] at h1; cases h1
        | some n => exact ⟨n, rfl⟩
      obtain ⟨n, hn⟩ := hfn
      have HP := Lib.hid (dist_par hn HY.out)
      obtain ⟨e, b, he, hen, rfl⟩ := key_of_fnd hn
      subst hen
      have HK := Lib.hid (List.mem_map_of_mem (f := fun p : El × Nat => (p.1.id, p.2)) he)
      obtain ⟨_, _, _, cp, _⟩ := (HT.out.nodes _ he).cells
      clear hn he
      go_wp2_with (at_lookup; refine wpl_el_look_at rfl _ _ rfl rfl HT.out.m e.id rfl b HK.out ?_)
      exact ⟨⟨e.par, j + 1, d', by omega, rfl, by go_num, HP.out⟩, by simp [intOf]; omega⟩
end Go.Proofs.YthbmnacleneflaaGreatDoor
