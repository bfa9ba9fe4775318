/-
  Contract, for a run of one goroutine, of dom.Load: the tree of elements, or why there is none. Condition: the elements lie in memory.
-/
import Derived.Test.YthbmnacleneflaaGreatDoorD5
import Derived.Test.YthbmnacleneflaaGreatDoorD3
import Derived.Test.YthbmnacleneflaaGreatDoorD1
import Derived.Test.YthbmnacleneflaaGreatDoorProg
set_option linter.unusedSimpArgs false
set_option linter.unusedVariables false
set_option linter.unusedSimpArgs false
set_option linter.unusedVariables false
namespace Go.Proofs.YthbmnacleneflaaGreatDoor
open Go Go.RowKit
open Go.Proofs.YthbmnacleneflaaGreatDoor.dt (Nd fnd pre Deep ups Fits Dist fnd_some fnd_mem fnd_neg dist_root dist_kid dist_lt deep_of pre_len all_dist dist_of_pre oneTree elOk kidOk rootsN kidsN rootOf fits_of root_of_mem cloL Whole)

/-- dom.copied at an element. -/
theorem copied_el (x : Ev) (w : World) (hx : x.el.ok) (hk : IntsAt w.heap.size w x.kv x.el.kids) (ha : AttrsAt w.heap.size w x.av x.el.attrs) :
    Calls Tryz.prog 16 #[.agg x.cells] w fun e w' => ∃ y : Ev, y.el = x.el ∧ e = .returned (.agg y.cells) ∧ Below w.heap.size w w' ∧ IntsFrom w.heap.size w'.heap.size w' y.kv x.el.kids ∧ AttrsFrom w.heap.size w'.heap.size w' y.av x.el.attrs := by
  obtain ⟨⟨id, par, tag, kids, attrs, bt, bn, n1, d1, n2, d2⟩, kv, av⟩ := x
  obtain ⟨ka, kc, hkv⟩ := RowAt.slice (v := kv) (n := kids.length) hk
  obtain ⟨aa, ac, hav⟩ := RowAt.slice (v := av) (n := attrs.length) ha
  subst hkv
  subst hav
  refine (copied_any id par tag ka kids.length kc aa attrs.length ac bt bn n1 d1 n2 d2 kids attrs w hk ha hx.kn hx.an).mono ?_
  rintro e w' ⟨kv', av', rfl, hb, h1, h2⟩
  exact ⟨⟨⟨id, par, tag, kids, attrs, bt, bn, n1, d1, n2, d2⟩, kv', av'⟩, rfl, rfl, hb, h1, h2⟩
theorem from_one {A B : Nat} {w : World} {v : Value} {n : Nat} {cs : List Value} (h : RowFrom A B w v n cs) : v.oneCell' = true := by
  obtain ⟨a, c, h1, _⟩ := h
  rw [h1]
  rfl
theorem at_one {B : Nat} {w : World} {v : Value} {n : Nat} {cs : List Value} (h : RowAt B w v n cs) : v.oneCell' = true := by
  obtain ⟨a, c, h1, _⟩ := h
  rw [h1]
  rfl
/-- The first element that is wrong, one by one. -/
noncomputable def scanE : List El → Int → Int
  | [], _ => 0
  | e :: l, last => if wrongE e last = 0 then scanE l e.id else wrongE e last
theorem wrong_zero {e : El} {last : Int} (h : wrongE e last = 0) : 0 ≤ e.id ∧ last < e.id ∧ e.id ≤ 1073741824 := by
  unfold wrongE at h
  split at h
  · cases h
  · rename_i hn
    exact ⟨by omega, by omega, by omega⟩
/-- The elements laid so far. -/
structure LoadAt (w : World) (xs : List Ev) (k : Nat) (last : Int) (wr : World) (ns : Ns) : Prop where
  els : ns.map (·.1) = (xs.take k).map (·.el)
  tree : TreeM wr wr.heap.size w.heap.size (w.heap.size + 2) (w.heap.size + 1) ns 0 0
  lt : ∀ p ∈ ns, p.1.id ≤ last ∧ 0 ≤ p.1.id
  lo : -1 ≤ last
  hi : last ≤ 1073741824
  nd : ((ndsOf ns).map Nd.id).Nodup
  scan : scanE (xs.map (·.el)) (-1) = scanE ((xs.drop k).map (·.el)) last
  below : Below w.heap.size w wr

theorem scanE_cons (e : El) (l : List El) (last : Int) : scanE (e :: l) last = if wrongE e last = 0 then scanE l e.id else wrongE e last := rfl
/-- What stands too deep. -/
def DeepN (ns : List Nd) (r : Int) : Prop := ∃ n ∈ ns, ∃ d, Dist ns r n.id d ∧ 32 < d + 1
/-- What dom.Load says. -/
noncomputable def loadE (els : List El) : Int :=
  if els.length = 0 then 1 else if 256 < els.length then 6 else if scanE els (-1) ≠ 0 then scanE els (-1) else if oneTree (els.map El.nd) = false then 5 else
    @ite _ (DeepN (els.map El.nd) (rootOf (els.map El.nd))) (Classical.propDecidable _) 7 0
def LoadP (w : World) (els : List El) (e : Ending) (w' : World) : Prop :=
  ∃ t, e = .returned (.tuple #[t, .int .i64 (loadE els)]) ∧ Below w.heap.size w w' ∧ (loadE els ≠ 0 → t = .pointer none) ∧
    (loadE els = 0 → ∃ B N T ns next, t = .pointer (some ⟨T, 0, none⟩) ∧ ns.map (·.1) = els ∧ TreeM w' w'.heap.size B N T ns (rootOf (ndsOf ns)) next ∧ Whole (ndsOf ns) (rootOf (ndsOf ns)))
theorem nds_of_els {ns : Ns} {els : List El} (h : ns.map (·.1) = els) : ndsOf ns = els.map El.nd := by
  rw [← h]
  simp [ndsOf]
theorem ret_two {t : Value} {a b : Int} (h : a = b) : Ending.returned (.tuple #[t, .int .i64 a]) = .returned (.tuple #[t, .int .i64 b]) := by rw [h]
theorem LoadP.no {w w' : World} {els : List El} {c : Int} (h : loadE els = c) (hc : c ≠ 0) (hb : Below w.heap.size w w') : LoadP w els (.returned (.tuple #[.pointer none, .int .i64 c])) w' :=
  ⟨.pointer none, ret_two h.symm, hb, fun _ => rfl, fun h0 => absurd (h.symm.trans h0) hc⟩
theorem drop_cons {α : Type} {l : List α} {k : Nat} (h : k < l.length) : l.drop k = l[k] :: l.drop (k + 1) := List.drop_eq_getElem_cons h
/-- One element more has been laid. -/
theorem LoadAt.next {w wr w9 : World} {xs : List Ev} {k : Nat} {last : Int} {ns : Ns} (h : LoadAt w xs k last wr ns) (hk : k < xs.length) (hok : xs[k].el.ok) (hw : wrongE xs[k].el last = 0) (b : Nat)
    (hf : Frame wr.heap.size w.heap.size wr w9) (hm : MapIs w9 w.heap.size (keysOf ns ++ [(xs[k].el.id, b)])) (hn : NodeAt wr.heap.size w9.heap.size w9 b xs[k].el) (hl : xs.length ≤ 256) : LoadAt w xs (k + 1) xs[k].el.id w9 (ns ++ [(xs[k].el, b)]) := by
  have hz := wrong_zero hw
  have hlen : ns.length = k := by
    have := congrArg List.length h.els
    simp only [List.length_map, List.length_take] at this
    omega
  refine ⟨?_, ⟨?_, ?_, ?_, ?_, by omega, by omega, by omega, ?_, ?_⟩, ?_, by omega, hz.2.2, ?_, ?_, ?_⟩
  · rw [List.map_append, h.els, take_snoc hk, List.map_append]
    rfl
  · exact (hf.2.2.2.2 _ (by have := h.tree.tn; have := h.tree.nu; omega) (by omega)).trans h.tree.t
  · rw [show keysOf (ns ++ [(xs[k].el, b)]) = keysOf ns ++ [(xs[k].el.id, b)] by simp [keysOf]]
    exact hm
  · intro p hp
    rcases List.mem_append.1 hp with hp | hp
    · exact ((h.tree.nodes p hp).keep fun j h1 h2 => hf.2.2.2.2 j h2 (by omega)).mono hf.2.2.2.1
    · simp only [List.mem_singleton] at hp
      subst hp
      obtain ⟨kv, av, q1, q2, q3⟩ := hn.blk
      have hN := h.tree.nu
      exact ⟨Nat.le_trans hN hn.lo, hn.hi, kv, av, q1, RowFrom.mono q2 hN (Nat.le_refl _), RowFrom.mono q3 hN (Nat.le_refl _)⟩
  · intro p hp
    rcases List.mem_append.1 hp with hp | hp
    · exact h.tree.ok p hp
    · simp only [List.mem_singleton] at hp
      subst hp
      exact hok
  · exact Nat.le_trans h.tree.nu hf.2.2.2.1
  · simp only [List.length_append, List.length_cons, List.length_nil]; omega
  · intro p hp
    rcases List.mem_append.1 hp with hp | hp
    · have := h.lt p hp; exact ⟨by omega, this.2⟩
    · simp only [List.mem_singleton] at hp
      subst hp
      exact ⟨Int.le_refl _, hz.1⟩
  · rw [ndsOf_append, List.map_append, List.nodup_append]
    refine ⟨h.nd, by simp [ndsOf], ?_⟩
    intro a ha c hc e
    have hc' : c = xs[k].el.id := by simpa [ndsOf, El.nd] using hc
    rw [← keys_fst] at ha
    obtain ⟨q, hq, rfl⟩ := List.mem_map.1 ha
    obtain ⟨p, hp, rfl⟩ := List.mem_map.1 hq
    have := h.lt p hp
    have e2 : p.1.id = xs[k].el.id := e.trans hc'
    omega
  · rw [h.scan, drop_cons hk, List.map_cons, scanE_cons, if_pos hw]
  · exact h.below.trans (hf.below (by have := h.tree.nu; omega) (Nat.le_refl _))
theorem LoadAt.key {w wr : World} {xs : List Ev} {k : Nat} {last : Int} {ns : Ns} (h : LoadAt w xs k last wr ns) (hk : k < xs.length) (hw : wrongE xs[k].el last = 0) : xs[k].el.id ∉ (keysOf ns).map (·.1) := by
  intro hm
  obtain ⟨q, hq, e⟩ := List.mem_map.1 hm
  obtain ⟨p, hp, rfl⟩ := List.mem_map.1 hq
  have := h.lt p hp
  have := wrong_zero hw
  have e2 : p.1.id = xs[k].el.id := e
  omega

set_option maxRecDepth 100000 in
set_option maxHeartbeats 8000000 in
theorem load_main (w : World) (v : Value) (xs : List Ev) (hx : ElsAt w.heap.size w v xs) (h1 : 1 ≤ xs.length) (h2 : xs.length ≤ 256) :
    Calls Tryz.prog 5 #[v] w (LoadP w (xs.map (·.el))) := by
  obtain ⟨a, c, rfl⟩ := RowAt.slice hx.row
  obtain ⟨bx, off, rfl, hbx, hrx⟩ := RowAt.place hx.row h1
  have HX := Lib.hid hx; have HBX := Lib.hid hbx; have HRX := Lib.hid hrx; have HN1 := Lib.hid h1; have HN2 := Lib.hid h2
  have hl1 : (1 : Int) ≤ xs.length := by omega
  have hl2 : (xs.length : Int) ≤ 256 := by omega
  have t0 : ((xs.length : Int) == 0) = false := by rw [beq_eq_false_iff_ne]; omega
  have t1 : decide ((256 : Int) < (xs.length : Int)) = false := by simp; omega
  have HLE : Hid (loadE (xs.map (·.el)) = if scanE (xs.map (·.el)) (-1) ≠ 0 then scanE (xs.map (·.el)) (-1) else if oneTree ((xs.map (·.el)).map El.nd) = false then 5 else
    @ite _ (DeepN ((xs.map (·.el)).map El.nd) (rootOf ((xs.map (·.el)).map El.nd))) (Classical.propDecidable _) 7 0) := Lib.hid (by
      unfold loadE
      rw [if_neg (by simp; intro e; rw [e] at h1; simp at h1), if_neg (by simp; omega)])
  clear hx hbx hrx h1 h2
  go_enter Tryz.func5, Tryz.ntmps5
  go_wp2_with (first
    | (refine wpl_make_el rfl rfl ?_; intro w1 hs1 hm1 hb1; have HS1 := Lib.hid hs1; have HM1 := Lib.hid hm1; have HB1 := Lib.hid hb1; clear hs1 hm1 hb1)
    | (refine wpl_box rfl 51 _ rfl (.agg #[.map (some w.heap.size), .int .i64 0, .int .i64 0]) rfl ?_; intro w2 hs2 hb2 hbe2; rw [HS1.out] at hb2 hs2 ⊢; have HS2 := Lib.hid hs2; have HC2 := Lib.hid hb2; have HB2 := Lib.hid hbe2; clear hs2 hb2 hbe2))
  go_loopw [22, 5] (fun i l wr => ∃ (k : Nat) (last : Int) (ns : Ns), k ≤ xs.length ∧ i = .int .i64 k ∧ l = .int .i64 last ∧ LoadAt w xs k last wr ns) (fun i _ _ => xs.length - (intOf i).toNat)
  case atStart =>
    refine ⟨0, -1, [], Nat.zero_le _, rfl, rfl, rfl, ⟨HC2.out, HM1.out.kept (HB2.out.block _ (by have := HS1.out; omega)), fun p hp => (by cases hp), fun p hp => (by cases hp), by omega, by omega, by omega, by have := HS2.out; omega, Nat.zero_le _⟩, fun p hp => (by cases hp), Int.le_refl _, by omega, List.nodup_nil, rfl, HB1.out.trans (HB2.out.mono (by have := HS1.out; omega))⟩
  case round =>
    obtain ⟨k, last, ns, hk, rfl, rfl, hla⟩ := hrel
    have HLA := Lib.hid hla; have HK := Lib.hid hk
    clear hla
    by_cases hlt : k < xs.length
    · obtain ⟨x, hx⟩ : ∃ x, xs[k] = x := ⟨_, rfl⟩
      have HXK := Lib.hid hx
      have hxm : x ∈ xs := by rw [← hx]; exact List.getElem_mem hlt
      have HOK : Hid x.el.ok := Lib.hid (HX.out.ok x hxm)
      have HEL : Hid (∀ j u, x.cells.toList[j]? = some u → wr.cell? ⟨bx, off + k * 11 + j, none⟩ = some u) := Lib.hid (by
        intro j u hu
        rw [(bcell HLA.out.below).1 bx _ HBX.out]
        have := elem_cells HRX.out hlt
        rw [hx] at this
        exact this j u hu)
      have HKI : Hid (IntsAt w.heap.size wr x.kv x.el.kids) := Lib.hid ((HX.out.kids x hxm).keep HLA.out.below)
      have HAI : Hid (AttrsAt w.heap.size wr x.av x.el.attrs) := Lib.hid ((HX.out.attrs x hxm).keep HLA.out.below)
      have HWR : Hid (w.heap.size ≤ wr.heap.size) := Lib.hid HLA.out.below.size
      have HSC : Hid (scanE (xs.map (·.el)) (-1) = if wrongE x.el last = 0 then scanE ((xs.drop (k + 1)).map (·.el)) x.el.id else wrongE x.el last) := Lib.hid (by
        rw [HLA.out.scan, drop_cons hlt, hx, List.map_cons, scanE_cons])
      clear hx hxm
      by_cases hwz : wrongE x.el last = 0
      · have HWZ := Lib.hid hwz
        clear hwz
        go_wp2_with (first
          | (refine wpList_load_range rfl 47 _ rfl bx (off + k * 11) rfl x.cells _ HEL.out Tryz.underlying47 rfl size47 ?_)
          | (refine wpl_alloc rfl 47 rfl _ (zero47 _) ?_; have _t := HEL; intro w3 hs3 hc3 hb3; have HS3 := Lib.hid hs3; have HC3 := Lib.hid hc3; have HB3 := Lib.hid hb3; clear hs3 hc3 hb3 _t; clear HEL)
          | (refine wpl_store_el rfl _ _ rfl wr.heap.size x rfl rfl _ HC3.out rfl ⟨at_one HKI.out, at_one HAI.out⟩ ?_; intro w4 hs4 hc4 hf4; have HC4 := Lib.hid hc4; have HB4 := Lib.hid (HB3.out.trans (hf4.below (by have := HS3.out; omega) (Nat.le_refl _))); clear hs4 hc4 hf4; clear HC3)
          | (refine wpList_load_row rfl 47 _ rfl _ rfl _ _ _ _ HC4.out Tryz.underlying47 rfl size47 ?_)
          | (go_at_call 15; refine (wrong_any x last w4 HOK.out ((HAI.out.keep (HB4.out.mono HWR.out)).mono (Nat.le_trans HWR.out HB4.out.size))).mono ?_; rintro e w5 ⟨rfl, hb5⟩; rw [HWZ.out]; have HB5 := Lib.hid (HB4.out.trans (hb5.mono HB4.out.size)); have HC5 := Lib.hid ((hb5.block _ (lt_of_block HC4.out)).trans HC4.out); have HS5 := Lib.hid (Nat.le_trans (Nat.le_of_lt (lt_of_block HC4.out)) hb5.size); have cI5 : w5.cell? ⟨wr.heap.size, 0, none⟩ = some (.int .i64 x.el.id) := blk_cell HC5.out 0 _ rfl; clear hb5)
          | (refine wpList_load_row rfl 47 _ rfl _ rfl _ _ _ _ HC5.out Tryz.underlying47 rfl size47 ?_)
          | (go_at_call 16; refine (copied_el x w5 HOK.out ((HKI.out.keep (HB5.out.mono HWR.out)).mono (Nat.le_trans HWR.out HB5.out.size)) ((HAI.out.keep (HB5.out.mono HWR.out)).mono (Nat.le_trans HWR.out HB5.out.size))).mono ?_; rintro e w6 ⟨y, hye, rfl, hb6, hk6, ha6⟩; have HYE := Lib.hid hye; have HB6 := Lib.hid hb6; have HK6 := Lib.hid hk6; have HA6 := Lib.hid ha6; clear hye hb6 hk6 ha6 cI5)
          | (refine wpl_alloc rfl 47 rfl _ (zero47 _) ?_; intro w7 hs7 hc7 hb7; have HS7 := Lib.hid hs7; have HC7 := Lib.hid hc7; have HB7 := Lib.hid hb7; clear hs7 hc7 hb7)
          | (refine wpl_store_el rfl _ _ rfl w6.heap.size y rfl rfl _ HC7.out rfl ⟨from_one HK6.out, from_one HA6.out⟩ ?_; intro w8 hs8 hc8 hf8; have HS8 := Lib.hid hs8; have HC8 := Lib.hid hc8; have HF8 := Lib.hid hf8; clear hs8 hc8 hf8))
        have HSZ : Hid (wr.heap.size < w5.heap.size ∧ w5.heap.size ≤ w6.heap.size ∧ w7.heap.size = w6.heap.size + 1 ∧ w8.heap.size = w6.heap.size + 1) := Lib.hid ⟨lt_of_block HC5.out, HB6.out.size, HS7.out, by have := HS7.out; have := HS8.out; omega⟩
        have HB8 : Hid (Below wr.heap.size wr w8) := Lib.hid (((HB5.out.trans (HB6.out.mono (Nat.le_of_lt HSZ.out.1))).trans (HB7.out.mono (by have := HSZ.out; omega))).trans (HF8.out.below (by have := HSZ.out; omega) (by have := HSZ.out; omega)))
        have HB68 : Hid (Below w6.heap.size w6 w8) := Lib.hid (HB7.out.trans (HF8.out.below (by have := HSZ.out; omega) (Nat.le_refl _)))
        have cT8 : w8.drew.cell? ⟨w.heap.size + 1, 0, none⟩ = some (.map (some w.heap.size)) := blk_cell (w := w8) ((HB8.out.block _ (by have := HLA.out.tree.tn; have := HLA.out.tree.nu; omega)).trans HLA.out.tree.t) 0 _ rfl
        have cI8 : w8.drew.cell? ⟨wr.heap.size, 0, none⟩ = some (.int .i64 x.el.id) := blk_cell (w := w8) ((HB68.out.block _ (by have := HSZ.out; omega)).trans ((HB6.out.block _ HSZ.out.1).trans HC5.out)) 0 _ rfl
        have hm8 : MapIs w8.drew w.heap.size (keysOf ns) := HLA.out.tree.m.kept (w' := w8.drew) (HB8.out.block _ (by have := HLA.out.tree.bn; have := HLA.out.tree.nu; omega))
        have HKEY := Lib.hid (HLA.out.key hlt (by rw [HXK.out]; exact HWZ.out))
        rw [HXK.out] at HKEY
        obtain ⟨w9, hput, hm9, hg9⟩ := hm8.put (b := w6.heap.size) HOK.out.id HKEY.out (by rw [keys_len]; have := HLA.out.tree.len; omega)
        have HG9 := Lib.hid hg9; have HM9 := Lib.hid hm9
        have cT9 : w9.cell? ⟨w.heap.size + 1, 0, none⟩ = some (.map (some w.heap.size)) := (World.cell?_of_block (hg9.block _ (by have := HLA.out.tree.tn; have := HLA.out.tree.nu; have := HB8.out.size; show w.heap.size + 1 < w8.heap.size; omega) (by simp))).trans cT8
        have cI9 : w9.cell? ⟨wr.heap.size, 0, none⟩ = some (.int .i64 x.el.id) := (World.cell?_of_block (hg9.block _ (by have := HSZ.out; show wr.heap.size < w8.heap.size; omega) (by have := HLA.out.tree.bn; have := HLA.out.tree.nu; simp; omega))).trans cI8
        clear hm8 hg9 hm9
        refine wp_region_held_drew (S := (fun s => s.cell? ⟨w.heap.size + 1, 0, none⟩ = some (.map (some w.heap.size)) ∧ s.cell? ⟨wr.heap.size, 0, none⟩ = some (.int .i64 x.el.id))) (by kernel_rfl) ⟨cT8, cI8⟩ (fun hHeld => ?_)
        refine wpAnyH_take (i := 0) (v := .pointer (some ⟨w.heap.size + 1, 0, none⟩)) rfl (by kernel_rfl) (by kernel_rfl) (by kernel_rfl) (fun _ _ _ h => h) (Or.inl ⟨by kernel_rfl, fun s hs => by obtain ⟨s0, s1⟩ := hs; go_simp⟩) hHeld ?_
        refine wpAnyH_take (i := 1) (v := .pointer (some ⟨w.heap.size + 1, 0, none⟩)) rfl (by kernel_rfl) (by kernel_rfl) (by kernel_rfl) (fun _ _ _ h => h) (Or.inl ⟨by kernel_rfl, fun s hs => by obtain ⟨s0, s1⟩ := hs; go_simp⟩) hHeld ?_
        refine wpAnyH_take (i := 2) (v := .pointer (some ⟨w.heap.size + 1, 0, none⟩)) rfl (by kernel_rfl) (by kernel_rfl) (by kernel_rfl) (fun _ _ _ h => h) (Or.inl ⟨by kernel_rfl, fun s hs => by obtain ⟨s0, s1⟩ := hs; go_simp⟩) hHeld ?_
        refine wpAnyH_take (i := 3) (v := .map (some w.heap.size)) rfl (by kernel_rfl) (by kernel_rfl) (by kernel_rfl) (fun _ _ _ h => h) (Or.inl ⟨by kernel_rfl, fun s hs => by obtain ⟨s0, s1⟩ := hs; go_simp⟩) hHeld ?_
        refine wpAnyH_take (i := 4) (v := .pointer (some ⟨wr.heap.size, 0, none⟩)) rfl (by kernel_rfl) (by kernel_rfl) (by kernel_rfl) (fun _ _ _ h => h) (Or.inl ⟨by kernel_rfl, fun s hs => by obtain ⟨s0, s1⟩ := hs; go_simp⟩) hHeld ?_
        refine wpAnyH_take (i := 5) (v := .int .i64 x.el.id) rfl (by kernel_rfl) (by kernel_rfl) (by kernel_rfl) (fun _ _ _ h => h) (Or.inl ⟨by kernel_rfl, fun s hs => by obtain ⟨s0, s1⟩ := hs; go_simp⟩) hHeld ?_
        refine wpAnyH_ready (rs := [6]) (by kernel_rfl) (by simp) ?_
        refine AllReadyH.cons rfl (fun K hK => ?_) AllReadyH.nil
        rw [if_pos (by kernel_rfl)]
        go_simp
        refine hK.out _ _ ⟨cT9, cI9⟩ (fun hHeld => ?_)
        refine wpAnyH_done (by kernel_rfl) ?_ _
        clear hHeld
        go_simp
        have HFR : Hid (Frame wr.heap.size w.heap.size wr w9) := Lib.hid ((Frame.of_below HB8.out).trans ⟨HG9.out.os, HG9.out.tape, HG9.out.output, HG9.out.size, fun j h1 h2 => HG9.out.block j (by have := HB8.out.size; show j < w8.heap.size; omega) (by simp; exact h2)⟩)
        have HNA : Hid (NodeAt wr.heap.size w9.heap.size w9 w6.heap.size x.el) := Lib.hid (by
          have e9 : ∀ j, w5.heap.size ≤ j → j < w8.heap.size → w9.heap[j]? = w8.heap[j]? := fun j h1 h2 => HG9.out.block j h2 (by have := HLA.out.tree.bn; have := HLA.out.tree.nu; have := HSZ.out; simp; omega)
          refine ⟨by have := HSZ.out; omega, Nat.lt_of_lt_of_le (show w6.heap.size < w8.heap.size by have := HSZ.out; omega) HG9.out.size, y.kv, y.av, ?_, ?_, ?_⟩
          · rw [e9 _ (by have := HSZ.out; omega) (by have := HSZ.out; omega), HC8.out, ← HYE.out]
            rfl
          · exact RowFrom.mono (RowFrom.keep HK6.out fun j h1 h2 => (e9 j h1 (by have := HSZ.out; omega)).trans (HB68.out.block j h2)) (Nat.le_of_lt HSZ.out.1) (Nat.le_trans (by have := HSZ.out; show w6.heap.size ≤ w8.heap.size; omega) HG9.out.size)
          · exact RowFrom.mono (RowFrom.keep HA6.out fun j h1 h2 => (e9 j h1 (by have := HSZ.out; omega)).trans (HB68.out.block j h2)) (Nat.le_of_lt HSZ.out.1) (Nat.le_trans (by have := HSZ.out; show w6.heap.size ≤ w8.heap.size; omega) HG9.out.size))
        have HNX := Lib.hid (HLA.out.next hlt (by rw [HXK.out]; exact HOK.out) (by rw [HXK.out]; exact HWZ.out) w6.heap.size HFR.out (by rw [HXK.out]; exact HM9.out) (by rw [HXK.out]; exact HNA.out) HN2.out)
        rw [HXK.out] at HNX
        clear cT8 cI8 cT9 cI9 hput
        go_wp2
        go_roundw
        case rel => exact ⟨k + 1, x.el.id, _, by omega, by go_num, rfl, HNX.out⟩
        case measure => simp [intOf]; omega
      · have hne : (wrongE x.el last != 0) = true := by simpa using hwz
        have HWZ := Lib.hid hwz
        have HLR : Hid (loadE (xs.map (·.el)) = wrongE x.el last) := Lib.hid (by
          have h1 : scanE (xs.map (·.el)) (-1) = wrongE x.el last := by rw [HSC.out, if_neg hwz]
          rw [HLE.out, h1, if_pos hwz])
        clear hwz
        go_wp2_with (first
          | (refine wpList_load_range rfl 47 _ rfl bx (off + k * 11) rfl x.cells _ HEL.out Tryz.underlying47 rfl size47 ?_)
          | (refine wpl_alloc rfl 47 rfl _ (zero47 _) ?_; have _t := HEL; intro w3 hs3 hc3 hb3; have HS3 := Lib.hid hs3; have HC3 := Lib.hid hc3; have HB3 := Lib.hid hb3; clear hs3 hc3 hb3 _t; clear HEL)
          | (refine wpl_store_el rfl _ _ rfl wr.heap.size x rfl rfl _ HC3.out rfl ⟨at_one HKI.out, at_one HAI.out⟩ ?_; intro w4 hs4 hc4 hf4; have HC4 := Lib.hid hc4; have HB4 := Lib.hid (HB3.out.trans (hf4.below (by have := HS3.out; omega) (Nat.le_refl _))); clear hs4 hc4 hf4; clear HC3)
          | (refine wpList_load_row rfl 47 _ rfl _ rfl _ _ _ _ HC4.out Tryz.underlying47 rfl size47 ?_)
          | (go_at_call 15; refine (wrong_any x last w4 HOK.out ((HAI.out.keep (HB4.out.mono HWR.out)).mono (Nat.le_trans HWR.out HB4.out.size))).mono ?_; rintro e w5 ⟨rfl, hb5⟩; have HB5 := Lib.hid (HB4.out.trans (hb5.mono HB4.out.size)); clear hb5))
        go_ret2
        exact LoadP.no HLR.out HWZ.out (HLA.out.below.trans (HB5.out.mono HWR.out))
    · have hke : k = xs.length := by have := HK.out; omega
      have HELS : Hid (ns.map (·.1) = xs.map (·.el)) := Lib.hid (by have := HLA.out.els; rw [hke, List.take_length] at this; exact this)
      have HNE : Hid ((xs.map (·.el)).map El.nd = ndsOf ns) := Lib.hid (nds_of_els HELS.out).symm
      have HSCZ : Hid (scanE (xs.map (·.el)) (-1) = 0) := Lib.hid (by rw [HLA.out.scan, hke, List.drop_length]; rfl)
      have HNN : Hid (∀ n ∈ ndsOf ns, 0 ≤ n.id) := Lib.hid (fun n hn => by
        obtain ⟨q, hq, rfl⟩ := List.mem_map.1 hn
        exact (HLA.out.lt q hq).2)
      have hlo := HLA.out.lo
      have hhi := HLA.out.hi
      have HWR : Hid (w.heap.size ≤ wr.heap.size) := Lib.hid HLA.out.below.size
      clear hke
      cases hq : oneTree (ndsOf ns) with
      | false =>
        have HQ := Lib.hid hq
        have HLR : Hid (loadE (xs.map (·.el)) = 5) := Lib.hid (by rw [HLE.out, HSCZ.out, HNE.out, hq]; rfl)
        clear hq
        go_wp2_with (first
          | (refine wpl_store_one rfl 3 size3 _ _ rfl (w.heap.size + 1) 2 (.int .i64 (last + 1)) rfl rfl rfl _ _ HLA.out.tree.t (by simp) ?_; intro wj hsj hvj hfj; have HTJ := Lib.hid (HLA.out.tree.next' (last + 1) hvj (Nat.le_refl _) hfj); have HSJ := Lib.hid hsj; have HBJ := Lib.hid (HLA.out.below.trans (hfj.below HWR.out (by omega))); clear hvj hfj hsj)
          | (go_at_call 17; refine (joined_any wj wr.heap.size _ _ _ ns 0 (last + 1) HTJ.out (Nat.le_of_eq HSJ.out.symm) HLA.out.nd HNN.out).mono ?_; rintro e wk ⟨rfl, hfk, htk⟩; rw [HQ.out]; have HFK := Lib.hid hfk; clear hfk htk))
        go_ret2
        exact LoadP.no HLR.out (by decide) (HBJ.out.trans (HFK.out.below (by have := HSJ.out; have := HWR.out; omega) (by omega)))
      | true =>
        have HQ := Lib.hid hq
        clear hq
        go_wp2_with (first
          | (refine wpl_store_one rfl 3 size3 _ _ rfl (w.heap.size + 1) 2 (.int .i64 (last + 1)) rfl rfl rfl _ _ HLA.out.tree.t (by simp) ?_; intro wj hsj hvj hfj; have HTJ := Lib.hid (HLA.out.tree.next' (last + 1) hvj (Nat.le_refl _) hfj); have HSJ := Lib.hid hsj; have HBJ := Lib.hid (HLA.out.below.trans (hfj.below HWR.out (by omega))); clear hvj hfj hsj)
          | (go_at_call 17; refine (joined_any wj wr.heap.size _ _ _ ns 0 (last + 1) HTJ.out (Nat.le_of_eq HSJ.out.symm) HLA.out.nd HNN.out).mono ?_; rintro e wk ⟨rfl, hfk, htk⟩; rw [HQ.out]; have HBK := Lib.hid (HBJ.out.trans (hfk.below (by have := HSJ.out; have := HWR.out; omega) (by omega))); have HTK := Lib.hid ((htk HQ.out).wide (U' := wk.heap.size) (Nat.le_trans (Nat.le_of_eq HSJ.out.symm) hfk.2.2.2.1)); have cTK := HTK.out.cellT.1; clear hfk htk)
          | (at_range; refine wpl_el_range rfl _ rfl rfl HTK.out.m ?_; intro w0 hrg0 hg0 hs0; have HRG0 := Lib.hid hrg0; have HG0 := Lib.hid hg0; clear hrg0 hg0 hs0))
        go_frame
        have HWH : Hid (Whole (ndsOf ns) (rootOf (ndsOf ns))) := Lib.hid (by
          have h1 := HQ.out
          unfold Go.Proofs.YthbmnacleneflaaGreatDoor.dt.oneTree at h1
          simp only [Bool.and_eq_true, List.all_eq_true, beq_iff_eq] at h1
          exact ⟨fits_of HLA.out.nd HNN.out h1.1.1.1 h1.1.1.2, h1.2⟩)
        have HL256 : Hid (ns.length ≤ 256) := Lib.hid HLA.out.tree.len
        have HLR : Hid (loadE (xs.map (·.el)) = @ite _ (DeepN (ndsOf ns) (rootOf (ndsOf ns))) (Classical.propDecidable _) 7 0) := Lib.hid (by rw [HLE.out, HSCZ.out, HNE.out, HQ.out]; rfl)
        clear HLA HSCZ HNE
        clear HWR cTK hlo hhi hlt
        obtain ⟨root, hroot⟩ : ∃ r, r = rootOf (ndsOf ns) := ⟨_, rfl⟩
        rw [← hroot] at HTK HWH HLR
        have HROOT := Lib.hid hroot
        clear hroot
        go_loopw [10] (fun _ wr => ∃ (dn rn : Ns) (cnt : Nat), (dn ++ rn).Perm ns ∧ (∀ p ∈ dn, ∀ d, Dist (ndsOf ns) root p.1.id d → d + 1 ≤ 32) ∧ RangeIs wr w.heap.size wk.heap.size (keysOf ns) (keysOf rn) cnt ∧ Below wk.heap.size wk wr) (fun _ wr => wr.rangeLeft w.heap.size wk.heap.size)
        case atStart => exact ⟨[], ns, _, List.Perm.refl _, fun p hp => (by cases hp), HRG0.out, ⟨HG0.out.os, HG0.out.tape, HG0.out.output, HG0.out.size, fun j hj => HG0.out.block j hj (by simp)⟩⟩
        case round =>
          obtain ⟨dn, rn, cnt, hperm, hdd, hrg, hbb⟩ := hrel
          have HPERM := Lib.hid hperm; have HDD := Lib.hid hdd; have HRG := Lib.hid hrg; have HBB := Lib.hid hbb
          clear hperm hdd hrg hbb
          go_wp2_with (at_next; refine wpl_el_next rfl _ rfl rfl HRG.out ?_ ?_)
          · intro hnil
            have hrn : rn = [] := by cases rn with | nil => rfl | cons p l => simp [keysOf] at hnil
            subst hrn
            have HPD : Hid (dn.Perm ns) := Lib.hid (by have := HPERM.out; rwa [List.append_nil] at this)
            have HZ : Hid (loadE (xs.map (·.el)) = 0) := Lib.hid (by
              rw [HLR.out]
              refine @if_neg _ (Classical.propDecidable _) ?_ _ _ _
              rintro ⟨n, hn, d, hd, hlt⟩
              obtain ⟨q, hq, rfl⟩ := List.mem_map.1 hn
              have := HDD.out q (HPD.out.mem_iff.2 hq) d hd
              omega)
            clear hnil
            go_wp2
            go_ret2
            exact ⟨_, ret_two HZ.out.symm, HBK.out.trans (HBB.out.mono HBK.out.size), fun h => absurd HZ.out h, fun _ => ⟨w.heap.size, w.heap.size + 2, w.heap.size + 1, ns, last + 1, rfl, HELS.out, (by rw [← HROOT.out]; exact (HTK.out.below HBB.out (Nat.le_refl _)).wide HBB.out.size), (by rw [← HROOT.out]; exact HWH.out)⟩⟩
          · intro x b w1 cnt1 hx hrg1 hlt hg1 hs1 hen
            obtain ⟨l1, e, l2, hl, rfl, hpm⟩ := pick hx
            subst hl
            have HLT := Lib.hid hlt
            have HPM : Hid ((dn ++ [(e, b)] ++ (l1 ++ l2)).Perm ns) := Lib.hid (perm_step HPERM.out)
            have hmem : (e, b) ∈ ns := HPERM.out.mem_iff.1 (by simp)
            have hnm : e.nd ∈ ndsOf ns := List.mem_map_of_mem (f := fun p : El × Nat => p.1.nd) hmem
            obtain ⟨d, hd⟩ := HWH.out.dist hnm
            have hdl := dist_lt HWH.out.fits hd
            rw [nds_len] at hdl
            have hd' : Dist (ndsOf ns) root e.id d := hd
            have HD := Lib.hid hd'; have HNM := Lib.hid hnm
            have HDL : Hid (d < 256) := Lib.hid (by have := HL256.out; omega)
            have hdl2 : (d : Int) < 256 := by have := HDL.out; omega
            have HRG1 : Hid (RangeIs w1 w.heap.size wk.heap.size (keysOf ns) (keysOf (l1 ++ l2)) cnt1) := Lib.hid (hrg1.perm hpm)
            have HB1 : Hid (Below wk.heap.size wk w1) := Lib.hid (HBB.out.grown hg1 HBB.out.size (fun q hq => by cases hq; exact Nat.le_refl _))
            have HT1 := Lib.hid (HTK.out.below HB1.out (Nat.le_refl _))
            clear hx hrg1 hlt hg1 hs1 hpm hmem hnm hd hd' hdl
            by_cases hdp : 32 < d + 1
            · have hq : decide ((32 : Int) < (d : Int) + 1) = true := by simp; omega
              have HZ : Hid (loadE (xs.map (·.el)) = 7) := Lib.hid (by
                rw [HLR.out]
                exact @if_pos _ (Classical.propDecidable _) ⟨e.nd, HNM.out, d, HD.out, hdp⟩ _ _ _)
              clear hdp
              go_wp2_with (go_at_call 18; refine (depth_any w1 _ _ _ _ ns root _ HT1.out HWH.out.fits e.id d HD.out (by have := HDL.out; omega)).mono ?_; rintro e' w2 ⟨rfl, rfl⟩)
              go_ret2
              exact LoadP.no HZ.out (by decide) (HBK.out.trans (HB1.out.mono HBK.out.size))
            · have hq : decide ((32 : Int) < (d : Int) + 1) = false := by simp; omega
              have HDP := Lib.hid hdp
              clear hdp
              go_wp2_with (go_at_call 18; refine (depth_any w1 _ _ _ _ ns root _ HT1.out HWH.out.fits e.id d HD.out (by have := HDL.out; omega)).mono ?_; rintro e' w2 ⟨rfl, rfl⟩)
              go_roundw
              case rel =>
                refine ⟨dn ++ [(e, b)], l1 ++ l2, cnt1, HPM.out, fun p hp d' hd' => ?_, HRG1.out, HB1.out⟩
                rcases List.mem_append.1 hp with hp | hp
                · exact HDD.out p hp d' hd'
                · simp only [List.mem_singleton] at hp
                  subst hp
                  have := Go.Proofs.YthbmnacleneflaaGreatDoor.dt.dist_inj HWH.out.fits hd' HD.out
                  have := HDP.out
                  omega
              case measure =>
                rw [HRG1.out.left, HRG.out.left]
                exact HLT.out
set_option maxRecDepth 100000 in
set_option maxHeartbeats 1000000 in
/-- dom.Load. -/
theorem load_any (w : World) (v : Value) (xs : List Ev) (hx : ElsAt w.heap.size w v xs) : Calls Tryz.prog 5 #[v] w (LoadP w (xs.map (·.el))) := by
  have hlen : (xs.map (·.el)).length = xs.length := List.length_map _
  by_cases h0 : xs.length = 0
  · have HZ : Hid (loadE (xs.map (·.el)) = 1) := Lib.hid (by unfold loadE; rw [hlen, if_pos h0])
    obtain ⟨a, c, rfl⟩ := RowAt.slice hx.row
    have t0 : ((xs.length : Int) == 0) = true := by rw [h0]; rfl
    clear hx hlen h0
    go_enter Tryz.func5, Tryz.ntmps5
    go_wp2
    go_ret2
    exact LoadP.no HZ.out (by decide) (Below.refl _ _)
  by_cases h2 : 256 < xs.length
  · have HZ : Hid (loadE (xs.map (·.el)) = 6) := Lib.hid (by unfold loadE; rw [hlen, if_neg h0, if_pos h2])
    obtain ⟨a, c, rfl⟩ := RowAt.slice hx.row
    have t0 : ((xs.length : Int) == 0) = false := by rw [beq_eq_false_iff_ne]; omega
    have t1 : decide ((256 : Int) < (xs.length : Int)) = true := by simp; omega
    clear hx hlen h0
    go_enter Tryz.func5, Tryz.ntmps5
    go_wp2
    go_ret2
    exact LoadP.no HZ.out (by decide) (Below.refl _ _)
  exact load_main w v xs hx (by omega) (by omega)
end Go.Proofs.YthbmnacleneflaaGreatDoor
/-
  Contract, for a run of one goroutine, of deps.Closure: those among some numbers and all below them. Condition: the tree lies in memory and is one tree; the numbers lie in memory.
-/
set_option linter.unusedSimpArgs false
set_option linter.unusedVariables false
namespace Go.Proofs.YthbmnacleneflaaGreatDoor
open Go Go.RowKit
open Go.Proofs.YthbmnacleneflaaGreatDoor.dt (Nd fnd pre Deep ups Fits Dist fnd_some fnd_mem fnd_neg dist_root dist_kid dist_lt deep_of pre_len pre_nodup pre_mem all_dist dist_of_pre oneTree elOk kidOk rootsN kidsN rootOf fits_of root_of_mem cloL Whole)

theorem zero60c (w : World) : (zeroValue 60).run Tryz.prog w = .ok (.agg #[]) w := by kernel_rfl
theorem size60 : (Tryz.prog.info? 60).map (·.size) = some 0 := by kernel_rfl
theorem whole_deep {ns : List Nd} {r x : Int} (h : Whole ns r) {n : Nd} (hn : fnd ns x = some n) : Deep ns ns.length x ∧ (pre ns ns.length x).length ≤ ns.length := by
  obtain ⟨d, hd⟩ := h.dist_of hn
  exact ⟨deep_of h.fits _ _ d hd (by omega), pre_len h.fits _ hd⟩
theorem pre_ids {ns : Ns} {r : Int} (h : Whole (ndsOf ns) r) (hok : ∀ p ∈ ns, p.1.ok) {x y : Int} (hy : y ∈ pre (ndsOf ns) ns.length x) : I64 y := by
  have hz : ∃ m, fnd (ndsOf ns) x = some m := by
    cases hl : ns.length with
    | zero => rw [hl] at hy; simp [Go.Proofs.YthbmnacleneflaaGreatDoor.dt.pre] at hy
    | succ f =>
      rw [hl] at hy
      unfold Go.Proofs.YthbmnacleneflaaGreatDoor.dt.pre at hy
      cases hz : fnd (ndsOf ns) x with
      | none => rw [hz] at hy; cases hy
      | some m => exact ⟨m, rfl⟩
  obtain ⟨m, hm⟩ := hz
  obtain ⟨d, hd⟩ := h.dist_of hm
  obtain ⟨_, _, _, hmem⟩ := pre_mem h.fits _ _ d hd y hy
  obtain ⟨n, hn, rfl⟩ := List.mem_map.1 hmem
  obtain ⟨p, hp, rfl⟩ := List.mem_map.1 hn
  exact (hok p hp).id
theorem Frame.widen {base base' x : Nat} {w w' : World} (h : Frame base x w w') (hb : base' ≤ base) : Frame base' x w w' := h.mono hb
theorem own_keep {w w' : World} {base : Nat} {e : TypeId} {size : Nat} {v : Value} {n : Nat} {xs : List Value} (h : w.ownsRow base e size v n xs) (hb : ∀ j, base ≤ j → j < w.heap.size → w'.heap[j]? = w.heap[j]?) : w'.ownsRow base e size v n xs := by
  obtain ⟨hl, h2⟩ := h
  exact ⟨hl, h2.imp id fun ⟨g, cap, cur, y1, y2, y3, y4⟩ => ⟨g, cap, cur, y1, y2, (hb g y2 (lt_of_block y3)).trans y3, y4⟩⟩
/-- One number of a row. -/
theorem ints_cell {w : World} {b off : Nat} {l : List Int} (h : w.rangeAt b off (intCells l)) {j : Nat} (hj : j < l.length) : w.cell? ⟨b, off + j, none⟩ = some (.int .i64 l[j]) := h j _ (intCells_get hj)

set_option maxRecDepth 100000 in
set_option maxHeartbeats 8000000 in
/-- deps.Closure. -/
theorem closure_any (w : World) (U B N T : Nat) (ns : Ns) (root next : Int) (hT : TreeM w U B N T ns root next) (hU : U ≤ w.heap.size) (hw : Whole (ndsOf ns) root) (v : Value) (ids : List Int) (hv : IntsAt w.heap.size w v ids) (hi : ∀ i ∈ ids, I64 i) (hl : ids.length ≤ 17592186044416) :
    Calls Tryz.prog 7 #[.pointer (some ⟨T, 0, none⟩), v] w fun e w' => ∃ v', e = .returned v' ∧ IntsFrom w.heap.size w'.heap.size w' v' (cloL (ndsOf ns) root ids) ∧ Below w.heap.size w w' := by
  obtain ⟨va, vc, rfl⟩ := RowAt.slice hv
  have HT := Lib.hid hT; have HU := Lib.hid hU; have HW := Lib.hid hw; have HV := Lib.hid hv; have HI := Lib.hid hi; have HL := Lib.hid hl
  have hll : (ids.length : Int) ≤ 17592186044416 := by omega
  have HB := Lib.hid (fun (wx : World) (hx : Below w.heap.size w wx) (i : Int) (hi : I64 i) => below_any wx U B N T ns root next (hT.below hx hU) (Nat.le_trans hU hx.size) i hi (fun n hn => by have := whole_deep hw hn; rw [nds_len] at this; exact this))
  have HO := Lib.hid (fun (wx : World) (hx : Below w.heap.size w wx) => order_any wx U B N T ns root next (hT.below hx hU) (Nat.le_trans hU hx.size) hw.fits (by
    obtain ⟨n, hn, _⟩ := hw.fits.root
    obtain ⟨e, b, he, _, rfl⟩ := key_of_fnd hn
    exact (hT.ok _ he).id))
  have HPI := Lib.hid (fun x y => pre_ids hw hT.ok (x := x) (y := y))
  have HPL : Hid (∀ x, (pre (ndsOf ns) ns.length x).length ≤ 256) := Lib.hid (by
    intro x
    have hlen := hT.len
    cases hn : fnd (ndsOf ns) x with
    | none => rw [pre_none hn]; exact Nat.zero_le _
    | some n =>
      have := (whole_deep hw hn).2
      rw [nds_len] at this
      omega)
  have HND : Hid ((pre (ndsOf ns) ns.length root).Nodup) := Lib.hid (pre_nodup hw.fits _ _ 0 dist_root)
  clear hT hU hw hv hi hl
  go_enter Tryz.func7, Tryz.ntmps7
  go_wp2_with (refine wpl_make_set rfl rfl ?_; intro w1 hs1 hm1 hb1; have HS1 := Lib.hid hs1; have HM1 := Lib.hid hm1; have HB1 := Lib.hid hb1; clear hs1 hm1 hb1)
  go_loopw [20] (fun i wr => ∃ k n : Nat, k ≤ ids.length ∧ n ≤ k * 256 ∧ i = .int .i64 k ∧ SetIs wr w.heap.size n (fun y => ∃ z ∈ ids.take k, y ∈ pre (ndsOf ns) ns.length z) ∧ Below w.heap.size w wr ∧ w.heap.size + 1 ≤ wr.heap.size) (fun i _ => ids.length - (intOf i).toNat)
  case atStart => exact ⟨0, 0, Nat.zero_le _, by omega, rfl, HM1.out.iff (fun x => by simp), HB1.out, by have := HS1.out; omega⟩
  case round =>
    obtain ⟨k, n, hk, hn, rfl, hset, hbel, hsz⟩ := hrel
    have HSET := Lib.hid hset; have HBEL := Lib.hid hbel; have HSZ := Lib.hid hsz; have HK := Lib.hid hk; have HN := Lib.hid hn
    clear hset hbel hsz hn
    by_cases hlt : k < ids.length
    · obtain ⟨vb, off, rfl, hvb, hvr⟩ := RowAt.place HV.out (by omega)
      have hc : wr.cell? ⟨vb, off + k, none⟩ = some (.int .i64 ids[k]) := ((bcell HBEL.out).1 vb _ hvb).trans (ints_cell hvr hlt)
      have hid : I64 ids[k] := HI.out _ (List.getElem_mem hlt)
      have htk := take_snoc hlt
      generalize ids[k] = z at hc hid htk
      have HID := Lib.hid hid; have HTK := Lib.hid htk; have HVR := Lib.hid hvr; have HVB := Lib.hid hvb
      clear hid htk hvr hvb
      go_wp2_with (go_at_call 25; refine (HB.out wr HBEL.out z HID.out).mono ?_; rintro e w2 ⟨v2, rfl, hv2, hb2⟩; obtain ⟨a2, c2, rfl⟩ := RowAt.slice (IntsFrom.at_ hv2); have HV2 := Lib.hid hv2; have HB2 := Lib.hid hb2; clear hv2 hb2)
      have HPLZ := Lib.hid (HPL.out z)
      have HPIZ := Lib.hid (fun y => HPI.out z y)
      have hpl : ((pre (ndsOf ns) ns.length z).length : Int) ≤ 256 := by have := HPLZ.out; omega
      generalize hP : pre (ndsOf ns) ns.length z = P at HV2 HPLZ HPIZ hpl ⊢
      have HP := Lib.hid hP
      clear hP
      go_loopw [28] (fun i wr2 => ∃ j m : Nat, j ≤ P.length ∧ m ≤ n + j ∧ i = .int .i64 j ∧ SetIs wr2 w.heap.size m (fun y => (∃ z ∈ ids.take k, y ∈ pre (ndsOf ns) ns.length z) ∨ y ∈ P.take j) ∧ Frame w2.heap.size w.heap.size w2 wr2) (fun i _ => P.length - (intOf i).toNat)
      case atStart => exact ⟨0, n, Nat.zero_le _, by omega, rfl, (HSET.out.kept (HB2.out.block _ (by have := HSZ.out; omega))).iff (fun x => by simp), Frame.refl _ _ _⟩
      case round =>
        obtain ⟨j, m, hj, hm, rfl, hset2, hfr2⟩ := hrel
        have HSET2 := Lib.hid hset2; have HFR2 := Lib.hid hfr2; have HJ := Lib.hid hj; have HM := Lib.hid hm
        clear hset2 hfr2 hm
        by_cases hlj : j < P.length
        · obtain ⟨pb, poff, rfl, hpb, hpr⟩ := RowAt.place (IntsFrom.at_ HV2.out) (by omega)
          have hpb2 := (RowFrom.blk HV2.out (by omega) (b := pb) rfl).1
          have hc2 : wr.cell? ⟨pb, poff + j, none⟩ = some (.int .i64 P[j]) := by
            rw [World.cell?_of_block (HFR2.out.2.2.2.2 pb hpb (by have := HSZ.out; omega))]
            exact ints_cell hpr hlj
          have hid2 : I64 P[j] := HPIZ.out _ (List.getElem_mem hlj)
          have htk2 := take_snoc hlj
          generalize P[j] = y at hc2 hid2 htk2
          have HID2 := Lib.hid hid2; have HTK2 := Lib.hid htk2
          clear hid2 htk2 hpr hpb hpb2
          go_wp2_with (at_mapUpdate; refine wpl_set_put rfl _ _ _ rfl rfl HSET2.out y rfl HID2.out rfl (by have := HM.out; have := HN.out; have := HL.out; have := HPLZ.out; have := HK.out; omega) ?_; intro w3 hset3 hg3; have HSET3 := Lib.hid hset3; have HG3 := Lib.hid hg3; clear hset3 hg3)
          go_roundw
          case rel => exact ⟨j + 1, m + 1, by omega, by have := HM.out; omega, by go_num, HSET3.out.iff (fun x => by rw [HTK2.out]; simp [or_assoc]), HFR2.out.trans ⟨HG3.out.os, HG3.out.tape, HG3.out.output, HG3.out.size, fun q h1 h2 => HG3.out.block q (Nat.lt_of_lt_of_le h1 HFR2.out.2.2.2.1) (by simp; exact h2)⟩⟩
          case measure => simp [intOf]; omega
        · have hje : j = P.length := by have := HJ.out; omega
          go_wp2
          go_roundw
          case rel =>
            refine ⟨k + 1, m, by omega, by have := HM.out; have := HN.out; have := HPLZ.out; omega, by go_num, HSET2.out.iff (fun x => ?_), HBEL.out.trans ((HB2.out.mono (Nat.le_trans (Nat.le_succ _) HSZ.out)).trans (HFR2.out.below (by have := HB2.out.size; have := HSZ.out; omega) (Nat.le_refl _))), by have := HFR2.out.2.2.2.1; have := HB2.out.size; have := HSZ.out; omega⟩
            rw [HTK.out, hje, List.take_length, ← HP.out]
            simp only [List.mem_append, List.mem_singleton, or_and_right, exists_or, exists_eq_left]
          case measure => simp [intOf]; omega
    · have hke : k = ids.length := by have := HK.out; omega
      have HSA : Hid (SetIs wr w.heap.size n (fun y => ∃ z ∈ ids, y ∈ pre (ndsOf ns) ns.length z)) := Lib.hid (by have := HSET.out; rw [hke, List.take_length] at this; exact this)
      clear hke
      go_wp2_with (go_at_call 26; refine (HO.out wr HBEL.out).mono ?_; rintro e w2 ⟨v2, rfl, hv2, hb2⟩; obtain ⟨a2, c2, rfl⟩ := RowAt.slice (IntsFrom.at_ hv2); have HV2 := Lib.hid hv2; have HB2 := Lib.hid hb2; clear hv2 hb2)
      have HQL := Lib.hid (HPL.out root)
      have HQI := Lib.hid (fun y => HPI.out root y)
      have hql : ((pre (ndsOf ns) ns.length root).length : Int) ≤ 256 := by have := HQL.out; omega
      have HCL : Hid (cloL (ndsOf ns) root ids = (pre (ndsOf ns) ns.length root).filter fun x => ids.any fun i => (pre (ndsOf ns) ns.length i).contains x) := Lib.hid (by unfold Go.Proofs.YthbmnacleneflaaGreatDoor.dt.cloL; rw [nds_len])
      generalize pre (ndsOf ns) ns.length root = Q at HV2 HQL HQI hql HND HCL ⊢
      have HMW : Hid (w.heap.size < w2.heap.size ∧ w.heap.size < wr.heap.size) := Lib.hid (by have := HB2.out.size; have := HSZ.out; omega)
      have HBW : Hid (Below w.heap.size w w2) := Lib.hid (HBEL.out.trans (HB2.out.mono (Nat.le_of_lt HMW.out.2)))
      have HS2 : Hid (SetIs w2 w.heap.size n (fun y => ∃ z ∈ ids, y ∈ pre (ndsOf ns) ns.length z)) := Lib.hid (HSA.out.kept (HB2.out.block _ HMW.out.2))
      clear HSET HBEL HSZ HSA HB2 hlt
      go_loopw [40, 10] (fun i o wr => ∃ (j : Nat) (L : List Int), j ≤ Q.length ∧ i = .int .i64 j ∧ SetIs wr w.heap.size n (fun y => (∃ z ∈ ids, y ∈ pre (ndsOf ns) ns.length z) ∧ y ∉ Q.take j) ∧ wr.ownsRow w2.heap.size 3 1 o L.length (intCells L) ∧ L = ((Q.take j).filter fun x => ids.any fun i => (pre (ndsOf ns) ns.length i).contains x) ∧ Frame w2.heap.size w.heap.size w2 wr) (fun i _ _ => Q.length - (intOf i).toNat)
      case atStart => exact ⟨0, [], Nat.zero_le _, rfl, HS2.out.iff (fun x => by simp), World.ownsRow_nil _ _ _ _, rfl, Frame.refl _ _ _⟩
      case round =>
        obtain ⟨j, L, hj, rfl, hset, hown, hL, hfr⟩ := hrel
        have HLL := Lib.hid hL
        clear hL
        have HSET := Lib.hid hset; have HOWN := Lib.hid hown; have HFR := Lib.hid hfr; have HJ := Lib.hid hj
        clear hset hown hfr
        obtain ⟨oa, oc, rfl⟩ := own_shape HOWN.out
        by_cases hlj : j < Q.length
        · obtain ⟨qb, qoff, rfl, hqb, hqr⟩ := RowAt.place (IntsFrom.at_ HV2.out) (by omega)
          have hqb2 := (RowFrom.blk HV2.out (by omega) (b := qb) rfl).1
          have hc2 : wr.cell? ⟨qb, qoff + j, none⟩ = some (.int .i64 Q[j]) := by
            rw [World.cell?_of_block (HFR.out.2.2.2.2 qb hqb (by have := HMW.out; omega))]
            exact ints_cell hqr hlj
          have hid2 : I64 Q[j] := HQI.out _ (List.getElem_mem hlj)
          have htk2 := take_snoc hlj
          have hnm : Q[j] ∉ Q.take j := fun hm => dup_take hlj hm HND.out
          generalize Q[j] = y at hc2 hid2 htk2 hnm
          have HID2 := Lib.hid hid2; have HTK2 := Lib.hid htk2; have HNM := Lib.hid hnm
          have HSZR : Hid (w2.heap.size ≤ wr.heap.size) := Lib.hid HFR.out.2.2.2.1
          have HON : Hid (L.length < 1000000) := Lib.hid (by
            rw [HLL.out]
            have := List.length_filter_le (fun x => ids.any fun i => (pre (ndsOf ns) ns.length i).contains x) (Q.take j)
            have h2 : (Q.take j).length ≤ Q.length := by simp; omega
            have := HQL.out
            omega)
          clear hid2 htk2 hqr hqb hqb2 hnm
          by_cases hS : ∃ z ∈ ids, y ∈ pre (ndsOf ns) ns.length z
          · have HSS := Lib.hid hS
            have HFL : Hid (L ++ [y] = (Q.take (j + 1)).filter (fun x => ids.any fun i => (pre (ndsOf ns) ns.length i).contains x)) := Lib.hid (by
              rw [HTK2.out, List.filter_append, List.filter_cons_of_pos (by simpa using hS), List.filter_nil, HLL.out])
            clear hS
            go_wp2_with (first
              | (at_lookup; refine wpl_set_look rfl _ _ rfl rfl HSET.out y rfl HID2.out ?_; intro bb hbb; obtain rfl : bb = true := hbb.2 ⟨HSS.out, HNM.out⟩; clear hbb)
              | (refine wpl_alloc rfl 60 rfl _ (zero60c _) ?_; intro w3 hs3 hc3 hb3; have HB3 := Lib.hid hb3; clear hs3 hc3 hb3)
              | (refine wpl_slice1_int rfl _ rfl y rfl ?_; intro w4 hs4 hc4 hb4; have HC4 := Lib.hid hc4; have HB4 := Lib.hid (HB3.out.trans (hb4.mono HB3.out.size)); have HOWN4 := Lib.hid (own_keep HOWN.out fun q _ h2 => HB4.out.block q h2); have HSZ4 := Lib.hid (Nat.le_trans HSZR.out HB4.out.size); clear hs4 hc4 hb4)
              | (at_builtin; refine wpl_append_int rfl _ _ rfl w2.heap.size _ _ rfl HOWN4.out w3.heap.size y (0, 0) rfl HC4.out HON.out HSZ4.out ?_; intro v5 w5 hown5 hg5 hl5; have HOWN5 := Lib.hid hown5; have HG5 := Lib.hid hg5; have HSET5 := Lib.hid ((HSET.out.kept (HB4.out.block _ HSET.out.lt)).kept (hg5.block _ (by have := HB4.out.size; have := HSET.out.lt; omega) (fun q => by have := (HOWN4.out.lt _ q.symm).1; have := HMW.out; omega))); clear hown5 hg5 hl5)
              | (at_delete; refine wpl_set_del rfl _ _ rfl rfl HSET5.out y rfl HID2.out ?_; intro w6 hset6 hg6; have HSET6 := Lib.hid hset6; have HG6 := Lib.hid hg6; clear hset6 hg6))
            go_roundw
            case rel =>
              refine ⟨j + 1, _, by omega, by go_num, HSET6.out.iff (fun x => ?_), own_keep HOWN5.out (fun q h1 h2 => HG6.out.block q h2 (by have := HMW.out; simp; omega)), HFL.out, ?_⟩
              · rw [HTK2.out]
                simp only [List.mem_append, List.mem_singleton, not_or, and_assoc]
              · exact (HFR.out.trans (Frame.of_below (HB4.out.mono HSZR.out))).trans ((Frame.of_grown HG5.out (fun q hq => (HOWN4.out.lt q hq).1) HSZ4.out).trans ⟨HG6.out.os, HG6.out.tape, HG6.out.output, HG6.out.size, fun q h1 h2 => HG6.out.block q (Nat.lt_of_lt_of_le h1 (Nat.le_trans HSZ4.out HG5.out.size)) (by simp; exact h2)⟩)
            case measure => simp [intOf]; omega
          · have HSS := Lib.hid hS
            have HFL : Hid (L = (Q.take (j + 1)).filter (fun x => ids.any fun i => (pre (ndsOf ns) ns.length i).contains x)) := Lib.hid (by
              rw [HTK2.out, List.filter_append, List.filter_cons_of_neg (by simpa using hS), List.filter_nil, List.append_nil, HLL.out])
            clear hS
            go_wp2_with (first
              | (at_lookup; refine wpl_set_look rfl _ _ rfl rfl HSET.out y rfl HID2.out ?_; intro bb hbb; obtain rfl : bb = false := Bool.eq_false_iff.2 (fun q => HSS.out (hbb.1 q).1); clear hbb)
              | (refine wpl_alloc rfl 60 rfl _ (zero60c _) ?_; intro w3 hs3 hc3 hb3; have HB3 := Lib.hid hb3; clear hs3 hc3 hb3))
            go_roundw
            case rel =>
              refine ⟨j + 1, L, by omega, by go_num, (HSET.out.kept (HB3.out.block _ HSET.out.lt)).iff (fun x => ?_), own_keep HOWN.out fun q _ h2 => HB3.out.block q h2, HFL.out, HFR.out.trans (Frame.of_below (HB3.out.mono HSZR.out))⟩
              rw [HTK2.out]
              simp only [List.mem_append, List.mem_singleton, not_or]
              exact ⟨fun ⟨h1, h2⟩ => ⟨h1, h2, fun e => HSS.out (e ▸ h1)⟩, fun ⟨h1, h2, _⟩ => ⟨h1, h2⟩⟩
            case measure => simp [intOf]; omega
        · have hje : j = Q.length := by have := HJ.out; omega
          go_wp2
          go_ret
          refine ⟨_, rfl, ?_, HBW.out.trans (HFR.out.below (Nat.le_of_lt HMW.out.1) (Nat.le_refl _))⟩
          have h1 := RowFrom.of_own HOWN.out (by decide)
          rw [HCL.out]
          have h2 := HLL.out
          rw [hje, List.take_length] at h2
          rw [← h2]
          exact RowFrom.mono h1 (Nat.le_of_lt HMW.out.1) (Nat.le_refl _)
end Go.Proofs.YthbmnacleneflaaGreatDoor
/-
  Contracts, for a run of one goroutine, of jalousieref10.Load, jalousieref8's Tree.At and Tree.Below: a row that shows what a tree shows, and what is below an element there. Condition: the elements lie in memory; what is below the element ends.
-/
set_option linter.unusedSimpArgs false
set_option linter.unusedVariables false
namespace Go.Proofs.YthbmnacleneflaaGreatDoor
open Go Go.RowKit
open Go.Proofs.YthbmnacleneflaaGreatDoor.dt (Nd fnd pre Deep ups Fits Dist fnd_some fnd_mem fnd_neg dist_root dist_kid dist_lt deep_of pre_len pre_nodup pre_mem all_dist dist_of_pre oneTree elOk kidOk rootsN kidsN rootOf fits_of root_of_mem cloL Whole region_T T_take T_next T_list T_done wpAnyT Qk)

/-- jalousieref8.Clone at an element. -/
theorem clone_el (x : Ev) (w : World) (hx : x.el.ok) (hk : IntsAt w.heap.size w x.kv x.el.kids) (ha : AttrsAt w.heap.size w x.av x.el.attrs) :
    Calls Tryz.prog 22 #[.agg x.cells] w fun e w' => ∃ y : Ev, y.el = x.el ∧ e = .returned (.agg y.cells) ∧ Below w.heap.size w w' ∧ IntsFrom w.heap.size w'.heap.size w' y.kv x.el.kids ∧ AttrsFrom w.heap.size w'.heap.size w' y.av x.el.attrs := by
  obtain ⟨⟨id, par, tag, kids, attrs, bt, bn, n1, d1, n2, d2⟩, kv, av⟩ := x
  obtain ⟨ka, kc, hkv⟩ := RowAt.slice (v := kv) (n := kids.length) hk
  obtain ⟨aa, ac, hav⟩ := RowAt.slice (v := av) (n := attrs.length) ha
  subst hkv
  subst hav
  refine (clone_any id par tag ka kids.length kc aa attrs.length ac bt bn n1 d1 n2 d2 kids attrs w hk ha hx.kn hx.an).mono ?_
  rintro e w' ⟨kv', av', rfl, hb, h1, h2⟩
  exact ⟨⟨⟨id, par, tag, kids, attrs, bt, bn, n1, d1, n2, d2⟩, kv', av'⟩, rfl, rfl, hb, h1, h2⟩
theorem exec_load_row {P : Program} {o : Oper} {a : Act} {s : World} (ty : TypeId) (x : Operand) (ho : o.op = .load ty x) (g : Nat) (hx : a.eval x = .pointer (some ⟨g, 0, none⟩)) (t : TypeId) (cs : Array Value) (fr : Nat × Nat) (d : TypeDesc) (hg : s.heap[g]? = some (.cells cs t fr))
    (hu : P.underlying ty = some d) (hd : (match d with | .struct _ | .array _ _ => true | _ => false) = true) (hi : (P.info? ty).map (·.size) = some cs.size) : (execOp a.eval o).run P s = .ok (.value (.agg cs)) s := by
  unfold execOp
  simp only [ho, hx, Instr.loadAt, Instr.sureAddr, Sem.run_bind, Sem.run_pure, Result.andThen_ok, run_loadVar_row s g t ty cs fr d hg hu hd hi]
/-- A row's block and its elements. -/
structure RowT (w : World) (U T : Nat) (xs : List Ev) (next : Int) : Prop where
  t : ∃ v, w.heap[T]? = some (.cells #[v, .int .i64 next] 40 (0, 0)) ∧ RowAt U w v xs.length (evCells xs)
  kids : ∀ x ∈ xs, IntsAt U w x.kv x.el.kids
  one : ∀ x ∈ xs, x.av.oneCell' = true
  ok : ∀ x ∈ xs, x.el.ok
  lt : T < U
  len : xs.length ≤ 256
theorem RowT.keep {w w' : World} {U T : Nat} {xs : List Ev} {next : Int} (h : RowT w U T xs next) (hb : Below U w w') : RowT w' U T xs next := by
  obtain ⟨v, h1, h2⟩ := h.t
  exact ⟨⟨v, (hb.block T h.lt).trans h1, h2.keep hb⟩, fun x hx => (h.kids x hx).keep hb, h.one, h.ok, h.lt, h.len⟩
theorem RowT.wide {w : World} {U U' T : Nat} {xs : List Ev} {next : Int} (h : RowT w U T xs next) (hU : U ≤ U') : RowT w U' T xs next := by
  obtain ⟨v, h1, h2⟩ := h.t
  exact ⟨⟨v, h1, h2.mono hU⟩, fun x hx => (h.kids x hx).mono hU, h.one, h.ok, by have := h.lt; omega, h.len⟩
/-- The row under way. -/
structure RowL (w wr : World) (T : Nat) (ys : List Ev) (els : List El) (next : Int) : Prop where
  t : ∃ v, wr.heap[T]? = some (.cells #[v, .int .i64 next] 40 (0, 0)) ∧ RowG (T + 1) wr v ys
  els : ys.map (·.el) = els
  lo : w.heap.size ≤ T
  below : Below w.heap.size w wr

set_option maxRecDepth 100000 in
set_option maxHeartbeats 8000000 in
/-- jalousieref10.Load. -/
theorem row_load (w : World) (v : Value) (xs : List Ev) (next : Int) (hx : ElsAt w.heap.size w v xs) (hl : xs.length ≤ 256) :
    Calls Tryz.prog 11 #[v, .int .i64 next] w fun e w' => ∃ T ys, e = .returned (.pointer (some ⟨T, 0, none⟩)) ∧ RowT w' w'.heap.size T ys next ∧ ys.map (·.el) = xs.map (·.el) ∧ Below w.heap.size w w' := by
  obtain ⟨va, vc, rfl⟩ := RowAt.slice hx.row
  have HX := Lib.hid hx; have HL := Lib.hid hl
  have hll : (xs.length : Int) ≤ 256 := by omega
  clear hx hl
  go_enter Tryz.func11, Tryz.ntmps11
  go_wp2_with (refine wpl_box rfl 40 _ rfl (.agg #[.slice none 0 0, .int .i64 next]) rfl ?_; intro w1 hs1 hc1 hb1; have HS1 := Lib.hid hs1; have HC1 := Lib.hid hc1; have HB1 := Lib.hid hb1; clear hs1 hc1 hb1)
  go_loopw [13] (fun i wr => ∃ (k : Nat) (ys : List Ev), k ≤ xs.length ∧ i = .int .i64 k ∧ RowL w wr w.heap.size ys ((xs.take k).map (·.el)) next) (fun i _ => xs.length - (intOf i).toNat)
  case atStart => exact ⟨0, [], Nat.zero_le _, rfl, ⟨_, HC1.out, RowG.nil _ _⟩, rfl, Nat.le_refl _, HB1.out⟩
  case round =>
    obtain ⟨k, ys, hk, rfl, hr⟩ := hrel
    obtain ⟨rv, hrt, hrg⟩ := hr.t
    have HR := Lib.hid hr; have HRT := Lib.hid hrt; have HRG := Lib.hid hrg; have HK := Lib.hid hk
    clear hr hrt hrg
    by_cases hlt : k < xs.length
    · obtain ⟨bx, off, rfl, hbx, hrx⟩ := RowAt.place HX.out.row (by omega)
      obtain ⟨x, hx⟩ : ∃ x, xs[k] = x := ⟨_, rfl⟩
      have hxm : x ∈ xs := by rw [← hx]; exact List.getElem_mem hlt
      have HOK : Hid x.el.ok := Lib.hid (HX.out.ok x hxm)
      have HEL : Hid (∀ j u, x.cells.toList[j]? = some u → wr.cell? ⟨bx, off + k * 11 + j, none⟩ = some u) := Lib.hid (by
        intro j u hu
        rw [(bcell HR.out.below).1 bx _ hbx]
        have := elem_cells hrx hlt
        rw [hx] at this
        exact this j u hu)
      have HKI : Hid (IntsAt w.heap.size wr x.kv x.el.kids) := Lib.hid ((HX.out.kids x hxm).keep HR.out.below)
      have HAI : Hid (AttrsAt w.heap.size wr x.av x.el.attrs) := Lib.hid ((HX.out.attrs x hxm).keep HR.out.below)
      have HWR : Hid (w.heap.size < wr.heap.size) := Lib.hid (lt_of_block HRT.out)
      have HTK : Hid ((xs.take (k + 1)).map (·.el) = (xs.take k).map (·.el) ++ [x.el]) := Lib.hid (by rw [take_snoc hlt, List.map_append, hx]; rfl)
      have HYL : Hid (ys.length < 1000000) := Lib.hid (by have := congrArg List.length HR.out.els; simp only [List.length_map, List.length_take] at this; have := HL.out; omega)
      clear hx hxm hrx hbx
      go_wp2_with (first
        | (refine wpList_load_range rfl 47 _ rfl bx (off + k * 11) rfl x.cells _ HEL.out Tryz.underlying47 rfl size47 ?_)
        | (refine wpl_alloc rfl 47 rfl _ (zero47 _) ?_; intro w3 hs3 hc3 hb3; have HS3 := Lib.hid hs3; have HC3 := Lib.hid hc3; have HB3 := Lib.hid hb3; clear hs3 hc3 hb3)
        | (refine wpl_store_el rfl _ _ rfl wr.heap.size x rfl rfl _ HC3.out rfl ⟨at_one HKI.out, at_one HAI.out⟩ ?_; intro w4 hs4 hc4 hf4; have HC4 := Lib.hid hc4; have HB4 := Lib.hid (HB3.out.trans (hf4.below (by have := HS3.out; omega) (Nat.le_refl _))); clear hs4 hc4 hf4))
      have HT4 : Hid (w4.heap[w.heap.size]? = some (.cells #[rv, .int .i64 next] 40 (0, 0))) := Lib.hid ((HB4.out.block _ HWR.out).trans HRT.out)
      have HKW : Hid (w.heap.size ≤ wr.heap.size) := Lib.hid (Nat.le_of_lt HWR.out)
      have HSS : Hid (w4.drew.heap[w.heap.size]? = some (.cells #[rv, .int .i64 next] 40 (0, 0)) ∧ w4.drew.heap[wr.heap.size]? = some (.cells x.cells 47 (0, 0))) := Lib.hid ⟨HT4.out, HC4.out⟩
      refine region_T 11 (fun s => s.heap[w.heap.size]? = some (.cells #[rv, .int .i64 next] 40 (0, 0)) ∧ s.heap[wr.heap.size]? = some (.cells x.cells 47 (0, 0))) (by kernel_rfl) ?_
      refine T_take (i := 0) (v := .pointer (some ⟨w.heap.size, 0, none⟩)) rfl (by kernel_rfl) rfl (by kernel_rfl) (by kernel_rfl) (by kernel_rfl) (fun _ _ _ h => h) (Or.inl ⟨by kernel_rfl, fun s hs => by go_simp⟩) HSS.out ?_
      refine T_take (i := 1) (v := .pointer (some ⟨w.heap.size, 0, none⟩)) rfl (by kernel_rfl) rfl (by kernel_rfl) (by kernel_rfl) (by kernel_rfl) (fun _ _ _ h => h) (Or.inl ⟨by kernel_rfl, fun s hs => by go_simp⟩) HSS.out ?_
      refine T_take (i := 2) (v := .pointer (some ⟨w.heap.size, 0, none⟩)) rfl (by kernel_rfl) rfl (by kernel_rfl) (by kernel_rfl) (by kernel_rfl) (fun _ _ _ h => h) (Or.inl ⟨by kernel_rfl, fun s hs => by go_simp⟩) HSS.out ?_
      refine T_take (i := 3) (v := .pointer (some ⟨w.heap.size, 0, none⟩)) rfl (by kernel_rfl) rfl (by kernel_rfl) (by kernel_rfl) (by kernel_rfl) (fun _ _ _ h => h) (Or.inl ⟨by kernel_rfl, fun s hs => by go_simp⟩) HSS.out ?_
      refine T_take (i := 4) (v := rv) rfl (by kernel_rfl) rfl (by kernel_rfl) (by kernel_rfl) (by kernel_rfl) (fun _ _ _ h => h) (Or.inl ⟨by kernel_rfl, fun s hs => by have c := blk_cell hs.1 0 _ rfl; go_simp⟩) HSS.out ?_
      refine T_take (i := 5) (v := .agg x.cells) rfl (by kernel_rfl) rfl (by kernel_rfl) (by kernel_rfl) (by kernel_rfl) (fun _ _ _ h => h) (Or.inl ⟨by kernel_rfl, fun s hs => by exact exec_load_row 47 _ rfl wr.heap.size rfl 47 x.cells (0, 0) _ hs.2 Tryz.underlying47 rfl size47⟩) HSS.out ?_
      have HB4' : Hid (Below wr.heap.size wr w4.drew) := Lib.hid ⟨HB4.out.os, HB4.out.tape, HB4.out.output, HB4.out.size, HB4.out.block⟩
      clear HT4 HC4 HB4
      generalize w4.drew = w5 at HB4' HSS ⊢
      refine T_list (i := 6) (by kernel_rfl) rfl (fun K hK => ?_)
      go_wp2_with (go_at_call 22; refine (clone_el x w5 HOK.out ((HKI.out.keep (HB4'.out.mono HKW.out)).mono (Nat.le_trans HKW.out HB4'.out.size)) ((HAI.out.keep (HB4'.out.mono HKW.out)).mono (Nat.le_trans HKW.out HB4'.out.size))).mono ?_; rintro e w6 ⟨y, hye, rfl, hb6, hk6, ha6⟩; have HYE := Lib.hid hye; have HB6 := Lib.hid hb6; have HK6 := Lib.hid hk6; have HA6 := Lib.hid ha6; have HSS6 := Lib.hid (And.intro ((hb6.block _ (lt_of_block HSS.out.1)).trans HSS.out.1) ((hb6.block _ (lt_of_block HSS.out.2)).trans HSS.out.2)); clear hye hb6 hk6 ha6)
      refine hK.out _ _ (fun _ => HSS6.out) (fun _ => ?_)
      refine T_list (i := 7) (by kernel_rfl) rfl (fun K hK => ?_)
      refine wpl_slice1_el rfl _ rfl y rfl ?_
      intro w7 hs7 hc7 hb7
      have HS7 := Lib.hid hs7; have HC7 := Lib.hid hc7; have HB7 := Lib.hid hb7; have HR7 := Lib.hid (((HRG.out.below HB4'.out (Nat.le_refl _)).below HB6.out (Nat.le_refl _)).below hb7 (Nat.le_refl _))
      have HSS7 := Lib.hid (And.intro ((hb7.block _ (lt_of_block HSS6.out.1)).trans HSS6.out.1) ((hb7.block _ (lt_of_block HSS6.out.2)).trans HSS6.out.2))
      clear hs7 hc7 hb7
      refine hK.out _ _ (fun _ => HSS7.out) (fun _ => ?_)
      refine T_list (i := 8) (by kernel_rfl) rfl (fun K hK => ?_)
      refine wpl_append_el rfl _ _ rfl (w.heap.size + 1) ys rv rfl HR7.out.own w6.heap.size y (0, 0) rfl HC7.out ⟨from_one HK6.out, from_one HA6.out⟩ HYL.out (by have := HB7.out.size; have := HB6.out.size; have := HB4'.out.size; have := HWR.out; omega) ?_
      intro v8 w8 hown8 hg8 hl8
      have HOWN8 := Lib.hid hown8; have HG8 := Lib.hid hg8; have HL8 := Lib.hid hl8
      have HSS8 := Lib.hid (And.intro ((hg8.block w.heap.size (lt_of_block HSS7.out.1) (fun q => by have := (HR7.out.own.lt _ q.symm).1; omega)).trans HSS7.out.1) ((hg8.block wr.heap.size (lt_of_block HSS7.out.2) (fun q => by have := (HRG.out.own.lt _ q.symm).2; omega)).trans HSS7.out.2))
      have H18 : Hid (v8.oneCell' = true) := Lib.hid (by rcases hown8.2 with ⟨q, _⟩ | ⟨_, _, _, q, _⟩ <;> rw [q] <;> rfl)
      clear hown8 hg8 hl8
      refine hK.out _ _ (fun _ => HSS8.out) (fun _ => ?_)
      refine T_list (i := 9) (by kernel_rfl) rfl (fun K hK => ?_)
      go_wp2
      refine hK.out _ _ (fun _ => HSS8.out) (fun _ => ?_)
      refine T_list (i := 10) (by kernel_rfl) rfl (fun K hK => ?_)
      go_wp2
      refine hK.out _ _ (fun _ => HSS8.out) (fun _ => ?_)
      refine T_list (i := 11) (by kernel_rfl) rfl (fun K hK => ?_)
      refine wpl_store_one rfl 22 size22 _ _ rfl w.heap.size 0 v8 rfl rfl H18.out _ _ HSS8.out.1 (by simp) ?_
      intro w9 hs9 hc9 hf9
      have HS9 := Lib.hid hs9; have HC9 := Lib.hid hc9; have HF9 := Lib.hid hf9
      clear hs9 hc9 hf9
      refine hK.out _ _ (fun q => absurd rfl q) (fun _ => ?_)
      refine T_done (by kernel_rfl) ?_ _
      have HEI : Hid (ElIn (w.heap.size + 1) w7.heap.size w7 rv.ownBlock y) := Lib.hid (by
        have k7 := RowFrom.keep_below HK6.out HB7.out (Nat.le_refl _)
        have a7 := RowFrom.keep_below HA6.out HB7.out (Nat.le_refl _)
        rw [← HYE.out] at k7 a7
        exact ElIn.fresh (C := w5.heap.size) (RowFrom.mono k7 (Nat.le_refl _) HB7.out.size) (RowFrom.mono a7 (Nat.le_refl _) HB7.out.size) (by have := HB4'.out.size; have := HWR.out; omega) (fun q hq => by have := (HRG.out.own.lt _ hq).2; have := HB4'.out.size; omega))
      have HRG8 : Hid (RowG (w.heap.size + 1) w8 v8 (ys ++ [y])) := Lib.hid (HR7.out.more HEI.out HOWN8.out HG8.out HL8.out)
      have HRG9 : Hid (RowG (w.heap.size + 1) w9 v8 (ys ++ [y])) := Lib.hid (HRG8.out.kept HF9.out.2.2.2.1 HF9.out.1 HF9.out.2.1 HF9.out.2.2.1 (fun q h1 h2 => HF9.out.2.2.2.2 q h2 (by omega)))
      have HBB : Hid (Below w.heap.size w w9) := Lib.hid (HR.out.below.trans ((HB4'.out.mono HKW.out).trans ((HB6.out.mono (Nat.le_trans HKW.out HB4'.out.size)).trans ((HB7.out.mono (Nat.le_trans HKW.out (Nat.le_trans HB4'.out.size HB6.out.size))).trans ((Below.refl w.heap.size w7).grown HG8.out (Nat.le_trans HKW.out (Nat.le_trans HB4'.out.size (Nat.le_trans HB6.out.size HB7.out.size))) (fun q hq => by have := (HR7.out.own.lt _ hq).1; omega) |>.trans (HF9.out.below (by have := HWR.out; have := HB4'.out.size; have := HB6.out.size; have := HB7.out.size; have := HG8.out.size; omega) (Nat.le_refl _)))))))
      clear HSS HSS6 HSS7 HSS8
      go_wp2
      go_roundw
      case rel => exact ⟨k + 1, ys ++ [y], by omega, by go_num, ⟨v8, HC9.out, HRG9.out⟩, by rw [List.map_append, HR.out.els, HTK.out, ← HYE.out]; rfl, Nat.le_refl _, HBB.out⟩
      case measure => simp [intOf]; omega
    · have hke : k = xs.length := by have := HK.out; omega
      go_wp2
      go_ret
      refine ⟨_, ys, rfl, ⟨⟨rv, HRT.out, (RowFrom.of_own HRG.out.own (by decide)).at_⟩, fun y hy => IntsFrom.at_ (HRG.out.els y hy).kids, fun y hy => (HRG.out.els y hy).one.2, fun y hy => ?_, lt_of_block HRT.out, ?_⟩, ?_, HR.out.below⟩
      · have h1 : y.el ∈ ys.map (·.el) := List.mem_map_of_mem (f := fun y : Ev => y.el) hy
        rw [HR.out.els] at h1
        obtain ⟨x, hx, e⟩ := List.mem_map.1 h1
        rw [← e]
        exact HX.out.ok x (List.mem_of_mem_take hx)
      · have := congrArg List.length HR.out.els
        simp only [List.length_map, List.length_take] at this
        have := HL.out
        omega
      · rw [HR.out.els, hke, List.take_length]
end Go.Proofs.YthbmnacleneflaaGreatDoor
/-
  Contracts, for a run of one goroutine, of jalousieref8's Tree.At and Tree.Below: where an element stands in the row; an element and all below it. Condition: the row lies in memory; what is below the element ends.
-/
set_option linter.unusedSimpArgs false
set_option linter.unusedVariables false
namespace Go.Proofs.YthbmnacleneflaaGreatDoor
open Go Go.RowKit
open Go.Proofs.YthbmnacleneflaaGreatDoor.dt (Nd fnd pre Deep ups Fits Dist fnd_some fnd_mem fnd_neg dist_root dist_kid dist_lt deep_of pre_len pre_nodup pre_mem all_dist dist_of_pre oneTree elOk kidOk rootsN kidsN rootOf fits_of root_of_mem cloL Whole)

def ndsV (xs : List Ev) : List Nd := xs.map fun x => x.el.nd
theorem ndsV_len (xs : List Ev) : (ndsV xs).length = xs.length := by simp [ndsV]
set_option maxRecDepth 100000 in
set_option maxHeartbeats 4000000 in
/-- jalousieref8's Tree.At. -/
theorem at_any (w : World) (U T : Nat) (xs : List Ev) (next : Int) (hR : RowT w U T xs next) (hU : U ≤ w.heap.size) (x : Int) :
    Calls Tryz.prog 36 #[.pointer (some ⟨T, 0, none⟩), .int .i64 x] w fun e w' => ∃ r : Int, e = .returned (.int .i64 r) ∧ ((∃ j, ∃ h : j < xs.length, r = j ∧ xs[j].el.id = x) ∨ (r = -1 ∧ ∀ y ∈ xs, y.el.id ≠ x)) ∧ Below w.heap.size w w' := by
  obtain ⟨v, hv, hrow⟩ := hR.t
  obtain ⟨va, vc, rfl⟩ := RowAt.slice hrow
  have HR := Lib.hid hR; have HU := Lib.hid hU; have HROW := Lib.hid hrow
  have cT : w.cell? ⟨T, 0, none⟩ = some (.slice va xs.length vc) := blk_cell hv 0 _ rfl
  have hll : (xs.length : Int) ≤ 256 := by have := hR.len; omega
  clear hR hU hv hrow
  go_enter Tryz.func36, Tryz.ntmps36
  go_wp2
  go_loopw [12] (fun i wr => ∃ k : Nat, k ≤ xs.length ∧ i = .int .i64 k ∧ (∀ j, ∀ h : j < xs.length, j < k → xs[j].el.id ≠ x) ∧ Below w.heap.size w wr) (fun i _ => xs.length - (intOf i).toNat)
  case atStart => exact ⟨0, Nat.zero_le _, rfl, fun j h h2 => by omega, Below.refl _ _⟩
  case round =>
    obtain ⟨k, hk, rfl, hno, hb⟩ := hrel
    have HNO := Lib.hid hno; have HB := Lib.hid hb; have HK := Lib.hid hk
    clear hno hb
    by_cases hlt : k < xs.length
    · obtain ⟨bx, off, rfl, hbx, hrx⟩ := RowAt.place HROW.out (by omega)
      obtain ⟨y, hy⟩ : ∃ y, xs[k] = y := ⟨_, rfl⟩
      have HXY := Lib.hid hy
      have hym : y ∈ xs := by rw [← hy]; exact List.getElem_mem hlt
      have HEL : Hid (∀ j u, y.cells.toList[j]? = some u → wr.cell? ⟨bx, off + k * 11 + j, none⟩ = some u) := Lib.hid (by
        intro j u hu
        rw [(bcell HB.out).1 bx _ (Nat.lt_of_lt_of_le hbx HU.out)]
        have := elem_cells hrx hlt
        rw [hy] at this
        exact this j u hu)
      have HONE : Hid (y.kv.oneCell' = true ∧ y.av.oneCell' = true) := Lib.hid ⟨at_one (HR.out.kids y hym), HR.out.one y hym⟩
      clear hy hym hrx hbx
      by_cases hid : y.el.id = x
      · have hq : (y.el.id == x) = true := by simpa using hid
        have HID := Lib.hid hid
        clear hid
        go_wp2_with (first
          | (refine wpList_load_range rfl 47 _ rfl bx (off + k * 11) rfl y.cells _ HEL.out Tryz.underlying47 rfl size47 ?_)
          | (refine wpl_alloc rfl 47 rfl _ (zero47 _) ?_; intro w3 hs3 hc3 hb3; have HS3 := Lib.hid hs3; have HC3 := Lib.hid hc3; have HB3 := Lib.hid hb3; clear hs3 hc3 hb3)
          | (refine wpl_store_el rfl _ _ rfl wr.heap.size y rfl rfl _ HC3.out rfl HONE.out ?_; intro w4 hs4 hc4 hf4; have HC4 := Lib.hid hc4; have HB4 := Lib.hid (HB3.out.trans (hf4.below (by have := HS3.out; omega) (Nat.le_refl _))); have c0 : w4.cell? ⟨wr.heap.size, 0, none⟩ = some (.int .i64 y.el.id) := blk_cell hc4 0 _ rfl; clear hs4 hc4 hf4))
        go_ret
        exact ⟨_, rfl, .inl ⟨k, hlt, rfl, by rw [HXY.out]; exact HID.out⟩, HB.out.trans (HB4.out.mono HB.out.size)⟩
      · have hq : (y.el.id == x) = false := by simpa using hid
        have HID := Lib.hid hid
        clear hid
        go_wp2_with (first
          | (refine wpList_load_range rfl 47 _ rfl bx (off + k * 11) rfl y.cells _ HEL.out Tryz.underlying47 rfl size47 ?_)
          | (refine wpl_alloc rfl 47 rfl _ (zero47 _) ?_; intro w3 hs3 hc3 hb3; have HS3 := Lib.hid hs3; have HC3 := Lib.hid hc3; have HB3 := Lib.hid hb3; clear hs3 hc3 hb3)
          | (refine wpl_store_el rfl _ _ rfl wr.heap.size y rfl rfl _ HC3.out rfl HONE.out ?_; intro w4 hs4 hc4 hf4; have HC4 := Lib.hid hc4; have HB4 := Lib.hid (HB3.out.trans (hf4.below (by have := HS3.out; omega) (Nat.le_refl _))); have c0 : w4.cell? ⟨wr.heap.size, 0, none⟩ = some (.int .i64 y.el.id) := blk_cell hc4 0 _ rfl; clear hs4 hc4 hf4))
        go_roundw
        case rel =>
          refine ⟨k + 1, by omega, by go_num, fun j h h2 => ?_, HB.out.trans (HB4.out.mono HB.out.size)⟩
          by_cases hj : j = k
          · subst hj; rw [HXY.out]; exact HID.out
          · exact HNO.out j h (by omega)
        case measure => simp [intOf]; omega
    · go_wp2
      go_ret
      exact ⟨-1, rfl, .inr ⟨rfl, fun y hy e => by
        obtain ⟨j, hj, rfl⟩ := List.mem_iff_getElem.1 hy
        exact HNO.out j hj (by have := HK.out; omega) e⟩, HB.out⟩

theorem fndV_none {xs : List Ev} {x : Int} (h : ∀ y ∈ xs, y.el.id ≠ x) : fnd (ndsV xs) x = none := by
  unfold Go.Proofs.YthbmnacleneflaaGreatDoor.dt.fnd
  rw [List.find?_eq_none]
  intro n hn
  obtain ⟨y, hy, rfl⟩ := List.mem_map.1 hn
  have := h y hy
  simp [El.nd, this]
theorem fndV_some {xs : List Ev} (hd : ((ndsV xs).map Nd.id).Nodup) {j : Nat} (h : j < xs.length) : fnd (ndsV xs) xs[j].el.id = some xs[j].el.nd :=
  fnd_mem (n := xs[j].el.nd) hd (List.mem_map_of_mem (f := fun x : Ev => x.el.nd) (List.getElem_mem h))
theorem at_no (w : World) (U T : Nat) (xs : List Ev) (next : Int) (hR : RowT w U T xs next) (hU : U ≤ w.heap.size) (hd : ((ndsV xs).map Nd.id).Nodup) (x : Int) (hn : fnd (ndsV xs) x = none) :
    Calls Tryz.prog 36 #[.pointer (some ⟨T, 0, none⟩), .int .i64 x] w fun e w' => e = .returned (.int .i64 (-1)) ∧ Below w.heap.size w w' := by
  refine (at_any w U T xs next hR hU x).mono ?_
  rintro e w' ⟨r, rfl, h | ⟨rfl, _⟩, hb⟩
  · obtain ⟨j, hj, rfl, rfl⟩ := h
    rw [fndV_some hd hj] at hn
    cases hn
  · exact ⟨rfl, hb⟩
theorem at_yes (w : World) (U T : Nat) (xs : List Ev) (next : Int) (hR : RowT w U T xs next) (hU : U ≤ w.heap.size) (hd : ((ndsV xs).map Nd.id).Nodup) (j : Nat) (hj : j < xs.length) :
    Calls Tryz.prog 36 #[.pointer (some ⟨T, 0, none⟩), .int .i64 xs[j].el.id] w fun e w' => e = .returned (.int .i64 j) ∧ Below w.heap.size w w' := by
  refine (at_any w U T xs next hR hU _).mono ?_
  rintro e w' ⟨r, rfl, h | ⟨_, hn⟩, hb⟩
  · obtain ⟨k, hk, rfl, hid⟩ := h
    have hkj : k = j := by
      have h1 := List.pairwise_iff_getElem.1 (List.nodup_iff_pairwise_ne.1 hd)
      have hk' : k < ((ndsV xs).map Nd.id).length := by simpa [ndsV] using hk
      have hj' : j < ((ndsV xs).map Nd.id).length := by simpa [ndsV] using hj
      have e : ((ndsV xs).map Nd.id)[k] = ((ndsV xs).map Nd.id)[j] := by simpa [ndsV, El.nd] using hid
      rcases Nat.lt_trichotomy k j with h | h | h
      · exact absurd e (h1 k j hk' hj' h)
      · exact h
      · exact absurd e.symm (h1 j k hj' hk' h)
    subst hkj
    exact ⟨rfl, hb⟩
  · exact absurd rfl (hn _ (List.getElem_mem hj))
theorem own_lit {w : World} {base b : Nat} {y : Int} (hb : w.heap[b]? = some (.cells #[.int .i64 y] 3 (0, 0))) (hB : base ≤ b) : w.ownsRow base 3 1 (.slice (some ⟨b, 0, none⟩) [y].length 1) [y].length (intCells [y]) :=
  ⟨rfl, .inr ⟨b, 1, _, rfl, hB, hb, Nat.le_refl _, by unfold maxLen; omega, rfl, rfl⟩⟩
set_option maxRecDepth 100000 in
set_option maxHeartbeats 4000000 in
theorem rbelow_none (U T : Nat) (xs : List Ev) (next : Int) (hd : ((ndsV xs).map Nd.id).Nodup) (x : Int) (w : World) (hR : RowT w U T xs next) (hU : U ≤ w.heap.size) (hn : fnd (ndsV xs) x = none) :
    Calls Tryz.prog 14 #[.pointer (some ⟨T, 0, none⟩), .int .i64 x] w fun e w' => e = .returned (.slice none 0 0) ∧ Below w.heap.size w w' := by
  have HC := Lib.hid (at_no w U T xs next hR hU hd x hn)
  clear hR hU hn hd
  go_enter Tryz.func14, Tryz.ntmps14
  go_wp2_with (go_at_call 36; refine HC.out.mono ?_; rintro e w1 ⟨rfl, hb⟩; have HB := Lib.hid hb; clear hb)
  go_ret
  exact ⟨rfl, HB.out⟩
set_option maxRecDepth 100000 in
set_option maxHeartbeats 4000000 in
/-- jalousieref8's Tree.Below. -/
theorem rbelow_any (U T : Nat) (xs : List Ev) (next : Int) (hd : ((ndsV xs).map Nd.id).Nodup) : ∀ (f : Nat) (x : Int) (w : World), RowT w U T xs next → U ≤ w.heap.size → (fnd (ndsV xs) x = none ∨ Deep (ndsV xs) f x) → (pre (ndsV xs) f x).length ≤ 256 →
    Calls Tryz.prog 14 #[.pointer (some ⟨T, 0, none⟩), .int .i64 x] w fun e w' => ∃ v, e = .returned v ∧ IntsFrom w.heap.size w'.heap.size w' v (pre (ndsV xs) f x) ∧ Below w.heap.size w w' := by
  have none_ : ∀ (f : Nat) (x : Int) (w : World), RowT w U T xs next → U ≤ w.heap.size → fnd (ndsV xs) x = none → Calls Tryz.prog 14 #[.pointer (some ⟨T, 0, none⟩), .int .i64 x] w fun e w' => ∃ v, e = .returned v ∧ IntsFrom w.heap.size w'.heap.size w' v (pre (ndsV xs) f x) ∧ Below w.heap.size w w' := by
    intro f x w hR hU hn
    refine (rbelow_none U T xs next hd x w hR hU hn).mono ?_
    rintro e w' ⟨rfl, hb⟩
    rw [pre_none hn]
    exact ⟨_, rfl, ⟨none, 0, rfl, Nat.le_refl _, Nat.zero_le _, .inl ⟨rfl, rfl, fun _ => rfl⟩⟩, hb⟩
  intro f
  induction f with
  | zero =>
    intro x w hR hU hdeep hl
    rcases hdeep with hn | h
    · exact none_ 0 x w hR hU hn
    · exact h.elim
  | succ f ih =>
    intro x w hR hU hdeep hl
    rcases hdeep with hn | ⟨n, hn, hdk⟩
    · exact none_ (f + 1) x w hR hU hn
    obtain ⟨hm, hx⟩ := fnd_some hn
    obtain ⟨y, hy, rfl⟩ := List.mem_map.1 hm
    obtain ⟨j, hj, rfl⟩ := List.mem_iff_getElem.1 hy
    have hpre : pre (ndsV xs) (f + 1) x = x :: xs[j].el.kids.flatMap (pre (ndsV xs) f) := by
      unfold Go.Proofs.YthbmnacleneflaaGreatDoor.dt.pre
      rw [hn]
      rfl
    rw [hpre] at hl ⊢
    have hdk' : ∀ k ∈ xs[j].el.kids, Deep (ndsV xs) f k := hdk
    have hx' : xs[j].el.id = x := hx
    have HC := Lib.hid (at_yes w U T xs next hR hU hd j hj)
    rw [hx'] at HC
    have hok := hR.ok _ (List.getElem_mem hj)
    have hkids := hR.kids _ (List.getElem_mem hj)
    obtain ⟨v, hv, hrow⟩ := hR.t
    obtain ⟨va, vc, rfl⟩ := RowAt.slice hrow
    obtain ⟨bx, off, rfl, hbx, hrx⟩ := RowAt.place hrow (by omega)
    have h3 : w.cell? ⟨bx, off + j * 11 + 3, none⟩ = some xs[j].kv := elem_cells hrx hj 3 _ rfl
    have hjl : (j : Int) < (xs.length : Int) := by omega
    have hj0 : decide ((j : Int) < 0) = false := by simp
    generalize xs[j] = y at hl hdk' hok hkids h3
    clear hdk hpre hn hm hy hx hx'
    obtain ⟨ka, kc, hkv⟩ := RowAt.slice hkids
    rw [hkv] at h3 hkids
    have HR := Lib.hid hR; have HU := Lib.hid hU; have HD := Lib.hid hdk'; have HK := Lib.hid hkids; have HV := Lib.hid hv; have H3 := Lib.hid h3; have HL := Lib.hid hl; have HOK := Lib.hid hok; have IH := Lib.hid ih; have HJ := Lib.hid hj
    have HBX := Lib.hid (Nat.lt_of_lt_of_le hbx hU)
    have hxl : (xs.length : Int) ≤ 256 := by have := hR.len; omega
    clear hR hU hdk' hkids hv h3 hrow hrx hbx hok hl ih hkv hd none_
    go_enter Tryz.func14, Tryz.ntmps14
    go_wp2_with (first
      | (go_at_call 36; refine HC.out.mono ?_; rintro e w1 ⟨rfl, hb1⟩; have HB1 := Lib.hid hb1; clear hb1)
      | (refine wpl_slice1_int rfl _ rfl x rfl ?_; intro w2 hs2 hc2 hb2; have HC2 := Lib.hid hc2; have HB2 := Lib.hid (HB1.out.trans (hb2.mono HB1.out.size)); have HS2 := Lib.hid hs2; have cT : w2.cell? ⟨T, 0, none⟩ = some (.slice (some ⟨bx, off, none⟩) xs.length vc) := blk_cell ((HB2.out.block T (Nat.lt_of_lt_of_le HR.out.lt HU.out)).trans HV.out) 0 _ rfl; have c3 : w2.cell? ⟨bx, off + j * 11 + 3, none⟩ = some (.slice ka y.el.kids.length kc) := ((bcell HB2.out).1 bx _ HBX.out).trans H3.out; clear hs2 hc2 hb2))
    have HOWN2 := Lib.hid (own_lit HC2.out (show w.heap.size ≤ w1.heap.size from HB1.out.size))
    clear cT c3
    go_loopw [25, 6] (fun i l wr => ∃ (k : Nat) (L : List Int), k ≤ y.el.kids.length ∧ i = .int .i64 k ∧ wr.ownsRow w.heap.size 3 1 l L.length (intCells L) ∧ L = x :: (y.el.kids.take k).flatMap (pre (ndsV xs) f) ∧ Below w.heap.size w wr) (fun i _ _ => y.el.kids.length - (intOf i).toNat)
    case atStart => exact ⟨0, [x], Nat.zero_le _, rfl, HOWN2.out, rfl, HB2.out⟩
    case round =>
      obtain ⟨k, L, hk, rfl, hown, hL, hb⟩ := hrel
      obtain ⟨la, lc, rfl⟩ := own_shape hown
      have HOWN := Lib.hid hown; have HLL := Lib.hid hL; have HB := Lib.hid hb; have HKK := Lib.hid hk
      clear hown hL hb
      by_cases hlt : k < y.el.kids.length
      · obtain ⟨kb, koff, rfl, hkb, hkr⟩ := RowAt.place HK.out (by omega)
        have hkc : wr.cell? ⟨kb, koff + k, none⟩ = some (.int .i64 y.el.kids[k]) := ((bcell HB.out).1 kb _ (Nat.lt_of_lt_of_le hkb HU.out)).trans (ints_cell hkr hlt)
        have htk := take_snoc hlt
        have hkm : y.el.kids[k] ∈ y.el.kids := List.getElem_mem hlt
        have hle := take_flat_le (pre (ndsV xs) f) _ hlt
        have hkl : (y.el.kids.length : Int) < 9223372036854775807 := by have := HOK.out.kn; omega
        generalize y.el.kids[k] = z at hkc htk hkm hle
        have HTK := Lib.hid htk
        have HLE : Hid (L.length + (pre (ndsV xs) f z).length ≤ 256) := Lib.hid (by rw [HLL.out]; have := HL.out; simp only [List.length_cons] at this ⊢; omega)
        have HSB := Lib.hid (IH.out z wr (HR.out.keep (HB.out.mono HU.out)) (Nat.le_trans HU.out HB.out.size) (.inr (HD.out z hkm)) (by have := HLE.out; omega))
        clear htk hkm hle hkr hkb
        go_wp2_with (first
          | (go_at_call 14; refine HSB.out.mono ?_; rintro e w3 ⟨v3, rfl, hv3, hb3⟩; have HV3 := Lib.hid hv3; have HB3 := Lib.hid hb3; have HOWN3 := Lib.hid (own_keep HOWN.out fun q _ h2 => hb3.block q h2); clear hv3 hb3)
          | (at_builtin; refine wpl_append_ints rfl _ _ rfl w.heap.size w3.heap.size L (pre (ndsV xs) f z) _ v3 rfl HOWN3.out rfl (IntsFrom.at_ HV3.out) (by have := HLE.out; omega) (Nat.le_trans HB.out.size HB3.out.size) ?_; intro v4 w4 hown4 hg4 hl4; have HOWN4 := Lib.hid hown4; have HG4 := Lib.hid hg4; clear hown4 hg4 hl4))
        go_roundw
        case rel =>
          refine ⟨k + 1, _, by omega, by go_num, HOWN4.out, ?_, (HB.out.trans (HB3.out.mono HB.out.size)).grown HG4.out (Nat.le_trans HB.out.size HB3.out.size) (fun q hq => (HOWN3.out.lt q hq).1)⟩
          rw [HLL.out, HTK.out, List.flatMap_append]
          simp
        case measure => simp [intOf]; omega
      · have hke : k = y.el.kids.length := by have := HKK.out; omega
        go_wp2
        go_ret
        have hL := HLL.out
        rw [hke, List.take_length] at hL
        rw [← hL]
        exact ⟨_, rfl, RowFrom.of_own HOWN.out (by decide), HB.out⟩
end Go.Proofs.YthbmnacleneflaaGreatDoor
