/-
  Contract, for a run of one goroutine, of the law DepsTree: it answers true. Condition: its arguments lie in memory; awake answers true.
-/
import Derived.Test.YthbmnacleneflaaGreatDoorD6
import Derived.Test.YthbmnacleneflaaGreatDoorD2
import Derived.Deep.Slices
import Derived.SizedLaws
import Derived.Handed
import Derived.KernelRfl
set_option linter.unusedSimpArgs false
set_option linter.unusedVariables false
set_option linter.unusedSimpArgs false
set_option linter.unusedVariables false
namespace Go.Proofs.YthbmnacleneflaaGreatDoor
open Go Go.RowKit
open Go.Proofs.YthbmnacleneflaaGreatDoor.dt (Nd fnd pre Deep ups Fits Dist fnd_some fnd_mem fnd_neg fnd_perm pre_congr deep_congr dist_root dist_kid dist_lt deep_of pre_len pre_nodup pre_mem all_dist dist_of_pre oneTree elOk kidOk rootsN kidsN rootOf fits_of root_of_mem cloL Whole clo_count clo_nodup)

theorem ints_take {B : Nat} {w : World} {a : Option Addr} {cap : Nat} {l : List Int} (h : IntsAt B w (.slice a l.length cap) l) (k : Nat) (hk : k ≤ l.length) (hk0 : 0 < k) : IntsAt B w (.slice a k cap) (l.take k) := by
  obtain ⟨b, off, rfl, hb, hr⟩ := RowAt.place h (by omega)
  have hle := h.le
  obtain ⟨a', cap', e, h1, h2, _⟩ := h
  cases e
  have hl : (l.take k).length = k := by simp; omega
  refine ⟨_, cap, by rw [hl], by omega, h2, .inr ⟨by omega, b, off, rfl, hb, fun j u hu => hr j u ?_⟩⟩
  unfold intCells at hu ⊢
  rw [List.map_take, List.getElem?_take] at hu
  split at hu
  · exact hu
  · cases hu
theorem nds_of_perm {ns : Ns} {ys : List Ev} (h : (ys.map (·.el)).Perm (ns.map (·.1))) : (ndsV ys).Perm (ndsOf ns) := by
  have := h.map El.nd
  simpa [ndsV, ndsOf, Function.comp_def] using this
def Awakes (w : World) : Prop := ∀ wx, Below w.heap.size w wx → Calls Tryz.prog 8 #[] wx fun e w' => e = .returned (.bool true) ∧ Below wx.heap.size wx w'

set_option maxRecDepth 100000 in
set_option maxHeartbeats 16000000 in
theorem depsTree_short (w : World) (v : Value) (xs : List Ev) (hx : ElsAt w.heap.size w v xs) (ia : Option Addr) (ic : Nat) (ids : List Int) (hv : IntsAt w.heap.size w (.slice ia ids.length ic) ids) (hi : ∀ i ∈ ids, I64 i) (haw : Awakes w) (hlong : ids.length ≤ 60) :
    Calls Tryz.prog 4 #[v, .slice ia ids.length ic] w fun e w' => e = .returned (.bool true) ∧ Below w.heap.size w w' := by
  have hicap : ids.length ≤ ic := by obtain ⟨_, _, e, h, _⟩ := hv; cases e; exact h
  obtain ⟨I, hI⟩ : ∃ I, I = ids := ⟨_, rfl⟩
  have HVT : Hid (IntsAt w.heap.size w (.slice ia ids.length ic) I) := Lib.hid (by rw [hI]; exact hv)
  have HIL : Hid (∀ i ∈ I, I64 i) := Lib.hid (fun i h => hi i (by rw [hI] at h; exact h))
  have HIE : Hid (I.length = ids.length) := Lib.hid (by rw [hI])
  have HSX : Hid ((ids.length : Nat) ≤ 60) := Lib.hid (by omega)
  have HAW := Lib.hid haw
  have HLD := Lib.hid (load_any w v xs hx)
  have hnn : ((ids.length : Nat) : Int) ≤ 60 := by omega
  have hq : decide ((60 : Int) < (ids.length : Int)) = false := (by simp; omega)
  have hcap2 : (60 : Int) ≤ 60 := by omega
  clear hcap2
  clear hx hv hi haw hI
  generalize xs.map (·.el) = els at HLD
  by_cases hle : loadE els = 0
  · have HLE := Lib.hid hle
    clear hle
    go_enter Tryz.func4, Tryz.ntmps4
    go_wp2_with (first
      | (go_at_call 5; refine HLD.out.mono ?_; rintro e w1 ⟨t, rfl, hb1, _, ht⟩; obtain ⟨B, N, T, ns, next, rfl, hels, hT, hwh⟩ := ht HLE.out; rw [HLE.out]; have HB1 := Lib.hid hb1; have HT := Lib.hid hT; have HWH := Lib.hid hwh; clear hb1 ht hels hT hwh)
      | (go_at_call 12; refine (elems_any w1 _ B N T ns _ next HT.out (Nat.le_refl _) HWH.out.fits.ids).mono ?_; rintro e w2 ⟨v2, ys0, rfl, hv2, hp2, hb2⟩; have HV2 := Lib.hid hv2; have HP2 := Lib.hid hp2; have HB2 := Lib.hid hb2; have HT2 := Lib.hid (HT.out.below hb2 (Nat.le_refl _)); clear hv2 hp2 hb2)
      | (go_at_call 13; refine (next_any w2 _ B N T ns _ next HT2.out).mono ?_; rintro e w2' ⟨rfl, rfl⟩)
      | (go_at_call 11; refine (row_load w2 v2 ys0 next HV2.out (by have := HP2.out.length_eq; simp only [List.length_map] at this; rw [this]; exact HT2.out.len)).mono ?_; rintro e w3 ⟨TR, ys, rfl, hr3, he3, hb3⟩; have HR3 := Lib.hid hr3; have HE3 := Lib.hid he3; have HB3 := Lib.hid hb3; have HT3 := Lib.hid (HT2.out.below hb3 HB2.out.size); clear hr3 he3 hb3)
      | (go_at_call 7; refine (closure_any w3 _ B N T ns _ next HT3.out (Nat.le_trans HB2.out.size HB3.out.size) HWH.out (.slice ia ids.length ic) I ((HVT.out.keep ((HB1.out.trans (HB2.out.mono HB1.out.size)).trans (HB3.out.mono (Nat.le_trans HB1.out.size HB2.out.size)))).mono (Nat.le_trans HB1.out.size (Nat.le_trans HB2.out.size HB3.out.size))) HIL.out (by rw [HIE.out]; have := HSX.out; omega)).mono ?_; rintro e w4 ⟨v4, rfl, hv4, hb4⟩; obtain ⟨ca, cc, rfl⟩ := RowAt.slice (IntsFrom.at_ hv4); have HV4 := Lib.hid hv4; have HB4 := Lib.hid hb4; have HR4 := Lib.hid (HR3.out.keep hb4); obtain ⟨rv, hrt, hrow⟩ := HR4.out.t; obtain ⟨ra, rc, rfl⟩ := RowAt.slice hrow; have HROW := Lib.hid hrow; have cR : w4.cell? ⟨TR, 0, none⟩ = some (.slice ra ys.length rc) := blk_cell hrt 0 _ rfl; clear hv4 hb4 hrt hrow))
    have HB04 : Hid (Below w.heap.size w w4) := Lib.hid (((HB1.out.trans (HB2.out.mono HB1.out.size)).trans (HB3.out.mono (Nat.le_trans HB1.out.size HB2.out.size))).trans (HB4.out.mono (Nat.le_trans HB1.out.size (Nat.le_trans HB2.out.size HB3.out.size))))
    have HEP : Hid ((ys.map (·.el)).Perm (ns.map (·.1))) := Lib.hid (by rw [HE3.out]; exact HP2.out)
    have HNP : Hid ((ndsV ys).Perm (ndsOf ns)) := Lib.hid (nds_of_perm HEP.out)
    have HLENS : Hid (ys.length = ns.length) := Lib.hid (by have := HEP.out.length_eq; simpa using this)
    have HYN : Hid (((ndsV ys).map Nd.id).Nodup) := Lib.hid (((HNP.out.map Nd.id).nodup_iff).2 HWH.out.fits.ids)
    have HPRE : Hid (∀ f x, pre (ndsV ys) f x = pre (ndsOf ns) f x) := Lib.hid (pre_congr fun x => fnd_perm HWH.out.fits.ids HNP.out x)
    have HFND : Hid (∀ x, fnd (ndsV ys) x = fnd (ndsOf ns) x) := Lib.hid (fun x => fnd_perm HWH.out.fits.ids HNP.out x)
    have HPL : Hid (∀ x, (pre (ndsOf ns) ns.length x).length ≤ 256) := Lib.hid (by
      intro x
      have hlen := HT.out.len
      cases hn : fnd (ndsOf ns) x with
      | none => rw [pre_none hn]; exact Nat.zero_le _
      | some n =>
        have := (whole_deep HWH.out hn).2
        rw [nds_len] at this
        omega)
    have HRB : Hid (∀ z wx, Below w4.heap.size w4 wx → Calls Tryz.prog 14 #[.pointer (some ⟨TR, 0, none⟩), .int .i64 z] wx fun e w' => ∃ v, e = .returned v ∧ IntsFrom wx.heap.size w'.heap.size w' v (pre (ndsOf ns) ns.length z) ∧ Below wx.heap.size wx w') := Lib.hid (by
      intro z wx hb
      have h1 := rbelow_any w3.heap.size TR ys next HYN.out ns.length z wx (HR4.out.keep (hb.mono HB4.out.size)) (Nat.le_trans HB4.out.size hb.size) (by
        rw [HFND.out z]
        cases hn : fnd (ndsOf ns) z with
        | none => exact .inl rfl
        | some n =>
          have h2 := (whole_deep HWH.out hn).1
          rw [nds_len] at h2
          exact .inr ((deep_congr HFND.out _ _).2 h2)) (by rw [HPRE.out]; exact HPL.out z)
      rw [HPRE.out] at h1
      exact h1)
    have HCN : Hid (∀ n ∈ ndsOf ns, (cloL (ndsOf ns) (rootOf (ndsOf ns)) I).count n.id = if (∃ i ∈ I, n.id ∈ pre (ndsOf ns) ns.length i) then 1 else 0) := Lib.hid (fun n hn => by
      have := clo_count HWH.out.fits HWH.out.len I hn
      rw [nds_len] at this
      exact this)
    have HCL : Hid ((cloL (ndsOf ns) (rootOf (ndsOf ns)) I).length ≤ 256) := Lib.hid (by
      have h1 : (cloL (ndsOf ns) (rootOf (ndsOf ns)) I).length ≤ (pre (ndsOf ns) (ndsOf ns).length (rootOf (ndsOf ns))).length := List.length_filter_le _ _
      rw [nds_len] at h1
      exact Nat.le_trans h1 (HPL.out _))
    have HYI : Hid (∀ k, ∀ h : k < ys.length, ∃ n ∈ ndsOf ns, n.id = ys[k].el.id) := Lib.hid (fun k h => ⟨ys[k].el.nd, HNP.out.mem_iff.1 (List.mem_map_of_mem (f := fun x : Ev => x.el.nd) (List.getElem_mem h)), rfl⟩)
    have hyl : (ys.length : Int) ≤ 256 := by rw [HLENS.out]; have := HT.out.len; omega
    have hcl : ((cloL (ndsOf ns) (rootOf (ndsOf ns)) I).length : Int) ≤ 256 := by have := HCL.out; omega
    have hil : (I.length : Int) ≤ 60 := by rw [HIE.out]; omega
    generalize cloL (ndsOf ns) (rootOf (ndsOf ns)) I = CL at HV4 HCN HCL hcl ⊢
    clear HNP HYN HPRE HFND HWH HEP HE3 HP2 HV2 HT2 HT3 HT HR3
    clear cR
    go_loopw [49] (fun i wr => ∃ k : Nat, k ≤ ys.length ∧ i = .int .i64 k ∧ Below w4.heap.size w4 wr) (fun i _ => ys.length - (intOf i).toNat)
    case atStart => exact ⟨0, Nat.zero_le _, rfl, Below.refl _ _⟩
    case round =>
      obtain ⟨k, hk, rfl, hb⟩ := hrel
      have HB := Lib.hid hb; have HK := Lib.hid hk
      clear hb
      by_cases hlt : k < ys.length
      · obtain ⟨bx, off, rfl, hbx, hrx⟩ := RowAt.place HROW.out (by omega)
        obtain ⟨y, hy⟩ : ∃ y, ys[k] = y := ⟨_, rfl⟩
        have hym : y ∈ ys := by rw [← hy]; exact List.getElem_mem hlt
        have HEL : Hid (∀ j u, y.cells.toList[j]? = some u → wr.cell? ⟨bx, off + k * 11 + j, none⟩ = some u) := Lib.hid (by
          intro j u hu
          rw [(bcell HB.out).1 bx _ (Nat.lt_of_lt_of_le hbx HB4.out.size)]
          have := elem_cells hrx hlt
          rw [hy] at this
          exact this j u hu)
        have HONE : Hid (y.kv.oneCell' = true ∧ y.av.oneCell' = true) := Lib.hid ⟨at_one (HR4.out.kids y hym), HR4.out.one y hym⟩
        have HCY : Hid (CL.count y.el.id = if (∃ i ∈ I, y.el.id ∈ pre (ndsOf ns) ns.length i) then 1 else 0) := Lib.hid (by
          obtain ⟨n, hn, e⟩ := HYI.out k hlt
          rw [hy] at e
          rw [← e]
          exact HCN.out n hn)
        clear hy hym hrx hbx
        go_wp2_with (first
          | (refine wpList_load_range rfl 47 _ rfl bx (off + k * 11) rfl y.cells _ HEL.out Tryz.underlying47 rfl size47 ?_)
          | (refine wpl_alloc rfl 47 rfl _ (zero47 _) ?_; intro w5 hs5 hc5 hb5; have HS5 := Lib.hid hs5; have HC5 := Lib.hid hc5; have HB5 := Lib.hid hb5; clear hs5 hc5 hb5)
          | (refine wpl_store_el rfl _ _ rfl wr.heap.size y rfl rfl _ HC5.out rfl HONE.out ?_; intro w6 hs6 hc6 hf6; have HC6 := Lib.hid hc6; have HS6 := Lib.hid hs6; have HB6 := Lib.hid (HB5.out.trans (hf6.below (by have := HS5.out; omega) (Nat.le_refl _))); clear hs6 hc6 hf6))
        have HB46 : Hid (Below w4.heap.size w4 w6) := Lib.hid (HB.out.trans (HB6.out.mono HB.out.size))
        have HB06 : Hid (Below w.heap.size w w6) := Lib.hid (HB04.out.trans (HB46.out.mono HB04.out.size))
        have HD6 : Hid (wr.heap.size < w6.heap.size) := Lib.hid (lt_of_block HC6.out)
        obtain ⟨D, hD⟩ : ∃ D, D = wr.heap.size := ⟨_, rfl⟩
        rw [← hD] at HC6 HD6 ⊢
        have HDB : Hid (w4.heap.size ≤ wr.heap.size) := Lib.hid HB.out.size
        clear HB hD
        go_loopw [55, 11] (fun i b wr => ∃ (m : Nat) (bb : Bool), m ≤ I.length ∧ i = .int .i64 m ∧ b = .bool bb ∧ (bb = true ↔ ∃ z ∈ I.take m, y.el.id ∈ pre (ndsOf ns) ns.length z) ∧ Below w6.heap.size w6 wr) (fun i _ _ => I.length - (intOf i).toNat)
        case atStart => exact ⟨0, false, Nat.zero_le _, rfl, rfl, by simp, Below.refl _ _⟩
        case round =>
          obtain ⟨m, bb, hm, rfl, rfl, hbb, hbl⟩ := hrel
          have HBB := Lib.hid hbb; have HBL := Lib.hid hbl; have HM := Lib.hid hm
          clear hbb hbl
          by_cases hlm : m < I.length
          · obtain ⟨ib, ioff, hia, hib, hir⟩ := RowAt.place (a := ia) (cap := ic) (n := I.length) (by have := HVT.out; unfold IntsAt at this; rw [← HIE.out] at this; exact this) (by omega)
            subst hia
            have hic : wr.cell? ⟨ib, ioff + m, none⟩ = some (.int .i64 I[m]) := ((bcell (HB06.out.trans (HBL.out.mono HB06.out.size))).1 ib _ hib).trans (ints_cell hir hlm)
            have htk := take_snoc hlm
            have hlm2 : m < ids.length := by rw [← HIE.out]; exact hlm
            generalize I[m] = z at hic htk
            have HTK := Lib.hid htk
            have HRZ := Lib.hid (HRB.out z wr (HB46.out.trans (HBL.out.mono HB46.out.size)))
            clear htk hir hib
            go_wp2_with (go_at_call 14; refine HRZ.out.mono ?_; rintro e w7 ⟨v7, rfl, hv7, hb7⟩; obtain ⟨pa, pc, rfl⟩ := RowAt.slice (IntsFrom.at_ hv7); have HV7 := Lib.hid hv7; have HB7 := Lib.hid hb7; clear hv7 hb7)
            have hpl : ((pre (ndsOf ns) ns.length z).length : Int) ≤ 256 := by have := HPL.out z; omega
            have HB67 : Hid (Below w6.heap.size w6 w7) := Lib.hid (HBL.out.trans (HB7.out.mono HBL.out.size))
            have c0 : w7.cell? ⟨D, 0, none⟩ = some (.int .i64 y.el.id) := blk_cell ((HB67.out.block D HD6.out).trans HC6.out) 0 _ rfl
            generalize hP : pre (ndsOf ns) ns.length z = P at HV7 hpl ⊢
            have HP := Lib.hid hP
            clear hP HRZ
            go_loop [63, 11] (fun i b => ∃ (j : Nat) (b2 : Bool), j ≤ P.length ∧ i = .int .i64 j ∧ b = .bool b2 ∧ (b2 = true ↔ bb = true ∨ y.el.id ∈ P.take j)) (fun i _ => P.length - (intOf i).toNat)
            case atStart => exact ⟨0, bb, Nat.zero_le _, rfl, rfl, by simp⟩
            case round =>
              obtain ⟨j, b2, hj, rfl, rfl, hb2⟩ := hrel
              have HB2' := Lib.hid hb2; have HJ := Lib.hid hj
              clear hb2
              by_cases hlj : j < P.length
              · obtain ⟨pb, poff, rfl, hpb, hpr⟩ := RowAt.place (IntsFrom.at_ HV7.out) (by omega)
                have hpc : w7.cell? ⟨pb, poff + j, none⟩ = some (.int .i64 P[j]) := ints_cell hpr hlj
                have htp := take_snoc hlj
                generalize P[j] = q at hpc htp
                have HTP := Lib.hid htp
                clear htp hpr hpb
                cases b2 with
                | true =>
                  go_wp2
                  exact ⟨⟨j + 1, true, by omega, by go_num, rfl, by rw [HTP.out]; have := HB2'.out.1 rfl; simp only [List.mem_append, true_iff]; exact this.imp id .inl⟩, by simp [intOf]; omega⟩
                | false =>
                  by_cases hqe : q = y.el.id
                  · have hq1 : (q == y.el.id) = true := by simpa using hqe
                    have HQE := Lib.hid hqe
                    clear hqe
                    go_wp2
                    exact ⟨⟨j + 1, true, by omega, by go_num, rfl, by rw [HTP.out, ← HQE.out]; simp⟩, by simp [intOf]; omega⟩
                  · have hq1 : (q == y.el.id) = false := by simpa using hqe
                    have HQE := Lib.hid hqe
                    clear hqe
                    go_wp2
                    refine ⟨⟨j + 1, false, by omega, by go_num, rfl, ?_⟩, by simp [intOf]; omega⟩
                    rw [HTP.out, List.mem_append, List.mem_singleton, HB2'.out]
                    exact ⟨fun h => h.imp id .inl, fun h => h.imp id fun h => h.resolve_right fun e => HQE.out e.symm⟩
              · have hje : j = P.length := by have := HJ.out; omega
                have HB3' : Hid (b2 = true ↔ bb = true ∨ y.el.id ∈ P) := Lib.hid (by have := HB2'.out; rw [hje, List.take_length] at this; exact this)
                clear hje
                go_wp2
                go_roundw
                case rel =>
                  refine ⟨m + 1, b2, by omega, by go_num, rfl, ?_, HB67.out⟩
                  rw [HB3'.out, HBB.out, HTK.out, ← HP.out]
                  simp only [List.mem_append, List.mem_singleton, or_and_right, exists_or, exists_eq_left]
                case measure => simp [intOf]; omega
          · have hme : m = I.length := by have := HM.out; omega
            have hlm2 : ¬ m < ids.length := by rw [← HIE.out]; exact hlm
            have HBI : Hid (bb = true ↔ ∃ z ∈ I, y.el.id ∈ pre (ndsOf ns) ns.length z) := Lib.hid (by have := HBB.out; rw [hme, List.take_length] at this; exact this)
            have c0 : wr.cell? ⟨D, 0, none⟩ = some (.int .i64 y.el.id) := blk_cell ((HBL.out.block D HD6.out).trans HC6.out) 0 _ rfl
            have HVC : Hid (IntsFrom w3.heap.size w4.heap.size wr (.slice ca CL.length cc) CL) := Lib.hid (RowFrom.keep HV4.out fun q h1 h2 => (HB46.out.trans (HBL.out.mono HB46.out.size)).block q h2)
            clear hme
            go_wp2
            go_loop [78, 16] (fun i n => ∃ j : Nat, j ≤ CL.length ∧ i = .int .i64 j ∧ n = .int .i64 ((CL.take j).count y.el.id : Nat)) (fun i _ => CL.length - (intOf i).toNat)
            case atStart => exact ⟨0, Nat.zero_le _, rfl, rfl⟩
            case round =>
              obtain ⟨j, hj, rfl, rfl⟩ := hrel
              have HJ := Lib.hid hj
              have hcc : (((CL.take j).count y.el.id : Nat) : Int) ≤ 256 := by
                have h1 := List.count_le_length (a := y.el.id) (l := CL.take j)
                have h2 : (CL.take j).length ≤ CL.length := by simp; omega
                have := HCL.out
                omega
              obtain ⟨cn, hcn⟩ : ∃ cn : Nat, (CL.take j).count y.el.id = cn := ⟨_, rfl⟩
              rw [hcn] at hcc ⊢
              have HCNT := Lib.hid hcn
              clear hcn
              by_cases hlj : j < CL.length
              · obtain ⟨pb, poff, rfl, hpb, hpr⟩ := RowAt.place (IntsFrom.at_ HVC.out) (by omega)
                have hpc : wr.cell? ⟨pb, poff + j, none⟩ = some (.int .i64 CL[j]) := ints_cell hpr hlj
                have htp := take_snoc hlj
                generalize CL[j] = q at hpc htp
                have HTP := Lib.hid htp
                clear htp hpr hpb
                by_cases hqe : q = y.el.id
                · have hq1 : (q == y.el.id) = true := by simpa using hqe
                  have HQE := Lib.hid hqe
                  clear hqe
                  go_wp2
                  exact ⟨⟨j + 1, by omega, by go_num, by rw [HTP.out, List.count_append, HCNT.out, HQE.out, List.count_singleton_self]; simp⟩, by simp [intOf]; omega⟩
                · have hq1 : (q == y.el.id) = false := by simpa using hqe
                  have HQE := Lib.hid hqe
                  clear hqe
                  go_wp2
                  exact ⟨⟨j + 1, by omega, by go_num, by rw [HTP.out, List.count_append, HCNT.out, List.count_singleton, if_neg (by simpa using HQE.out)]; simp⟩, by simp [intOf]; omega⟩
              · have hje : j = CL.length := by have := HJ.out; omega
                have HCF : Hid (cn = if (∃ i ∈ I, y.el.id ∈ pre (ndsOf ns) ns.length i) then 1 else 0) := Lib.hid (by rw [← HCNT.out, hje, List.take_length]; exact HCY.out)
                clear hje
                have HBW : Hid (Below w4.heap.size w4 wr) := Lib.hid (HB46.out.trans (HBL.out.mono HB46.out.size))
                cases bb with
                | true =>
                  have hc1 : cn = 1 := by rw [HCF.out, if_pos (HBI.out.1 rfl)]
                  subst hc1
                  go_wp2
                  go_roundw
                  case rel => exact ⟨k + 1, by omega, by go_num, HBW.out⟩
                  case measure => simp [intOf]; omega
                | false =>
                  have hc1 : cn = 0 := by rw [HCF.out, if_neg (fun h => by have := HBI.out.2 h; cases this)]
                  subst hc1
                  go_wp2
                  go_roundw
                  case rel => exact ⟨k + 1, by omega, by go_num, HBW.out⟩
                  case measure => simp [intOf]; omega
      · have HBW : Hid (Below w.heap.size w wr) := Lib.hid (HB04.out.trans (HB.out.mono HB04.out.size))
        go_wp2_with (go_at_call 8; refine (HAW.out wr HBW.out).mono ?_; rintro e w9 ⟨rfl, hb9⟩; have HB9 := Lib.hid hb9; clear hb9)
        go_ret
        exact ⟨rfl, HBW.out.trans (HB9.out.mono HBW.out.size)⟩
  · have HLE := Lib.hid hle
    clear hle
    go_enter Tryz.func4, Tryz.ntmps4
    go_wp2_with (first
      | (go_at_call 5; refine HLD.out.mono ?_; rintro e w1 ⟨t, rfl, hb1, ht, _⟩; obtain rfl := ht HLE.out; have hne : (loadE els != 0) = true := (by simpa using HLE.out); have HB1 := Lib.hid hb1; clear hb1 ht)
      | (go_at_call 8; refine (HAW.out w1 HB1.out).mono ?_; rintro e w2 ⟨rfl, hb2⟩; have HB2 := Lib.hid hb2; clear hb2))
    go_ret
    exact ⟨rfl, HB1.out.trans (HB2.out.mono HB1.out.size)⟩
set_option maxRecDepth 100000 in
set_option maxHeartbeats 16000000 in
theorem depsTree_long (w : World) (v : Value) (xs : List Ev) (hx : ElsAt w.heap.size w v xs) (ia : Option Addr) (ic : Nat) (ids : List Int) (hv : IntsAt w.heap.size w (.slice ia ids.length ic) ids) (hi : ∀ i ∈ ids, I64 i) (haw : Awakes w) (hlong : 60 < ids.length) :
    Calls Tryz.prog 4 #[v, .slice ia ids.length ic] w fun e w' => e = .returned (.bool true) ∧ Below w.heap.size w w' := by
  have hicap : ids.length ≤ ic := by obtain ⟨_, _, e, h, _⟩ := hv; cases e; exact h
  obtain ⟨I, hI⟩ : ∃ I, I = ids.take 60 := ⟨_, rfl⟩
  have HVT : Hid (IntsAt w.heap.size w (.slice ia 60 ic) I) := Lib.hid (by rw [hI]; exact ints_take hv 60 (by omega) (by omega))
  have HIL : Hid (∀ i ∈ I, I64 i) := Lib.hid (fun i h => hi i (by rw [hI] at h; exact List.mem_of_mem_take h))
  have HIE : Hid (I.length = 60) := Lib.hid (by rw [hI]; simp; omega)
  have HSX : Hid ((60 : Nat) ≤ 60) := Lib.hid (by omega)
  have HAW := Lib.hid haw
  have HLD := Lib.hid (load_any w v xs hx)
  have hnn : ((60 : Nat) : Int) ≤ 60 := by omega
  have hq : decide ((60 : Int) < (ids.length : Int)) = true := (by simp; omega)
  have hcap2 : (60 : Int) ≤ 60 := by omega
  skip
  clear hx hv hi haw hI
  generalize xs.map (·.el) = els at HLD
  by_cases hle : loadE els = 0
  · have HLE := Lib.hid hle
    clear hle
    go_enter Tryz.func4, Tryz.ntmps4
    go_wp2_with (first
      | (go_at_call 5; refine HLD.out.mono ?_; rintro e w1 ⟨t, rfl, hb1, _, ht⟩; obtain ⟨B, N, T, ns, next, rfl, hels, hT, hwh⟩ := ht HLE.out; rw [HLE.out]; have HB1 := Lib.hid hb1; have HT := Lib.hid hT; have HWH := Lib.hid hwh; clear hb1 ht hels hT hwh)
      | (go_at_call 12; refine (elems_any w1 _ B N T ns _ next HT.out (Nat.le_refl _) HWH.out.fits.ids).mono ?_; rintro e w2 ⟨v2, ys0, rfl, hv2, hp2, hb2⟩; have HV2 := Lib.hid hv2; have HP2 := Lib.hid hp2; have HB2 := Lib.hid hb2; have HT2 := Lib.hid (HT.out.below hb2 (Nat.le_refl _)); clear hv2 hp2 hb2)
      | (go_at_call 13; refine (next_any w2 _ B N T ns _ next HT2.out).mono ?_; rintro e w2' ⟨rfl, rfl⟩)
      | (go_at_call 11; refine (row_load w2 v2 ys0 next HV2.out (by have := HP2.out.length_eq; simp only [List.length_map] at this; rw [this]; exact HT2.out.len)).mono ?_; rintro e w3 ⟨TR, ys, rfl, hr3, he3, hb3⟩; have HR3 := Lib.hid hr3; have HE3 := Lib.hid he3; have HB3 := Lib.hid hb3; have HT3 := Lib.hid (HT2.out.below hb3 HB2.out.size); clear hr3 he3 hb3)
      | (go_at_call 7; refine (closure_any w3 _ B N T ns _ next HT3.out (Nat.le_trans HB2.out.size HB3.out.size) HWH.out (.slice ia 60 ic) I ((HVT.out.keep ((HB1.out.trans (HB2.out.mono HB1.out.size)).trans (HB3.out.mono (Nat.le_trans HB1.out.size HB2.out.size)))).mono (Nat.le_trans HB1.out.size (Nat.le_trans HB2.out.size HB3.out.size))) HIL.out (by rw [HIE.out]; have := HSX.out; omega)).mono ?_; rintro e w4 ⟨v4, rfl, hv4, hb4⟩; obtain ⟨ca, cc, rfl⟩ := RowAt.slice (IntsFrom.at_ hv4); have HV4 := Lib.hid hv4; have HB4 := Lib.hid hb4; have HR4 := Lib.hid (HR3.out.keep hb4); obtain ⟨rv, hrt, hrow⟩ := HR4.out.t; obtain ⟨ra, rc, rfl⟩ := RowAt.slice hrow; have HROW := Lib.hid hrow; have cR : w4.cell? ⟨TR, 0, none⟩ = some (.slice ra ys.length rc) := blk_cell hrt 0 _ rfl; clear hv4 hb4 hrt hrow))
    have HB04 : Hid (Below w.heap.size w w4) := Lib.hid (((HB1.out.trans (HB2.out.mono HB1.out.size)).trans (HB3.out.mono (Nat.le_trans HB1.out.size HB2.out.size))).trans (HB4.out.mono (Nat.le_trans HB1.out.size (Nat.le_trans HB2.out.size HB3.out.size))))
    have HEP : Hid ((ys.map (·.el)).Perm (ns.map (·.1))) := Lib.hid (by rw [HE3.out]; exact HP2.out)
    have HNP : Hid ((ndsV ys).Perm (ndsOf ns)) := Lib.hid (nds_of_perm HEP.out)
    have HLENS : Hid (ys.length = ns.length) := Lib.hid (by have := HEP.out.length_eq; simpa using this)
    have HYN : Hid (((ndsV ys).map Nd.id).Nodup) := Lib.hid (((HNP.out.map Nd.id).nodup_iff).2 HWH.out.fits.ids)
    have HPRE : Hid (∀ f x, pre (ndsV ys) f x = pre (ndsOf ns) f x) := Lib.hid (pre_congr fun x => fnd_perm HWH.out.fits.ids HNP.out x)
    have HFND : Hid (∀ x, fnd (ndsV ys) x = fnd (ndsOf ns) x) := Lib.hid (fun x => fnd_perm HWH.out.fits.ids HNP.out x)
    have HPL : Hid (∀ x, (pre (ndsOf ns) ns.length x).length ≤ 256) := Lib.hid (by
      intro x
      have hlen := HT.out.len
      cases hn : fnd (ndsOf ns) x with
      | none => rw [pre_none hn]; exact Nat.zero_le _
      | some n =>
        have := (whole_deep HWH.out hn).2
        rw [nds_len] at this
        omega)
    have HRB : Hid (∀ z wx, Below w4.heap.size w4 wx → Calls Tryz.prog 14 #[.pointer (some ⟨TR, 0, none⟩), .int .i64 z] wx fun e w' => ∃ v, e = .returned v ∧ IntsFrom wx.heap.size w'.heap.size w' v (pre (ndsOf ns) ns.length z) ∧ Below wx.heap.size wx w') := Lib.hid (by
      intro z wx hb
      have h1 := rbelow_any w3.heap.size TR ys next HYN.out ns.length z wx (HR4.out.keep (hb.mono HB4.out.size)) (Nat.le_trans HB4.out.size hb.size) (by
        rw [HFND.out z]
        cases hn : fnd (ndsOf ns) z with
        | none => exact .inl rfl
        | some n =>
          have h2 := (whole_deep HWH.out hn).1
          rw [nds_len] at h2
          exact .inr ((deep_congr HFND.out _ _).2 h2)) (by rw [HPRE.out]; exact HPL.out z)
      rw [HPRE.out] at h1
      exact h1)
    have HCN : Hid (∀ n ∈ ndsOf ns, (cloL (ndsOf ns) (rootOf (ndsOf ns)) I).count n.id = if (∃ i ∈ I, n.id ∈ pre (ndsOf ns) ns.length i) then 1 else 0) := Lib.hid (fun n hn => by
      have := clo_count HWH.out.fits HWH.out.len I hn
      rw [nds_len] at this
      exact this)
    have HCL : Hid ((cloL (ndsOf ns) (rootOf (ndsOf ns)) I).length ≤ 256) := Lib.hid (by
      have h1 : (cloL (ndsOf ns) (rootOf (ndsOf ns)) I).length ≤ (pre (ndsOf ns) (ndsOf ns).length (rootOf (ndsOf ns))).length := List.length_filter_le _ _
      rw [nds_len] at h1
      exact Nat.le_trans h1 (HPL.out _))
    have HYI : Hid (∀ k, ∀ h : k < ys.length, ∃ n ∈ ndsOf ns, n.id = ys[k].el.id) := Lib.hid (fun k h => ⟨ys[k].el.nd, HNP.out.mem_iff.1 (List.mem_map_of_mem (f := fun x : Ev => x.el.nd) (List.getElem_mem h)), rfl⟩)
    have hyl : (ys.length : Int) ≤ 256 := by rw [HLENS.out]; have := HT.out.len; omega
    have hcl : ((cloL (ndsOf ns) (rootOf (ndsOf ns)) I).length : Int) ≤ 256 := by have := HCL.out; omega
    have hil : (I.length : Int) ≤ 60 := by rw [HIE.out]; omega
    generalize cloL (ndsOf ns) (rootOf (ndsOf ns)) I = CL at HV4 HCN HCL hcl ⊢
    clear HNP HYN HPRE HFND HWH HEP HE3 HP2 HV2 HT2 HT3 HT HR3
    clear cR
    go_loopw [49] (fun i wr => ∃ k : Nat, k ≤ ys.length ∧ i = .int .i64 k ∧ Below w4.heap.size w4 wr) (fun i _ => ys.length - (intOf i).toNat)
    case atStart => exact ⟨0, Nat.zero_le _, rfl, Below.refl _ _⟩
    case round =>
      obtain ⟨k, hk, rfl, hb⟩ := hrel
      have HB := Lib.hid hb; have HK := Lib.hid hk
      clear hb
      by_cases hlt : k < ys.length
      · obtain ⟨bx, off, rfl, hbx, hrx⟩ := RowAt.place HROW.out (by omega)
        obtain ⟨y, hy⟩ : ∃ y, ys[k] = y := ⟨_, rfl⟩
        have hym : y ∈ ys := by rw [← hy]; exact List.getElem_mem hlt
        have HEL : Hid (∀ j u, y.cells.toList[j]? = some u → wr.cell? ⟨bx, off + k * 11 + j, none⟩ = some u) := Lib.hid (by
          intro j u hu
          rw [(bcell HB.out).1 bx _ (Nat.lt_of_lt_of_le hbx HB4.out.size)]
          have := elem_cells hrx hlt
          rw [hy] at this
          exact this j u hu)
        have HONE : Hid (y.kv.oneCell' = true ∧ y.av.oneCell' = true) := Lib.hid ⟨at_one (HR4.out.kids y hym), HR4.out.one y hym⟩
        have HCY : Hid (CL.count y.el.id = if (∃ i ∈ I, y.el.id ∈ pre (ndsOf ns) ns.length i) then 1 else 0) := Lib.hid (by
          obtain ⟨n, hn, e⟩ := HYI.out k hlt
          rw [hy] at e
          rw [← e]
          exact HCN.out n hn)
        clear hy hym hrx hbx
        go_wp2_with (first
          | (refine wpList_load_range rfl 47 _ rfl bx (off + k * 11) rfl y.cells _ HEL.out Tryz.underlying47 rfl size47 ?_)
          | (refine wpl_alloc rfl 47 rfl _ (zero47 _) ?_; intro w5 hs5 hc5 hb5; have HS5 := Lib.hid hs5; have HC5 := Lib.hid hc5; have HB5 := Lib.hid hb5; clear hs5 hc5 hb5)
          | (refine wpl_store_el rfl _ _ rfl wr.heap.size y rfl rfl _ HC5.out rfl HONE.out ?_; intro w6 hs6 hc6 hf6; have HC6 := Lib.hid hc6; have HS6 := Lib.hid hs6; have HB6 := Lib.hid (HB5.out.trans (hf6.below (by have := HS5.out; omega) (Nat.le_refl _))); clear hs6 hc6 hf6))
        have HB46 : Hid (Below w4.heap.size w4 w6) := Lib.hid (HB.out.trans (HB6.out.mono HB.out.size))
        have HB06 : Hid (Below w.heap.size w w6) := Lib.hid (HB04.out.trans (HB46.out.mono HB04.out.size))
        have HD6 : Hid (wr.heap.size < w6.heap.size) := Lib.hid (lt_of_block HC6.out)
        obtain ⟨D, hD⟩ : ∃ D, D = wr.heap.size := ⟨_, rfl⟩
        rw [← hD] at HC6 HD6 ⊢
        have HDB : Hid (w4.heap.size ≤ wr.heap.size) := Lib.hid HB.out.size
        clear HB hD
        go_loopw [55, 11] (fun i b wr => ∃ (m : Nat) (bb : Bool), m ≤ I.length ∧ i = .int .i64 m ∧ b = .bool bb ∧ (bb = true ↔ ∃ z ∈ I.take m, y.el.id ∈ pre (ndsOf ns) ns.length z) ∧ Below w6.heap.size w6 wr) (fun i _ _ => I.length - (intOf i).toNat)
        case atStart => exact ⟨0, false, Nat.zero_le _, rfl, rfl, by simp, Below.refl _ _⟩
        case round =>
          obtain ⟨m, bb, hm, rfl, rfl, hbb, hbl⟩ := hrel
          have HBB := Lib.hid hbb; have HBL := Lib.hid hbl; have HM := Lib.hid hm
          clear hbb hbl
          by_cases hlm : m < I.length
          · obtain ⟨ib, ioff, hia, hib, hir⟩ := RowAt.place (a := ia) (cap := ic) (n := I.length) (by have := HVT.out; unfold IntsAt at this; rw [← HIE.out] at this; exact this) (by omega)
            subst hia
            have hic : wr.cell? ⟨ib, ioff + m, none⟩ = some (.int .i64 I[m]) := ((bcell (HB06.out.trans (HBL.out.mono HB06.out.size))).1 ib _ hib).trans (ints_cell hir hlm)
            have htk := take_snoc hlm
            have hlm2 : m < 60 := by rw [← HIE.out]; exact hlm
            generalize I[m] = z at hic htk
            have HTK := Lib.hid htk
            have HRZ := Lib.hid (HRB.out z wr (HB46.out.trans (HBL.out.mono HB46.out.size)))
            clear htk hir hib
            go_wp2_with (go_at_call 14; refine HRZ.out.mono ?_; rintro e w7 ⟨v7, rfl, hv7, hb7⟩; obtain ⟨pa, pc, rfl⟩ := RowAt.slice (IntsFrom.at_ hv7); have HV7 := Lib.hid hv7; have HB7 := Lib.hid hb7; clear hv7 hb7)
            have hpl : ((pre (ndsOf ns) ns.length z).length : Int) ≤ 256 := by have := HPL.out z; omega
            have HB67 : Hid (Below w6.heap.size w6 w7) := Lib.hid (HBL.out.trans (HB7.out.mono HBL.out.size))
            have c0 : w7.cell? ⟨D, 0, none⟩ = some (.int .i64 y.el.id) := blk_cell ((HB67.out.block D HD6.out).trans HC6.out) 0 _ rfl
            generalize hP : pre (ndsOf ns) ns.length z = P at HV7 hpl ⊢
            have HP := Lib.hid hP
            clear hP HRZ
            go_loop [63, 11] (fun i b => ∃ (j : Nat) (b2 : Bool), j ≤ P.length ∧ i = .int .i64 j ∧ b = .bool b2 ∧ (b2 = true ↔ bb = true ∨ y.el.id ∈ P.take j)) (fun i _ => P.length - (intOf i).toNat)
            case atStart => exact ⟨0, bb, Nat.zero_le _, rfl, rfl, by simp⟩
            case round =>
              obtain ⟨j, b2, hj, rfl, rfl, hb2⟩ := hrel
              have HB2' := Lib.hid hb2; have HJ := Lib.hid hj
              clear hb2
              by_cases hlj : j < P.length
              · obtain ⟨pb, poff, rfl, hpb, hpr⟩ := RowAt.place (IntsFrom.at_ HV7.out) (by omega)
                have hpc : w7.cell? ⟨pb, poff + j, none⟩ = some (.int .i64 P[j]) := ints_cell hpr hlj
                have htp := take_snoc hlj
                generalize P[j] = q at hpc htp
                have HTP := Lib.hid htp
                clear htp hpr hpb
                cases b2 with
                | true =>
                  go_wp2
                  exact ⟨⟨j + 1, true, by omega, by go_num, rfl, by rw [HTP.out]; have := HB2'.out.1 rfl; simp only [List.mem_append, true_iff]; exact this.imp id .inl⟩, by simp [intOf]; omega⟩
                | false =>
                  by_cases hqe : q = y.el.id
                  · have hq1 : (q == y.el.id) = true := by simpa using hqe
                    have HQE := Lib.hid hqe
                    clear hqe
                    go_wp2
                    exact ⟨⟨j + 1, true, by omega, by go_num, rfl, by rw [HTP.out, ← HQE.out]; simp⟩, by simp [intOf]; omega⟩
                  · have hq1 : (q == y.el.id) = false := by simpa using hqe
                    have HQE := Lib.hid hqe
                    clear hqe
                    go_wp2
                    refine ⟨⟨j + 1, false, by omega, by go_num, rfl, ?_⟩, by simp [intOf]; omega⟩
                    rw [HTP.out, List.mem_append, List.mem_singleton, HB2'.out]
                    exact ⟨fun h => h.imp id .inl, fun h => h.imp id fun h => h.resolve_right fun e => HQE.out e.symm⟩
              · have hje : j = P.length := by have := HJ.out; omega
                have HB3' : Hid (b2 = true ↔ bb = true ∨ y.el.id ∈ P) := Lib.hid (by have := HB2'.out; rw [hje, List.take_length] at this; exact this)
                clear hje
                go_wp2
                go_roundw
                case rel =>
                  refine ⟨m + 1, b2, by omega, by go_num, rfl, ?_, HB67.out⟩
                  rw [HB3'.out, HBB.out, HTK.out, ← HP.out]
                  simp only [List.mem_append, List.mem_singleton, or_and_right, exists_or, exists_eq_left]
                case measure => simp [intOf]; omega
          · have hme : m = I.length := by have := HM.out; omega
            have hlm2 : ¬ m < 60 := by rw [← HIE.out]; exact hlm
            have HBI : Hid (bb = true ↔ ∃ z ∈ I, y.el.id ∈ pre (ndsOf ns) ns.length z) := Lib.hid (by have := HBB.out; rw [hme, List.take_length] at this; exact this)
            have c0 : wr.cell? ⟨D, 0, none⟩ = some (.int .i64 y.el.id) := blk_cell ((HBL.out.block D HD6.out).trans HC6.out) 0 _ rfl
            have HVC : Hid (IntsFrom w3.heap.size w4.heap.size wr (.slice ca CL.length cc) CL) := Lib.hid (RowFrom.keep HV4.out fun q h1 h2 => (HB46.out.trans (HBL.out.mono HB46.out.size)).block q h2)
            clear hme
            go_wp2
            go_loop [78, 16] (fun i n => ∃ j : Nat, j ≤ CL.length ∧ i = .int .i64 j ∧ n = .int .i64 ((CL.take j).count y.el.id : Nat)) (fun i _ => CL.length - (intOf i).toNat)
            case atStart => exact ⟨0, Nat.zero_le _, rfl, rfl⟩
            case round =>
              obtain ⟨j, hj, rfl, rfl⟩ := hrel
              have HJ := Lib.hid hj
              have hcc : (((CL.take j).count y.el.id : Nat) : Int) ≤ 256 := by
                have h1 := List.count_le_length (a := y.el.id) (l := CL.take j)
                have h2 : (CL.take j).length ≤ CL.length := by simp; omega
                have := HCL.out
                omega
              obtain ⟨cn, hcn⟩ : ∃ cn : Nat, (CL.take j).count y.el.id = cn := ⟨_, rfl⟩
              rw [hcn] at hcc ⊢
              have HCNT := Lib.hid hcn
              clear hcn
              by_cases hlj : j < CL.length
              · obtain ⟨pb, poff, rfl, hpb, hpr⟩ := RowAt.place (IntsFrom.at_ HVC.out) (by omega)
                have hpc : wr.cell? ⟨pb, poff + j, none⟩ = some (.int .i64 CL[j]) := ints_cell hpr hlj
                have htp := take_snoc hlj
                generalize CL[j] = q at hpc htp
                have HTP := Lib.hid htp
                clear htp hpr hpb
                by_cases hqe : q = y.el.id
                · have hq1 : (q == y.el.id) = true := by simpa using hqe
                  have HQE := Lib.hid hqe
                  clear hqe
                  go_wp2
                  exact ⟨⟨j + 1, by omega, by go_num, by rw [HTP.out, List.count_append, HCNT.out, HQE.out, List.count_singleton_self]; simp⟩, by simp [intOf]; omega⟩
                · have hq1 : (q == y.el.id) = false := by simpa using hqe
                  have HQE := Lib.hid hqe
                  clear hqe
                  go_wp2
                  exact ⟨⟨j + 1, by omega, by go_num, by rw [HTP.out, List.count_append, HCNT.out, List.count_singleton, if_neg (by simpa using HQE.out)]; simp⟩, by simp [intOf]; omega⟩
              · have hje : j = CL.length := by have := HJ.out; omega
                have HCF : Hid (cn = if (∃ i ∈ I, y.el.id ∈ pre (ndsOf ns) ns.length i) then 1 else 0) := Lib.hid (by rw [← HCNT.out, hje, List.take_length]; exact HCY.out)
                clear hje
                have HBW : Hid (Below w4.heap.size w4 wr) := Lib.hid (HB46.out.trans (HBL.out.mono HB46.out.size))
                cases bb with
                | true =>
                  have hc1 : cn = 1 := by rw [HCF.out, if_pos (HBI.out.1 rfl)]
                  subst hc1
                  go_wp2
                  go_roundw
                  case rel => exact ⟨k + 1, by omega, by go_num, HBW.out⟩
                  case measure => simp [intOf]; omega
                | false =>
                  have hc1 : cn = 0 := by rw [HCF.out, if_neg (fun h => by have := HBI.out.2 h; cases this)]
                  subst hc1
                  go_wp2
                  go_roundw
                  case rel => exact ⟨k + 1, by omega, by go_num, HBW.out⟩
                  case measure => simp [intOf]; omega
      · have HBW : Hid (Below w.heap.size w wr) := Lib.hid (HB04.out.trans (HB.out.mono HB04.out.size))
        go_wp2_with (go_at_call 8; refine (HAW.out wr HBW.out).mono ?_; rintro e w9 ⟨rfl, hb9⟩; have HB9 := Lib.hid hb9; clear hb9)
        go_ret
        exact ⟨rfl, HBW.out.trans (HB9.out.mono HBW.out.size)⟩
  · have HLE := Lib.hid hle
    clear hle
    go_enter Tryz.func4, Tryz.ntmps4
    go_wp2_with (first
      | (go_at_call 5; refine HLD.out.mono ?_; rintro e w1 ⟨t, rfl, hb1, ht, _⟩; obtain rfl := ht HLE.out; have hne : (loadE els != 0) = true := (by simpa using HLE.out); have HB1 := Lib.hid hb1; clear hb1 ht)
      | (go_at_call 8; refine (HAW.out w1 HB1.out).mono ?_; rintro e w2 ⟨rfl, hb2⟩; have HB2 := Lib.hid hb2; clear hb2))
    go_ret
    exact ⟨rfl, HB1.out.trans (HB2.out.mono HB1.out.size)⟩
/-- The law DepsTree answers true. -/
theorem depsTree_any (w : World) (v vi : Value) (xs : List Ev) (hx : ElsAt w.heap.size w v xs) (ids : List Int) (hv : IntsAt w.heap.size w vi ids) (hi : ∀ i ∈ ids, I64 i) (haw : Awakes w) :
    Calls Tryz.prog 4 #[v, vi] w fun e w' => e = .returned (.bool true) ∧ Below w.heap.size w w' := by
  obtain ⟨ia, ic, rfl⟩ := RowAt.slice hv
  by_cases h : ids.length ≤ 60
  · exact depsTree_short w v xs hx ia ic ids hv hi haw h
  · exact depsTree_long w v xs hx ia ic ids hv hi haw (by omega)
end Go.Proofs.YthbmnacleneflaaGreatDoor
/-
  What the readings of the arguments tell: rows of elements, of numbers, of pairs of texts in memory, their lengths within the reach. No condition of its own.
-/
set_option linter.unusedSimpArgs false
set_option linter.unusedVariables false
namespace Go.Proofs.YthbmnacleneflaaGreatDoor
open Go Go.RowKit Go.ChangeShapes Go.WideShapes

theorem len2 {cs : List Value} (h : cs.length = 2) : ∃ a b, cs = [a, b] := by
  match cs, h with
  | [a, b], _ => exact ⟨a, b, rfl⟩
theorem len6 {cs : List Value} (h : cs.length = 6) : ∃ a b c d e f, cs = [a, b, c, d, e, f] := by
  match cs, h with
  | [a, b, c, d, e, f], _ => exact ⟨a, b, c, d, e, f, rfl⟩
theorem len11 {cs : List Value} (h : cs.length = 11) : ∃ a0 a1 a2 a3 a4 a5 a6 a7 a8 a9 a10, cs = [a0, a1, a2, a3, a4, a5, a6, a7, a8, a9, a10] := by
  match cs, h with
  | [a0, a1, a2, a3, a4, a5, a6, a7, a8, a9, a10], _ => exact ⟨a0, a1, a2, a3, a4, a5, a6, a7, a8, a9, a10, rfl⟩
section
variable {H : Type} {enc : TypeId × Value → H} {w : World} {held : Bool}

/-- All that a datum weighs lies within the reach. -/
def Bd (P : Program) (t : TypeId) (d : DataW H) : Prop := ∀ n ∈ d.weights P t, n ≤ reachBytes
theorem weightsAll_mem {P : Program} {e : TypeId} : ∀ {l : List (DataW H)} {d : DataW H}, d ∈ l → ∀ n ∈ d.weights P e, n ∈ DataW.weightsAll P e l
  | [], _, h, _, _ => by cases h
  | a :: l, d, h, n, hn => by
    simp only [DataW.weightsAll, List.mem_append]
    rcases List.mem_cons.1 h with rfl | h
    · exact Or.inl hn
    · exact Or.inr (weightsAll_mem h n hn)
theorem Bd.elem {P : Program} {t e : TypeId} (ht : P.underlying t = some (.slice e)) {l s : List (DataW H)} (h : Bd P t (.slice l s)) {d : DataW H} (hd : d ∈ l) : Bd P e d := fun n hn =>
  h n (by simp only [DataW.weights, ht, List.mem_cons, List.mem_append]; exact Or.inr (Or.inl (weightsAll_mem hd n hn)))
theorem Bd.len {P : Program} {t e : TypeId} (ht : P.underlying t = some (.slice e)) {l s : List (DataW H)} (h : Bd P t (.slice l s)) : (l.length + s.length) * P.bytesOf e ≤ reachBytes :=
  h _ (by simp [DataW.weights, ht])
theorem Bd.field {P : Program} {t : TypeId} {fs : Array Field} {l : List (DataW H)} (ht : P.underlying t = some (.struct fs)) (h : Bd P t (.agg l)) {i : Nat} {f : Field} {d : DataW H} (hf : fs[i]? = some f) (hd : l[i]? = some d) : Bd P f.type d := fun n hn =>
  h n (by
    simp only [DataW.weights, ht]
    exact DataW.weights_mem_each (j := i) (by rw [List.getElem?_map]; simp [hf]) hd n hn)

/-- Where a cell of a row of equal pieces comes from. -/
theorem flat_get {α : Type} {cells : α → List Value} {k : Nat} (hk : 0 < k) (hl : ∀ a, (cells a).length = k) : ∀ {l : List α} {j : Nat} {u : Value}, (l.flatMap cells)[j]? = some u → ∃ i q a, j = i * k + q ∧ q < k ∧ l[i]? = some a ∧ (cells a)[q]? = some u
  | [], j, u, h => by simp at h
  | b :: l, j, u, h => by
    rw [List.flatMap_cons] at h
    by_cases hj : j < k
    · rw [List.getElem?_append_left (by rw [hl]; exact hj)] at h
      exact ⟨0, j, b, by omega, hj, rfl, h⟩
    · rw [List.getElem?_append_right (by rw [hl]; omega), hl] at h
      obtain ⟨i, q, a, h1, h2, h3, h4⟩ := flat_get hk hl h
      exact ⟨i + 1, q, a, by rw [Nat.succ_mul]; omega, h2, h3, h4⟩
theorem add_plain (a : Addr) (n : Nat) (h : a.spot = none) : a.add n = ⟨a.block, a.off + n, none⟩ := by
  unfold Addr.add
  split
  · subst_vars
    cases a
    simp at h ⊢
    exact h
  · rfl
theorem cell_plain {w : World} {a : Addr} {v : Value} (h : w.cell? a = some v) : a.spot = none ∧ a.block < w.heap.size := by
  unfold World.cell? at h
  split at h
  · rename_i hb
    refine ⟨?_, (Array.getElem?_eq_some_iff.1 hb).1⟩
    split at h
    · cases h
    · rename_i hs
      cases hq : a.spot with
      | none => rfl
      | some _ => simp [hq] at hs
  · cases h

/-- A row of data of one kind: its cells in memory, what is known of each, its length. -/
theorem open_row {P : Program} {α : Type} [Inhabited α] (cells : α → List Value) (ok : α → Prop) {k : Nat} (hk : 0 < k) {t e : TypeId} {fuel : Nat} {cs : List Value} {x : DataW H × List MemPlace} (ht : P.underlying t = some (.slice e)) (hc : P.cellsOf e = k)
    (hl : ∀ a, (cells a).length = k) (one : ∀ n cs' y, DataW.trod enc P w 0 (fun _ => true) held n e cs' = some y → Bd P e y.1 → ∃ a, cs' = cells a ∧ ok a)
    (h : DataW.trod enc P w 0 (fun _ => true) held fuel t cs = some x) (hb : Bd P t x.1) : ∃ (v : Value) (l : List α), cs = [v] ∧ RowAt w.heap.size w v l.length (l.flatMap cells) ∧ (∀ a ∈ l, ok a) ∧ l.length * P.bytesOf e ≤ reachBytes := by
  rcases Deep.open_slice ht h with ⟨rfl, rfl⟩ | ⟨a, len, cap, m, n, D, Pl, rfl, _, hle, hcap, hm, rfl, hx⟩
  · exact ⟨_, [], rfl, ⟨none, 0, rfl, Nat.le_refl _, Nat.zero_le _, Or.inl ⟨rfl, rfl, fun _ => rfl⟩⟩, (fun _ h => by cases h), by simp⟩
  · have hlm : len ≤ m := by rw [hm]; split <;> omega
    have each : ∀ i, i < len → ∃ y : α, w.cells? 0 (a.add (i * k)) k = some (cells y) ∧ ok y := fun i hi => by
      obtain ⟨cs', h1, h2⟩ := hx i (by omega)
      obtain ⟨y, rfl, h3⟩ := one _ _ _ h2 (hb.elem ht (List.mem_map.2 ⟨i, List.mem_range.2 hi, rfl⟩))
      rw [hc] at h1
      exact ⟨y, h1, h3⟩
    obtain ⟨A, hA⟩ := Deep.choose_lt each
    have hlen : ((List.range len).map A).length = len := by simp
    refine ⟨_, (List.range len).map A, rfl, ⟨some a, cap, by rw [hlen], by omega, hcap, ?_⟩, fun y hy => ?_, ?_⟩
    · rw [hlen]
      by_cases h0 : len = 0
      · subst h0
        exact Or.inl ⟨rfl, rfl, fun h => by cases h⟩
      · refine Or.inr ⟨by omega, ?_⟩
        have c0 := (World.cells?_some (hA 0 (by omega)).1).2.2 0 hk
        have cA : (cells (A 0))[0]? = some ((cells (A 0))[0]'(by rw [hl]; exact hk)) := List.getElem?_eq_getElem _
        rw [Nat.zero_mul] at c0
        rw [cA] at c0
        have ha : (a.add 0).add 0 = a := rfl
        rw [ha] at c0
        obtain ⟨hs, hbl⟩ := cell_plain c0
        refine ⟨a.block, a.off, by cases a; simp at hs ⊢; exact hs, hbl, fun j u hj => ?_⟩
        obtain ⟨i, q, y, rfl, hq, hi, hy⟩ := flat_get hk hl hj
        have hil : i < len := by
          have := (List.getElem?_eq_some_iff.1 hi).1
          simpa using this
        have := (World.cells?_some (hA i hil).1).2.2 q hq
        rw [Deep.add_add, add_plain _ _ hs] at this
        rw [List.getElem?_map, List.getElem?_range hil] at hi
        obtain rfl : A i = y := by simpa using hi
        rw [this]
        exact hy
    · obtain ⟨i, hi, rfl⟩ := List.mem_map.1 hy
      exact (hA i (List.mem_range.1 hi)).2
    · have := hb.len ht
      rw [hlen]
      simp only [List.length_map, List.length_range] at this
      exact Nat.le_trans (Nat.mul_le_mul_right _ (by omega)) this

variable {n : Nat} {cs : List Value} {y : DataW H × List MemPlace}
theorem struct_open {P : Program} {t : TypeId} {fs : Array Field} {k : Nat} (ht : P.underlying t = some (.struct fs)) (hc : P.cellsOf t = k) (h : DataW.trod enc P w 0 (fun _ => true) held n t cs = some y) :
    ∃ (xs : List (DataW H × List MemPlace)) (m : Nat), y.1 = .agg (xs.map (·.1)) ∧ cs.length = k ∧ xs.length = fs.size ∧
      ∀ (i : Nat) (f : Field), fs[i]? = some f → DataW.trod enc P w 0 (fun _ => true) held m f.type ((cs.drop f.offset).take (P.cellsOf f.type)) = xs[i]? := by
  obtain ⟨xs, m, _, e, hl, hx, hf⟩ := DataW.trod_struct ht h
  exact ⟨xs, m, by rw [e], by rw [hl, hc], hx, hf⟩
theorem one_i64 {t : TypeId} (ht : Tryz.prog.underlying t = some (.int .i64)) (h : DataW.trod enc Tryz.prog w 0 (fun _ => true) held n t cs = some y) : ∃ i : Int, cs = [.int .i64 i] ∧ I64 i := by
  obtain ⟨i, rfl, _, hw⟩ := DataW.trod_int ht h
  refine ⟨i, rfl, ?_⟩
  simp only [Lit.wf, Bool.and_eq_true, decide_eq_true_eq] at hw
  exact hw
theorem one_str (h : DataW.trod enc Tryz.prog w 0 (fun _ => true) held n 9 cs = some y) : ∃ s : ByteArray, cs = [.string s] ∧ s.size ≤ maxLen := by
  obtain ⟨s, rfl, _, hw⟩ := DataW.trod_string Tryz.underlying9 h
  exact ⟨s, rfl, hw⟩
theorem cells3 : Tryz.prog.cellsOf 3 = 1 := by kernel_rfl
theorem cells2 : Tryz.prog.cellsOf 2 = 1 := by kernel_rfl
theorem cells9 : Tryz.prog.cellsOf 9 = 1 := by kernel_rfl
theorem cells23 : Tryz.prog.cellsOf 23 = 1 := by kernel_rfl
theorem cells41 : Tryz.prog.cellsOf 41 = 1 := by kernel_rfl
theorem cells43 : Tryz.prog.cellsOf 43 = 2 := by kernel_rfl
theorem cells45 : Tryz.prog.cellsOf 45 = 6 := by kernel_rfl
theorem cells47 : Tryz.prog.cellsOf 47 = 11 := by kernel_rfl
theorem cells81 : Tryz.prog.cellsOf 81 = 2 := by kernel_rfl
theorem bytes3 : Tryz.prog.bytesOf 3 = 8 := by kernel_rfl
theorem bytes81 : Tryz.prog.bytesOf 81 = 32 := by kernel_rfl
/-- A row of numbers. -/
theorem read_ints (h : DataW.trod enc Tryz.prog w 0 (fun _ => true) held n 23 cs = some y) (hb : Bd Tryz.prog 23 y.1) :
    ∃ (v : Value) (l : List Int), cs = [v] ∧ IntsAt w.heap.size w v l ∧ (∀ i ∈ l, I64 i) ∧ l.length * 8 ≤ 140737488355328 := by
  obtain ⟨v, l, rfl, hr, ho, hl⟩ := open_row (fun i : Int => [Value.int .i64 i]) I64 (by omega) Tryz.underlying23 cells3 (fun _ => rfl) (fun n cs' y h _ => one_i64 Tryz.underlying3 h) h hb
  refine ⟨v, l, rfl, ?_, ho, ?_⟩
  · have e : l.flatMap (fun i : Int => [Value.int .i64 i]) = intCells l := by
      unfold intCells
      clear hr ho hl h
      induction l with
      | nil => rfl
      | cons a l ih => rw [List.flatMap_cons, ih]; rfl
    rw [e] at hr
    exact hr
  · rw [bytes3] at hl
    exact Nat.le_trans hl (by decide)
theorem one_attr (h : DataW.trod enc Tryz.prog w 0 (fun _ => true) held n 81 cs = some y) : ∃ p : ByteArray × ByteArray, cs = [.string p.1, .string p.2] ∧ (p.1.size ≤ maxLen ∧ p.2.size ≤ maxLen) := by
  obtain ⟨xs, m, hy, hlen, hx, hf⟩ := struct_open Tryz.underlying81 cells81 h
  obtain ⟨a, b, rfl⟩ := len2 hlen
  have h0 : DataW.trod enc Tryz.prog w 0 (fun _ => true) held m 9 ((([a, b] : List Value).drop 0).take (Tryz.prog.cellsOf 9)) = xs[0]? := hf 0 _ rfl
  rw [cells9] at h0
  have h1 : DataW.trod enc Tryz.prog w 0 (fun _ => true) held m 9 ((([a, b] : List Value).drop 1).take (Tryz.prog.cellsOf 9)) = xs[1]? := hf 1 _ rfl
  rw [cells9] at h1
  have l2 : xs.length = 2 := hx
  rw [List.getElem?_eq_getElem (by omega)] at h0 h1
  obtain ⟨s0, e0, z0⟩ := one_str h0
  obtain ⟨s1, e1, z1⟩ := one_str h1
  simp at e0 e1
  exact ⟨(s0, s1), by rw [e0, e1], z0, z1⟩
/-- A row of attributes. -/
theorem read_attrs (h : DataW.trod enc Tryz.prog w 0 (fun _ => true) held n 41 cs = some y) (hb : Bd Tryz.prog 41 y.1) :
    ∃ (v : Value) (l : List (ByteArray × ByteArray)), cs = [v] ∧ AttrsAt w.heap.size w v l ∧ (∀ p ∈ l, p.1.size ≤ maxLen ∧ p.2.size ≤ maxLen) ∧ l.length * 32 ≤ 140737488355328 := by
  obtain ⟨v, l, rfl, hr, ho, hl⟩ := open_row (fun p : ByteArray × ByteArray => [Value.string p.1, .string p.2]) (fun p => p.1.size ≤ maxLen ∧ p.2.size ≤ maxLen) (by omega) Tryz.underlying41 cells81 (fun _ => rfl) (fun n cs' y h _ => one_attr h) h hb
  refine ⟨v, l, rfl, hr, ho, ?_⟩
  rw [bytes81] at hl
  exact Nat.le_trans hl (by decide)
theorem one_rat (h : DataW.trod enc Tryz.prog w 0 (fun _ => true) held n 43 cs = some y) : ∃ a b : Int, cs = [.int .i64 a, .int .i64 b] ∧ I64 a ∧ I64 b := by
  obtain ⟨xs, m, hy, hlen, hx, hf⟩ := struct_open Tryz.underlying43 cells43 h
  obtain ⟨a, b, rfl⟩ := len2 hlen
  have h0 : DataW.trod enc Tryz.prog w 0 (fun _ => true) held m 2 ((([a, b] : List Value).drop 0).take (Tryz.prog.cellsOf 2)) = xs[0]? := hf 0 _ rfl
  rw [cells2] at h0
  have h1 : DataW.trod enc Tryz.prog w 0 (fun _ => true) held m 2 ((([a, b] : List Value).drop 1).take (Tryz.prog.cellsOf 2)) = xs[1]? := hf 1 _ rfl
  rw [cells2] at h1
  have l2 : xs.length = 2 := hx
  rw [List.getElem?_eq_getElem (by omega)] at h0 h1
  obtain ⟨s0, e0, z0⟩ := one_i64 Tryz.underlying2 h0
  obtain ⟨s1, e1, z1⟩ := one_i64 Tryz.underlying2 h1
  simp at e0 e1
  exact ⟨s0, s1, by rw [e0, e1], z0, z1⟩
theorem one_box (h : DataW.trod enc Tryz.prog w 0 (fun _ => true) held n 45 cs = some y) : ∃ (bt : Int) (bn : ByteArray) (n1 d1 n2 d2 : Int), cs = [.int .i64 bt, .string bn, .int .i64 n1, .int .i64 d1, .int .i64 n2, .int .i64 d2] ∧ I64 bt ∧ bn.size ≤ maxLen ∧ I64 n1 ∧ I64 d1 ∧ I64 n2 ∧ I64 d2 := by
  obtain ⟨xs, m, hy, hlen, hx, hf⟩ := struct_open Tryz.underlying45 cells45 h
  obtain ⟨a, b, c, d, e, f, rfl⟩ := len6 hlen
  have h0 : DataW.trod enc Tryz.prog w 0 (fun _ => true) held m 3 ((([a, b, c, d, e, f] : List Value).drop 0).take (Tryz.prog.cellsOf 3)) = xs[0]? := hf 0 _ rfl
  rw [cells3] at h0
  have h1 : DataW.trod enc Tryz.prog w 0 (fun _ => true) held m 9 ((([a, b, c, d, e, f] : List Value).drop 1).take (Tryz.prog.cellsOf 9)) = xs[1]? := hf 1 _ rfl
  rw [cells9] at h1
  have h2 : DataW.trod enc Tryz.prog w 0 (fun _ => true) held m 43 ((([a, b, c, d, e, f] : List Value).drop 2).take (Tryz.prog.cellsOf 43)) = xs[2]? := hf 2 _ rfl
  rw [cells43] at h2
  have h3 : DataW.trod enc Tryz.prog w 0 (fun _ => true) held m 43 ((([a, b, c, d, e, f] : List Value).drop 4).take (Tryz.prog.cellsOf 43)) = xs[3]? := hf 3 _ rfl
  rw [cells43] at h3
  have l2 : xs.length = 4 := hx
  rw [List.getElem?_eq_getElem (by omega)] at h0 h1 h2 h3
  obtain ⟨s0, e0, z0⟩ := one_i64 Tryz.underlying3 h0
  obtain ⟨s1, e1, z1⟩ := one_str h1
  obtain ⟨s2, s3, e2, z2, z3⟩ := one_rat h2
  obtain ⟨s4, s5, e4, z4, z5⟩ := one_rat h3
  simp at e0 e1 e2 e4
  exact ⟨s0, s1, s2, s3, s4, s5, by rw [e0, e1, e2.1, e2.2, e4.1, e4.2], z0, z1, z2, z3, z4, z5⟩
theorem one_el (h : DataW.trod enc Tryz.prog w 0 (fun _ => true) held n 47 cs = some y) (hb : Bd Tryz.prog 47 y.1) : ∃ x : Ev, cs = x.cells.toList ∧ (IntsAt w.heap.size w x.kv x.el.kids ∧ AttrsAt w.heap.size w x.av x.el.attrs ∧ x.el.ok) := by
  obtain ⟨xs, m, hy, hlen, hx, hf⟩ := struct_open Tryz.underlying47 cells47 h
  obtain ⟨a0, a1, a2, a3, a4, a5, a6, a7, a8, a9, a10, rfl⟩ := len11 hlen
  have h0 : DataW.trod enc Tryz.prog w 0 (fun _ => true) held m 3 ((([a0, a1, a2, a3, a4, a5, a6, a7, a8, a9, a10] : List Value).drop 0).take (Tryz.prog.cellsOf 3)) = xs[0]? := hf 0 _ rfl
  rw [cells3] at h0
  have h1 : DataW.trod enc Tryz.prog w 0 (fun _ => true) held m 3 ((([a0, a1, a2, a3, a4, a5, a6, a7, a8, a9, a10] : List Value).drop 1).take (Tryz.prog.cellsOf 3)) = xs[1]? := hf 1 _ rfl
  rw [cells3] at h1
  have h2 : DataW.trod enc Tryz.prog w 0 (fun _ => true) held m 9 ((([a0, a1, a2, a3, a4, a5, a6, a7, a8, a9, a10] : List Value).drop 2).take (Tryz.prog.cellsOf 9)) = xs[2]? := hf 2 _ rfl
  rw [cells9] at h2
  have h3 : DataW.trod enc Tryz.prog w 0 (fun _ => true) held m 23 ((([a0, a1, a2, a3, a4, a5, a6, a7, a8, a9, a10] : List Value).drop 3).take (Tryz.prog.cellsOf 23)) = xs[3]? := hf 3 _ rfl
  rw [cells23] at h3
  have h4 : DataW.trod enc Tryz.prog w 0 (fun _ => true) held m 41 ((([a0, a1, a2, a3, a4, a5, a6, a7, a8, a9, a10] : List Value).drop 4).take (Tryz.prog.cellsOf 41)) = xs[4]? := hf 4 _ rfl
  rw [cells41] at h4
  have h5 : DataW.trod enc Tryz.prog w 0 (fun _ => true) held m 45 ((([a0, a1, a2, a3, a4, a5, a6, a7, a8, a9, a10] : List Value).drop 5).take (Tryz.prog.cellsOf 45)) = xs[5]? := hf 5 _ rfl
  rw [cells45] at h5
  have l2 : xs.length = 6 := hx
  have hb' : Bd Tryz.prog 47 (.agg (xs.map (·.1))) := by rw [← hy]; exact hb
  clear hb
  have e3 : xs[3]? = some (xs[3]'(by omega)) := List.getElem?_eq_getElem _
  have e4 : xs[4]? = some (xs[4]'(by omega)) := List.getElem?_eq_getElem _
  have b3 : Bd Tryz.prog 23 (xs[3]'(by omega)).1 := Bd.field (i := 3) (f := { name := "Kids", type := 23, offset := 3, embedded := false, tag := "", pkgPath := "", byteOffset := 32 }) Tryz.underlying47 hb' rfl (by rw [List.getElem?_map, e3]; rfl)
  have b4 : Bd Tryz.prog 41 (xs[4]'(by omega)).1 := Bd.field (i := 4) (f := { name := "Attrs", type := 41, offset := 4, embedded := false, tag := "", pkgPath := "", byteOffset := 56 }) Tryz.underlying47 hb' rfl (by rw [List.getElem?_map, e4]; rfl)
  rw [List.getElem?_eq_getElem (by omega)] at h0 h1 h2 h3 h4 h5
  obtain ⟨s0, e0, z0⟩ := one_i64 Tryz.underlying3 h0
  obtain ⟨s1, e1, z1⟩ := one_i64 Tryz.underlying3 h1
  obtain ⟨s2, e2, z2⟩ := one_str h2
  obtain ⟨kv, ks, e3, hk, ki, kl⟩ := read_ints h3 b3
  obtain ⟨av, ats, e4, ha, ai, al⟩ := read_attrs h4 b4
  obtain ⟨bt, bn, n1, d1, n2, d2, e5, z5, z6, z7, z8, z9, z10⟩ := one_box h5
  simp at e0 e1 e2 e3 e4 e5
  obtain ⟨e5, e6, e7, e8, e9, e10⟩ := e5
  refine ⟨⟨⟨s0, s1, s2, ks, ats, bt, bn, n1, d1, n2, d2⟩, kv, av⟩, ?_, hk, ha, ⟨z0, z1, z2, ki, kl, ai, al, z5, z6, z7, z8, z9, z10⟩⟩
  rw [e0, e1, e2, e3, e4, e5, e6, e7, e8, e9, e10]
  rfl
instance : Inhabited Ev := ⟨⟨⟨0, 0, default, [], [], 0, default, 0, 0, 0, 0⟩, default, default⟩⟩
/-- A row of elements. -/
theorem read_els (h : DataW.trod enc Tryz.prog w 0 (fun _ => true) held n 22 cs = some y) (hb : Bd Tryz.prog 22 y.1) : ∃ (v : Value) (l : List Ev), cs = [v] ∧ ElsAt w.heap.size w v l := by
  obtain ⟨v, l, rfl, hr, ho, hl⟩ := open_row (fun x : Ev => x.cells.toList) (fun x => IntsAt w.heap.size w x.kv x.el.kids ∧ AttrsAt w.heap.size w x.av x.el.attrs ∧ x.el.ok) (by omega) Tryz.underlying22 cells47 (fun _ => rfl) (fun n cs' y h hb => one_el h hb) h hb
  exact ⟨v, l, rfl, hr, fun x hx => (ho x hx).1, fun x hx => (ho x hx).2.1, fun x hx => (ho x hx).2.2⟩
end
end Go.Proofs.YthbmnacleneflaaGreatDoor
