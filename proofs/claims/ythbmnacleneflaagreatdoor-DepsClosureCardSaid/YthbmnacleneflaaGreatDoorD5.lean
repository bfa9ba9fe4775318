/-
  Contract, for a run of one goroutine, of dom's Tree.joined: are the elements one tree. Condition: the elements lie in memory; their numbers differ and are not below nought.
-/
import Derived.Test.YthbmnacleneflaaGreatDoorD4
set_option linter.unusedSimpArgs false
set_option linter.unusedVariables false
set_option linter.unusedSimpArgs false
set_option linter.unusedVariables false
namespace Go.Proofs.YthbmnacleneflaaGreatDoor
open Go Go.RowKit
open Go.Proofs.YthbmnacleneflaaGreatDoor.dt (Nd fnd pre Deep ups Fits Dist fnd_some fnd_mem fnd_neg dist_root dist_kid deep_of pre_len all_dist dist_of_pre oneTree elOk kidOk rootsN kidsN rootOf fits_of root_of_mem cloL length_le_of_sub)

theorem RangeIs.perm {w : World} {B r : Nat} {f rest rest' : List (Int × Nat)} {cnt : Nat} (h : RangeIs w B r f rest cnt) (hp : rest'.Perm rest) : RangeIs w B r f rest' cnt := by
  obtain ⟨D, left, h1, h2, h3, h4, h5⟩ := h
  exact ⟨D, left, h1, h2, fun kl => (h3 kl).trans ⟨fun ⟨p, a, b⟩ => ⟨p, hp.mem_iff.2 a, b⟩, fun ⟨p, a, b⟩ => ⟨p, hp.mem_iff.1 a, b⟩⟩, fun p hm => h4 p (hp.mem_iff.1 hm), ((hp.map (·.1)).nodup_iff).2 h5⟩
theorem pick {rn : Ns} {x : Int} {b : Nat} (h : (x, b) ∈ keysOf rn) : ∃ l1 e l2, rn = l1 ++ (e, b) :: l2 ∧ e.id = x ∧ (keysOf (l1 ++ l2)).Perm ((keysOf rn).erase (x, b)) := by
  obtain ⟨e, he, hid⟩ := key_mem h
  obtain ⟨l1, l2, rfl⟩ := List.append_of_mem he
  refine ⟨l1, e, l2, rfl, hid, ?_⟩
  have h1 : (keysOf (l1 ++ (e, b) :: l2)).Perm ((x, b) :: keysOf (l1 ++ l2)) := by
    simp only [keysOf, List.map_append, List.map_cons, hid]
    exact List.perm_middle
  have h2 := h1.erase (x, b)
  rw [List.erase_cons_head] at h2
  exact h2.symm
theorem oneTree_no {ns : List Nd} {n : Nd} (hn : n ∈ ns) (h : elOk ns n = false) : oneTree ns = false := by
  unfold oneTree
  rw [show ns.all (elOk ns) = false from by
    rw [List.all_eq_false]
    exact ⟨n, hn, by simp [h]⟩]
  rfl
theorem kids_le {ns : List Nd} {n : Nd} (h : elOk ns n = true) : n.kids.length ≤ ns.length := by
  simp only [elOk, Bool.and_eq_true, decide_eq_true_eq, List.all_eq_true] at h
  have := length_le_of_sub n.kids (ns.map Nd.id) h.1.2 fun k hk => by
    have := h.2 k hk
    unfold kidOk at this
    split at this
    · rename_i m hm
      obtain ⟨h1, rfl⟩ := fnd_some hm
      exact List.mem_map_of_mem h1
    · cases this
  simpa using this
theorem kidsN_le {ns : List Nd} {c : Nat} : ∀ l : List Nd, (∀ n ∈ l, elOk ns n = true) → ns.length ≤ c → kidsN l ≤ l.length * c := by
  intro l
  induction l with
  | nil => intro _ _; exact Nat.zero_le _
  | cons a l ih =>
    intro h hc
    have h1 := kids_le (h a List.mem_cons_self)
    have h2 := ih (fun n hn => h n (List.mem_cons_of_mem _ hn)) hc
    have e : kidsN (a :: l) = a.kids.length + kidsN l := by simp [kidsN]
    rw [e, List.length_cons, Nat.succ_mul]
    omega
theorem rootsN_snoc (l : List Nd) (n : Nd) : rootsN (l ++ [n]) = rootsN l + (if n.par == -1 then 1 else 0) := by
  unfold rootsN
  rw [List.countP_append, List.countP_singleton]
theorem kidsN_snoc (l : List Nd) (n : Nd) : kidsN (l ++ [n]) = kidsN l + n.kids.length := by
  unfold kidsN
  simp
theorem ndsOf_append (l m : Ns) : ndsOf (l ++ m) = ndsOf l ++ ndsOf m := by simp [ndsOf]
structure JRel (w : World) (U B N T : Nat) (ns : Ns) (next : Int) (a k : Value) (wr : World) (dn rn : Ns) (rt : Int) (cnt : Nat) : Prop where
  perm : (dn ++ rn).Perm ns
  a : a = .int .i64 ((rootsN (ndsOf dn) : Nat) : Int)
  k : k = .int .i64 ((kidsN (ndsOf dn) : Nat) : Int)
  ok : ∀ n ∈ ndsOf dn, elOk (ndsOf ns) n = true
  rtI : ∀ n ∈ ndsOf dn, n.par = -1 → rootsN (ndsOf dn) = 1 → rt = n.id
  tree : TreeM wr U B N T ns rt next
  rg : RangeIs wr B w.heap.size (keysOf ns) (keysOf rn) cnt
  fr : Frame w.heap.size T w wr
theorem perm_step {dn l1 l2 ns : Ns} {p : El × Nat} (h : (dn ++ (l1 ++ p :: l2)).Perm ns) : ((dn ++ [p]) ++ (l1 ++ l2)).Perm ns := by
  refine List.Perm.trans ?_ h
  rw [List.append_assoc]
  refine List.Perm.append_left dn ?_
  exact (List.perm_middle (a := p) (l₁ := l1) (l₂ := l2)).symm
/-- What is known of kids that were looked at. -/
structure KOk (ns : List Nd) (id : Int) (l : List Int) : Prop where
  nd : l.Nodup
  ok : ∀ k ∈ l, kidOk ns id k = true
theorem KOk.le {ns : List Nd} {id : Int} {l : List Int} (h : KOk ns id l) : l.length ≤ ns.length := by
  have := length_le_of_sub l (ns.map Nd.id) h.nd fun k hk => by
    have := h.ok k hk
    unfold kidOk at this
    split at this
    · rename_i m hm
      obtain ⟨h1, rfl⟩ := fnd_some hm
      exact List.mem_map_of_mem h1
    · cases this
  simpa using this

theorem TreeM.root' {w w' : World} {U B N T : Nat} {ns : Ns} {root next : Int} (h : TreeM w U B N T ns root next) (r : Int) (hb : w'.heap[T]? = some (.cells (#[.map (some B), .int .i64 root, .int .i64 next].setIfInBounds 1 (.int .i64 r)) 51 (0, 0))) (hU : U ≤ w.heap.size) (hf : Frame w.heap.size T w w') : TreeM w' U B N T ns r next :=
  ⟨hb, h.m.kept (hf.2.2.2.2 B (by have := h.bn; have := h.nu; omega) (Ne.symm h.ne)), fun p hp => (h.nodes p hp).keep fun j hj hj2 => hf.2.2.2.2 j (by omega) (by have := h.tn; omega), h.ok, h.tn, h.bn, h.ne, h.nu, h.len⟩
theorem TreeM.next' {w w' : World} {U B N T : Nat} {ns : Ns} {root next : Int} (h : TreeM w U B N T ns root next) (r : Int) (hb : w'.heap[T]? = some (.cells (#[.map (some B), .int .i64 root, .int .i64 next].setIfInBounds 2 (.int .i64 r)) 51 (0, 0))) (hU : U ≤ w.heap.size) (hf : Frame w.heap.size T w w') : TreeM w' U B N T ns root r :=
  ⟨hb, h.m.kept (hf.2.2.2.2 B (by have := h.bn; have := h.nu; omega) (Ne.symm h.ne)), fun p hp => (h.nodes p hp).keep fun j hj hj2 => hf.2.2.2.2 j (by omega) (by have := h.tn; omega), h.ok, h.tn, h.bn, h.ne, h.nu, h.len⟩
theorem oneTree_eq {ns : List Nd} (h : ∀ n ∈ ns, elOk ns n = true) : oneTree ns = (rootsN ns == 1 && kidsN ns == ns.length - 1 && (pre ns ns.length (rootOf ns)).length == ns.length) := by
  unfold oneTree
  rw [show ns.all (elOk ns) = true from List.all_eq_true.2 h, Bool.true_and]
theorem rootsN_perm {l m : List Nd} (h : l.Perm m) : rootsN l = rootsN m := h.countP_eq _
theorem kidsN_perm {l m : List Nd} (h : l.Perm m) : kidsN l = kidsN m := by
  induction h with
  | nil => rfl
  | cons x _ ih => simp only [kidsN, List.map_cons, List.sum_cons] at ih ⊢; omega
  | swap x y l => simp only [kidsN, List.map_cons, List.sum_cons]; omega
  | trans _ _ h1 h2 => exact h1.trans h2
theorem wrap_pred {n : Nat} (h : n ≤ 256) : IntKind.i64.wrap ((n : Int) - 1) = (n : Int) - 1 := by
  simp [IntKind.wrap, IntKind.bits, IntKind.signed]; omega
theorem elOk_kid {ns : List Nd} {n : Nd} {k : Int} (hk : k ∈ n.kids) (h : kidOk ns n.id k = false) : elOk ns n = false := by
  unfold elOk
  rw [show n.kids.all (kidOk ns n.id) = false from by rw [List.all_eq_false]; exact ⟨k, hk, by simp [h]⟩]
  simp
theorem elOk_dup {ns : List Nd} {n : Nd} (h : ¬ n.kids.Nodup) : elOk ns n = false := by
  unfold elOk
  rw [decide_eq_false h]
  simp
theorem elOk_par {ns : List Nd} {n : Nd} (h : (n.par == -1 || (fnd ns n.par).isSome) = false) : elOk ns n = false := by
  unfold elOk
  rw [h]
  simp
theorem elOk_yes {ns : List Nd} {n : Nd} (h : (n.par == -1 || (fnd ns n.par).isSome) = true) (hk : KOk ns n.id n.kids) : elOk ns n = true := by
  unfold elOk
  simp only [h, Bool.true_and, Bool.and_eq_true, decide_eq_true_eq, List.all_eq_true]
  exact ⟨hk.nd, hk.ok⟩
theorem dup_take {l : List Int} {j : Nat} (h : j < l.length) (hm : l[j] ∈ l.take j) : ¬ l.Nodup := by
  intro hd
  have h1 : l = l.take j ++ l.drop j := (List.take_append_drop j l).symm
  rw [h1, List.nodup_append] at hd
  exact hd.2.2 _ hm l[j] (by rw [List.drop_eq_getElem_cons h]; exact List.mem_cons_self) rfl
theorem KOk.snoc {ns : List Nd} {id k : Int} {l : List Int} (h : KOk ns id l) (hk : kidOk ns id k = true) (hn : k ∉ l) : KOk ns id (l ++ [k]) := by
  refine ⟨?_, fun x hx => ?_⟩
  · rw [List.nodup_append]
    exact ⟨h.nd, by simp, fun a ha b hb => by simp only [List.mem_singleton] at hb; subst hb; intro e; subst e; exact hn ha⟩
  · rcases List.mem_append.1 hx with hx | hx
    · exact h.ok x hx
    · simp only [List.mem_singleton] at hx; subst hx; exact hk
set_option maxRecDepth 100000 in
set_option maxHeartbeats 16000000 in
/-- (*dom.Tree).joined. -/
theorem joined_any (w : World) (U B N T : Nat) (ns : Ns) (root next : Int) (hT : TreeM w U B N T ns root next) (hU : U ≤ w.heap.size) (hnd : ((ndsOf ns).map Nd.id).Nodup) (hnn : ∀ n ∈ ndsOf ns, 0 ≤ n.id) :
    Calls Tryz.prog 17 #[.pointer (some ⟨T, 0, none⟩)] w fun e w' => e = .returned (.bool (oneTree (ndsOf ns))) ∧ Frame w.heap.size T w w' ∧ (oneTree (ndsOf ns) = true → TreeM w' U B N T ns (rootOf (ndsOf ns)) next) := by
  have HT := Lib.hid hT; have HU := Lib.hid hU; have HND := Lib.hid hnd; have HNN := Lib.hid hnn
  have cT := hT.cellT.1
  have HTLT : Hid (T < w.heap.size ∧ B < w.heap.size) := Lib.hid ⟨by have := hT.tn; have := hT.nu; omega, by have := hT.bn; have := hT.nu; omega⟩
  clear hT hU hnd hnn
  go_enter Tryz.func17, Tryz.ntmps17
  go_wp2_with (at_range; refine wpl_el_range rfl _ rfl rfl HT.out.m ?_; intro w0 hrg0 hg0 hs0; have HRG0 := Lib.hid hrg0; have HG0 := Lib.hid hg0; clear hrg0 hg0 hs0)
  go_frame
  go_loopw [3, 4] (fun a k wr => ∃ (dn rn : Ns) (rt : Int) (cnt : Nat), JRel w U B N T ns next a k wr dn rn rt cnt) (fun _ _ wr => wr.rangeLeft B w.heap.size)
  case atStart =>
    refine ⟨[], ns, root, _, ⟨List.Perm.refl _, rfl, rfl, fun n h => (by cases h), fun n h => (by cases h), HT.out.keep fun j hj => HG0.out.block j (by have := HU.out; omega) (by simp), HRG0.out, Frame.of_grown HG0.out (fun k h => by cases h) (Nat.le_refl _)⟩⟩
  case round =>
    obtain ⟨dn, rn, rt, cnt, hJ⟩ := hrel
    obtain ⟨hperm, rfl, rfl, hok, hrt, hTr, hrg, hfr⟩ := hJ
    have HPERM := Lib.hid hperm; have HOK := Lib.hid hok; have HRT := Lib.hid hrt; have HTR := Lib.hid hTr; have HRG := Lib.hid hrg; have HFR := Lib.hid hfr
    have hdl : dn.length ≤ 256 := by have := hperm.length_eq; rw [List.length_append] at this; have := hTr.len; omega
    have hr1 : ((rootsN (ndsOf dn) : Nat) : Int) ≤ 256 := by have : rootsN (ndsOf dn) ≤ (ndsOf dn).length := List.countP_le_length; rw [nds_len] at this; omega
    have hk1 : ((kidsN (ndsOf dn) : Nat) : Int) ≤ 65536 := by
      have h1 := kidsN_le (c := 256) (ndsOf dn) hok (by rw [nds_len]; exact hTr.len)
      rw [nds_len] at h1
      have : dn.length * 256 ≤ 256 * 256 := Nat.mul_le_mul_right 256 hdl
      omega
    clear hperm hok hrt hTr hrg hfr hdl
    obtain ⟨rv, hrv⟩ : ∃ rv : Nat, rv = rootsN (ndsOf dn) := ⟨_, rfl⟩
    obtain ⟨kv, hkv⟩ : ∃ kv : Nat, kv = kidsN (ndsOf dn) := ⟨_, rfl⟩
    rw [← hrv] at hr1 ⊢
    rw [← hkv] at hk1 ⊢
    have HRV := Lib.hid hrv; have HKV := Lib.hid hkv
    clear hrv hkv
    go_wp2_with (at_next; refine wpl_el_next rfl _ rfl rfl HRG.out ?_ ?_)
    · intro hnil
      have hrn : rn = [] := by cases rn with | nil => rfl | cons p l => simp [keysOf] at hnil
      subst hrn
      have hpd : dn.Perm ns := by have := HPERM.out; rwa [List.append_nil] at this
      have hpn : (ndsOf dn).Perm (ndsOf ns) := hpd.map _
      have HALL : Hid (∀ n ∈ ndsOf ns, elOk (ndsOf ns) n = true) := Lib.hid (fun n hn => HOK.out n (hpn.mem_iff.2 hn))
      have HRV2 : Hid (rv = rootsN (ndsOf ns)) := Lib.hid (HRV.out.trans (rootsN_perm hpn))
      have HKV2 : Hid (kv = kidsN (ndsOf ns)) := Lib.hid (HKV.out.trans (kidsN_perm hpn))
      have HRT2 : Hid (rootsN (ndsOf ns) = 1 → rt = rootOf (ndsOf ns) ∧ I64 rt) := Lib.hid (fun h1 => by
        have h1' : 0 < (ndsOf ns).countP (fun n => n.par == -1) := by unfold rootsN at h1; omega
        obtain ⟨n, hn, hp⟩ := List.countP_pos_iff.1 h1'
        have hp' : n.par = -1 := by simpa using hp
        have h2 := HRT.out n (hpn.mem_iff.2 hn) hp' (by rw [rootsN_perm hpn]; exact h1)
        refine ⟨h2.trans (root_of_mem h1 hn hp').symm, ?_⟩
        obtain ⟨q, hq, rfl⟩ := List.mem_map.1 hn
        rw [h2]
        exact (HTR.out.ok q hq).id)
      obtain ⟨nl, hnl⟩ : ∃ nl, (keysOf ns).length = nl := ⟨_, rfl⟩
      have HNL := Lib.hid hnl
      have HNS : Hid (ns.length = nl) := Lib.hid (by rw [← hnl, keys_len])
      have hnl2 : nl ≤ 256 := by rw [← HNS.out]; exact HTR.out.len
      have HNL2 := Lib.hid hnl2
      have HTD : Hid (TreeM wr.drew U B N T ns rt next) := Lib.hid (HTR.out.keep fun _ _ => rfl)
      have cTr : wr.drew.cell? ⟨T, 0, none⟩ = some (.map (some B)) := HTD.out.cellT.1
      have hml : ∀ ty, (Builtin.len_ #[49] ty #[.map (some B)]).run Tryz.prog wr.drew = .ok (.int .i64 (nl : Nat)) wr.drew := by rw [← hnl]; exact HTD.out.m.len
      have HFD : Hid (Frame w.heap.size T w wr.drew) := Lib.hid (HFR.out.trans ⟨rfl, rfl, rfl, Nat.le_refl _, fun _ _ _ => rfl⟩)
      clear hnil hpd hpn hnl hnl2
      go_wp2
      by_cases hr : rv = 1
      · by_cases hk : kv = nl - 1
        · have hnpos : 1 ≤ nl := by
            have h1 : rootsN (ndsOf ns) ≤ (ndsOf ns).length := List.countP_le_length
            rw [nds_len, HNS.out, ← HRV2.out] at h1
            omega
          have HR := Lib.hid hr; have HK := Lib.hid hk; have HP1 := Lib.hid hnpos
          have HFI : Hid (Fits (ndsOf ns) rt) := Lib.hid (by rw [(HRT2.out (by rw [← HRV2.out]; exact hr)).1]; exact fits_of HND.out HNN.out HALL.out (by rw [← HRV2.out]; exact hr))
          have HEQ : Hid (oneTree (ndsOf ns) = decide ((pre (ndsOf ns) ns.length rt).length = nl)) := Lib.hid (by
            rw [oneTree_eq HALL.out, ← HRV2.out, ← HKV2.out, nds_len, HNS.out, (HRT2.out (by rw [← HRV2.out]; exact hr)).1, show (rv == 1) = true by simpa using hr, show (kv == nl - 1) = true by simpa using hk]
            simp only [Bool.true_and]
            rw [Bool.eq_iff_iff]
            simp)
          clear hr hk hnpos
          obtain ⟨pl, hpl⟩ : ∃ pl, (pre (ndsOf ns) ns.length rt).length = pl := ⟨_, rfl⟩
          have HPL := Lib.hid hpl
          clear hpl
          by_cases hb : pl = nl
          · have HB := Lib.hid hb
            clear hb
            refine wp_region_held_drew (S := (fun s => TreeM s U B N T ns rt next)) (by kernel_rfl) HTD.out (fun hHeld => ?_)
            refine wpAnyH_take (i := 0) (v := .int .i64 rv) rfl (by kernel_rfl) (by kernel_rfl) (by kernel_rfl) (fun _ _ _ h => h) (Or.inl ⟨by kernel_rfl, fun s hs => by go_simp⟩) hHeld ?_
            refine wpAnyH_take (i := 1) (v := .bool true) rfl (by kernel_rfl) (by kernel_rfl) (by kernel_rfl) (fun _ _ _ h => h) (Or.inl ⟨by kernel_rfl, fun s hs => by go_simp; have := HR.out; omega⟩) hHeld ?_
            refine wpAnyH_take (i := 2) (v := .bool true) rfl (by kernel_rfl) (by kernel_rfl) (by kernel_rfl) (fun _ _ _ h => h) (Or.inl ⟨by kernel_rfl, fun s hs => by go_simp⟩) hHeld ?_
            refine wpAnyH_take (i := 3) (v := .int .i64 kv) rfl (by kernel_rfl) (by kernel_rfl) (by kernel_rfl) (fun _ _ _ h => h) (Or.inl ⟨by kernel_rfl, fun s hs => by go_simp⟩) hHeld ?_
            refine wpAnyH_take (i := 4) (v := .pointer (some ⟨T, 0, none⟩)) rfl (by kernel_rfl) (by kernel_rfl) (by kernel_rfl) (fun _ _ _ h => h) (Or.inl ⟨by kernel_rfl, fun s hs => by go_simp⟩) hHeld ?_
            refine wpAnyH_take (i := 5) (v := .pointer (some ⟨T, 0, none⟩)) rfl (by kernel_rfl) (by kernel_rfl) (by kernel_rfl) (fun _ _ _ h => h) (Or.inl ⟨by kernel_rfl, fun s hs => by go_simp⟩) hHeld ?_
            refine wpAnyH_take (i := 6) (v := .pointer (some ⟨T, 0, none⟩)) rfl (by kernel_rfl) (by kernel_rfl) (by kernel_rfl) (fun _ _ _ h => h) (Or.inl ⟨by kernel_rfl, fun s hs => by go_simp⟩) hHeld ?_
            refine wpAnyH_take (i := 7) (v := .map (some B)) rfl (by kernel_rfl) (by kernel_rfl) (by kernel_rfl) (fun _ _ _ h => h) (Or.inl ⟨by kernel_rfl, fun s hs => by have c := hs.cellT.1; go_simp⟩) hHeld ?_
            refine wpAnyH_take (i := 8) (v := .int .i64 nl) rfl (by kernel_rfl) (by kernel_rfl) (by kernel_rfl) (fun _ _ _ h => h) (Or.inl ⟨by kernel_rfl, fun s hs => by have c := hs.m.len; rw [HNL.out] at c; clear hs; go_simp⟩) hHeld ?_
            refine wpAnyH_take (i := 9) (v := .int .i64 ((nl : Int) - 1)) rfl (by kernel_rfl) (by kernel_rfl) (by kernel_rfl) (fun _ _ _ h => h) (Or.inl ⟨by kernel_rfl, fun s hs => by go_simp; exact wrap_pred HNL2.out⟩) hHeld ?_
            refine wpAnyH_take (i := 10) (v := .bool true) rfl (by kernel_rfl) (by kernel_rfl) (by kernel_rfl) (fun _ _ _ h => h) (Or.inl ⟨by kernel_rfl, fun s hs => by go_simp; have := HK.out; have := HP1.out; omega⟩) hHeld ?_
            refine wpAnyH_take (i := 11) (v := .bool true) rfl (by kernel_rfl) (by kernel_rfl) (by kernel_rfl) (fun _ _ _ h => h) (Or.inl ⟨by kernel_rfl, fun s hs => by go_simp⟩) hHeld ?_
            refine wpAnyH_take (i := 12) (v := .bool true) rfl (by kernel_rfl) (by kernel_rfl) (by kernel_rfl) (fun _ _ _ h => h) (Or.inl ⟨by kernel_rfl, fun s hs => by go_simp⟩) hHeld ?_
            refine wpAnyH_take (i := 13) (v := .pointer (some ⟨T, 0, none⟩)) rfl (by kernel_rfl) (by kernel_rfl) (by kernel_rfl) (fun _ _ _ h => h) (Or.inl ⟨by kernel_rfl, fun s hs => by go_simp⟩) hHeld ?_
            refine wpAnyH_take (i := 16) (v := .pointer (some ⟨T, 0, none⟩)) rfl (by kernel_rfl) (by kernel_rfl) (by kernel_rfl) (fun _ _ _ h => h) (Or.inl ⟨by kernel_rfl, fun s hs => by go_simp⟩) hHeld ?_
            refine wpAnyH_take (i := 17) (v := .pointer (some ⟨T, 0, none⟩)) rfl (by kernel_rfl) (by kernel_rfl) (by kernel_rfl) (fun _ _ _ h => h) (Or.inl ⟨by kernel_rfl, fun s hs => by go_simp⟩) hHeld ?_
            refine wpAnyH_take (i := 18) (v := .pointer (some ⟨T, 0, none⟩)) rfl (by kernel_rfl) (by kernel_rfl) (by kernel_rfl) (fun _ _ _ h => h) (Or.inl ⟨by kernel_rfl, fun s hs => by go_simp⟩) hHeld ?_
            refine wpAnyH_take (i := 19) (v := .map (some B)) rfl (by kernel_rfl) (by kernel_rfl) (by kernel_rfl) (fun _ _ _ h => h) (Or.inl ⟨by kernel_rfl, fun s hs => by have c := hs.cellT.1; go_simp⟩) hHeld ?_
            refine wpAnyH_ready (rs := [14]) (by kernel_rfl) (by simp) ?_
            refine AllReadyH.cons rfl (fun K hK => ?_) AllReadyH.nil
            rw [if_pos (by kernel_rfl)]
            go_simp
            refine (order_any wr.drew U B N T ns rt next HTD.out (Nat.le_trans HU.out HFD.out.2.2.2.1) HFI.out (HRT2.out (by rw [← HRV2.out]; exact HR.out)).2).mono ?_
            rintro e w5 ⟨v5, rfl, hv5, hb5⟩
            obtain ⟨a5, c5, rfl⟩ := RowAt.slice (IntsFrom.at_ hv5)
            rw [HPL.out]
            have HT5 := Lib.hid (HTD.out.below hb5 (Nat.le_trans HU.out HFD.out.2.2.2.1))
            have HB5 := Lib.hid hb5
            clear hv5 hb5
            refine hK.out _ _ HT5.out (fun hHeld => ?_)
            refine wpAnyH_take (i := 15) (v := .int .i64 pl) rfl (by kernel_rfl) (by kernel_rfl) (by kernel_rfl) (fun _ _ _ h => h) (Or.inl ⟨by kernel_rfl, fun s hs => by go_simp⟩) hHeld ?_
            refine wpAnyH_take (i := 20) (v := .int .i64 nl) rfl (by kernel_rfl) (by kernel_rfl) (by kernel_rfl) (fun _ _ _ h => h) (Or.inl ⟨by kernel_rfl, fun s hs => by have c := hs.m.len; rw [HNL.out] at c; clear hs; go_simp⟩) hHeld ?_
            refine wpAnyH_take (i := 21) (v := .bool true) rfl (by kernel_rfl) (by kernel_rfl) (by kernel_rfl) (fun _ _ _ h => h) (Or.inl ⟨by kernel_rfl, fun s hs => by go_simp; have := HB.out; omega⟩) hHeld ?_
            refine wpAnyH_take (i := 22) (v := .bool true) rfl (by kernel_rfl) (by kernel_rfl) (by kernel_rfl) (fun _ _ _ h => h) (Or.inl ⟨by kernel_rfl, fun s hs => by go_simp⟩) hHeld ?_
            refine wpAnyH_take (i := 23) (v := .bool true) rfl (by kernel_rfl) (by kernel_rfl) (by kernel_rfl) (fun _ _ _ h => h) (Or.inl ⟨by kernel_rfl, fun s hs => by go_simp⟩) hHeld ?_
            refine wpAnyH_done (by kernel_rfl) ?_ _
            clear hHeld
            go_simp
            go_wp2
            go_ret
            exact ⟨ret_bool (by rw [HEQ.out, HPL.out, HB.out]; simp), HFD.out.trans (Frame.of_below (HB5.out.mono HFD.out.2.2.2.1)), fun _ => by rw [← (HRT2.out (by rw [← HRV2.out]; exact HR.out)).1]; exact HT5.out⟩
          · have HB := Lib.hid hb
            clear hb
            refine wp_region_held_drew (S := (fun s => TreeM s U B N T ns rt next)) (by kernel_rfl) HTD.out (fun hHeld => ?_)
            refine wpAnyH_take (i := 0) (v := .int .i64 rv) rfl (by kernel_rfl) (by kernel_rfl) (by kernel_rfl) (fun _ _ _ h => h) (Or.inl ⟨by kernel_rfl, fun s hs => by go_simp⟩) hHeld ?_
            refine wpAnyH_take (i := 1) (v := .bool true) rfl (by kernel_rfl) (by kernel_rfl) (by kernel_rfl) (fun _ _ _ h => h) (Or.inl ⟨by kernel_rfl, fun s hs => by go_simp; have := HR.out; omega⟩) hHeld ?_
            refine wpAnyH_take (i := 2) (v := .bool true) rfl (by kernel_rfl) (by kernel_rfl) (by kernel_rfl) (fun _ _ _ h => h) (Or.inl ⟨by kernel_rfl, fun s hs => by go_simp⟩) hHeld ?_
            refine wpAnyH_take (i := 3) (v := .int .i64 kv) rfl (by kernel_rfl) (by kernel_rfl) (by kernel_rfl) (fun _ _ _ h => h) (Or.inl ⟨by kernel_rfl, fun s hs => by go_simp⟩) hHeld ?_
            refine wpAnyH_take (i := 4) (v := .pointer (some ⟨T, 0, none⟩)) rfl (by kernel_rfl) (by kernel_rfl) (by kernel_rfl) (fun _ _ _ h => h) (Or.inl ⟨by kernel_rfl, fun s hs => by go_simp⟩) hHeld ?_
            refine wpAnyH_take (i := 5) (v := .pointer (some ⟨T, 0, none⟩)) rfl (by kernel_rfl) (by kernel_rfl) (by kernel_rfl) (fun _ _ _ h => h) (Or.inl ⟨by kernel_rfl, fun s hs => by go_simp⟩) hHeld ?_
            refine wpAnyH_take (i := 6) (v := .pointer (some ⟨T, 0, none⟩)) rfl (by kernel_rfl) (by kernel_rfl) (by kernel_rfl) (fun _ _ _ h => h) (Or.inl ⟨by kernel_rfl, fun s hs => by go_simp⟩) hHeld ?_
            refine wpAnyH_take (i := 7) (v := .map (some B)) rfl (by kernel_rfl) (by kernel_rfl) (by kernel_rfl) (fun _ _ _ h => h) (Or.inl ⟨by kernel_rfl, fun s hs => by have c := hs.cellT.1; go_simp⟩) hHeld ?_
            refine wpAnyH_take (i := 8) (v := .int .i64 nl) rfl (by kernel_rfl) (by kernel_rfl) (by kernel_rfl) (fun _ _ _ h => h) (Or.inl ⟨by kernel_rfl, fun s hs => by have c := hs.m.len; rw [HNL.out] at c; clear hs; go_simp⟩) hHeld ?_
            refine wpAnyH_take (i := 9) (v := .int .i64 ((nl : Int) - 1)) rfl (by kernel_rfl) (by kernel_rfl) (by kernel_rfl) (fun _ _ _ h => h) (Or.inl ⟨by kernel_rfl, fun s hs => by go_simp; exact wrap_pred HNL2.out⟩) hHeld ?_
            refine wpAnyH_take (i := 10) (v := .bool true) rfl (by kernel_rfl) (by kernel_rfl) (by kernel_rfl) (fun _ _ _ h => h) (Or.inl ⟨by kernel_rfl, fun s hs => by go_simp; have := HK.out; have := HP1.out; omega⟩) hHeld ?_
            refine wpAnyH_take (i := 11) (v := .bool true) rfl (by kernel_rfl) (by kernel_rfl) (by kernel_rfl) (fun _ _ _ h => h) (Or.inl ⟨by kernel_rfl, fun s hs => by go_simp⟩) hHeld ?_
            refine wpAnyH_take (i := 12) (v := .bool true) rfl (by kernel_rfl) (by kernel_rfl) (by kernel_rfl) (fun _ _ _ h => h) (Or.inl ⟨by kernel_rfl, fun s hs => by go_simp⟩) hHeld ?_
            refine wpAnyH_take (i := 13) (v := .pointer (some ⟨T, 0, none⟩)) rfl (by kernel_rfl) (by kernel_rfl) (by kernel_rfl) (fun _ _ _ h => h) (Or.inl ⟨by kernel_rfl, fun s hs => by go_simp⟩) hHeld ?_
            refine wpAnyH_take (i := 16) (v := .pointer (some ⟨T, 0, none⟩)) rfl (by kernel_rfl) (by kernel_rfl) (by kernel_rfl) (fun _ _ _ h => h) (Or.inl ⟨by kernel_rfl, fun s hs => by go_simp⟩) hHeld ?_
            refine wpAnyH_take (i := 17) (v := .pointer (some ⟨T, 0, none⟩)) rfl (by kernel_rfl) (by kernel_rfl) (by kernel_rfl) (fun _ _ _ h => h) (Or.inl ⟨by kernel_rfl, fun s hs => by go_simp⟩) hHeld ?_
            refine wpAnyH_take (i := 18) (v := .pointer (some ⟨T, 0, none⟩)) rfl (by kernel_rfl) (by kernel_rfl) (by kernel_rfl) (fun _ _ _ h => h) (Or.inl ⟨by kernel_rfl, fun s hs => by go_simp⟩) hHeld ?_
            refine wpAnyH_take (i := 19) (v := .map (some B)) rfl (by kernel_rfl) (by kernel_rfl) (by kernel_rfl) (fun _ _ _ h => h) (Or.inl ⟨by kernel_rfl, fun s hs => by have c := hs.cellT.1; go_simp⟩) hHeld ?_
            refine wpAnyH_ready (rs := [14]) (by kernel_rfl) (by simp) ?_
            refine AllReadyH.cons rfl (fun K hK => ?_) AllReadyH.nil
            rw [if_pos (by kernel_rfl)]
            go_simp
            refine (order_any wr.drew U B N T ns rt next HTD.out (Nat.le_trans HU.out HFD.out.2.2.2.1) HFI.out (HRT2.out (by rw [← HRV2.out]; exact HR.out)).2).mono ?_
            rintro e w5 ⟨v5, rfl, hv5, hb5⟩
            obtain ⟨a5, c5, rfl⟩ := RowAt.slice (IntsFrom.at_ hv5)
            rw [HPL.out]
            have HT5 := Lib.hid (HTD.out.below hb5 (Nat.le_trans HU.out HFD.out.2.2.2.1))
            have HB5 := Lib.hid hb5
            clear hv5 hb5
            refine hK.out _ _ HT5.out (fun hHeld => ?_)
            refine wpAnyH_take (i := 15) (v := .int .i64 pl) rfl (by kernel_rfl) (by kernel_rfl) (by kernel_rfl) (fun _ _ _ h => h) (Or.inl ⟨by kernel_rfl, fun s hs => by go_simp⟩) hHeld ?_
            refine wpAnyH_take (i := 20) (v := .int .i64 nl) rfl (by kernel_rfl) (by kernel_rfl) (by kernel_rfl) (fun _ _ _ h => h) (Or.inl ⟨by kernel_rfl, fun s hs => by have c := hs.m.len; rw [HNL.out] at c; clear hs; go_simp⟩) hHeld ?_
            refine wpAnyH_take (i := 21) (v := .bool false) rfl (by kernel_rfl) (by kernel_rfl) (by kernel_rfl) (fun _ _ _ h => h) (Or.inl ⟨by kernel_rfl, fun s hs => by go_simp; have := HB.out; omega⟩) hHeld ?_
            refine wpAnyH_take (i := 22) (v := .bool false) rfl (by kernel_rfl) (by kernel_rfl) (by kernel_rfl) (fun _ _ _ h => h) (Or.inl ⟨by kernel_rfl, fun s hs => by go_simp⟩) hHeld ?_
            refine wpAnyH_take (i := 23) (v := .bool false) rfl (by kernel_rfl) (by kernel_rfl) (by kernel_rfl) (fun _ _ _ h => h) (Or.inl ⟨by kernel_rfl, fun s hs => by go_simp⟩) hHeld ?_
            refine wpAnyH_done (by kernel_rfl) ?_ _
            clear hHeld
            go_simp
            have HO : Hid (oneTree (ndsOf ns) = false) := Lib.hid (by rw [HEQ.out, HPL.out]; simpa using HB.out)
            go_wp2
            go_ret
            exact ⟨ret_bool HO.out.symm, HFD.out.trans (Frame.of_below (HB5.out.mono HFD.out.2.2.2.1)), fun h => by rw [HO.out] at h; cases h⟩
        · have HR := Lib.hid hr; have HK := Lib.hid hk
          have HF : Hid (oneTree (ndsOf ns) = false) := Lib.hid (by
            rw [oneTree_eq HALL.out, ← HRV2.out, ← HKV2.out, nds_len, HNS.out, show (kv == nl - 1) = false by simpa using hk]
            simp)
          have HPOS : Hid (1 ≤ nl) := Lib.hid (by
            have h1 : rootsN (ndsOf ns) ≤ (ndsOf ns).length := List.countP_le_length
            rw [nds_len, HNS.out, ← HRV2.out] at h1
            omega)
          clear hr hk
          refine wp_region_held_drew (S := (fun s => s = wr.drew)) (by kernel_rfl) rfl (fun hHeld => ?_)
          refine wpAnyH_take (i := 0) (v := .int .i64 rv) rfl (by kernel_rfl) (by kernel_rfl) (by kernel_rfl) (fun _ _ _ h => h) (Or.inl ⟨by kernel_rfl, fun s hs => by subst hs; go_simp⟩) hHeld ?_
          refine wpAnyH_take (i := 1) (v := .bool true) rfl (by kernel_rfl) (by kernel_rfl) (by kernel_rfl) (fun _ _ _ h => h) (Or.inl ⟨by kernel_rfl, fun s hs => by subst hs; go_simp; have := HR.out; omega⟩) hHeld ?_
          refine wpAnyH_take (i := 2) (v := .bool true) rfl (by kernel_rfl) (by kernel_rfl) (by kernel_rfl) (fun _ _ _ h => h) (Or.inl ⟨by kernel_rfl, fun s hs => by subst hs; go_simp⟩) hHeld ?_
          refine wpAnyH_take (i := 3) (v := .int .i64 kv) rfl (by kernel_rfl) (by kernel_rfl) (by kernel_rfl) (fun _ _ _ h => h) (Or.inl ⟨by kernel_rfl, fun s hs => by subst hs; go_simp⟩) hHeld ?_
          refine wpAnyH_take (i := 4) (v := .pointer (some ⟨T, 0, none⟩)) rfl (by kernel_rfl) (by kernel_rfl) (by kernel_rfl) (fun _ _ _ h => h) (Or.inl ⟨by kernel_rfl, fun s hs => by subst hs; go_simp⟩) hHeld ?_
          refine wpAnyH_take (i := 5) (v := .pointer (some ⟨T, 0, none⟩)) rfl (by kernel_rfl) (by kernel_rfl) (by kernel_rfl) (fun _ _ _ h => h) (Or.inl ⟨by kernel_rfl, fun s hs => by subst hs; go_simp⟩) hHeld ?_
          refine wpAnyH_take (i := 6) (v := .pointer (some ⟨T, 0, none⟩)) rfl (by kernel_rfl) (by kernel_rfl) (by kernel_rfl) (fun _ _ _ h => h) (Or.inl ⟨by kernel_rfl, fun s hs => by subst hs; go_simp⟩) hHeld ?_
          refine wpAnyH_take (i := 7) (v := .map (some B)) rfl (by kernel_rfl) (by kernel_rfl) (by kernel_rfl) (fun _ _ _ h => h) (Or.inl ⟨by kernel_rfl, fun s hs => by subst hs; go_simp⟩) hHeld ?_
          refine wpAnyH_take (i := 8) (v := .int .i64 nl) rfl (by kernel_rfl) (by kernel_rfl) (by kernel_rfl) (fun _ _ _ h => h) (Or.inl ⟨by kernel_rfl, fun s hs => by subst hs; go_simp⟩) hHeld ?_
          refine wpAnyH_take (i := 9) (v := .int .i64 ((nl : Int) - 1)) rfl (by kernel_rfl) (by kernel_rfl) (by kernel_rfl) (fun _ _ _ h => h) (Or.inl ⟨by kernel_rfl, fun s hs => by subst hs; go_simp; exact wrap_pred HNL2.out⟩) hHeld ?_
          refine wpAnyH_take (i := 10) (v := .bool false) rfl (by kernel_rfl) (by kernel_rfl) (by kernel_rfl) (fun _ _ _ h => h) (Or.inl ⟨by kernel_rfl, fun s hs => by subst hs; go_simp; have := HK.out; have := HPOS.out; omega⟩) hHeld ?_
          refine wpAnyH_take (i := 11) (v := .bool false) rfl (by kernel_rfl) (by kernel_rfl) (by kernel_rfl) (fun _ _ _ h => h) (Or.inl ⟨by kernel_rfl, fun s hs => by subst hs; go_simp⟩) hHeld ?_
          refine wpAnyH_take (i := 12) (v := .bool false) rfl (by kernel_rfl) (by kernel_rfl) (by kernel_rfl) (fun _ _ _ h => h) (Or.inl ⟨by kernel_rfl, fun s hs => by subst hs; go_simp⟩) hHeld ?_
          refine wpAnyH_take (i := 13) (v := undef) rfl (by kernel_rfl) (by kernel_rfl) (by kernel_rfl) (fun _ _ _ h => h) (Or.inr ⟨by kernel_rfl, rfl⟩) hHeld ?_
          refine wpAnyH_take (i := 14) (v := undef) rfl (by kernel_rfl) (by kernel_rfl) (by kernel_rfl) (fun _ _ _ h => h) (Or.inr ⟨by kernel_rfl, rfl⟩) hHeld ?_
          refine wpAnyH_take (i := 15) (v := undef) rfl (by kernel_rfl) (by kernel_rfl) (by kernel_rfl) (fun _ _ _ h => h) (Or.inr ⟨by kernel_rfl, rfl⟩) hHeld ?_
          refine wpAnyH_take (i := 16) (v := undef) rfl (by kernel_rfl) (by kernel_rfl) (by kernel_rfl) (fun _ _ _ h => h) (Or.inr ⟨by kernel_rfl, rfl⟩) hHeld ?_
          refine wpAnyH_take (i := 17) (v := undef) rfl (by kernel_rfl) (by kernel_rfl) (by kernel_rfl) (fun _ _ _ h => h) (Or.inr ⟨by kernel_rfl, rfl⟩) hHeld ?_
          refine wpAnyH_take (i := 18) (v := undef) rfl (by kernel_rfl) (by kernel_rfl) (by kernel_rfl) (fun _ _ _ h => h) (Or.inr ⟨by kernel_rfl, rfl⟩) hHeld ?_
          refine wpAnyH_take (i := 19) (v := undef) rfl (by kernel_rfl) (by kernel_rfl) (by kernel_rfl) (fun _ _ _ h => h) (Or.inr ⟨by kernel_rfl, rfl⟩) hHeld ?_
          refine wpAnyH_take (i := 20) (v := undef) rfl (by kernel_rfl) (by kernel_rfl) (by kernel_rfl) (fun _ _ _ h => h) (Or.inr ⟨by kernel_rfl, rfl⟩) hHeld ?_
          refine wpAnyH_take (i := 21) (v := undef) rfl (by kernel_rfl) (by kernel_rfl) (by kernel_rfl) (fun _ _ _ h => h) (Or.inr ⟨by kernel_rfl, rfl⟩) hHeld ?_
          refine wpAnyH_take (i := 22) (v := .bool false) rfl (by kernel_rfl) (by kernel_rfl) (by kernel_rfl) (fun _ _ _ h => h) (Or.inl ⟨by kernel_rfl, fun s hs => by subst hs; go_simp⟩) hHeld ?_
          refine wpAnyH_take (i := 23) (v := .bool false) rfl (by kernel_rfl) (by kernel_rfl) (by kernel_rfl) (fun _ _ _ h => h) (Or.inl ⟨by kernel_rfl, fun s hs => by subst hs; go_simp⟩) hHeld ?_
          refine wpAnyH_done (by kernel_rfl) ?_ _
          clear hHeld
          go_simp
          go_wp2
          go_ret
          exact ⟨ret_bool HF.out.symm, HFD.out, fun h => by rw [HF.out] at h; cases h⟩
      · have HR := Lib.hid hr
        have HF : Hid (oneTree (ndsOf ns) = false) := Lib.hid (by
          rw [oneTree_eq HALL.out, ← HRV2.out, show (rv == 1) = false by simpa using hr]
          rfl)
        clear hr
        refine wp_region_held_drew (S := (fun s => s = wr.drew)) (by kernel_rfl) rfl (fun hHeld => ?_)
        refine wpAnyH_take (i := 0) (v := .int .i64 rv) rfl (by kernel_rfl) (by kernel_rfl) (by kernel_rfl) (fun _ _ _ h => h) (Or.inl ⟨by kernel_rfl, fun s hs => by subst hs; go_simp⟩) hHeld ?_
        refine wpAnyH_take (i := 1) (v := .bool false) rfl (by kernel_rfl) (by kernel_rfl) (by kernel_rfl) (fun _ _ _ h => h) (Or.inl ⟨by kernel_rfl, fun s hs => by subst hs; go_simp; have := HR.out; omega⟩) hHeld ?_
        refine wpAnyH_take (i := 2) (v := .bool false) rfl (by kernel_rfl) (by kernel_rfl) (by kernel_rfl) (fun _ _ _ h => h) (Or.inl ⟨by kernel_rfl, fun s hs => by subst hs; go_simp⟩) hHeld ?_
        refine wpAnyH_take (i := 3) (v := undef) rfl (by kernel_rfl) (by kernel_rfl) (by kernel_rfl) (fun _ _ _ h => h) (Or.inr ⟨by kernel_rfl, rfl⟩) hHeld ?_
        refine wpAnyH_take (i := 4) (v := undef) rfl (by kernel_rfl) (by kernel_rfl) (by kernel_rfl) (fun _ _ _ h => h) (Or.inr ⟨by kernel_rfl, rfl⟩) hHeld ?_
        refine wpAnyH_take (i := 5) (v := undef) rfl (by kernel_rfl) (by kernel_rfl) (by kernel_rfl) (fun _ _ _ h => h) (Or.inr ⟨by kernel_rfl, rfl⟩) hHeld ?_
        refine wpAnyH_take (i := 6) (v := undef) rfl (by kernel_rfl) (by kernel_rfl) (by kernel_rfl) (fun _ _ _ h => h) (Or.inr ⟨by kernel_rfl, rfl⟩) hHeld ?_
        refine wpAnyH_take (i := 7) (v := undef) rfl (by kernel_rfl) (by kernel_rfl) (by kernel_rfl) (fun _ _ _ h => h) (Or.inr ⟨by kernel_rfl, rfl⟩) hHeld ?_
        refine wpAnyH_take (i := 8) (v := undef) rfl (by kernel_rfl) (by kernel_rfl) (by kernel_rfl) (fun _ _ _ h => h) (Or.inr ⟨by kernel_rfl, rfl⟩) hHeld ?_
        refine wpAnyH_take (i := 9) (v := undef) rfl (by kernel_rfl) (by kernel_rfl) (by kernel_rfl) (fun _ _ _ h => h) (Or.inr ⟨by kernel_rfl, rfl⟩) hHeld ?_
        refine wpAnyH_take (i := 10) (v := undef) rfl (by kernel_rfl) (by kernel_rfl) (by kernel_rfl) (fun _ _ _ h => h) (Or.inr ⟨by kernel_rfl, rfl⟩) hHeld ?_
        refine wpAnyH_take (i := 11) (v := .bool false) rfl (by kernel_rfl) (by kernel_rfl) (by kernel_rfl) (fun _ _ _ h => h) (Or.inl ⟨by kernel_rfl, fun s hs => by subst hs; go_simp⟩) hHeld ?_
        refine wpAnyH_take (i := 12) (v := .bool false) rfl (by kernel_rfl) (by kernel_rfl) (by kernel_rfl) (fun _ _ _ h => h) (Or.inl ⟨by kernel_rfl, fun s hs => by subst hs; go_simp⟩) hHeld ?_
        refine wpAnyH_take (i := 13) (v := undef) rfl (by kernel_rfl) (by kernel_rfl) (by kernel_rfl) (fun _ _ _ h => h) (Or.inr ⟨by kernel_rfl, rfl⟩) hHeld ?_
        refine wpAnyH_take (i := 14) (v := undef) rfl (by kernel_rfl) (by kernel_rfl) (by kernel_rfl) (fun _ _ _ h => h) (Or.inr ⟨by kernel_rfl, rfl⟩) hHeld ?_
        refine wpAnyH_take (i := 15) (v := undef) rfl (by kernel_rfl) (by kernel_rfl) (by kernel_rfl) (fun _ _ _ h => h) (Or.inr ⟨by kernel_rfl, rfl⟩) hHeld ?_
        refine wpAnyH_take (i := 16) (v := undef) rfl (by kernel_rfl) (by kernel_rfl) (by kernel_rfl) (fun _ _ _ h => h) (Or.inr ⟨by kernel_rfl, rfl⟩) hHeld ?_
        refine wpAnyH_take (i := 17) (v := undef) rfl (by kernel_rfl) (by kernel_rfl) (by kernel_rfl) (fun _ _ _ h => h) (Or.inr ⟨by kernel_rfl, rfl⟩) hHeld ?_
        refine wpAnyH_take (i := 18) (v := undef) rfl (by kernel_rfl) (by kernel_rfl) (by kernel_rfl) (fun _ _ _ h => h) (Or.inr ⟨by kernel_rfl, rfl⟩) hHeld ?_
        refine wpAnyH_take (i := 19) (v := undef) rfl (by kernel_rfl) (by kernel_rfl) (by kernel_rfl) (fun _ _ _ h => h) (Or.inr ⟨by kernel_rfl, rfl⟩) hHeld ?_
        refine wpAnyH_take (i := 20) (v := undef) rfl (by kernel_rfl) (by kernel_rfl) (by kernel_rfl) (fun _ _ _ h => h) (Or.inr ⟨by kernel_rfl, rfl⟩) hHeld ?_
        refine wpAnyH_take (i := 21) (v := undef) rfl (by kernel_rfl) (by kernel_rfl) (by kernel_rfl) (fun _ _ _ h => h) (Or.inr ⟨by kernel_rfl, rfl⟩) hHeld ?_
        refine wpAnyH_take (i := 22) (v := .bool false) rfl (by kernel_rfl) (by kernel_rfl) (by kernel_rfl) (fun _ _ _ h => h) (Or.inl ⟨by kernel_rfl, fun s hs => by subst hs; go_simp⟩) hHeld ?_
        refine wpAnyH_take (i := 23) (v := .bool false) rfl (by kernel_rfl) (by kernel_rfl) (by kernel_rfl) (fun _ _ _ h => h) (Or.inl ⟨by kernel_rfl, fun s hs => by subst hs; go_simp⟩) hHeld ?_
        refine wpAnyH_done (by kernel_rfl) ?_ _
        clear hHeld
        go_simp
        go_wp2
        go_ret
        exact ⟨ret_bool HF.out.symm, HFD.out, fun h => by rw [HF.out] at h; cases h⟩
    · intro x b w1 cnt1 hx hrg1 hlt hg1 hs1 hen
      obtain ⟨l1, e, l2, hl, rfl, hpm⟩ := pick hx
      subst hl
      have HLT := Lib.hid hlt
      have HPM : Hid ((dn ++ [(e, b)] ++ (l1 ++ l2)).Perm ns) := Lib.hid (perm_step HPERM.out)
      have HMEM : Hid ((e, b) ∈ ns) := Lib.hid (HPERM.out.mem_iff.1 (by simp))
      have HEM : Hid (e.nd ∈ ndsOf ns) := Lib.hid (List.mem_map_of_mem (f := fun p : El × Nat => p.1.nd) HMEM.out)
      have HRG1 : Hid (RangeIs w1 B w.heap.size (keysOf ns) (keysOf (l1 ++ l2)) cnt1) := Lib.hid (hrg1.perm hpm)
      have HT1 : Hid (TreeM w1 U B N T ns rt next) := Lib.hid (HTR.out.keep fun j hj => hg1.block j (by have := HU.out; have := HFR.out.2.2.2.1; omega) (by have := HU.out; intro h; cases h; omega))
      have HFR1 : Hid (Frame w.heap.size T w w1) := Lib.hid (HFR.out.trans (Frame.of_grown hg1 (fun k h => by cases h; exact Nat.le_refl _) HFR.out.2.2.2.1))
      have HEOK : Hid e.ok := Lib.hid (HT1.out.ok _ HMEM.out)
      have hnode := HT1.out.nodes _ HMEM.out
      have HBU : Hid (b < U) := Lib.hid hnode.hi
      have HNB : Hid (N ≤ b) := Lib.hid hnode.lo
      obtain ⟨a3, _, c3', p1, k3, hint, _⟩ := hnode.cells
      have HINT1 := Lib.hid hint; have K31 := Lib.hid k3
      clear hint k3 hnode hg1 hs1 hrg1 hpm hx hlt
      by_cases hpr : e.par = -1
      · have hq : (e.par == -1) = true := by simpa using hpr
        have HPO : Hid ((e.nd.par == -1 || (fnd (ndsOf ns) e.nd.par).isSome) = true) := Lib.hid (by rw [show e.nd.par = e.par from rfl, hq]; rfl)
        have HQ := Lib.hid hpr
        clear hpr
        have HRT2 : Hid (∀ n ∈ ndsOf (dn ++ [(e, b)]), n.par = -1 → rootsN (ndsOf (dn ++ [(e, b)])) = 1 → e.id = n.id) := Lib.hid (by
          intro n hn hp h1
          rw [ndsOf_append, show ndsOf [(e, b)] = [e.nd] from rfl] at hn h1
          rw [rootsN_snoc, show (e.nd.par == -1) = true from hq, if_pos rfl] at h1
          rcases List.mem_append.1 hn with hn | hn
          · have : 0 < rootsN (ndsOf dn) := List.countP_pos_iff.2 ⟨n, hn, by simpa using hp⟩
            omega
          · obtain rfl : n = e.nd := by simpa using hn
            rfl)
        have HC3 : Hid (((rv : Nat) : Int) + 1 = ((rootsN (ndsOf (dn ++ [(e, b)])) : Nat) : Int)) := Lib.hid (by
          rw [HRV.out, ndsOf_append, show ndsOf [(e, b)] = [e.nd] from rfl, rootsN_snoc, show (e.nd.par == -1) = true from hq, if_pos rfl]
          simp)
        go_wp2_with (first
          | (refine wpl_store_one rfl 3 size3 _ _ rfl T 1 (.int .i64 e.id) rfl rfl rfl _ _ HT1.out.t (by simp) ?_; intro wX hsX hvX hfX; have HTX := Lib.hid (HT1.out.root' e.id hvX (Nat.le_trans HU.out HFR1.out.2.2.2.1) hfX); have HFRX := Lib.hid (HFR1.out.trans (hfX.mono HFR1.out.2.2.2.1)); have HRGX := Lib.hid (HRG1.out.kept (hfX.2.2.2.2 B HRG1.out.lt.1 (Ne.symm HT1.out.ne)) (hfX.2.2.2.2 w.heap.size HRG1.out.lt.2.1 (Ne.symm (Nat.ne_of_lt HTLT.out.1)))); have HWX : Hid (w.heap.size ≤ wX.heap.size) := Lib.hid HFRX.out.2.2.2.1; have HBX : Hid (b < wX.heap.size) := Lib.hid (by have := HBU.out; have := HU.out; have := HWX.out; omega); have HUX : Hid (U ≤ wX.heap.size) := Lib.hid (by have := HU.out; have := HWX.out; omega); have HBLX := Lib.hid HRGX.out.lt.1; have HWR := Lib.hid HRGX.out.lt.2.1; have K3 := Lib.hid ((World.cell?_of_block (a := ⟨b, 3, none⟩) (hfX.2.2.2.2 b (by have := HBU.out; have := HU.out; have := HFR1.out.2.2.2.1; omega) (by have := HT1.out.tn; have := HNB.out; omega))).trans K31.out); have HINT := Lib.hid (RowFrom.keep HINT1.out fun q h1 h2 => hfX.2.2.2.2 q (by have := HU.out; have := HFR1.out.2.2.2.1; omega) (by have := HT1.out.tn; omega)); clear hvX hfX hsX)
          | (refine wpl_make_met rfl rfl ?_; intro wM hsM hM hbM; have HMM := Lib.hid hM; have HBM := Lib.hid hbM; have k3M : wM.cell? ⟨b, 3, none⟩ = some (.slice a3 e.kids.length c3') := ((bcell hbM).1 b 3 HBX.out).trans K3.out; clear hM hbM hsM))
        go_loopw [47] (fun i wr => ∃ j : Nat, j ≤ e.kids.length ∧ i = .int .i64 j ∧ MetIs wr wX.heap.size (e.kids.take j) ∧ Below wX.heap.size wX wr ∧ KOk (ndsOf ns) e.id (e.kids.take j)) (fun i _ => e.kids.length - (intOf i).toNat)
        case atStart => exact ⟨0, Nat.zero_le _, rfl, HMM.out, HBM.out, ⟨List.nodup_nil, fun k hk => by cases hk⟩⟩
        case round =>
          obtain ⟨j, hj, rfl, hmet, hbv, hko⟩ := hrel
          have HMET := Lib.hid hmet; have HBV := Lib.hid hbv; have HKO := Lib.hid hko; have HJ := Lib.hid hj
          clear hmet hbv hko k3M
          by_cases hlt : j < e.kids.length
          · obtain ⟨kb, off, rfl, hkb, hkr⟩ := RowAt.place (IntsFrom.at_ HINT.out) (by omega)
            have hkc : wr.cell? ⟨kb, off + j, none⟩ = some (.int .i64 e.kids[j]) := ((bcell HBV.out).1 kb (off + j) (Nat.lt_of_lt_of_le hkb HUX.out)).trans (hkr j _ (intCells_get hlt))
            have hi : I64 e.kids[j] := HEOK.out.kids _ (List.getElem_mem hlt)
            have htk : e.kids.take (j + 1) = e.kids.take j ++ [e.kids[j]] := take_snoc hlt
            have hdup : e.kids[j] ∈ e.kids.take j → ¬ e.kids.Nodup := dup_take hlt
            have hkm : e.kids[j] ∈ e.kids := List.getElem_mem hlt
            generalize e.kids[j] = k at hkc hi htk hdup hkm
            obtain ⟨c, hcc⟩ : ∃ c, (e.kids.take j).count k = c := ⟨_, rfl⟩
            have hc1 : c ≤ 1 := by rw [← hcc]; exact List.nodup_iff_count.1 HKO.out.nd k
            have hc2 : (c : Int) ≤ 1 := by omega
            have HI := Lib.hid hi; have HTK := Lib.hid htk; have HDUP := Lib.hid hdup; have HKM := Lib.hid hkm; have HCC := Lib.hid hcc; have HC1 := Lib.hid hc1
            have HLL : Hid ((e.kids.take j).length < 1000000) := Lib.hid (by have := HKO.out.le; rw [nds_len] at this; have := HTX.out.len; omega)
            have hkl : (e.kids.length : Int) < 9223372036854775807 := by have := HEOK.out.kn; omega
            have cTv : wr.cell? ⟨T, 0, none⟩ = some (.map (some B)) := (HTX.out.below HBV.out HUX.out).cellT.1
            clear hi htk hdup hkm hcc hc1 hkr hkb
            by_cases hin : k ∈ (keysOf ns).map (·.1)
            · obtain ⟨⟨k', b2⟩, hkb2, hkk⟩ := List.mem_map.1 hin
              obtain rfl : k = k' := hkk.symm
              obtain ⟨e2, he2, hid2⟩ := key_mem hkb2
              have HKB := Lib.hid hkb2; have HE2 := Lib.hid he2; have HID2 := Lib.hid hid2
              have hfn : fnd (ndsOf ns) k = some e2.nd := hid2 ▸ fnd_key HND.out he2
              have HFN := Lib.hid hfn
              clear hfn hkb2 he2 hid2 hin
              by_cases hp2 : e2.par = e.id
              · have hq1 : (e2.par != e.id) = false := by simpa using hp2
                have HKOK : Hid (kidOk (ndsOf ns) e.id k = true) := Lib.hid (by unfold kidOk; rw [HFN.out]; simpa [El.nd] using hp2)
                clear hp2
                by_cases hmem : k ∈ e.kids.take j
                · have hcp : 1 ≤ c := by rw [← HCC.out]; exact List.count_pos_iff.2 hmem
                  obtain rfl : c = 1 := by have := HC1.out; omega
                  have HNO := Lib.hid (elOk_dup (ns := ndsOf ns) (n := e.nd) (HDUP.out hmem))
                  clear hmem hcp
                  go_wp2_with (first
                    | (at_lookup; refine wpl_met_look rfl _ _ rfl rfl HMET.out k rfl HI.out _ HCC.out ?_)
                    | (at_mapUpdate; refine wpl_met_put rfl _ _ _ rfl rfl HMET.out k rfl HI.out _ HCC.out rfl HLL.out ?_; intro w4 hm4 hg4; have HM4 := Lib.hid hm4; have HB4 := Lib.hid (HBV.out.grown hg4 HBV.out.size (fun q hq => by cases hq; exact Nat.le_refl _)); have HT4 := Lib.hid (HTX.out.below HB4.out HUX.out); have cT4 := HT4.out.cellT.1; clear hm4 hg4; have hlk := HT4.out.m.look_some HKB.out; have hlm := HM4.out.look k HI.out _ rfl; rw [List.count_append, HCC.out, List.count_singleton_self] at hlm; have p4 := (HT4.out.nodes _ HE2.out).cells; obtain ⟨_, _, _, p4, _⟩ := p4)
                    | (at_lookup; refine wpl_el_look_at rfl _ _ rfl rfl HT4.out.m k rfl b2 HKB.out ?_))
                  go_ret
                  exact ⟨ret_bool (oneTree_no HEM.out (HNO.out)).symm, HFRX.out.trans (Frame.of_below (HB4.out.mono HWX.out)), fun h => by rw [oneTree_no HEM.out (HNO.out)] at h; cases h⟩
                · have hcz : c = 0 := by rw [← HCC.out]; exact List.count_eq_zero.2 hmem
                  have HNM := Lib.hid hmem
                  subst hcz
                  clear hmem
                  go_wp2_with (first
                    | (at_lookup; refine wpl_met_look rfl _ _ rfl rfl HMET.out k rfl HI.out _ HCC.out ?_)
                    | (at_mapUpdate; refine wpl_met_put rfl _ _ _ rfl rfl HMET.out k rfl HI.out _ HCC.out rfl HLL.out ?_; intro w4 hm4 hg4; have HM4 := Lib.hid hm4; have HB4 := Lib.hid (HBV.out.grown hg4 HBV.out.size (fun q hq => by cases hq; exact Nat.le_refl _)); have HT4 := Lib.hid (HTX.out.below HB4.out HUX.out); have cT4 := HT4.out.cellT.1; clear hm4 hg4; have hlk := HT4.out.m.look_some HKB.out; have hlm := HM4.out.look k HI.out _ rfl; rw [List.count_append, HCC.out, List.count_singleton_self] at hlm; have p4 := (HT4.out.nodes _ HE2.out).cells; obtain ⟨_, _, _, p4, _⟩ := p4)
                    | (at_lookup; refine wpl_el_look_at rfl _ _ rfl rfl HT4.out.m k rfl b2 HKB.out ?_))
                  go_roundw
                  case rel => exact ⟨j + 1, by omega, by go_num, by rw [HTK.out]; exact HM4.out, HB4.out, by rw [HTK.out]; exact HKO.out.snoc HKOK.out HNM.out⟩
                  case measure => simp [intOf]; omega
              · have hq1 : (e2.par != e.id) = true := by simpa using hp2
                have HNO : Hid (elOk (ndsOf ns) e.nd = false) := Lib.hid (elOk_kid (n := e.nd) HKM.out (by unfold kidOk; rw [HFN.out]; simpa [El.nd] using hp2))
                clear hp2
                go_wp2_with (first
                  | (at_lookup; refine wpl_met_look rfl _ _ rfl rfl HMET.out k rfl HI.out _ HCC.out ?_)
                  | (at_mapUpdate; refine wpl_met_put rfl _ _ _ rfl rfl HMET.out k rfl HI.out _ HCC.out rfl HLL.out ?_; intro w4 hm4 hg4; have HM4 := Lib.hid hm4; have HB4 := Lib.hid (HBV.out.grown hg4 HBV.out.size (fun q hq => by cases hq; exact Nat.le_refl _)); have HT4 := Lib.hid (HTX.out.below HB4.out HUX.out); have cT4 := HT4.out.cellT.1; clear hm4 hg4; have hlk := HT4.out.m.look_some HKB.out; have hlm := HM4.out.look k HI.out _ rfl; rw [List.count_append, HCC.out, List.count_singleton_self] at hlm; have p4 := (HT4.out.nodes _ HE2.out).cells; obtain ⟨_, _, _, p4, _⟩ := p4)
                  | (at_lookup; refine wpl_el_look_at rfl _ _ rfl rfl HT4.out.m k rfl b2 HKB.out ?_))
                go_ret
                exact ⟨ret_bool (oneTree_no HEM.out (HNO.out)).symm, HFRX.out.trans (Frame.of_below (HB4.out.mono HWX.out)), fun h => by rw [oneTree_no HEM.out (HNO.out)] at h; cases h⟩
            · have HKN := Lib.hid hin
              have HNO : Hid (elOk (ndsOf ns) e.nd = false) := Lib.hid (elOk_kid (n := e.nd) HKM.out (by unfold kidOk; rw [fnd_nokey hin]))
              clear hin
              go_wp2_with (first
                | (at_lookup; refine wpl_met_look rfl _ _ rfl rfl HMET.out k rfl HI.out _ HCC.out ?_)
                | (at_mapUpdate; refine wpl_met_put rfl _ _ _ rfl rfl HMET.out k rfl HI.out _ HCC.out rfl HLL.out ?_; intro w4 hm4 hg4; have HM4 := Lib.hid hm4; have HB4 := Lib.hid (HBV.out.grown hg4 HBV.out.size (fun q hq => by cases hq; exact Nat.le_refl _)); have HT4 := Lib.hid (HTX.out.below HB4.out HUX.out); have cT4 := HT4.out.cellT.1; clear hm4 hg4)
                | (at_lookup; refine wpl_el_look_no rfl _ _ rfl rfl HT4.out.m k rfl HI.out HKN.out ?_))
              go_ret
              exact ⟨ret_bool (oneTree_no HEM.out (HNO.out)).symm, HFRX.out.trans (Frame.of_below (HB4.out.mono HWX.out)), fun h => by rw [oneTree_no HEM.out (HNO.out)] at h; cases h⟩
          · have hje : j = e.kids.length := by have := HJ.out; omega
            have HKO2 : Hid (KOk (ndsOf ns) e.id e.kids) := Lib.hid (by have := HKO.out; rw [hje, List.take_length] at this; exact this)
            have HELOK : Hid (elOk (ndsOf ns) e.nd = true) := Lib.hid (elOk_yes (n := e.nd) HPO.out HKO2.out)
            have k3v : wr.cell? ⟨b, 3, none⟩ = some (.slice a3 e.kids.length c3') := ((bcell HBV.out).1 b 3 HBX.out).trans K3.out
            have hkl : (e.kids.length : Int) ≤ 256 := by have := HKO2.out.le; rw [nds_len] at this; have := HTX.out.len; omega
            clear hje
            go_wp2_with fail
            go_roundw
            case rel =>
              refine ⟨dn ++ [(e, b)], l1 ++ l2, e.id, cnt1, ⟨HPM.out, by rw [← HC3.out], ?_, ?_, HRT2.out, HTX.out.below HBV.out HUX.out, HRGX.out.kept (HBV.out.block _ HBLX.out) (HBV.out.block _ HWR.out), HFRX.out.trans (Frame.of_below (HBV.out.mono HWX.out))⟩⟩
              · rw [ndsOf_append, show ndsOf [(e, b)] = [e.nd] from rfl, kidsN_snoc]
                rw [← HKV.out]
                simp [El.nd]
              · intro n hn
                rw [ndsOf_append] at hn
                rcases List.mem_append.1 hn with hn | hn
                · exact HOK.out n hn
                · obtain rfl : n = e.nd := by simpa [ndsOf] using hn
                  exact HELOK.out
            case measure =>
              rw [(HRGX.out.kept (HBV.out.block _ HBLX.out) (HBV.out.block _ HWR.out)).left, HRG.out.left]
              exact HLT.out
      · have hq : (e.par == -1) = false := by simpa using hpr
        have HQ := Lib.hid hpr
        clear hpr
        have cTd : w1.drew.cell? ⟨T, 0, none⟩ = some (.map (some B)) := HT1.out.cellT.1
        have p1d : w1.drew.cell? ⟨b, 1, none⟩ = some (.int .i64 e.par) := p1
        have HTX : Hid (TreeM w1.drew U B N T ns rt next) := Lib.hid (HT1.out.keep fun _ _ => rfl)
        have HFRX : Hid (Frame w.heap.size T w w1.drew) := Lib.hid (HFR1.out.trans ⟨rfl, rfl, rfl, Nat.le_refl _, fun _ _ _ => rfl⟩)
        by_cases hin : e.par ∈ (keysOf ns).map (·.1)
        · obtain ⟨⟨k', b2⟩, hkb2, hkk⟩ := List.mem_map.1 hin
          obtain rfl : k' = e.par := hkk
          have hlk := HTX.out.m.look_some hkb2
          obtain ⟨e2, he2, hid2⟩ := key_mem hkb2
          have HPO : Hid ((e.nd.par == -1 || (fnd (ndsOf ns) e.nd.par).isSome) = true) := Lib.hid (by
            rw [show e.nd.par = e2.id from hid2.symm, fnd_key HND.out he2]
            simp)
          have HRGX : Hid (RangeIs w1.drew B w.heap.size (keysOf ns) (keysOf (l1 ++ l2)) cnt1) := Lib.hid (HRG1.out.kept rfl rfl)
          have K3 : Hid (w1.drew.cell? ⟨b, 3, none⟩ = some (.slice a3 e.kids.length c3')) := K31
          have HINT : Hid (IntsFrom N U w1.drew (.slice a3 e.kids.length c3') e.kids) := Lib.hid (RowFrom.keep HINT1.out fun _ _ _ => rfl)
          have HWX : Hid (w.heap.size ≤ w1.drew.heap.size) := Lib.hid HFRX.out.2.2.2.1
          have hrn : rootsN (ndsOf (dn ++ [(e, b)])) = rootsN (ndsOf dn) := by
            rw [ndsOf_append, show ndsOf [(e, b)] = [e.nd] from rfl, rootsN_snoc, show (e.nd.par == -1) = false from hq]
            simp
          have HRT2 : Hid (∀ n ∈ ndsOf (dn ++ [(e, b)]), n.par = -1 → rootsN (ndsOf (dn ++ [(e, b)])) = 1 → rt = n.id) := Lib.hid (by
            intro n hn hp h1
            rw [hrn] at h1
            rw [ndsOf_append, show ndsOf [(e, b)] = [e.nd] from rfl] at hn
            rcases List.mem_append.1 hn with hn | hn
            · exact HRT.out n hn hp h1
            · obtain rfl : n = e.nd := by simpa using hn
              exact absurd hp HQ.out)
          have HC3 : Hid (((rv : Nat) : Int) = ((rootsN (ndsOf (dn ++ [(e, b)])) : Nat) : Int)) := Lib.hid (by rw [hrn, HRV.out])
          clear hin hkb2 he2 hid2 hrn
          go_wp2
          refine wp_region_held_drew (S := (fun s => s = w1.drew)) (by kernel_rfl) rfl (fun hHeld => ?_)
          refine wpAnyH_take (i := 0) (v := .pointer (some ⟨T, 0, none⟩)) rfl (by kernel_rfl) (by kernel_rfl) (by kernel_rfl) (fun _ _ _ h => h) (Or.inl ⟨by kernel_rfl, fun s hs => by subst hs; go_simp⟩) hHeld ?_
          refine wpAnyH_take (i := 1) (v := .pointer (some ⟨T, 0, none⟩)) rfl (by kernel_rfl) (by kernel_rfl) (by kernel_rfl) (fun _ _ _ h => h) (Or.inl ⟨by kernel_rfl, fun s hs => by subst hs; go_simp⟩) hHeld ?_
          refine wpAnyH_take (i := 2) (v := .pointer (some ⟨T, 0, none⟩)) rfl (by kernel_rfl) (by kernel_rfl) (by kernel_rfl) (fun _ _ _ h => h) (Or.inl ⟨by kernel_rfl, fun s hs => by subst hs; go_simp⟩) hHeld ?_
          refine wpAnyH_take (i := 3) (v := .map (some B)) rfl (by kernel_rfl) (by kernel_rfl) (by kernel_rfl) (fun _ _ _ h => h) (Or.inl ⟨by kernel_rfl, fun s hs => by subst hs; go_simp⟩) hHeld ?_
          refine wpAnyH_take (i := 4) (v := .pointer (some ⟨b, 0, none⟩)) rfl (by kernel_rfl) (by kernel_rfl) (by kernel_rfl) (fun _ _ _ h => h) (Or.inl ⟨by kernel_rfl, fun s hs => by subst hs; go_simp⟩) hHeld ?_
          refine wpAnyH_take (i := 5) (v := .pointer (some ⟨b, 0, none⟩)) rfl (by kernel_rfl) (by kernel_rfl) (by kernel_rfl) (fun _ _ _ h => h) (Or.inl ⟨by kernel_rfl, fun s hs => by subst hs; go_simp⟩) hHeld ?_
          refine wpAnyH_take (i := 6) (v := .pointer (some ⟨b, 1, none⟩)) rfl (by kernel_rfl) (by kernel_rfl) (by kernel_rfl) (fun _ _ _ h => h) (Or.inl ⟨by kernel_rfl, fun s hs => by subst hs; go_simp⟩) hHeld ?_
          refine wpAnyH_take (i := 7) (v := .int .i64 e.par) rfl (by kernel_rfl) (by kernel_rfl) (by kernel_rfl) (fun _ _ _ h => h) (Or.inl ⟨by kernel_rfl, fun s hs => by subst hs; go_simp⟩) hHeld ?_
          refine wpAnyH_take (i := 8) (v := .pointer (some ⟨b2, 0, none⟩)) rfl (by kernel_rfl) (by kernel_rfl) (by kernel_rfl) (fun _ _ _ h => h) (Or.inl ⟨by kernel_rfl, fun s hs => by subst hs; go_simp⟩) hHeld ?_
          refine wpAnyH_take (i := 9) (v := .bool false) rfl (by kernel_rfl) (by kernel_rfl) (by kernel_rfl) (fun _ _ _ h => h) (Or.inl ⟨by kernel_rfl, fun s hs => by subst hs; go_simp⟩) hHeld ?_
          refine wpAnyH_done (by kernel_rfl) ?_ _
          clear hHeld
          go_simp
          clear cTd p1d hlk
          generalize w1.drew = wX at HTX HFRX HRGX K3 HINT HWX ⊢
          have HBX : Hid (b < wX.heap.size) := Lib.hid (by have := HBU.out; have := HU.out; have := HWX.out; omega); have HUX : Hid (U ≤ wX.heap.size) := Lib.hid (by have := HU.out; have := HWX.out; omega); have HBLX := Lib.hid HRGX.out.lt.1; have HWR := Lib.hid HRGX.out.lt.2.1
          go_wp2_with (refine wpl_make_met rfl rfl ?_; intro wM hsM hM hbM; have HMM := Lib.hid hM; have HBM := Lib.hid hbM; have k3M : wM.cell? ⟨b, 3, none⟩ = some (.slice a3 e.kids.length c3') := ((bcell hbM).1 b 3 HBX.out).trans K3.out; clear hM hbM hsM)
          go_loopw [47] (fun i wr => ∃ j : Nat, j ≤ e.kids.length ∧ i = .int .i64 j ∧ MetIs wr wX.heap.size (e.kids.take j) ∧ Below wX.heap.size wX wr ∧ KOk (ndsOf ns) e.id (e.kids.take j)) (fun i _ => e.kids.length - (intOf i).toNat)
          case atStart => exact ⟨0, Nat.zero_le _, rfl, HMM.out, HBM.out, ⟨List.nodup_nil, fun k hk => by cases hk⟩⟩
          case round =>
            obtain ⟨j, hj, rfl, hmet, hbv, hko⟩ := hrel
            have HMET := Lib.hid hmet; have HBV := Lib.hid hbv; have HKO := Lib.hid hko; have HJ := Lib.hid hj
            clear hmet hbv hko k3M
            by_cases hlt : j < e.kids.length
            · obtain ⟨kb, off, rfl, hkb, hkr⟩ := RowAt.place (IntsFrom.at_ HINT.out) (by omega)
              have hkc : wr.cell? ⟨kb, off + j, none⟩ = some (.int .i64 e.kids[j]) := ((bcell HBV.out).1 kb (off + j) (Nat.lt_of_lt_of_le hkb HUX.out)).trans (hkr j _ (intCells_get hlt))
              have hi : I64 e.kids[j] := HEOK.out.kids _ (List.getElem_mem hlt)
              have htk : e.kids.take (j + 1) = e.kids.take j ++ [e.kids[j]] := take_snoc hlt
              have hdup : e.kids[j] ∈ e.kids.take j → ¬ e.kids.Nodup := dup_take hlt
              have hkm : e.kids[j] ∈ e.kids := List.getElem_mem hlt
              generalize e.kids[j] = k at hkc hi htk hdup hkm
              obtain ⟨c, hcc⟩ : ∃ c, (e.kids.take j).count k = c := ⟨_, rfl⟩
              have hc1 : c ≤ 1 := by rw [← hcc]; exact List.nodup_iff_count.1 HKO.out.nd k
              have hc2 : (c : Int) ≤ 1 := by omega
              have HI := Lib.hid hi; have HTK := Lib.hid htk; have HDUP := Lib.hid hdup; have HKM := Lib.hid hkm; have HCC := Lib.hid hcc; have HC1 := Lib.hid hc1
              have HLL : Hid ((e.kids.take j).length < 1000000) := Lib.hid (by have := HKO.out.le; rw [nds_len] at this; have := HTX.out.len; omega)
              have hkl : (e.kids.length : Int) < 9223372036854775807 := by have := HEOK.out.kn; omega
              have cTv : wr.cell? ⟨T, 0, none⟩ = some (.map (some B)) := (HTX.out.below HBV.out HUX.out).cellT.1
              clear hi htk hdup hkm hcc hc1 hkr hkb
              by_cases hin : k ∈ (keysOf ns).map (·.1)
              · obtain ⟨⟨k', b2⟩, hkb2, hkk⟩ := List.mem_map.1 hin
                obtain rfl : k = k' := hkk.symm
                obtain ⟨e2, he2, hid2⟩ := key_mem hkb2
                have HKB := Lib.hid hkb2; have HE2 := Lib.hid he2; have HID2 := Lib.hid hid2
                have hfn : fnd (ndsOf ns) k = some e2.nd := hid2 ▸ fnd_key HND.out he2
                have HFN := Lib.hid hfn
                clear hfn hkb2 he2 hid2 hin
                by_cases hp2 : e2.par = e.id
                · have hq1 : (e2.par != e.id) = false := by simpa using hp2
                  have HKOK : Hid (kidOk (ndsOf ns) e.id k = true) := Lib.hid (by unfold kidOk; rw [HFN.out]; simpa [El.nd] using hp2)
                  clear hp2
                  by_cases hmem : k ∈ e.kids.take j
                  · have hcp : 1 ≤ c := by rw [← HCC.out]; exact List.count_pos_iff.2 hmem
                    obtain rfl : c = 1 := by have := HC1.out; omega
                    have HNO := Lib.hid (elOk_dup (ns := ndsOf ns) (n := e.nd) (HDUP.out hmem))
                    clear hmem hcp
                    go_wp2_with (first
                      | (at_lookup; refine wpl_met_look rfl _ _ rfl rfl HMET.out k rfl HI.out _ HCC.out ?_)
                      | (at_mapUpdate; refine wpl_met_put rfl _ _ _ rfl rfl HMET.out k rfl HI.out _ HCC.out rfl HLL.out ?_; intro w4 hm4 hg4; have HM4 := Lib.hid hm4; have HB4 := Lib.hid (HBV.out.grown hg4 HBV.out.size (fun q hq => by cases hq; exact Nat.le_refl _)); have HT4 := Lib.hid (HTX.out.below HB4.out HUX.out); have cT4 := HT4.out.cellT.1; clear hm4 hg4; have hlk := HT4.out.m.look_some HKB.out; have hlm := HM4.out.look k HI.out _ rfl; rw [List.count_append, HCC.out, List.count_singleton_self] at hlm; have p4 := (HT4.out.nodes _ HE2.out).cells; obtain ⟨_, _, _, p4, _⟩ := p4)
                      | (at_lookup; refine wpl_el_look_at rfl _ _ rfl rfl HT4.out.m k rfl b2 HKB.out ?_))
                    go_ret
                    exact ⟨ret_bool (oneTree_no HEM.out (HNO.out)).symm, HFRX.out.trans (Frame.of_below (HB4.out.mono HWX.out)), fun h => by rw [oneTree_no HEM.out (HNO.out)] at h; cases h⟩
                  · have hcz : c = 0 := by rw [← HCC.out]; exact List.count_eq_zero.2 hmem
                    have HNM := Lib.hid hmem
                    subst hcz
                    clear hmem
                    go_wp2_with (first
                      | (at_lookup; refine wpl_met_look rfl _ _ rfl rfl HMET.out k rfl HI.out _ HCC.out ?_)
                      | (at_mapUpdate; refine wpl_met_put rfl _ _ _ rfl rfl HMET.out k rfl HI.out _ HCC.out rfl HLL.out ?_; intro w4 hm4 hg4; have HM4 := Lib.hid hm4; have HB4 := Lib.hid (HBV.out.grown hg4 HBV.out.size (fun q hq => by cases hq; exact Nat.le_refl _)); have HT4 := Lib.hid (HTX.out.below HB4.out HUX.out); have cT4 := HT4.out.cellT.1; clear hm4 hg4; have hlk := HT4.out.m.look_some HKB.out; have hlm := HM4.out.look k HI.out _ rfl; rw [List.count_append, HCC.out, List.count_singleton_self] at hlm; have p4 := (HT4.out.nodes _ HE2.out).cells; obtain ⟨_, _, _, p4, _⟩ := p4)
                      | (at_lookup; refine wpl_el_look_at rfl _ _ rfl rfl HT4.out.m k rfl b2 HKB.out ?_))
                    go_roundw
                    case rel => exact ⟨j + 1, by omega, by go_num, by rw [HTK.out]; exact HM4.out, HB4.out, by rw [HTK.out]; exact HKO.out.snoc HKOK.out HNM.out⟩
                    case measure => simp [intOf]; omega
                · have hq1 : (e2.par != e.id) = true := by simpa using hp2
                  have HNO : Hid (elOk (ndsOf ns) e.nd = false) := Lib.hid (elOk_kid (n := e.nd) HKM.out (by unfold kidOk; rw [HFN.out]; simpa [El.nd] using hp2))
                  clear hp2
                  go_wp2_with (first
                    | (at_lookup; refine wpl_met_look rfl _ _ rfl rfl HMET.out k rfl HI.out _ HCC.out ?_)
                    | (at_mapUpdate; refine wpl_met_put rfl _ _ _ rfl rfl HMET.out k rfl HI.out _ HCC.out rfl HLL.out ?_; intro w4 hm4 hg4; have HM4 := Lib.hid hm4; have HB4 := Lib.hid (HBV.out.grown hg4 HBV.out.size (fun q hq => by cases hq; exact Nat.le_refl _)); have HT4 := Lib.hid (HTX.out.below HB4.out HUX.out); have cT4 := HT4.out.cellT.1; clear hm4 hg4; have hlk := HT4.out.m.look_some HKB.out; have hlm := HM4.out.look k HI.out _ rfl; rw [List.count_append, HCC.out, List.count_singleton_self] at hlm; have p4 := (HT4.out.nodes _ HE2.out).cells; obtain ⟨_, _, _, p4, _⟩ := p4)
                    | (at_lookup; refine wpl_el_look_at rfl _ _ rfl rfl HT4.out.m k rfl b2 HKB.out ?_))
                  go_ret
                  exact ⟨ret_bool (oneTree_no HEM.out (HNO.out)).symm, HFRX.out.trans (Frame.of_below (HB4.out.mono HWX.out)), fun h => by rw [oneTree_no HEM.out (HNO.out)] at h; cases h⟩
              · have HKN := Lib.hid hin
                have HNO : Hid (elOk (ndsOf ns) e.nd = false) := Lib.hid (elOk_kid (n := e.nd) HKM.out (by unfold kidOk; rw [fnd_nokey hin]))
                clear hin
                go_wp2_with (first
                  | (at_lookup; refine wpl_met_look rfl _ _ rfl rfl HMET.out k rfl HI.out _ HCC.out ?_)
                  | (at_mapUpdate; refine wpl_met_put rfl _ _ _ rfl rfl HMET.out k rfl HI.out _ HCC.out rfl HLL.out ?_; intro w4 hm4 hg4; have HM4 := Lib.hid hm4; have HB4 := Lib.hid (HBV.out.grown hg4 HBV.out.size (fun q hq => by cases hq; exact Nat.le_refl _)); have HT4 := Lib.hid (HTX.out.below HB4.out HUX.out); have cT4 := HT4.out.cellT.1; clear hm4 hg4)
                  | (at_lookup; refine wpl_el_look_no rfl _ _ rfl rfl HT4.out.m k rfl HI.out HKN.out ?_))
                go_ret
                exact ⟨ret_bool (oneTree_no HEM.out (HNO.out)).symm, HFRX.out.trans (Frame.of_below (HB4.out.mono HWX.out)), fun h => by rw [oneTree_no HEM.out (HNO.out)] at h; cases h⟩
            · have hje : j = e.kids.length := by have := HJ.out; omega
              have HKO2 : Hid (KOk (ndsOf ns) e.id e.kids) := Lib.hid (by have := HKO.out; rw [hje, List.take_length] at this; exact this)
              have HELOK : Hid (elOk (ndsOf ns) e.nd = true) := Lib.hid (elOk_yes (n := e.nd) HPO.out HKO2.out)
              have k3v : wr.cell? ⟨b, 3, none⟩ = some (.slice a3 e.kids.length c3') := ((bcell HBV.out).1 b 3 HBX.out).trans K3.out
              have hkl : (e.kids.length : Int) ≤ 256 := by have := HKO2.out.le; rw [nds_len] at this; have := HTX.out.len; omega
              clear hje
              go_wp2_with fail
              go_roundw
              case rel =>
                refine ⟨dn ++ [(e, b)], l1 ++ l2, rt, cnt1, ⟨HPM.out, by rw [← HC3.out], ?_, ?_, HRT2.out, HTX.out.below HBV.out HUX.out, HRGX.out.kept (HBV.out.block _ HBLX.out) (HBV.out.block _ HWR.out), HFRX.out.trans (Frame.of_below (HBV.out.mono HWX.out))⟩⟩
                · rw [ndsOf_append, show ndsOf [(e, b)] = [e.nd] from rfl, kidsN_snoc]
                  rw [← HKV.out]
                  simp [El.nd]
                · intro n hn
                  rw [ndsOf_append] at hn
                  rcases List.mem_append.1 hn with hn | hn
                  · exact HOK.out n hn
                  · obtain rfl : n = e.nd := by simpa [ndsOf] using hn
                    exact HELOK.out
              case measure =>
                rw [(HRGX.out.kept (HBV.out.block _ HBLX.out) (HBV.out.block _ HWR.out)).left, HRG.out.left]
                exact HLT.out
        · have hlk := HTX.out.m.look_none HEOK.out.par hin
          have HNO : Hid (elOk (ndsOf ns) e.nd = false) := Lib.hid (elOk_par (n := e.nd) (by rw [show e.nd.par = e.par from rfl, hq, fnd_nokey hin]; rfl))
          clear hin
          go_wp2
          refine wp_region_held_drew (S := (fun s => s = w1.drew)) (by kernel_rfl) rfl (fun hHeld => ?_)
          refine wpAnyH_take (i := 0) (v := .pointer (some ⟨T, 0, none⟩)) rfl (by kernel_rfl) (by kernel_rfl) (by kernel_rfl) (fun _ _ _ h => h) (Or.inl ⟨by kernel_rfl, fun s hs => by subst hs; go_simp⟩) hHeld ?_
          refine wpAnyH_take (i := 1) (v := .pointer (some ⟨T, 0, none⟩)) rfl (by kernel_rfl) (by kernel_rfl) (by kernel_rfl) (fun _ _ _ h => h) (Or.inl ⟨by kernel_rfl, fun s hs => by subst hs; go_simp⟩) hHeld ?_
          refine wpAnyH_take (i := 2) (v := .pointer (some ⟨T, 0, none⟩)) rfl (by kernel_rfl) (by kernel_rfl) (by kernel_rfl) (fun _ _ _ h => h) (Or.inl ⟨by kernel_rfl, fun s hs => by subst hs; go_simp⟩) hHeld ?_
          refine wpAnyH_take (i := 3) (v := .map (some B)) rfl (by kernel_rfl) (by kernel_rfl) (by kernel_rfl) (fun _ _ _ h => h) (Or.inl ⟨by kernel_rfl, fun s hs => by subst hs; go_simp⟩) hHeld ?_
          refine wpAnyH_take (i := 4) (v := .pointer (some ⟨b, 0, none⟩)) rfl (by kernel_rfl) (by kernel_rfl) (by kernel_rfl) (fun _ _ _ h => h) (Or.inl ⟨by kernel_rfl, fun s hs => by subst hs; go_simp⟩) hHeld ?_
          refine wpAnyH_take (i := 5) (v := .pointer (some ⟨b, 0, none⟩)) rfl (by kernel_rfl) (by kernel_rfl) (by kernel_rfl) (fun _ _ _ h => h) (Or.inl ⟨by kernel_rfl, fun s hs => by subst hs; go_simp⟩) hHeld ?_
          refine wpAnyH_take (i := 6) (v := .pointer (some ⟨b, 1, none⟩)) rfl (by kernel_rfl) (by kernel_rfl) (by kernel_rfl) (fun _ _ _ h => h) (Or.inl ⟨by kernel_rfl, fun s hs => by subst hs; go_simp⟩) hHeld ?_
          refine wpAnyH_take (i := 7) (v := .int .i64 e.par) rfl (by kernel_rfl) (by kernel_rfl) (by kernel_rfl) (fun _ _ _ h => h) (Or.inl ⟨by kernel_rfl, fun s hs => by subst hs; go_simp⟩) hHeld ?_
          refine wpAnyH_take (i := 8) (v := .pointer none) rfl (by kernel_rfl) (by kernel_rfl) (by kernel_rfl) (fun _ _ _ h => h) (Or.inl ⟨by kernel_rfl, fun s hs => by subst hs; go_simp⟩) hHeld ?_
          refine wpAnyH_take (i := 9) (v := .bool true) rfl (by kernel_rfl) (by kernel_rfl) (by kernel_rfl) (fun _ _ _ h => h) (Or.inl ⟨by kernel_rfl, fun s hs => by subst hs; go_simp⟩) hHeld ?_
          refine wpAnyH_done (by kernel_rfl) ?_ _
          clear hHeld
          go_simp
          clear cTd p1d hlk
          go_wp2
          go_ret
          exact ⟨ret_bool (oneTree_no HEM.out HNO.out).symm, HFRX.out, fun h => by rw [oneTree_no HEM.out HNO.out] at h; cases h⟩
end Go.Proofs.YthbmnacleneflaaGreatDoor
