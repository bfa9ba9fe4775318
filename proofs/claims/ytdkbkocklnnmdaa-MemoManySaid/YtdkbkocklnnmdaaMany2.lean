/-
  Beside goroutines that only leave: main's walk through memo.Cell[string].Get, asked first, over a function that counts its runs and tells a captured value. Conditions: the blocks hold what is said.
-/
import Derived.Test.YtdkbkocklnnmdaaMany1
set_option linter.unusedSimpArgs false
set_option linter.unusedVariables false
namespace Go.Proofs.Ytdkbkocklnnmdaa.many
open Go Go.Conc Go.RowKit Go.ConcR.Gen Go.ConcN.Gen Go.Proofs.Ytdkbkocklnnmdaa.crew Go.Proofs.Ytdkbkocklnnmdaa.wg Go.Proofs.Ytdkbkocklnnmdaa.free
open Go.Proofs.Ytdkbkocklnnmdaa.kid (opsOf cL cR cB hmf2 hmf3)
open Go.Proofs.Ytdkbkocklnnmdaa.tog (Tp Cs AtCs cblk p50 cs0 cs1 cs3 cs4 cs5 cs6 csz set0 set1 set4 set5 set6 Atom ops47 ord47 x47 x21 x82 q47 q21 q82 q23 body82)
open Go.ConcX.Gen (setCell_at alloc_at)

abbrev NoS : Loc → Prop := fun _ => False
abbrev AllL : Loc → Prop := fun _ => True
theorem may_all (b : Nat) : May NoS AllL b := fun a ha => ⟨id, trivial⟩
theorem evS_all {a : Addr} {wr : Bool} : ∀ e ∈ (#[⟨.cell a, wr, false⟩] : Array Event), EvS NoS AllL e := by
  intro e he; simp at he; subst he; exact evS_pl ⟨id, trivial⟩
theorem OnlyT.aside {W0 W : World} {ad : Addr} {v : Value} (o : OnlyT W0 W) (h : W0.heap.size ≤ ad.block) : OnlyT W0 (W.setCell ad v) := by
  have A := aside_setCell W ad v
  obtain ⟨d, e⟩ := o.os
  exact ⟨⟨d, by rw [A.os, e]⟩, A.tape.trans o.tape, A.output.trans o.output, by rw [A.size]; exact o.size, fun k hk => (A.block k (fun e => absurd (e ▸ hk) (Nat.not_lt.2 h))).trans (o.block k hk)⟩
section
variable {St : Goroutine → World → Prop} {cs : List Frame} {mT : Nat}
set_option maxRecDepth 100000 in
set_option maxHeartbeats 16000000 in
/-- run's deferred closure. -/
theorem catchN {p : Tp} {c : Cs} {bx : Nat} {c₀ : Frame} {W : World} (hcm : c₀.mode = .returning) (h : AtCs p c W) (hx : W.cell? ⟨bx, 0, none⟩ = some (.pointer (some ⟨p.C, 0, none⟩)))
    (hT : ∀ y, Conc.AtRel (W.setCell (tog.cA p 5) (.int .u32 1)) y → Goes Try.prog true Conc.AtRel (DF NoS AllL) St mT (G c₀ cs) y) :
    ∀ y, Conc.AtRel W y → Goes Try.prog true Conc.AtRel (DF NoS AllL) St (mT + 80) (G ((baseD 82).at { tmps := #[.pointer (some ⟨bx, 0, none⟩)] ++ Array.replicate 13 undef, defers := [] } [.code (Try.f82.body.getD .skip)]) (c₀ :: cs)) y := by
  intro y hF
  have hMx := may_all bx
  simp only [Try.f82, Option.getD_some]
  walk_nrm
  u_c stepG_seq at_rely hF
  u_c stepG_seq at_rely hF
  u_reg at_rely hF
  u_in at_rely hF
  rw [stepG_recover_idle rfl rfl rfl rfl rfl hcm]
  simp only [goes_go]
  refine ⟨by u_nil, ?_⟩
  walk_nrm
  have hnn := run_neq_nil
  have hne := ev_neq_nil
  u_op at_rely hF
  u_c stepG_region_end at_rely hF
  u_c stepG_seq at_rely hF
  u_reg at_rely hF
  u_op at_rely hF
  u_op at_rely hF
  u_c stepG_region_end at_rely hF
  u_cond false at_rely hF
  u_c stepG_skip at_rely hF
  u_reg at_rely hF
  u_in at_rely hF
  refine goes_oper_k rfl rfl (by k_ne) (fun K hK => ?_)
  have hcl := free.at_cell hF
  have hfz := free.at_frozen hF
  have hsz := free.at_size hF
  go_simp
  refine hK _ _ ⟨fun e he => ?_, ?_⟩
  · (have hm := mem_listed he; simp [go_sem, storedEv, *] at hm; try (subst hm; refine free.evS_may ?_ (Eq.refl _); assumption))
  clear hK K hcl hfz hsz
  u_op at_rely hF
  u_op at_rely hF
  u_in at_rely hF
  refine goes_call rfl rfl (by k_ne) rfl Try.func57 x57 rfl ⟨by u_nil, ?_⟩
  have hA := @storeC NoS AllL St
  simp only [Try.f57, Option.getD_some, Array.replicate_succ, Array.replicate_zero, List.push_toArray, List.append_toArray, List.nil_append, List.cons_append] at hA
  walk_nrmf Try.f57
  refine Goes.mono (hA (mT := mT + 20) (cs5 h) (csz h 5) trivial (fun y hF => ?_) _ hF) (by omega)
  clear hA
  walk_nrm
  u_c stepG_region_end at_rely hF
  u_c stepG_end at_rely hF
  u_in at_rely hF
  rw [stepG_leave_deferred rfl rfl Try.func82 (results_none rfl _ _ _) (events_results_none rfl _ _) hcm]
  simp only [goes_go]
  refine ⟨by u_nil, ?_⟩
  exact Goes.mono (hT _ hF) (by omega)
end

section
variable {St : Goroutine → World → Prop} {b₀ : Frame} {a₀ : Act} {ops₀ : Array Oper} {i₀ : Nat} {rest₀ : List Nat} {k₀ : List Item} {cs : List Frame} {mT : Nat}
set_option maxRecDepth 100000 in
set_option maxHeartbeats 16000000 in
/-- run. -/
theorem runN {p : Tp} {c : Cs} {Bv : Nat} {v : ByteArray} {W0 W : World} (ho : OnlyT W0 W) (hC0 : W0.heap.size ≤ p.C) (hR0 : W0.heap.size ≤ p.Rn) (h : AtCs p c W) (hr0 : c.r = 0) (hfC : p.fC = .func (.func 21) #[] #[.pointer (some ⟨p.Rn, 0, none⟩), .pointer (some ⟨Bv, 0, none⟩)]) (hcr : p.C ≠ p.Rn) (hcv : p.C ≠ Bv) (hrv : p.Rn ≠ Bv) (hr : W.heap[p.Rn]? = some (.cells #[.int .i64 0] 3)) (hv : W.heap[Bv]? = some (.cells #[.string v] 9))
    (hT : ∀ X, OnlyT W0 X → AtCs p { c with r := 1, v := .string v, cd := 1 } X → X.heap[p.Rn]? = some (.cells #[.int .i64 1] 3) → X.heap[Bv]? = some (.cells #[.string v] 9) → ∀ y, Conc.AtRel X y → Goes Try.prog true Conc.AtRel (DF NoS AllL) St mT (G (b₀.at (a₀.put ((ops₀[i₀]?).bind (·.dst)) (.tuple #[])) (.inRegion ops₀ rest₀ :: k₀)) cs) y) :
    ∀ y, Conc.AtRel W y → Goes Try.prog true Conc.AtRel (DF NoS AllL) St (mT + 250) (G ((base 47).at { tmps := #[.pointer (some ⟨p.C, 0, none⟩)] ++ Array.replicate 19 undef, defers := [] } [.code (Try.f47.body.getD .skip)]) (b₀.at a₀ (.inRegion ops₀ (i₀ :: rest₀) :: k₀) :: cs)) y := by
  intro y hF
  have hMa := may_all
  have hMC := may_all p.C
  have hMR := may_all p.Rn
  have hMV := may_all Bv
  have hMx := may_all W.heap.size
  have l1 := lt_of_block hr
  have l2 := lt_of_block hv
  have l3 := lt_of_block (show W.heap[p.C]? = _ from h)
  have o1 : OnlyT W0 (W.alloc (.cells #[.pointer (some ⟨p.C, 0, none⟩)] 50)) := ho.trans (OnlyT.of ((Only.refl _ W).alloc _))
  have e1 : AtCs p c (W.alloc (.cells #[.pointer (some ⟨p.C, 0, none⟩)] 50)) := box_old (show W.heap[p.C]? = _ from h)
  have r1 := box_old (x := .cells #[.pointer (some ⟨p.C, 0, none⟩)] 50) hr
  have v1 := box_old (x := .cells #[.pointer (some ⟨p.C, 0, none⟩)] 50) hv
  have x1 := box_new W (.cells #[.pointer (some ⟨p.C, 0, none⟩)] 50)
  have hmf := hmf2
  have hme := hmf3
  have hfr := tog.feq52
  have hfe := tog.fev52
  have hod := fun t => schedule_orders ops47 t
  simp only [show ops47.size = 9 from by kernel_rfl, ord47] at hod
  simp only [ops47, tog.body47, opsOf, cR, Try.f47, Option.getD_some] at hod ⊢
  have HO := Lib.hid hod
  clear hod
  walk_nrm
  u_c stepG_seq at_rely hF
  u_reg at_rely hF
  u_in at_rely hF
  refine goes_oper_k rfl rfl (by k_ne) (fun K hK => ?_)
  have hcl := free.at_cell hF
  have hfz := free.at_frozen hF
  have hsz := free.at_size hF
  go_simp
  refine hK _ _ ⟨fun e he => ?_, ?_⟩
  · (have hm := mem_listed he; simp [go_sem, storedEv, *] at hm; try (subst hm; refine free.evS_may ?_ (Eq.refl _); assumption))
  clear hK K hcl hfz hsz
  refine free.next_alloc hF (fun _ hF => ?_)
  u_c stepG_region_end at_rely hF
  u_c stepG_seq at_rely hF
  u_reg at_rely hF
  generalize W.alloc (.cells #[.pointer (some ⟨p.C, 0, none⟩)] 50) = W1 at hF o1 e1 r1 v1 x1
  have hbx : W.heap.size ≠ p.C := by omega
  have hbr : W.heap.size ≠ p.Rn := by omega
  have hb0 : W0.heap.size ≤ W.heap.size := ho.size
  generalize W.heap.size = bx at hF x1 hbx hbr hMx hb0 ⊢
  have c3 := cs3 e1
  rw [hfC] at c3
  simp only [tog.cA] at c3
  have cx := cell_of_one x1
  u_op at_rely hF
  u_in at_rely hF
  rw [stepG_defer_clo rfl rfl (by k_ne) rfl rfl]
  simp only [goes_go]
  refine ⟨by u_nil, ?_⟩
  walk_nrm
  u_c stepG_region_end at_rely hF
  u_c stepG_seq at_rely hF
  u_c stepG_seq at_rely hF
  u_reg at_rely hF
  u_in at_rely hF
  refine goes_oper_k rfl rfl (by k_ne) (fun K hK => ?_)
  have hcl := free.at_cell hF
  have hfz := free.at_frozen hF
  have hsz := free.at_size hF
  go_simp
  refine hK _ _ ⟨fun e he => ?_, ?_⟩
  · (have hm := mem_listed he; simp [go_sem, storedEv, *] at hm; try (subst hm; refine free.evS_may ?_ (Eq.refl _); assumption))
  clear hK K hcl hfz hsz
  u_op at_rely hF
  u_op at_rely hF
  u_in at_rely hF
  refine goes_oper_k rfl rfl (by k_ne) (fun K hK => ?_)
  have hcl := free.at_cell hF
  have hfz := free.at_frozen hF
  have hsz := free.at_size hF
  go_simp
  refine hK _ _ ⟨fun e he => ?_, ?_⟩
  · (have hm := mem_listed he; simp [go_sem, storedEv, *] at hm; try (subst hm; refine free.evS_may ?_ (Eq.refl _); assumption))
  clear hK K hcl hfz hsz
  u_op at_rely hF
  u_c stepG_region_end at_rely hF
  u_cond false at_rely hF
  u_c stepG_skip at_rely hF
  u_c stepG_seq at_rely hF
  u_reg at_rely hF
  u_in at_rely hF
  refine goes_oper_k rfl rfl (by k_ne) (fun K hK => ?_)
  have hcl := free.at_cell hF
  have hfz := free.at_frozen hF
  have hsz := free.at_size hF
  go_simp
  refine hK _ _ ⟨fun e he => ?_, ?_⟩
  · (have hm := mem_listed he; simp [go_sem, storedEv, *] at hm; try (subst hm; refine free.evS_may ?_ (Eq.refl _); assumption))
  clear hK K hcl hfz hsz
  u_op at_rely hF
  u_op at_rely hF
  u_call Try.func58 x58 Try.f58 at_rely hF
  u_c stepG_seq at_rely hF
  u_reg at_rely hF
  u_op at_rely hF
  u_c stepG_region_end at_rely hF
  u_c stepG_seq at_rely hF
  u_reg at_rely hF
  u_op at_rely hF
  u_op at_rely hF
  u_op at_rely hF
  u_op at_rely hF
  u_in at_rely hF
  have c6 := (at_cell hF _).trans (cs6 e1)
  rw [hr0] at c6
  have z6 := (at_frozen hF _).trans (csz e1 6)
  rw [stepG_add_atomic (v := 0) (d := 1) rfl rfl (by k_ne) rfl Try.func88 x88.1 x88.2.1 x88.2.2 .i64 e88 rfl rfl c6 z6]
  simp only [goes_go, show IntKind.i64.wrap (0 + 1) = 1 from by decide]
  refine ⟨ev2 trivial, ?_⟩
  walk_nrm
  clear c6 z6 c3 cx
  refine next_set hF fun _ hF => ?_
  have A := aside_setCell W1 (tog.cA p 6) (.int .i64 1)
  have e2 := set6 e1 1
  have r2 := (A.block p.Rn (fun e => hcr e.symm)).trans r1
  have v2 := (A.block Bv (fun e => hcv e.symm)).trans v1
  have x2 := (A.block bx hbx).trans x1
  have o2 : OnlyT W0 (W1.setCell (tog.cA p 6) (.int .i64 1)) := o1.aside hC0
  clear A e1 r1 v1 x1 o1
  generalize W1.setCell (tog.cA p 6) (.int .i64 1) = W2 at hF e2 r2 v2 x2 o2
  have c3 := cs3 e2
  rw [hfC] at c3
  simp only [tog.cA] at c3
  have cx := cell_of_one x2
  u_op at_rely hF
  u_c stepG_region_end at_rely hF
  u_c stepG_ret' at_rely hF
  u_leave1 Try.func58 at_rely hF
  u_c stepG_region_end at_rely hF
  u_in at_rely hF
  rw [stepG_region_draw]
  simp only [goes_go]
  refine ⟨fun e he => by simp at he, ?_⟩
  replace hF := at_draw hF
  generalize hs : Region.schedule _ _ _ = sched
  obtain ⟨t, ht⟩ := Exists.intro (p := fun t => Region.schedule _ _ t = sched) _ hs
  have hod := HO.out t
  rw [ht] at hod
  clear ht hs HO
  simp only [List.mem_cons, List.not_mem_nil, or_false] at hod
  rcases hod with rfl | rfl | rfl | rfl | rfl | rfl
  · u_in at_rely hF
    refine goes_oper_k rfl rfl (by k_ne) (fun K hK => ?_)
    have hcl := free.at_cell hF
    have hfz := free.at_frozen hF
    have hsz := free.at_size hF
    go_simp
    refine hK _ _ ⟨fun e he => ?_, ?_⟩
    · (have hm := mem_listed he; simp [go_sem, storedEv, *] at hm; try (subst hm; refine free.evS_may ?_ (Eq.refl _); assumption))
    clear hK K hcl hfz hsz
    u_in at_rely hF
    refine goes_oper_k rfl rfl (by k_ne) (fun K hK => ?_)
    have hcl := free.at_cell hF
    have hfz := free.at_frozen hF
    have hsz := free.at_size hF
    go_simp
    refine hK _ _ ⟨fun e he => ?_, ?_⟩
    · (have hm := mem_listed he; simp [go_sem, storedEv, *] at hm; try (subst hm; refine free.evS_may ?_ (Eq.refl _); assumption))
    clear hK K hcl hfz hsz
    u_op at_rely hF
    u_op at_rely hF
    u_in at_rely hF
    refine goes_oper_k rfl rfl (by k_ne) (fun K hK => ?_)
    have hcl := free.at_cell hF
    have hfz := free.at_frozen hF
    have hsz := free.at_size hF
    go_simp
    refine hK _ _ ⟨fun e he => ?_, ?_⟩
    · (have hm := mem_listed he; simp [go_sem, storedEv, *] at hm; try (subst hm; refine free.evS_may ?_ (Eq.refl _); assumption))
    clear hK K hcl hfz hsz
    u_in at_rely hF
    refine goes_callv rfl rfl (by k_ne) rfl rfl Try.func21 x21 rfl ⟨by u_nil, ?_⟩
    walk_nrmf Try.f21
    have cr := cell_of_one r2
    have zr : W2.frozen? ⟨p.Rn, 0, none⟩ = false := by simp [World.frozen?, r2]
    have cv := cell_of_one v2
    u_c stepG_seq at_rely hF
    u_reg at_rely hF
    u_op at_rely hF
    u_c stepG_region_end at_rely hF
    u_c stepG_seq at_rely hF
    u_reg at_rely hF
    u_in at_rely hF
    refine goes_oper_k rfl rfl (by k_ne) (fun K hK => ?_)
    have hcl := free.at_cell hF
    have hfz := free.at_frozen hF
    have hsz := free.at_size hF
    go_simp
    refine hK _ _ ⟨fun e he => ?_, ?_⟩
    · (have hm := mem_listed he; simp [go_sem, storedEv, *] at hm; try (subst hm; refine free.evS_may ?_ (Eq.refl _); assumption))
    clear hK K hcl hfz hsz
    u_op at_rely hF
    u_in at_rely hF
    refine goes_oper_k rfl rfl (by k_ne) (fun K hK => ?_)
    have hcl := free.at_cell hF
    have hfz := free.at_frozen hF
    have hsz := free.at_size hF
    go_simp
    refine hK _ _ ⟨fun e he => ?_, ?_⟩
    · (have hm := mem_listed he; simp [go_sem, storedEv, *] at hm; try (subst hm; refine free.evS_may ?_ (Eq.refl _); assumption))
    clear hK K hcl hfz hsz
    refine free.next_set hF (fun _ hF => ?_)
    u_c stepG_region_end at_rely hF
    u_c stepG_seq at_rely hF
    u_reg at_rely hF
    u_in at_rely hF
    refine goes_oper_k rfl rfl (by k_ne) (fun K hK => ?_)
    have hcl := free.at_cell hF
    have hfz := free.at_frozen hF
    have hsz := free.at_size hF
    go_simp
    refine hK _ _ ⟨fun e he => ?_, ?_⟩
    · (have hm := mem_listed he; simp [go_sem, storedEv, *] at hm; try (subst hm; refine free.evS_may ?_ (Eq.refl _); assumption))
    clear hK K hcl hfz hsz
    u_op at_rely hF
    u_c stepG_region_end at_rely hF
    u_c stepG_ret' at_rely hF
    u_leave1 Try.func21 at_rely hF
    rw [show IntKind.i64.wrap 1 = 1 from by decide] at hF
    have A := aside_setCell W2 ⟨p.Rn, 0, none⟩ (.int .i64 1)
    have e3 : AtCs p { c with r := 1 } (W2.setCell ⟨p.Rn, 0, none⟩ (.int .i64 1)) := (A.block p.C hcr).trans e2
    have r3 : (W2.setCell ⟨p.Rn, 0, none⟩ (.int .i64 1)).heap[p.Rn]? = some (.cells #[.int .i64 1] 3) := by simp [World.setCell, Array.getElem?_modify, r2]
    have v3 := (A.block Bv (fun e => hrv e.symm)).trans v2
    have x3 := (A.block bx hbr).trans x2
    have o3 : OnlyT W0 (W2.setCell ⟨p.Rn, 0, none⟩ (.int .i64 1)) := o2.aside hR0
    clear A e2 r2 v2 x2 o2 cr zr c3 cx cv
    generalize W2.setCell ⟨p.Rn, 0, none⟩ (.int .i64 1) = W3 at hF e3 r3 v3 x3 o3
    have cx := cell_of_one x3
    u_op at_rely hF
    u_op at_rely hF
    u_in at_rely hF
    have hcl := (at_cell hF (tog.cA p 4)).trans (cs4 e3)
    have hfz := (at_frozen hF (tog.cA p 4)).trans (csz e3 4)
    rw [tog.stepG_storeE (ty := 9) (by simp [tog.one]) rfl rfl (by k_ne) rfl rfl rfl (.inr (.inl ⟨_, rfl⟩)) hcl hfz q47]
    simp only [goes_go]
    refine ⟨evS_all, ?_⟩
    walk_nrm
    clear hcl hfz cx
    refine next_set hF fun _ hF => ?_
    have A := aside_setCell W3 (tog.cA p 4) (.string v)
    have e4 := set4 e3 (.string v)
    have r4 := (A.block p.Rn (fun e => hcr e.symm)).trans r3
    have v4 := (A.block Bv (fun e => hcv e.symm)).trans v3
    have x4 := (A.block bx hbx).trans x3
    have o4 : OnlyT W0 (W3.setCell (tog.cA p 4) (.string v)) := o3.aside hC0
    clear A e3 r3 v3 x3 o3
    generalize W3.setCell (tog.cA p 4) (.string v) = W4 at hF e4 r4 v4 x4 o4
    u_c stepG_region_end at_rely hF
    u_c stepG_end at_rely hF
    u_in at_rely hF
    rw [stepG_unwind_clo rfl Try.func82 x82 rfl]
    simp only [goes_go]
    refine ⟨by u_nil, ?_⟩
    have hA := @catchN St
    simp only [Try.f82, Option.getD_some, Array.replicate_succ, Array.replicate_zero, List.push_toArray, List.append_toArray, List.nil_append, List.cons_append] at hA
    walk_nrmf Try.f82
    refine Goes.mono (hA (mT := mT + 5) rfl e4 (cell_of_one x4) (fun y hF => ?_) _ hF) (by omega)
    clear hA
    have A := aside_setCell W4 (tog.cA p 5) (.int .u32 1)
    have e5 := set5 e4 1
    have o5 : OnlyT W0 (W4.setCell (tog.cA p 5) (.int .u32 1)) := o4.aside hC0
    have hX := hT _ o5 e5 ((A.block p.Rn (fun e => hcr e.symm)).trans r4) ((A.block Bv (fun e => hcv e.symm)).trans v4)
    u_leave0 Try.func47 at_rely hF
    exact Goes.mono (hX _ hF) (by omega)
  · u_in at_rely hF
    refine goes_oper_k rfl rfl (by k_ne) (fun K hK => ?_)
    have hcl := free.at_cell hF
    have hfz := free.at_frozen hF
    have hsz := free.at_size hF
    go_simp
    refine hK _ _ ⟨fun e he => ?_, ?_⟩
    · (have hm := mem_listed he; simp [go_sem, storedEv, *] at hm; try (subst hm; refine free.evS_may ?_ (Eq.refl _); assumption))
    clear hK K hcl hfz hsz
    u_in at_rely hF
    refine goes_oper_k rfl rfl (by k_ne) (fun K hK => ?_)
    have hcl := free.at_cell hF
    have hfz := free.at_frozen hF
    have hsz := free.at_size hF
    go_simp
    refine hK _ _ ⟨fun e he => ?_, ?_⟩
    · (have hm := mem_listed he; simp [go_sem, storedEv, *] at hm; try (subst hm; refine free.evS_may ?_ (Eq.refl _); assumption))
    clear hK K hcl hfz hsz
    u_op at_rely hF
    u_op at_rely hF
    u_in at_rely hF
    refine goes_oper_k rfl rfl (by k_ne) (fun K hK => ?_)
    have hcl := free.at_cell hF
    have hfz := free.at_frozen hF
    have hsz := free.at_size hF
    go_simp
    refine hK _ _ ⟨fun e he => ?_, ?_⟩
    · (have hm := mem_listed he; simp [go_sem, storedEv, *] at hm; try (subst hm; refine free.evS_may ?_ (Eq.refl _); assumption))
    clear hK K hcl hfz hsz
    u_in at_rely hF
    refine goes_callv rfl rfl (by k_ne) rfl rfl Try.func21 x21 rfl ⟨by u_nil, ?_⟩
    walk_nrmf Try.f21
    have cr := cell_of_one r2
    have zr : W2.frozen? ⟨p.Rn, 0, none⟩ = false := by simp [World.frozen?, r2]
    have cv := cell_of_one v2
    u_c stepG_seq at_rely hF
    u_reg at_rely hF
    u_op at_rely hF
    u_c stepG_region_end at_rely hF
    u_c stepG_seq at_rely hF
    u_reg at_rely hF
    u_in at_rely hF
    refine goes_oper_k rfl rfl (by k_ne) (fun K hK => ?_)
    have hcl := free.at_cell hF
    have hfz := free.at_frozen hF
    have hsz := free.at_size hF
    go_simp
    refine hK _ _ ⟨fun e he => ?_, ?_⟩
    · (have hm := mem_listed he; simp [go_sem, storedEv, *] at hm; try (subst hm; refine free.evS_may ?_ (Eq.refl _); assumption))
    clear hK K hcl hfz hsz
    u_op at_rely hF
    u_in at_rely hF
    refine goes_oper_k rfl rfl (by k_ne) (fun K hK => ?_)
    have hcl := free.at_cell hF
    have hfz := free.at_frozen hF
    have hsz := free.at_size hF
    go_simp
    refine hK _ _ ⟨fun e he => ?_, ?_⟩
    · (have hm := mem_listed he; simp [go_sem, storedEv, *] at hm; try (subst hm; refine free.evS_may ?_ (Eq.refl _); assumption))
    clear hK K hcl hfz hsz
    refine free.next_set hF (fun _ hF => ?_)
    u_c stepG_region_end at_rely hF
    u_c stepG_seq at_rely hF
    u_reg at_rely hF
    u_in at_rely hF
    refine goes_oper_k rfl rfl (by k_ne) (fun K hK => ?_)
    have hcl := free.at_cell hF
    have hfz := free.at_frozen hF
    have hsz := free.at_size hF
    go_simp
    refine hK _ _ ⟨fun e he => ?_, ?_⟩
    · (have hm := mem_listed he; simp [go_sem, storedEv, *] at hm; try (subst hm; refine free.evS_may ?_ (Eq.refl _); assumption))
    clear hK K hcl hfz hsz
    u_op at_rely hF
    u_c stepG_region_end at_rely hF
    u_c stepG_ret' at_rely hF
    u_leave1 Try.func21 at_rely hF
    rw [show IntKind.i64.wrap 1 = 1 from by decide] at hF
    have A := aside_setCell W2 ⟨p.Rn, 0, none⟩ (.int .i64 1)
    have e3 : AtCs p { c with r := 1 } (W2.setCell ⟨p.Rn, 0, none⟩ (.int .i64 1)) := (A.block p.C hcr).trans e2
    have r3 : (W2.setCell ⟨p.Rn, 0, none⟩ (.int .i64 1)).heap[p.Rn]? = some (.cells #[.int .i64 1] 3) := by simp [World.setCell, Array.getElem?_modify, r2]
    have v3 := (A.block Bv (fun e => hrv e.symm)).trans v2
    have x3 := (A.block bx hbr).trans x2
    have o3 : OnlyT W0 (W2.setCell ⟨p.Rn, 0, none⟩ (.int .i64 1)) := o2.aside hR0
    clear A e2 r2 v2 x2 o2 cr zr c3 cx cv
    generalize W2.setCell ⟨p.Rn, 0, none⟩ (.int .i64 1) = W3 at hF e3 r3 v3 x3 o3
    have cx := cell_of_one x3
    u_op at_rely hF
    u_op at_rely hF
    u_in at_rely hF
    have hcl := (at_cell hF (tog.cA p 4)).trans (cs4 e3)
    have hfz := (at_frozen hF (tog.cA p 4)).trans (csz e3 4)
    rw [tog.stepG_storeE (ty := 9) (by simp [tog.one]) rfl rfl (by k_ne) rfl rfl rfl (.inr (.inl ⟨_, rfl⟩)) hcl hfz q47]
    simp only [goes_go]
    refine ⟨evS_all, ?_⟩
    walk_nrm
    clear hcl hfz cx
    refine next_set hF fun _ hF => ?_
    have A := aside_setCell W3 (tog.cA p 4) (.string v)
    have e4 := set4 e3 (.string v)
    have r4 := (A.block p.Rn (fun e => hcr e.symm)).trans r3
    have v4 := (A.block Bv (fun e => hcv e.symm)).trans v3
    have x4 := (A.block bx hbx).trans x3
    have o4 : OnlyT W0 (W3.setCell (tog.cA p 4) (.string v)) := o3.aside hC0
    clear A e3 r3 v3 x3 o3
    generalize W3.setCell (tog.cA p 4) (.string v) = W4 at hF e4 r4 v4 x4 o4
    u_c stepG_region_end at_rely hF
    u_c stepG_end at_rely hF
    u_in at_rely hF
    rw [stepG_unwind_clo rfl Try.func82 x82 rfl]
    simp only [goes_go]
    refine ⟨by u_nil, ?_⟩
    have hA := @catchN St
    simp only [Try.f82, Option.getD_some, Array.replicate_succ, Array.replicate_zero, List.push_toArray, List.append_toArray, List.nil_append, List.cons_append] at hA
    walk_nrmf Try.f82
    refine Goes.mono (hA (mT := mT + 5) rfl e4 (cell_of_one x4) (fun y hF => ?_) _ hF) (by omega)
    clear hA
    have A := aside_setCell W4 (tog.cA p 5) (.int .u32 1)
    have e5 := set5 e4 1
    have o5 : OnlyT W0 (W4.setCell (tog.cA p 5) (.int .u32 1)) := o4.aside hC0
    have hX := hT _ o5 e5 ((A.block p.Rn (fun e => hcr e.symm)).trans r4) ((A.block Bv (fun e => hcv e.symm)).trans v4)
    u_leave0 Try.func47 at_rely hF
    exact Goes.mono (hX _ hF) (by omega)
  · u_in at_rely hF
    refine goes_oper_k rfl rfl (by k_ne) (fun K hK => ?_)
    have hcl := free.at_cell hF
    have hfz := free.at_frozen hF
    have hsz := free.at_size hF
    go_simp
    refine hK _ _ ⟨fun e he => ?_, ?_⟩
    · (have hm := mem_listed he; simp [go_sem, storedEv, *] at hm; try (subst hm; refine free.evS_may ?_ (Eq.refl _); assumption))
    clear hK K hcl hfz hsz
    u_op at_rely hF
    u_in at_rely hF
    refine goes_oper_k rfl rfl (by k_ne) (fun K hK => ?_)
    have hcl := free.at_cell hF
    have hfz := free.at_frozen hF
    have hsz := free.at_size hF
    go_simp
    refine hK _ _ ⟨fun e he => ?_, ?_⟩
    · (have hm := mem_listed he; simp [go_sem, storedEv, *] at hm; try (subst hm; refine free.evS_may ?_ (Eq.refl _); assumption))
    clear hK K hcl hfz hsz
    u_op at_rely hF
    u_in at_rely hF
    refine goes_oper_k rfl rfl (by k_ne) (fun K hK => ?_)
    have hcl := free.at_cell hF
    have hfz := free.at_frozen hF
    have hsz := free.at_size hF
    go_simp
    refine hK _ _ ⟨fun e he => ?_, ?_⟩
    · (have hm := mem_listed he; simp [go_sem, storedEv, *] at hm; try (subst hm; refine free.evS_may ?_ (Eq.refl _); assumption))
    clear hK K hcl hfz hsz
    u_in at_rely hF
    refine goes_callv rfl rfl (by k_ne) rfl rfl Try.func21 x21 rfl ⟨by u_nil, ?_⟩
    walk_nrmf Try.f21
    have cr := cell_of_one r2
    have zr : W2.frozen? ⟨p.Rn, 0, none⟩ = false := by simp [World.frozen?, r2]
    have cv := cell_of_one v2
    u_c stepG_seq at_rely hF
    u_reg at_rely hF
    u_op at_rely hF
    u_c stepG_region_end at_rely hF
    u_c stepG_seq at_rely hF
    u_reg at_rely hF
    u_in at_rely hF
    refine goes_oper_k rfl rfl (by k_ne) (fun K hK => ?_)
    have hcl := free.at_cell hF
    have hfz := free.at_frozen hF
    have hsz := free.at_size hF
    go_simp
    refine hK _ _ ⟨fun e he => ?_, ?_⟩
    · (have hm := mem_listed he; simp [go_sem, storedEv, *] at hm; try (subst hm; refine free.evS_may ?_ (Eq.refl _); assumption))
    clear hK K hcl hfz hsz
    u_op at_rely hF
    u_in at_rely hF
    refine goes_oper_k rfl rfl (by k_ne) (fun K hK => ?_)
    have hcl := free.at_cell hF
    have hfz := free.at_frozen hF
    have hsz := free.at_size hF
    go_simp
    refine hK _ _ ⟨fun e he => ?_, ?_⟩
    · (have hm := mem_listed he; simp [go_sem, storedEv, *] at hm; try (subst hm; refine free.evS_may ?_ (Eq.refl _); assumption))
    clear hK K hcl hfz hsz
    refine free.next_set hF (fun _ hF => ?_)
    u_c stepG_region_end at_rely hF
    u_c stepG_seq at_rely hF
    u_reg at_rely hF
    u_in at_rely hF
    refine goes_oper_k rfl rfl (by k_ne) (fun K hK => ?_)
    have hcl := free.at_cell hF
    have hfz := free.at_frozen hF
    have hsz := free.at_size hF
    go_simp
    refine hK _ _ ⟨fun e he => ?_, ?_⟩
    · (have hm := mem_listed he; simp [go_sem, storedEv, *] at hm; try (subst hm; refine free.evS_may ?_ (Eq.refl _); assumption))
    clear hK K hcl hfz hsz
    u_op at_rely hF
    u_c stepG_region_end at_rely hF
    u_c stepG_ret' at_rely hF
    u_leave1 Try.func21 at_rely hF
    rw [show IntKind.i64.wrap 1 = 1 from by decide] at hF
    have A := aside_setCell W2 ⟨p.Rn, 0, none⟩ (.int .i64 1)
    have e3 : AtCs p { c with r := 1 } (W2.setCell ⟨p.Rn, 0, none⟩ (.int .i64 1)) := (A.block p.C hcr).trans e2
    have r3 : (W2.setCell ⟨p.Rn, 0, none⟩ (.int .i64 1)).heap[p.Rn]? = some (.cells #[.int .i64 1] 3) := by simp [World.setCell, Array.getElem?_modify, r2]
    have v3 := (A.block Bv (fun e => hrv e.symm)).trans v2
    have x3 := (A.block bx hbr).trans x2
    have o3 : OnlyT W0 (W2.setCell ⟨p.Rn, 0, none⟩ (.int .i64 1)) := o2.aside hR0
    clear A e2 r2 v2 x2 o2 cr zr c3 cx cv
    generalize W2.setCell ⟨p.Rn, 0, none⟩ (.int .i64 1) = W3 at hF e3 r3 v3 x3 o3
    have cx := cell_of_one x3
    u_op at_rely hF
    u_op at_rely hF
    u_in at_rely hF
    have hcl := (at_cell hF (tog.cA p 4)).trans (cs4 e3)
    have hfz := (at_frozen hF (tog.cA p 4)).trans (csz e3 4)
    rw [tog.stepG_storeE (ty := 9) (by simp [tog.one]) rfl rfl (by k_ne) rfl rfl rfl (.inr (.inl ⟨_, rfl⟩)) hcl hfz q47]
    simp only [goes_go]
    refine ⟨evS_all, ?_⟩
    walk_nrm
    clear hcl hfz cx
    refine next_set hF fun _ hF => ?_
    have A := aside_setCell W3 (tog.cA p 4) (.string v)
    have e4 := set4 e3 (.string v)
    have r4 := (A.block p.Rn (fun e => hcr e.symm)).trans r3
    have v4 := (A.block Bv (fun e => hcv e.symm)).trans v3
    have x4 := (A.block bx hbx).trans x3
    have o4 : OnlyT W0 (W3.setCell (tog.cA p 4) (.string v)) := o3.aside hC0
    clear A e3 r3 v3 x3 o3
    generalize W3.setCell (tog.cA p 4) (.string v) = W4 at hF e4 r4 v4 x4 o4
    u_c stepG_region_end at_rely hF
    u_c stepG_end at_rely hF
    u_in at_rely hF
    rw [stepG_unwind_clo rfl Try.func82 x82 rfl]
    simp only [goes_go]
    refine ⟨by u_nil, ?_⟩
    have hA := @catchN St
    simp only [Try.f82, Option.getD_some, Array.replicate_succ, Array.replicate_zero, List.push_toArray, List.append_toArray, List.nil_append, List.cons_append] at hA
    walk_nrmf Try.f82
    refine Goes.mono (hA (mT := mT + 5) rfl e4 (cell_of_one x4) (fun y hF => ?_) _ hF) (by omega)
    clear hA
    have A := aside_setCell W4 (tog.cA p 5) (.int .u32 1)
    have e5 := set5 e4 1
    have o5 : OnlyT W0 (W4.setCell (tog.cA p 5) (.int .u32 1)) := o4.aside hC0
    have hX := hT _ o5 e5 ((A.block p.Rn (fun e => hcr e.symm)).trans r4) ((A.block Bv (fun e => hcv e.symm)).trans v4)
    u_leave0 Try.func47 at_rely hF
    exact Goes.mono (hX _ hF) (by omega)
  · u_in at_rely hF
    refine goes_oper_k rfl rfl (by k_ne) (fun K hK => ?_)
    have hcl := free.at_cell hF
    have hfz := free.at_frozen hF
    have hsz := free.at_size hF
    go_simp
    refine hK _ _ ⟨fun e he => ?_, ?_⟩
    · (have hm := mem_listed he; simp [go_sem, storedEv, *] at hm; try (subst hm; refine free.evS_may ?_ (Eq.refl _); assumption))
    clear hK K hcl hfz hsz
    u_op at_rely hF
    u_op at_rely hF
    u_in at_rely hF
    refine goes_oper_k rfl rfl (by k_ne) (fun K hK => ?_)
    have hcl := free.at_cell hF
    have hfz := free.at_frozen hF
    have hsz := free.at_size hF
    go_simp
    refine hK _ _ ⟨fun e he => ?_, ?_⟩
    · (have hm := mem_listed he; simp [go_sem, storedEv, *] at hm; try (subst hm; refine free.evS_may ?_ (Eq.refl _); assumption))
    clear hK K hcl hfz hsz
    u_in at_rely hF
    refine goes_oper_k rfl rfl (by k_ne) (fun K hK => ?_)
    have hcl := free.at_cell hF
    have hfz := free.at_frozen hF
    have hsz := free.at_size hF
    go_simp
    refine hK _ _ ⟨fun e he => ?_, ?_⟩
    · (have hm := mem_listed he; simp [go_sem, storedEv, *] at hm; try (subst hm; refine free.evS_may ?_ (Eq.refl _); assumption))
    clear hK K hcl hfz hsz
    u_in at_rely hF
    refine goes_callv rfl rfl (by k_ne) rfl rfl Try.func21 x21 rfl ⟨by u_nil, ?_⟩
    walk_nrmf Try.f21
    have cr := cell_of_one r2
    have zr : W2.frozen? ⟨p.Rn, 0, none⟩ = false := by simp [World.frozen?, r2]
    have cv := cell_of_one v2
    u_c stepG_seq at_rely hF
    u_reg at_rely hF
    u_op at_rely hF
    u_c stepG_region_end at_rely hF
    u_c stepG_seq at_rely hF
    u_reg at_rely hF
    u_in at_rely hF
    refine goes_oper_k rfl rfl (by k_ne) (fun K hK => ?_)
    have hcl := free.at_cell hF
    have hfz := free.at_frozen hF
    have hsz := free.at_size hF
    go_simp
    refine hK _ _ ⟨fun e he => ?_, ?_⟩
    · (have hm := mem_listed he; simp [go_sem, storedEv, *] at hm; try (subst hm; refine free.evS_may ?_ (Eq.refl _); assumption))
    clear hK K hcl hfz hsz
    u_op at_rely hF
    u_in at_rely hF
    refine goes_oper_k rfl rfl (by k_ne) (fun K hK => ?_)
    have hcl := free.at_cell hF
    have hfz := free.at_frozen hF
    have hsz := free.at_size hF
    go_simp
    refine hK _ _ ⟨fun e he => ?_, ?_⟩
    · (have hm := mem_listed he; simp [go_sem, storedEv, *] at hm; try (subst hm; refine free.evS_may ?_ (Eq.refl _); assumption))
    clear hK K hcl hfz hsz
    refine free.next_set hF (fun _ hF => ?_)
    u_c stepG_region_end at_rely hF
    u_c stepG_seq at_rely hF
    u_reg at_rely hF
    u_in at_rely hF
    refine goes_oper_k rfl rfl (by k_ne) (fun K hK => ?_)
    have hcl := free.at_cell hF
    have hfz := free.at_frozen hF
    have hsz := free.at_size hF
    go_simp
    refine hK _ _ ⟨fun e he => ?_, ?_⟩
    · (have hm := mem_listed he; simp [go_sem, storedEv, *] at hm; try (subst hm; refine free.evS_may ?_ (Eq.refl _); assumption))
    clear hK K hcl hfz hsz
    u_op at_rely hF
    u_c stepG_region_end at_rely hF
    u_c stepG_ret' at_rely hF
    u_leave1 Try.func21 at_rely hF
    rw [show IntKind.i64.wrap 1 = 1 from by decide] at hF
    have A := aside_setCell W2 ⟨p.Rn, 0, none⟩ (.int .i64 1)
    have e3 : AtCs p { c with r := 1 } (W2.setCell ⟨p.Rn, 0, none⟩ (.int .i64 1)) := (A.block p.C hcr).trans e2
    have r3 : (W2.setCell ⟨p.Rn, 0, none⟩ (.int .i64 1)).heap[p.Rn]? = some (.cells #[.int .i64 1] 3) := by simp [World.setCell, Array.getElem?_modify, r2]
    have v3 := (A.block Bv (fun e => hrv e.symm)).trans v2
    have x3 := (A.block bx hbr).trans x2
    have o3 : OnlyT W0 (W2.setCell ⟨p.Rn, 0, none⟩ (.int .i64 1)) := o2.aside hR0
    clear A e2 r2 v2 x2 o2 cr zr c3 cx cv
    generalize W2.setCell ⟨p.Rn, 0, none⟩ (.int .i64 1) = W3 at hF e3 r3 v3 x3 o3
    have cx := cell_of_one x3
    u_op at_rely hF
    u_op at_rely hF
    u_in at_rely hF
    have hcl := (at_cell hF (tog.cA p 4)).trans (cs4 e3)
    have hfz := (at_frozen hF (tog.cA p 4)).trans (csz e3 4)
    rw [tog.stepG_storeE (ty := 9) (by simp [tog.one]) rfl rfl (by k_ne) rfl rfl rfl (.inr (.inl ⟨_, rfl⟩)) hcl hfz q47]
    simp only [goes_go]
    refine ⟨evS_all, ?_⟩
    walk_nrm
    clear hcl hfz cx
    refine next_set hF fun _ hF => ?_
    have A := aside_setCell W3 (tog.cA p 4) (.string v)
    have e4 := set4 e3 (.string v)
    have r4 := (A.block p.Rn (fun e => hcr e.symm)).trans r3
    have v4 := (A.block Bv (fun e => hcv e.symm)).trans v3
    have x4 := (A.block bx hbx).trans x3
    have o4 : OnlyT W0 (W3.setCell (tog.cA p 4) (.string v)) := o3.aside hC0
    clear A e3 r3 v3 x3 o3
    generalize W3.setCell (tog.cA p 4) (.string v) = W4 at hF e4 r4 v4 x4 o4
    u_c stepG_region_end at_rely hF
    u_c stepG_end at_rely hF
    u_in at_rely hF
    rw [stepG_unwind_clo rfl Try.func82 x82 rfl]
    simp only [goes_go]
    refine ⟨by u_nil, ?_⟩
    have hA := @catchN St
    simp only [Try.f82, Option.getD_some, Array.replicate_succ, Array.replicate_zero, List.push_toArray, List.append_toArray, List.nil_append, List.cons_append] at hA
    walk_nrmf Try.f82
    refine Goes.mono (hA (mT := mT + 5) rfl e4 (cell_of_one x4) (fun y hF => ?_) _ hF) (by omega)
    clear hA
    have A := aside_setCell W4 (tog.cA p 5) (.int .u32 1)
    have e5 := set5 e4 1
    have o5 : OnlyT W0 (W4.setCell (tog.cA p 5) (.int .u32 1)) := o4.aside hC0
    have hX := hT _ o5 e5 ((A.block p.Rn (fun e => hcr e.symm)).trans r4) ((A.block Bv (fun e => hcv e.symm)).trans v4)
    u_leave0 Try.func47 at_rely hF
    exact Goes.mono (hX _ hF) (by omega)
  · u_in at_rely hF
    refine goes_oper_k rfl rfl (by k_ne) (fun K hK => ?_)
    have hcl := free.at_cell hF
    have hfz := free.at_frozen hF
    have hsz := free.at_size hF
    go_simp
    refine hK _ _ ⟨fun e he => ?_, ?_⟩
    · (have hm := mem_listed he; simp [go_sem, storedEv, *] at hm; try (subst hm; refine free.evS_may ?_ (Eq.refl _); assumption))
    clear hK K hcl hfz hsz
    u_op at_rely hF
    u_op at_rely hF
    u_in at_rely hF
    refine goes_oper_k rfl rfl (by k_ne) (fun K hK => ?_)
    have hcl := free.at_cell hF
    have hfz := free.at_frozen hF
    have hsz := free.at_size hF
    go_simp
    refine hK _ _ ⟨fun e he => ?_, ?_⟩
    · (have hm := mem_listed he; simp [go_sem, storedEv, *] at hm; try (subst hm; refine free.evS_may ?_ (Eq.refl _); assumption))
    clear hK K hcl hfz hsz
    u_in at_rely hF
    refine goes_oper_k rfl rfl (by k_ne) (fun K hK => ?_)
    have hcl := free.at_cell hF
    have hfz := free.at_frozen hF
    have hsz := free.at_size hF
    go_simp
    refine hK _ _ ⟨fun e he => ?_, ?_⟩
    · (have hm := mem_listed he; simp [go_sem, storedEv, *] at hm; try (subst hm; refine free.evS_may ?_ (Eq.refl _); assumption))
    clear hK K hcl hfz hsz
    u_in at_rely hF
    refine goes_callv rfl rfl (by k_ne) rfl rfl Try.func21 x21 rfl ⟨by u_nil, ?_⟩
    walk_nrmf Try.f21
    have cr := cell_of_one r2
    have zr : W2.frozen? ⟨p.Rn, 0, none⟩ = false := by simp [World.frozen?, r2]
    have cv := cell_of_one v2
    u_c stepG_seq at_rely hF
    u_reg at_rely hF
    u_op at_rely hF
    u_c stepG_region_end at_rely hF
    u_c stepG_seq at_rely hF
    u_reg at_rely hF
    u_in at_rely hF
    refine goes_oper_k rfl rfl (by k_ne) (fun K hK => ?_)
    have hcl := free.at_cell hF
    have hfz := free.at_frozen hF
    have hsz := free.at_size hF
    go_simp
    refine hK _ _ ⟨fun e he => ?_, ?_⟩
    · (have hm := mem_listed he; simp [go_sem, storedEv, *] at hm; try (subst hm; refine free.evS_may ?_ (Eq.refl _); assumption))
    clear hK K hcl hfz hsz
    u_op at_rely hF
    u_in at_rely hF
    refine goes_oper_k rfl rfl (by k_ne) (fun K hK => ?_)
    have hcl := free.at_cell hF
    have hfz := free.at_frozen hF
    have hsz := free.at_size hF
    go_simp
    refine hK _ _ ⟨fun e he => ?_, ?_⟩
    · (have hm := mem_listed he; simp [go_sem, storedEv, *] at hm; try (subst hm; refine free.evS_may ?_ (Eq.refl _); assumption))
    clear hK K hcl hfz hsz
    refine free.next_set hF (fun _ hF => ?_)
    u_c stepG_region_end at_rely hF
    u_c stepG_seq at_rely hF
    u_reg at_rely hF
    u_in at_rely hF
    refine goes_oper_k rfl rfl (by k_ne) (fun K hK => ?_)
    have hcl := free.at_cell hF
    have hfz := free.at_frozen hF
    have hsz := free.at_size hF
    go_simp
    refine hK _ _ ⟨fun e he => ?_, ?_⟩
    · (have hm := mem_listed he; simp [go_sem, storedEv, *] at hm; try (subst hm; refine free.evS_may ?_ (Eq.refl _); assumption))
    clear hK K hcl hfz hsz
    u_op at_rely hF
    u_c stepG_region_end at_rely hF
    u_c stepG_ret' at_rely hF
    u_leave1 Try.func21 at_rely hF
    rw [show IntKind.i64.wrap 1 = 1 from by decide] at hF
    have A := aside_setCell W2 ⟨p.Rn, 0, none⟩ (.int .i64 1)
    have e3 : AtCs p { c with r := 1 } (W2.setCell ⟨p.Rn, 0, none⟩ (.int .i64 1)) := (A.block p.C hcr).trans e2
    have r3 : (W2.setCell ⟨p.Rn, 0, none⟩ (.int .i64 1)).heap[p.Rn]? = some (.cells #[.int .i64 1] 3) := by simp [World.setCell, Array.getElem?_modify, r2]
    have v3 := (A.block Bv (fun e => hrv e.symm)).trans v2
    have x3 := (A.block bx hbr).trans x2
    have o3 : OnlyT W0 (W2.setCell ⟨p.Rn, 0, none⟩ (.int .i64 1)) := o2.aside hR0
    clear A e2 r2 v2 x2 o2 cr zr c3 cx cv
    generalize W2.setCell ⟨p.Rn, 0, none⟩ (.int .i64 1) = W3 at hF e3 r3 v3 x3 o3
    have cx := cell_of_one x3
    u_op at_rely hF
    u_op at_rely hF
    u_in at_rely hF
    have hcl := (at_cell hF (tog.cA p 4)).trans (cs4 e3)
    have hfz := (at_frozen hF (tog.cA p 4)).trans (csz e3 4)
    rw [tog.stepG_storeE (ty := 9) (by simp [tog.one]) rfl rfl (by k_ne) rfl rfl rfl (.inr (.inl ⟨_, rfl⟩)) hcl hfz q47]
    simp only [goes_go]
    refine ⟨evS_all, ?_⟩
    walk_nrm
    clear hcl hfz cx
    refine next_set hF fun _ hF => ?_
    have A := aside_setCell W3 (tog.cA p 4) (.string v)
    have e4 := set4 e3 (.string v)
    have r4 := (A.block p.Rn (fun e => hcr e.symm)).trans r3
    have v4 := (A.block Bv (fun e => hcv e.symm)).trans v3
    have x4 := (A.block bx hbx).trans x3
    have o4 : OnlyT W0 (W3.setCell (tog.cA p 4) (.string v)) := o3.aside hC0
    clear A e3 r3 v3 x3 o3
    generalize W3.setCell (tog.cA p 4) (.string v) = W4 at hF e4 r4 v4 x4 o4
    u_c stepG_region_end at_rely hF
    u_c stepG_end at_rely hF
    u_in at_rely hF
    rw [stepG_unwind_clo rfl Try.func82 x82 rfl]
    simp only [goes_go]
    refine ⟨by u_nil, ?_⟩
    have hA := @catchN St
    simp only [Try.f82, Option.getD_some, Array.replicate_succ, Array.replicate_zero, List.push_toArray, List.append_toArray, List.nil_append, List.cons_append] at hA
    walk_nrmf Try.f82
    refine Goes.mono (hA (mT := mT + 5) rfl e4 (cell_of_one x4) (fun y hF => ?_) _ hF) (by omega)
    clear hA
    have A := aside_setCell W4 (tog.cA p 5) (.int .u32 1)
    have e5 := set5 e4 1
    have o5 : OnlyT W0 (W4.setCell (tog.cA p 5) (.int .u32 1)) := o4.aside hC0
    have hX := hT _ o5 e5 ((A.block p.Rn (fun e => hcr e.symm)).trans r4) ((A.block Bv (fun e => hcv e.symm)).trans v4)
    u_leave0 Try.func47 at_rely hF
    exact Goes.mono (hX _ hF) (by omega)
  · u_in at_rely hF
    refine goes_oper_k rfl rfl (by k_ne) (fun K hK => ?_)
    have hcl := free.at_cell hF
    have hfz := free.at_frozen hF
    have hsz := free.at_size hF
    go_simp
    refine hK _ _ ⟨fun e he => ?_, ?_⟩
    · (have hm := mem_listed he; simp [go_sem, storedEv, *] at hm; try (subst hm; refine free.evS_may ?_ (Eq.refl _); assumption))
    clear hK K hcl hfz hsz
    u_op at_rely hF
    u_op at_rely hF
    u_in at_rely hF
    refine goes_oper_k rfl rfl (by k_ne) (fun K hK => ?_)
    have hcl := free.at_cell hF
    have hfz := free.at_frozen hF
    have hsz := free.at_size hF
    go_simp
    refine hK _ _ ⟨fun e he => ?_, ?_⟩
    · (have hm := mem_listed he; simp [go_sem, storedEv, *] at hm; try (subst hm; refine free.evS_may ?_ (Eq.refl _); assumption))
    clear hK K hcl hfz hsz
    u_in at_rely hF
    refine goes_callv rfl rfl (by k_ne) rfl rfl Try.func21 x21 rfl ⟨by u_nil, ?_⟩
    walk_nrmf Try.f21
    have cr := cell_of_one r2
    have zr : W2.frozen? ⟨p.Rn, 0, none⟩ = false := by simp [World.frozen?, r2]
    have cv := cell_of_one v2
    u_c stepG_seq at_rely hF
    u_reg at_rely hF
    u_op at_rely hF
    u_c stepG_region_end at_rely hF
    u_c stepG_seq at_rely hF
    u_reg at_rely hF
    u_in at_rely hF
    refine goes_oper_k rfl rfl (by k_ne) (fun K hK => ?_)
    have hcl := free.at_cell hF
    have hfz := free.at_frozen hF
    have hsz := free.at_size hF
    go_simp
    refine hK _ _ ⟨fun e he => ?_, ?_⟩
    · (have hm := mem_listed he; simp [go_sem, storedEv, *] at hm; try (subst hm; refine free.evS_may ?_ (Eq.refl _); assumption))
    clear hK K hcl hfz hsz
    u_op at_rely hF
    u_in at_rely hF
    refine goes_oper_k rfl rfl (by k_ne) (fun K hK => ?_)
    have hcl := free.at_cell hF
    have hfz := free.at_frozen hF
    have hsz := free.at_size hF
    go_simp
    refine hK _ _ ⟨fun e he => ?_, ?_⟩
    · (have hm := mem_listed he; simp [go_sem, storedEv, *] at hm; try (subst hm; refine free.evS_may ?_ (Eq.refl _); assumption))
    clear hK K hcl hfz hsz
    refine free.next_set hF (fun _ hF => ?_)
    u_c stepG_region_end at_rely hF
    u_c stepG_seq at_rely hF
    u_reg at_rely hF
    u_in at_rely hF
    refine goes_oper_k rfl rfl (by k_ne) (fun K hK => ?_)
    have hcl := free.at_cell hF
    have hfz := free.at_frozen hF
    have hsz := free.at_size hF
    go_simp
    refine hK _ _ ⟨fun e he => ?_, ?_⟩
    · (have hm := mem_listed he; simp [go_sem, storedEv, *] at hm; try (subst hm; refine free.evS_may ?_ (Eq.refl _); assumption))
    clear hK K hcl hfz hsz
    u_op at_rely hF
    u_c stepG_region_end at_rely hF
    u_c stepG_ret' at_rely hF
    u_leave1 Try.func21 at_rely hF
    rw [show IntKind.i64.wrap 1 = 1 from by decide] at hF
    have A := aside_setCell W2 ⟨p.Rn, 0, none⟩ (.int .i64 1)
    have e3 : AtCs p { c with r := 1 } (W2.setCell ⟨p.Rn, 0, none⟩ (.int .i64 1)) := (A.block p.C hcr).trans e2
    have r3 : (W2.setCell ⟨p.Rn, 0, none⟩ (.int .i64 1)).heap[p.Rn]? = some (.cells #[.int .i64 1] 3) := by simp [World.setCell, Array.getElem?_modify, r2]
    have v3 := (A.block Bv (fun e => hrv e.symm)).trans v2
    have x3 := (A.block bx hbr).trans x2
    have o3 : OnlyT W0 (W2.setCell ⟨p.Rn, 0, none⟩ (.int .i64 1)) := o2.aside hR0
    clear A e2 r2 v2 x2 o2 cr zr c3 cx cv
    generalize W2.setCell ⟨p.Rn, 0, none⟩ (.int .i64 1) = W3 at hF e3 r3 v3 x3 o3
    have cx := cell_of_one x3
    u_in at_rely hF
    refine goes_oper_k rfl rfl (by k_ne) (fun K hK => ?_)
    have hcl := free.at_cell hF
    have hfz := free.at_frozen hF
    have hsz := free.at_size hF
    go_simp
    refine hK _ _ ⟨fun e he => ?_, ?_⟩
    · (have hm := mem_listed he; simp [go_sem, storedEv, *] at hm; try (subst hm; refine free.evS_may ?_ (Eq.refl _); assumption))
    clear hK K hcl hfz hsz
    u_op at_rely hF
    u_op at_rely hF
    u_in at_rely hF
    have hcl := (at_cell hF (tog.cA p 4)).trans (cs4 e3)
    have hfz := (at_frozen hF (tog.cA p 4)).trans (csz e3 4)
    rw [tog.stepG_storeE (ty := 9) (by simp [tog.one]) rfl rfl (by k_ne) rfl rfl rfl (.inr (.inl ⟨_, rfl⟩)) hcl hfz q47]
    simp only [goes_go]
    refine ⟨evS_all, ?_⟩
    walk_nrm
    clear hcl hfz cx
    refine next_set hF fun _ hF => ?_
    have A := aside_setCell W3 (tog.cA p 4) (.string v)
    have e4 := set4 e3 (.string v)
    have r4 := (A.block p.Rn (fun e => hcr e.symm)).trans r3
    have v4 := (A.block Bv (fun e => hcv e.symm)).trans v3
    have x4 := (A.block bx hbx).trans x3
    have o4 : OnlyT W0 (W3.setCell (tog.cA p 4) (.string v)) := o3.aside hC0
    clear A e3 r3 v3 x3 o3
    generalize W3.setCell (tog.cA p 4) (.string v) = W4 at hF e4 r4 v4 x4 o4
    u_c stepG_region_end at_rely hF
    u_c stepG_end at_rely hF
    u_in at_rely hF
    rw [stepG_unwind_clo rfl Try.func82 x82 rfl]
    simp only [goes_go]
    refine ⟨by u_nil, ?_⟩
    have hA := @catchN St
    simp only [Try.f82, Option.getD_some, Array.replicate_succ, Array.replicate_zero, List.push_toArray, List.append_toArray, List.nil_append, List.cons_append] at hA
    walk_nrmf Try.f82
    refine Goes.mono (hA (mT := mT + 5) rfl e4 (cell_of_one x4) (fun y hF => ?_) _ hF) (by omega)
    clear hA
    have A := aside_setCell W4 (tog.cA p 5) (.int .u32 1)
    have e5 := set5 e4 1
    have o5 : OnlyT W0 (W4.setCell (tog.cA p 5) (.int .u32 1)) := o4.aside hC0
    have hX := hT _ o5 e5 ((A.block p.Rn (fun e => hcr e.symm)).trans r4) ((A.block Bv (fun e => hcv e.symm)).trans v4)
    u_leave0 Try.func47 at_rely hF
    exact Goes.mono (hX _ hF) (by omega)
end
end Go.Proofs.Ytdkbkocklnnmdaa.many
