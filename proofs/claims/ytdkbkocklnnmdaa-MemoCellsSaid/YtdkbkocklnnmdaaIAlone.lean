/-
  Beside goroutines that only leave: main's walks through memo.Cell[int]'s Get, asked first (its function tells a captured number or panics) and asked again, and through Done and Runs, the cell's words being stepped on by others too. Conditions: those that the theorems name.
-/
import Derived.Test.YtdkbkocklnnmdaaIRun
import Derived.Test.YtdkbkocklnnmdaaFreeAwake
import Derived.Test.YtdkbkocklnnmdaaEnding
set_option linter.unusedSimpArgs false
set_option linter.unusedVariables false
namespace Go.Proofs.Ytdkbkocklnnmdaa.cells
open Go Go.Conc Go.RowKit Go.ConcR.Gen Go.ConcN.Gen Go.Proofs.Ytdkbkocklnnmdaa.crew Go.Proofs.Ytdkbkocklnnmdaa.wg Go.Proofs.Ytdkbkocklnnmdaa.free
open Go.Proofs.Ytdkbkocklnnmdaa.kid (opsOf cL cR cB hmf2 hmf3)
open Go.Proofs.Ytdkbkocklnnmdaa.tog (Tp Cs AtCs cblk cs0 cs1 cs3 cs4 cs5 cs6 csz set0 set1 set4 set5 set6 Atom)
open Go.Proofs.Ytdkbkocklnnmdaa.itog (Fb noVal)
open Go.ConcX.Gen (setCell_at alloc_at)

theorem q11 : (Try.prog.funcs[(base 11).fn]?).any (·.norace) = false := by kernel_rfl
/-- Old blocks stand; time may have passed. -/
structure OnlyT (w w' : World) : Prop where
  os : ∃ d, w'.os = { w.os with wall := w.os.wall + d, mono := w.os.mono + d }
  tape : w'.tape = w.tape
  output : w'.output = w.output
  size : w.heap.size ≤ w'.heap.size
  block : ∀ k, k < w.heap.size → w'.heap[k]? = w.heap[k]?
theorem OnlyT.of {w w' : World} (h : Only (fun _ => False) w w') : OnlyT w w' := ⟨⟨0, by rw [h.os]; rfl⟩, h.tape, h.output, h.size, fun k hk => h.block k hk (fun x => x)⟩
theorem OnlyT.trans {a b c : World} (h : OnlyT a b) (k : OnlyT b c) : OnlyT a c := by
  refine ⟨?_, k.tape.trans h.tape, k.output.trans h.output, Nat.le_trans h.size k.size, fun i hi => (k.block i (Nat.lt_of_lt_of_le hi h.size)).trans (h.block i hi)⟩
  obtain ⟨d, e⟩ := h.os
  obtain ⟨d', e'⟩ := k.os
  exact ⟨d + d', by rw [e', e]; simp [Nat.add_assoc]⟩
/-- The return of true. -/
def AtTrue (W : World) (Shun : Loc → Prop) : Goroutine → World → Prop := fun g w => ∀ d, AtEnd Try.prog Shun 0 (fun v w => v = .bool true ∧ OnlyT W w) g (w.at d)

theorem evS_pl {Shun Lw : Loc → Prop} {a : Addr} {wr : Bool} (h : ¬ Shun (.cell a) ∧ Lw (.cell a)) : EvS Shun Lw ⟨.cell a, wr, false⟩ := by
  refine ⟨⟨fun x hx => ?_, fun ar e => by cases e⟩, by simp, by simp⟩
  have : x = ⟨.cell a, wr, .plain⟩ := (Option.some.inj hx).symm
  subst this
  exact ⟨h.2, fun hs => absurd hs h.1⟩


theorem evs1 {Shun Lw : Loc → Prop} {a : Addr} {wr : Bool} (h : ¬ Shun (.cell a) ∧ Lw (.cell a)) : ∀ e ∈ (#[⟨.cell a, wr, false⟩] : Array Event), EvS Shun Lw e := by
  intro e he; simp at he; subst he; exact evS_pl h
theorem OnlyT.aside {W0 W : World} {ad : Addr} {v : Value} (o : OnlyT W0 W) (h : W0.heap.size ≤ ad.block) : OnlyT W0 (W.setCell ad v) := by
  have A := aside_setCell W ad v
  obtain ⟨d, e⟩ := o.os
  exact ⟨⟨d, by rw [A.os, e]⟩, A.tape.trans o.tape, A.output.trans o.output, by rw [A.size]; exact o.size, fun k hk => (A.block k (fun e => absurd (e ▸ hk) (Nat.not_lt.2 h))).trans (o.block k hk)⟩

/-- The law's blocks apart. -/
structure Sp (W0 : World) (p : Tp) (Bv : Fb) : Prop where
  c0 : W0.heap.size ≤ p.C
  r0 : W0.heap.size ≤ p.Rn
  cr : p.C ≠ p.Rn
  cv : p.C ≠ Bv.bv
  cf : p.C ≠ Bv.bf
  rv : p.Rn ≠ Bv.bv
  rf : p.Rn ≠ Bv.bf
/-- What the law's blocks hold. -/
structure Wd (W0 : World) (p : Tp) (Bv : Fb) (c : Cs) (x : Int) (sz : Nat) (W : World) : Prop where
  only : OnlyT W0 W
  cs : AtCs p c W
  rn : W.heap[p.Rn]? = some (.cells #[.int .i64 x] 3)
  bv : W.heap[Bv.bv]? = some (.cells #[.int .i64 Bv.v] 3)
  bf : W.heap[Bv.bf]? = some (.cells #[.bool Bv.fl] 4)
  size : W.heap.size = sz
section
variable {W0 W : World} {p : Tp} {Bv : Fb} {c c' : Cs} {x : Int} {sz : Nat}
theorem Wd.sc (h : Wd W0 p Bv c x sz W) (S : Sp W0 p Bv) {i : Nat} {v : Value} (hc : AtCs p c' (W.setCell (tog.cA p i) v)) : Wd W0 p Bv c' x sz (W.setCell (tog.cA p i) v) :=
  have A := aside_setCell W (tog.cA p i) v
  ⟨h.only.aside S.c0, hc, (A.block _ (Ne.symm S.cr)).trans h.rn, (A.block _ (Ne.symm S.cv)).trans h.bv, (A.block _ (Ne.symm S.cf)).trans h.bf, A.size.trans h.size⟩
theorem Wd.r (h : Wd W0 p Bv c x sz W) (S : Sp W0 p Bv) (y : Int) : Wd W0 p Bv c y sz (W.setCell ⟨p.Rn, 0, none⟩ (.int .i64 y)) :=
  have A := aside_setCell W ⟨p.Rn, 0, none⟩ (.int .i64 y)
  ⟨h.only.aside S.r0, (A.block _ S.cr).trans h.cs, by have := h.rn; simp [World.setCell, Array.getElem?_modify, this], (A.block _ (Ne.symm S.rv)).trans h.bv, (A.block _ (Ne.symm S.rf)).trans h.bf, A.size.trans h.size⟩
theorem Wd.al (h : Wd W0 p Bv c x sz W) (o : Obj) : Wd W0 p Bv c x (sz + 1) (W.alloc o) :=
  ⟨h.only.trans (OnlyT.of ((Only.refl _ W).alloc _)), box_old (show W.heap[p.C]? = _ from h.cs), box_old h.rn, box_old h.bv, box_old h.bf, by simp [h.size]⟩
theorem Wd.rz (h : Wd W0 p Bv c x sz W) : W.frozen? ⟨p.Rn, 0, none⟩ = false := by simp [World.frozen?, h.rn]
end
/-- What main may touch while it is alone. -/
structure Own (Shun Lw : Loc → Prop) (p : Tp) (Bv : Fb) : Prop where
  lC : ∀ i, Lw (.cell (tog.cA p i))
  n3 : ¬ Shun (.cell (tog.cA p 3))
  n4 : ¬ Shun (.cell (tog.cA p 4))
  mR : May Shun Lw p.Rn
  mV : May Shun Lw Bv.bv
  mF : May Shun Lw Bv.bf

section
variable {Shun Lw : Loc → Prop} {St : Goroutine → World → Prop} {cs : List Frame} {mT : Nat}
set_option maxRecDepth 100000 in
set_option maxHeartbeats 16000000 in
theorem catchN {p : Tp} {c : Cs} {bx : Nat} {c₀ : Frame} {W : World} (hcm : c₀.mode = .returning) (h : AtCs p c W) (hx : W.cell? ⟨bx, 0, none⟩ = some (.pointer (some ⟨p.C, 0, none⟩))) (hL : ∀ i, Lw (.cell (tog.cA p i))) (hMx : May Shun Lw bx)
    (hT : ∀ y, Conc.AtRel (W.setCell (tog.cA p 5) (.int .u32 1)) y → Goes Try.prog true Conc.AtRel (DF Shun Lw) St mT (G c₀ cs) y) :
    ∀ y, Conc.AtRel W y → Goes Try.prog true Conc.AtRel (DF Shun Lw) St (mT + 80) (G ((baseD 56).at { tmps := #[.pointer (some ⟨bx, 0, none⟩)] ++ Array.replicate 13 undef, defers := [] } [.code (Try.f56.body.getD .skip)]) (c₀ :: cs)) y := by
  intro y hF
  have hnn := run_neq_nil
  have hne := ev_neq_nil
  simp only [Try.f56, Option.getD_some]
  walk_nrm
  u_c stepG_seq at_rely hF
  u_c stepG_seq at_rely hF
  u_reg at_rely hF
  u_in at_rely hF
  rw [stepG_recover_idle rfl rfl rfl rfl rfl hcm]
  simp only [goes_go]
  refine ⟨by u_nil, ?_⟩
  walk_nrm
  u_op at_rely hF
  u_c stepG_region_end at_rely hF
  u_c stepG_seq at_rely hF
  u_reg at_rely hF
  u_op at_rely hF
  u_op at_rely hF
  u_c stepG_region_end at_rely hF
  u_cond false at_rely hF
  u_c stepG_skip at_rely hF
  u_reg at_rely hF
  u_in at_rely hF
  refine goes_oper_k rfl rfl (by k_ne) (fun K hK => ?_)
  have hcl := free.at_cell hF
  have hfz := free.at_frozen hF
  have hsz := free.at_size hF
  go_simp
  refine hK _ _ ⟨fun e he => ?_, ?_⟩
  · (have hm := mem_listed he; simp [go_sem, storedEv, *] at hm; try (subst hm; refine free.evS_may ?_ (Eq.refl _); assumption))
  clear hK K hcl hfz hsz
  u_op at_rely hF
  u_op at_rely hF
  u_in at_rely hF
  refine goes_call rfl rfl (by k_ne) rfl Try.func57 x57 rfl ⟨by u_nil, ?_⟩
  have hA := @storeC Shun Lw St
  simp only [Try.f57, Option.getD_some, Array.replicate_succ, Array.replicate_zero, List.push_toArray, List.append_toArray, List.nil_append, List.cons_append] at hA
  walk_nrmf Try.f57
  refine Goes.mono (hA (mT := mT + 20) (cs5 h) (csz h 5) (hL 5) (fun y hF => ?_) _ hF) (by omega)
  clear hA
  walk_nrm
  u_c stepG_region_end at_rely hF
  u_c stepG_end at_rely hF
  u_in at_rely hF
  rw [stepG_leave_deferred rfl rfl Try.func56 (results_none rfl _ _ _) (events_results_none rfl _ _) hcm]
  simp only [goes_go]
  refine ⟨by u_nil, ?_⟩
  exact Goes.mono (hT _ hF) (by omega)
set_option maxRecDepth 100000 in
set_option maxHeartbeats 16000000 in
theorem catchNP {p : Tp} {c : Cs} {bx : Nat} {c₀ : Frame} {W : World} {ut : TypeId} {pv : Value} (hcm : c₀.mode = .panicking [{ v := .iface ut pv, recovered := false }]) (h : AtCs p c W) (hx : W.cell? ⟨bx, 0, none⟩ = some (.pointer (some ⟨p.C, 0, none⟩))) (hxc : bx ≠ p.C) (hL : ∀ i, Lw (.cell (tog.cA p i))) (h4 : ¬ Shun (.cell (tog.cA p 4))) (hMx : May Shun Lw bx)
    (hT : ∀ y, Conc.AtRel ((W.setCell (tog.cA p 4) (.int .i64 0)).setCell (tog.cA p 5) (.int .u32 1)) y → Goes Try.prog true Conc.AtRel (DF Shun Lw) St mT (G { c₀ with mode := .returning } cs) y) :
    ∀ y, Conc.AtRel W y → Goes Try.prog true Conc.AtRel (DF Shun Lw) St (mT + 100) (G ((baseD 56).at { tmps := #[.pointer (some ⟨bx, 0, none⟩)] ++ Array.replicate 13 undef, defers := [] } [.code (Try.f56.body.getD .skip)]) (c₀ :: cs)) y := by
  intro y hF
  have hnn := itog.run_neq_some ut pv
  have hne := itog.ev_neq_some ut pv
  simp only [Try.f56, Option.getD_some]
  walk_nrm
  u_c stepG_seq at_rely hF
  u_c stepG_seq at_rely hF
  u_reg at_rely hF
  u_in at_rely hF
  rw [pan.stepG_recover_live rfl rfl rfl rfl rfl hcm]
  simp only [goes_go]
  refine ⟨by u_nil, ?_⟩
  walk_nrm
  u_op at_rely hF
  u_c stepG_region_end at_rely hF
  u_c stepG_seq at_rely hF
  u_reg at_rely hF
  u_op at_rely hF
  u_op at_rely hF
  u_c stepG_region_end at_rely hF
  u_cond true at_rely hF
  u_c stepG_seq at_rely hF
  u_reg at_rely hF
  u_op at_rely hF
  u_c stepG_region_end at_rely hF
  u_reg at_rely hF
  u_in at_rely hF
  refine goes_oper_k rfl rfl (by k_ne) (fun K hK => ?_)
  have hcl := free.at_cell hF
  have hfz := free.at_frozen hF
  have hsz := free.at_size hF
  go_simp
  refine hK _ _ ⟨fun e he => ?_, ?_⟩
  · (have hm := mem_listed he; simp [go_sem, storedEv, *] at hm; try (subst hm; refine free.evS_may ?_ (Eq.refl _); assumption))
  clear hK K hcl hfz hsz
  u_op at_rely hF
  u_op at_rely hF
  u_op at_rely hF
  u_in at_rely hF
  have hcl := (at_cell hF (tog.cA p 4)).trans (cs4 h)
  have hfz := (at_frozen hF (tog.cA p 4)).trans (csz h 4)
  rw [tog.stepG_storeE (ty := 3) (v := .int .i64 0) (by simp [tog.one]) rfl rfl (by k_ne) rfl rfl rfl (.inl ⟨_, _, rfl⟩) hcl hfz itog.q56]
  simp only [goes_go]
  refine ⟨evs1 (⟨h4, hL 4⟩), ?_⟩
  walk_nrm
  clear hcl hfz
  refine next_set hF fun _ hF => ?_
  have h2 := set4 h (.int .i64 0)
  have hx2 : (W.setCell (tog.cA p 4) (.int .i64 0)).cell? ⟨bx, 0, none⟩ = some (.pointer (some ⟨p.C, 0, none⟩)) := by
    unfold World.cell? at hx ⊢
    rw [(aside_setCell W (tog.cA p 4) (.int .i64 0)).block bx hxc]; exact hx
  clear hx h
  generalize W.setCell (tog.cA p 4) (.int .i64 0) = W1 at hF h2 hx2 hT
  u_c stepG_region_end at_rely hF
  u_reg at_rely hF
  u_in at_rely hF
  refine goes_oper_k rfl rfl (by k_ne) (fun K hK => ?_)
  have hcl := free.at_cell hF
  have hfz := free.at_frozen hF
  have hsz := free.at_size hF
  go_simp
  refine hK _ _ ⟨fun e he => ?_, ?_⟩
  · (have hm := mem_listed he; simp [go_sem, storedEv, *] at hm; try (subst hm; refine free.evS_may ?_ (Eq.refl _); assumption))
  clear hK K hcl hfz hsz
  u_op at_rely hF
  u_op at_rely hF
  u_in at_rely hF
  refine goes_call rfl rfl (by k_ne) rfl Try.func57 x57 rfl ⟨by u_nil, ?_⟩
  have hA := @storeC Shun Lw St
  simp only [Try.f57, Option.getD_some, Array.replicate_succ, Array.replicate_zero, List.push_toArray, List.append_toArray, List.nil_append, List.cons_append] at hA
  walk_nrmf Try.f57
  refine Goes.mono (hA (mT := mT + 20) (cs5 h2) (csz h2 5) (hL 5) (fun y hF => ?_) _ hF) (by omega)
  clear hA
  walk_nrm
  u_c stepG_region_end at_rely hF
  u_c stepG_end at_rely hF
  u_in at_rely hF
  rw [pan.stepG_leave_recovered rfl rfl Try.func56 (results_none rfl _ _ _) (events_results_none rfl _ _) rfl]
  simp only [goes_go]
  refine ⟨by u_nil, ?_⟩
  exact Goes.mono (hT _ hF) (by omega)
end

section
variable {Shun Lw : Loc → Prop} {St : Goroutine → World → Prop} {b₀ : Frame} {a₀ : Act} {ops₀ : Array Oper} {i₀ : Nat} {rest₀ : List Nat} {k₀ : List Item} {cs : List Frame} {mT : Nat} {W0 W : World} {p : Tp} {Bv : Fb} {c : Cs} {sz : Nat}
set_option maxRecDepth 100000 in
set_option maxHeartbeats 16000000 in
/-- The law's function: it counts itself; then it returns, or it panics. -/
theorem fN (S : Sp W0 p Bv) (O : Own Shun Lw p Bv) (h : Wd W0 p Bv c 0 sz W)
    (hT1 : Bv.fl = false → ∀ y, Conc.AtRel (W.setCell ⟨p.Rn, 0, none⟩ (.int .i64 1)) y → Goes Try.prog true Conc.AtRel (DF Shun Lw) St mT (G (b₀.at (a₀.put ((ops₀[i₀]?).bind (·.dst)) (.int .i64 Bv.v)) (.inRegion ops₀ rest₀ :: k₀)) cs) y)
    (hT2 : Bv.fl = true → ∀ y, Conc.AtRel (W.setCell ⟨p.Rn, 0, none⟩ (.int .i64 1)) y → Goes Try.prog true Conc.AtRel (DF Shun Lw) St mT (G { b₀.at a₀ (.inRegion ops₀ (i₀ :: rest₀) :: k₀) with mode := .panicking [{ v := .iface 9 (.string noVal), recovered := false }] } cs) y) :
    ∀ y, Conc.AtRel W y → Goes Try.prog true Conc.AtRel (DF Shun Lw) St (mT + 60) (G ((base 17).at { tmps := #[.pointer (some ⟨p.Rn, 0, none⟩), .pointer (some ⟨Bv.bf, 0, none⟩), .pointer (some ⟨Bv.bv, 0, none⟩)] ++ Array.replicate 6 undef, defers := [] } [.code (Try.f17.body.getD .skip)]) (b₀.at a₀ (.inRegion ops₀ (i₀ :: rest₀) :: k₀) :: cs)) y := by
  intro y hF
  have hMR := O.mR
  have hMV := O.mV
  have hMF := O.mF
  have cr := cell_of_one h.rn
  have zr := h.rz
  have h1 := h.r S 1
  simp only [Try.f17, Option.getD_some]
  walk_nrm
  u_c stepG_seq at_rely hF
  u_reg at_rely hF
  u_op at_rely hF
  u_c stepG_region_end at_rely hF
  u_c stepG_seq at_rely hF
  u_reg at_rely hF
  u_in at_rely hF
  refine goes_oper_k rfl rfl (by k_ne) (fun K hK => ?_)
  have hcl := free.at_cell hF
  have hfz := free.at_frozen hF
  have hsz := free.at_size hF
  go_simp
  refine hK _ _ ⟨fun e he => ?_, ?_⟩
  · (have hm := mem_listed he; simp [go_sem, storedEv, *] at hm; try (subst hm; refine free.evS_may ?_ (Eq.refl _); assumption))
  clear hK K hcl hfz hsz
  u_op at_rely hF
  u_in at_rely hF
  refine goes_oper_k rfl rfl (by k_ne) (fun K hK => ?_)
  have hcl := free.at_cell hF
  have hfz := free.at_frozen hF
  have hsz := free.at_size hF
  go_simp
  refine hK _ _ ⟨fun e he => ?_, ?_⟩
  · (have hm := mem_listed he; simp [go_sem, storedEv, *] at hm; try (subst hm; refine free.evS_may ?_ (Eq.refl _); assumption))
  clear hK K hcl hfz hsz
  refine free.next_set hF (fun _ hF => ?_)
  u_c stepG_region_end at_rely hF
  u_c stepG_seq at_rely hF
  u_c stepG_seq at_rely hF
  u_reg at_rely hF
  have hw : IntKind.i64.wrap (0 + 1) = 1 := by decide
  have hw2 : IntKind.i64.wrap 1 = 1 := by decide
  simp only [hw, hw2] at hF
  clear cr zr h
  generalize W.setCell ⟨p.Rn, 0, none⟩ (.int .i64 1) = W1 at hF h1 hT1 hT2
  u_in at_rely hF
  have hcell := (at_cell hF _).trans (cell_of_one h1.bf)
  rw [itog.stepG_loadE2 (ty := 4) (by simp [itog.two]) rfl rfl (by k_ne) rfl rfl hcell itog.q17]
  simp only [goes_go]
  refine ⟨evs1 (hMF _ rfl), ?_⟩
  walk_nrm
  clear hcell
  cases hfl : Bv.fl
  · have cv := cell_of_one h1.bv
    u_c stepG_region_end at_rely hF
    u_cond false at_rely hF
    u_c stepG_skip at_rely hF
    u_c stepG_seq at_rely hF
    u_reg at_rely hF
    u_in at_rely hF
    refine goes_oper_k rfl rfl (by k_ne) (fun K hK => ?_)
    have hcl := free.at_cell hF
    have hfz := free.at_frozen hF
    have hsz := free.at_size hF
    go_simp
    refine hK _ _ ⟨fun e he => ?_, ?_⟩
    · (have hm := mem_listed he; simp [go_sem, storedEv, *] at hm; try (subst hm; refine free.evS_may ?_ (Eq.refl _); assumption))
    clear hK K hcl hfz hsz
    u_op at_rely hF
    u_c stepG_region_end at_rely hF
    u_c stepG_ret' at_rely hF
    u_leave1 Try.func17 at_rely hF
    exact Goes.mono (hT1 hfl _ hF) (by omega)
  · u_c stepG_region_end at_rely hF
    u_cond true at_rely hF
    u_reg at_rely hF
    u_in at_rely hF
    rw [pan.stepG_val0 (v := .iface 9 (.string noVal)) rfl rfl (by k_ne) (by kernel_rfl) (by kernel_rfl)]
    simp only [goes_go]
    refine ⟨by u_nil, ?_⟩
    walk_nrm
    u_in at_rely hF
    rw [pan.stepG_raise (v := .iface 9 (.string noVal)) rfl rfl (by k_ne) (by kernel_rfl) (by kernel_rfl)]
    simp only [goes_go]
    refine ⟨by u_nil, ?_⟩
    u_in at_rely hF
    rw [pan.stepG_panic_up rfl Try.func17 rfl]
    simp only [goes_go]
    refine ⟨by u_nil, ?_⟩
    exact Goes.mono (hT2 hfl _ hF) (by omega)

set_option maxRecDepth 100000 in
set_option maxHeartbeats 16000000 in
/-- run, its function panicking. -/
theorem panN {bx : Nat} (S : Sp W0 p Bv) (O : Own Shun Lw p Bv) {v : Value} (h : Wd W0 p Bv c 1 sz W) (hx : W.cell? ⟨bx, 0, none⟩ = some (.pointer (some ⟨p.C, 0, none⟩))) (hxc : bx ≠ p.C) (hMx : May Shun Lw bx)
    (hT : ∀ X, Wd W0 p Bv { c with v := .int .i64 0, cd := 1 } 1 sz X → ∀ y, Conc.AtRel X y → Goes Try.prog true Conc.AtRel (DF Shun Lw) St mT (G (b₀.at (a₀.put ((ops₀[i₀]?).bind (·.dst)) (.tuple #[])) (.inRegion ops₀ rest₀ :: k₀)) cs) y)
    (T : Array Value) (k : List Item) : ∀ y, Conc.AtRel W y → Goes Try.prog true Conc.AtRel (DF Shun Lw) St (mT + 110)
      (G { (base 34).at ⟨T, [{ target := .fn (.func 56) #[.pointer (some ⟨bx, 0, none⟩)], args := #[] }]⟩ k with mode := .panicking [{ v := .iface 9 v, recovered := false }] } (b₀.at a₀ (.inRegion ops₀ (i₀ :: rest₀) :: k₀) :: cs)) y := by
  intro y hF
  u_in at_rely hF
  rw [pan.stepG_unwind_cloP rfl Try.func56 x56 rfl]
  simp only [goes_go]
  refine ⟨by u_nil, ?_⟩
  have h4 := h.sc S (set4 h.cs (.int .i64 0))
  have h5 := h4.sc S (set5 h4.cs 1)
  have hA := fun hT' => @catchNP Shun Lw St (b₀.at a₀ (.inRegion ops₀ (i₀ :: rest₀) :: k₀) :: cs) (mT + 5) p c bx { (base 34).at ⟨T, []⟩ k with mode := .panicking [{ v := .iface 9 v, recovered := false }] } W 9 v rfl h.cs hx hxc O.lC O.n4 hMx hT'
  simp only [Try.f56, Option.getD_some, Array.replicate_succ, Array.replicate_zero, List.push_toArray, List.append_toArray, List.nil_append, List.cons_append] at hA
  walk_nrmf Try.f56
  refine Goes.mono (hA (fun y hF => ?_) _ hF) (by omega)
  clear hA
  have hX := hT _ h5
  u_leave0 Try.func34 at_rely hF
  exact Goes.mono (hX _ hF) (by omega)

set_option maxRecDepth 100000 in
set_option maxHeartbeats 16000000 in
/-- run. -/
theorem runI (S : Sp W0 p Bv) (O : Own Shun Lw p Bv) (hfin : p.fin = .int .i64 (if Bv.fl then 0 else Bv.v)) (hfC : p.fC = .func (.func 17) #[] #[.pointer (some ⟨p.Rn, 0, none⟩), .pointer (some ⟨Bv.bf, 0, none⟩), .pointer (some ⟨Bv.bv, 0, none⟩)]) (hr0 : c.r = 0) (h : Wd W0 p Bv c 0 sz W) (hMx : May Shun Lw sz)
    (hT : ∀ X, Wd W0 p Bv { c with r := 1, v := p.fin, cd := 1 } 1 (sz + 1) X → ∀ y, Conc.AtRel X y → Goes Try.prog true Conc.AtRel (DF Shun Lw) St mT (G (b₀.at (a₀.put ((ops₀[i₀]?).bind (·.dst)) (.tuple #[])) (.inRegion ops₀ rest₀ :: k₀)) cs) y) :
    ∀ y, Conc.AtRel W y → Goes Try.prog true Conc.AtRel (DF Shun Lw) St (mT + 300) (G ((base 34).at { tmps := #[.pointer (some ⟨p.C, 0, none⟩)] ++ Array.replicate 19 undef, defers := [] } [.code (Try.f34.body.getD .skip)]) (b₀.at a₀ (.inRegion ops₀ (i₀ :: rest₀) :: k₀) :: cs)) y := by
  intro y hF
  have hMx0 : May Shun Lw W.heap.size := by rw [h.size]; exact hMx
  clear hMx
  have hMx := hMx0
  clear hMx0
  have h1 := h.al (.cells #[.pointer (some ⟨p.C, 0, none⟩)] 24)
  have x1 := box_new W (.cells #[.pointer (some ⟨p.C, 0, none⟩)] 24)
  have hmf := hmf2
  have hme := hmf3
  have hfr := itog.feq26
  have hfe := itog.fev26
  have hod := fun t => schedule_orders itog.ops34 t
  simp only [show itog.ops34.size = 9 from by kernel_rfl, itog.ord34] at hod
  simp only [itog.ops34, itog.body34, opsOf, cR, Try.f34, Option.getD_some] at hod ⊢
  have HO := Lib.hid hod
  clear hod
  walk_nrm
  u_c stepG_seq at_rely hF
  u_reg at_rely hF
  u_in at_rely hF
  refine goes_oper_k rfl rfl (by k_ne) (fun K hK => ?_)
  have hcl := free.at_cell hF
  have hfz := free.at_frozen hF
  have hsz := free.at_size hF
  go_simp
  refine hK _ _ ⟨fun e he => ?_, ?_⟩
  · (have hm := mem_listed he; simp [go_sem, storedEv, *] at hm; try (subst hm; refine free.evS_may ?_ (Eq.refl _); assumption))
  clear hK K hcl hfz hsz
  refine free.next_alloc hF (fun _ hF => ?_)
  u_c stepG_region_end at_rely hF
  u_c stepG_seq at_rely hF
  u_reg at_rely hF
  generalize W.alloc (.cells #[.pointer (some ⟨p.C, 0, none⟩)] 24) = W1 at hF h1 x1
  have hbx : W.heap.size ≠ p.C := by have := lt_of_block (show W.heap[p.C]? = _ from h.cs); omega
  have hbr : W.heap.size ≠ p.Rn := by have := lt_of_block h.rn; omega
  clear h
  generalize W.heap.size = bx at hF x1 hbx hbr hMx ⊢
  have cx := cell_of_one x1
  u_op at_rely hF
  u_in at_rely hF
  rw [stepG_defer_clo rfl rfl (by k_ne) rfl rfl]
  simp only [goes_go]
  refine ⟨by u_nil, ?_⟩
  walk_nrm
  u_c stepG_region_end at_rely hF
  u_c stepG_seq at_rely hF
  u_c stepG_seq at_rely hF
  u_reg at_rely hF
  u_in at_rely hF
  refine goes_oper_k rfl rfl (by k_ne) (fun K hK => ?_)
  have hcl := free.at_cell hF
  have hfz := free.at_frozen hF
  have hsz := free.at_size hF
  go_simp
  refine hK _ _ ⟨fun e he => ?_, ?_⟩
  · (have hm := mem_listed he; simp [go_sem, storedEv, *] at hm; try (subst hm; refine free.evS_may ?_ (Eq.refl _); assumption))
  clear hK K hcl hfz hsz
  u_op at_rely hF
  u_op at_rely hF
  u_in at_rely hF
  have hcell := (at_cell hF _).trans ((cs3 h1.cs).trans (congrArg some hfC))
  rw [tog.stepG_loadE (ty := 26) (by simp [tog.one]) rfl rfl (by k_ne) rfl rfl hcell itog.q34]
  simp only [goes_go]
  refine ⟨evs1 (⟨O.n3, O.lC 3⟩), ?_⟩
  walk_nrm
  clear hcell
  u_op at_rely hF
  u_c stepG_region_end at_rely hF
  u_cond false at_rely hF
  u_c stepG_skip at_rely hF
  u_c stepG_seq at_rely hF
  u_reg at_rely hF
  u_in at_rely hF
  refine goes_oper_k rfl rfl (by k_ne) (fun K hK => ?_)
  have hcl := free.at_cell hF
  have hfz := free.at_frozen hF
  have hsz := free.at_size hF
  go_simp
  refine hK _ _ ⟨fun e he => ?_, ?_⟩
  · (have hm := mem_listed he; simp [go_sem, storedEv, *] at hm; try (subst hm; refine free.evS_may ?_ (Eq.refl _); assumption))
  clear hK K hcl hfz hsz
  u_op at_rely hF
  u_op at_rely hF
  u_call Try.func58 x58 Try.f58 at_rely hF
  u_c stepG_seq at_rely hF
  u_reg at_rely hF
  u_op at_rely hF
  u_c stepG_region_end at_rely hF
  u_c stepG_seq at_rely hF
  u_reg at_rely hF
  u_op at_rely hF
  u_op at_rely hF
  u_op at_rely hF
  u_op at_rely hF
  u_in at_rely hF
  have c6 := (at_cell hF _).trans (cs6 h1.cs)
  rw [hr0] at c6
  have z6 := (at_frozen hF _).trans (csz h1.cs 6)
  rw [stepG_add_atomic (v := 0) (d := 1) rfl rfl (by k_ne) rfl Try.func88 x88.1 x88.2.1 x88.2.2 .i64 e88 rfl rfl c6 z6]
  simp only [goes_go, show IntKind.i64.wrap (0 + 1) = 1 from by decide]
  refine ⟨ev2 (O.lC 6), ?_⟩
  walk_nrm
  clear c6 z6 cx
  refine next_set hF fun _ hF => ?_
  have h2 := h1.sc S (set6 h1.cs 1)
  have x2 := ((aside_setCell W1 (tog.cA p 6) (.int .i64 1)).block bx hbx).trans x1
  clear h1 x1
  generalize W1.setCell (tog.cA p 6) (.int .i64 1) = W2 at hF h2 x2
  have cx := cell_of_one x2
  u_op at_rely hF
  u_c stepG_region_end at_rely hF
  u_c stepG_ret' at_rely hF
  u_leave1 Try.func58 at_rely hF
  u_c stepG_region_end at_rely hF
  u_in at_rely hF
  rw [stepG_region_draw]
  simp only [goes_go]
  refine ⟨fun e he => by simp at he, ?_⟩
  replace hF := at_draw hF
  generalize hs : Region.schedule _ _ _ = sched
  obtain ⟨t, ht⟩ := Exists.intro (p := fun t => Region.schedule _ _ t = sched) _ hs
  have hod := HO.out t
  rw [ht] at hod
  clear ht hs HO
  simp only [List.mem_cons, List.not_mem_nil, or_false] at hod
  rcases hod with rfl | rfl | rfl | rfl | rfl | rfl
  · u_in at_rely hF
    refine goes_oper_k rfl rfl (by k_ne) (fun K hK => ?_)
    have hcl := free.at_cell hF
    have hfz := free.at_frozen hF
    have hsz := free.at_size hF
    go_simp
    refine hK _ _ ⟨fun e he => ?_, ?_⟩
    · (have hm := mem_listed he; simp [go_sem, storedEv, *] at hm; try (subst hm; refine free.evS_may ?_ (Eq.refl _); assumption))
    clear hK K hcl hfz hsz
    u_in at_rely hF
    refine goes_oper_k rfl rfl (by k_ne) (fun K hK => ?_)
    have hcl := free.at_cell hF
    have hfz := free.at_frozen hF
    have hsz := free.at_size hF
    go_simp
    refine hK _ _ ⟨fun e he => ?_, ?_⟩
    · (have hm := mem_listed he; simp [go_sem, storedEv, *] at hm; try (subst hm; refine free.evS_may ?_ (Eq.refl _); assumption))
    clear hK K hcl hfz hsz
    u_op at_rely hF
    u_op at_rely hF
    u_in at_rely hF
    have hcell := (at_cell hF _).trans ((cs3 h2.cs).trans (congrArg some hfC))
    rw [tog.stepG_loadE (ty := 26) (by simp [tog.one]) rfl rfl (by k_ne) rfl rfl hcell itog.q34]
    simp only [goes_go]
    refine ⟨evs1 (⟨O.n3, O.lC 3⟩), ?_⟩
    walk_nrm
    clear hcell
    u_in at_rely hF
    refine goes_callv rfl rfl (by k_ne) rfl rfl Try.func17 itog.x17 rfl ⟨by u_nil, ?_⟩
    have hA := @fN Shun Lw St
    simp only [Try.f17, Option.getD_some, Array.replicate_succ, Array.replicate_zero, List.push_toArray, List.append_toArray, List.nil_append, List.cons_append] at hA
    walk_nrmf Try.f17
    refine Goes.mono (hA (mT := mT + 150) S O h2 (fun hfl y hF => ?_) (fun hfl y hF => ?_) _ hF) (by omega)
    clear hA
    · have h3 := h2.r S 1
      have x3 := ((aside_setCell W2 ⟨p.Rn, 0, none⟩ (.int .i64 1)).block bx hbr).trans x2
      clear h2 x2 cx
      generalize W2.setCell ⟨p.Rn, 0, none⟩ (.int .i64 1) = W3 at hF h3 x3
      have hfv : p.fin = .int .i64 Bv.v := by rw [hfin, hfl]; rfl
      rw [hfv] at hT
      have cx := cell_of_one x3
      walk_nrm
      u_op at_rely hF
      u_op at_rely hF
      u_in at_rely hF
      have hcl := (at_cell hF (tog.cA p 4)).trans (cs4 h3.cs)
      have hfz := (at_frozen hF (tog.cA p 4)).trans (csz h3.cs 4)
      rw [tog.stepG_storeE (ty := 3) (v := .int .i64 Bv.v) (by simp [tog.one]) rfl rfl (by k_ne) rfl rfl rfl (.inl ⟨_, _, rfl⟩) hcl hfz itog.q34]
      simp only [goes_go]
      refine ⟨evs1 (⟨O.n4, O.lC 4⟩), ?_⟩
      walk_nrm
      clear hcl hfz
      refine next_set hF fun _ hF => ?_
      have h4 := h3.sc S (set4 h3.cs (.int .i64 Bv.v))
      have x4 := ((aside_setCell W3 (tog.cA p 4) (.int .i64 Bv.v)).block bx hbx).trans x3
      clear h3 x3 cx
      generalize W3.setCell (tog.cA p 4) (.int .i64 Bv.v) = W4 at hF h4 x4
      u_c stepG_region_end at_rely hF
      u_c stepG_end at_rely hF
      u_in at_rely hF
      rw [stepG_unwind_clo rfl Try.func56 x56 rfl]
      simp only [goes_go]
      refine ⟨by u_nil, ?_⟩
      have hA := @catchN Shun Lw St
      simp only [Try.f56, Option.getD_some, Array.replicate_succ, Array.replicate_zero, List.push_toArray, List.append_toArray, List.nil_append, List.cons_append] at hA
      walk_nrmf Try.f56
      refine Goes.mono (hA (mT := mT + 5) rfl h4.cs (cell_of_one x4) O.lC hMx (fun y hF => ?_) _ hF) (by omega)
      clear hA
      have hX := hT _ (h4.sc S (set5 h4.cs 1))
      u_leave0 Try.func34 at_rely hF
      exact Goes.mono (hX _ hF) (by omega)
    · have h3 := h2.r S 1
      have x3 := ((aside_setCell W2 ⟨p.Rn, 0, none⟩ (.int .i64 1)).block bx hbr).trans x2
      clear h2 x2 cx
      generalize W2.setCell ⟨p.Rn, 0, none⟩ (.int .i64 1) = W3 at hF h3 x3
      have hfv : p.fin = .int .i64 0 := by rw [hfin, hfl]; rfl
      rw [hfv] at hT
      exact Goes.mono (panN (mT := mT) S O h3 (cell_of_one x3) hbx hMx hT _ _ _ hF) (by omega)
  · u_in at_rely hF
    refine goes_oper_k rfl rfl (by k_ne) (fun K hK => ?_)
    have hcl := free.at_cell hF
    have hfz := free.at_frozen hF
    have hsz := free.at_size hF
    go_simp
    refine hK _ _ ⟨fun e he => ?_, ?_⟩
    · (have hm := mem_listed he; simp [go_sem, storedEv, *] at hm; try (subst hm; refine free.evS_may ?_ (Eq.refl _); assumption))
    clear hK K hcl hfz hsz
    u_in at_rely hF
    refine goes_oper_k rfl rfl (by k_ne) (fun K hK => ?_)
    have hcl := free.at_cell hF
    have hfz := free.at_frozen hF
    have hsz := free.at_size hF
    go_simp
    refine hK _ _ ⟨fun e he => ?_, ?_⟩
    · (have hm := mem_listed he; simp [go_sem, storedEv, *] at hm; try (subst hm; refine free.evS_may ?_ (Eq.refl _); assumption))
    clear hK K hcl hfz hsz
    u_op at_rely hF
    u_op at_rely hF
    u_in at_rely hF
    have hcell := (at_cell hF _).trans ((cs3 h2.cs).trans (congrArg some hfC))
    rw [tog.stepG_loadE (ty := 26) (by simp [tog.one]) rfl rfl (by k_ne) rfl rfl hcell itog.q34]
    simp only [goes_go]
    refine ⟨evs1 (⟨O.n3, O.lC 3⟩), ?_⟩
    walk_nrm
    clear hcell
    u_in at_rely hF
    refine goes_callv rfl rfl (by k_ne) rfl rfl Try.func17 itog.x17 rfl ⟨by u_nil, ?_⟩
    have hA := @fN Shun Lw St
    simp only [Try.f17, Option.getD_some, Array.replicate_succ, Array.replicate_zero, List.push_toArray, List.append_toArray, List.nil_append, List.cons_append] at hA
    walk_nrmf Try.f17
    refine Goes.mono (hA (mT := mT + 150) S O h2 (fun hfl y hF => ?_) (fun hfl y hF => ?_) _ hF) (by omega)
    clear hA
    · have h3 := h2.r S 1
      have x3 := ((aside_setCell W2 ⟨p.Rn, 0, none⟩ (.int .i64 1)).block bx hbr).trans x2
      clear h2 x2 cx
      generalize W2.setCell ⟨p.Rn, 0, none⟩ (.int .i64 1) = W3 at hF h3 x3
      have hfv : p.fin = .int .i64 Bv.v := by rw [hfin, hfl]; rfl
      rw [hfv] at hT
      have cx := cell_of_one x3
      walk_nrm
      u_op at_rely hF
      u_op at_rely hF
      u_in at_rely hF
      have hcl := (at_cell hF (tog.cA p 4)).trans (cs4 h3.cs)
      have hfz := (at_frozen hF (tog.cA p 4)).trans (csz h3.cs 4)
      rw [tog.stepG_storeE (ty := 3) (v := .int .i64 Bv.v) (by simp [tog.one]) rfl rfl (by k_ne) rfl rfl rfl (.inl ⟨_, _, rfl⟩) hcl hfz itog.q34]
      simp only [goes_go]
      refine ⟨evs1 (⟨O.n4, O.lC 4⟩), ?_⟩
      walk_nrm
      clear hcl hfz
      refine next_set hF fun _ hF => ?_
      have h4 := h3.sc S (set4 h3.cs (.int .i64 Bv.v))
      have x4 := ((aside_setCell W3 (tog.cA p 4) (.int .i64 Bv.v)).block bx hbx).trans x3
      clear h3 x3 cx
      generalize W3.setCell (tog.cA p 4) (.int .i64 Bv.v) = W4 at hF h4 x4
      u_c stepG_region_end at_rely hF
      u_c stepG_end at_rely hF
      u_in at_rely hF
      rw [stepG_unwind_clo rfl Try.func56 x56 rfl]
      simp only [goes_go]
      refine ⟨by u_nil, ?_⟩
      have hA := @catchN Shun Lw St
      simp only [Try.f56, Option.getD_some, Array.replicate_succ, Array.replicate_zero, List.push_toArray, List.append_toArray, List.nil_append, List.cons_append] at hA
      walk_nrmf Try.f56
      refine Goes.mono (hA (mT := mT + 5) rfl h4.cs (cell_of_one x4) O.lC hMx (fun y hF => ?_) _ hF) (by omega)
      clear hA
      have hX := hT _ (h4.sc S (set5 h4.cs 1))
      u_leave0 Try.func34 at_rely hF
      exact Goes.mono (hX _ hF) (by omega)
    · have h3 := h2.r S 1
      have x3 := ((aside_setCell W2 ⟨p.Rn, 0, none⟩ (.int .i64 1)).block bx hbr).trans x2
      clear h2 x2 cx
      generalize W2.setCell ⟨p.Rn, 0, none⟩ (.int .i64 1) = W3 at hF h3 x3
      have hfv : p.fin = .int .i64 0 := by rw [hfin, hfl]; rfl
      rw [hfv] at hT
      exact Goes.mono (panN (mT := mT) S O h3 (cell_of_one x3) hbx hMx hT _ _ _ hF) (by omega)
  · u_in at_rely hF
    refine goes_oper_k rfl rfl (by k_ne) (fun K hK => ?_)
    have hcl := free.at_cell hF
    have hfz := free.at_frozen hF
    have hsz := free.at_size hF
    go_simp
    refine hK _ _ ⟨fun e he => ?_, ?_⟩
    · (have hm := mem_listed he; simp [go_sem, storedEv, *] at hm; try (subst hm; refine free.evS_may ?_ (Eq.refl _); assumption))
    clear hK K hcl hfz hsz
    u_op at_rely hF
    u_in at_rely hF
    refine goes_oper_k rfl rfl (by k_ne) (fun K hK => ?_)
    have hcl := free.at_cell hF
    have hfz := free.at_frozen hF
    have hsz := free.at_size hF
    go_simp
    refine hK _ _ ⟨fun e he => ?_, ?_⟩
    · (have hm := mem_listed he; simp [go_sem, storedEv, *] at hm; try (subst hm; refine free.evS_may ?_ (Eq.refl _); assumption))
    clear hK K hcl hfz hsz
    u_op at_rely hF
    u_in at_rely hF
    have hcell := (at_cell hF _).trans ((cs3 h2.cs).trans (congrArg some hfC))
    rw [tog.stepG_loadE (ty := 26) (by simp [tog.one]) rfl rfl (by k_ne) rfl rfl hcell itog.q34]
    simp only [goes_go]
    refine ⟨evs1 (⟨O.n3, O.lC 3⟩), ?_⟩
    walk_nrm
    clear hcell
    u_in at_rely hF
    refine goes_callv rfl rfl (by k_ne) rfl rfl Try.func17 itog.x17 rfl ⟨by u_nil, ?_⟩
    have hA := @fN Shun Lw St
    simp only [Try.f17, Option.getD_some, Array.replicate_succ, Array.replicate_zero, List.push_toArray, List.append_toArray, List.nil_append, List.cons_append] at hA
    walk_nrmf Try.f17
    refine Goes.mono (hA (mT := mT + 150) S O h2 (fun hfl y hF => ?_) (fun hfl y hF => ?_) _ hF) (by omega)
    clear hA
    · have h3 := h2.r S 1
      have x3 := ((aside_setCell W2 ⟨p.Rn, 0, none⟩ (.int .i64 1)).block bx hbr).trans x2
      clear h2 x2 cx
      generalize W2.setCell ⟨p.Rn, 0, none⟩ (.int .i64 1) = W3 at hF h3 x3
      have hfv : p.fin = .int .i64 Bv.v := by rw [hfin, hfl]; rfl
      rw [hfv] at hT
      have cx := cell_of_one x3
      walk_nrm
      u_op at_rely hF
      u_op at_rely hF
      u_in at_rely hF
      have hcl := (at_cell hF (tog.cA p 4)).trans (cs4 h3.cs)
      have hfz := (at_frozen hF (tog.cA p 4)).trans (csz h3.cs 4)
      rw [tog.stepG_storeE (ty := 3) (v := .int .i64 Bv.v) (by simp [tog.one]) rfl rfl (by k_ne) rfl rfl rfl (.inl ⟨_, _, rfl⟩) hcl hfz itog.q34]
      simp only [goes_go]
      refine ⟨evs1 (⟨O.n4, O.lC 4⟩), ?_⟩
      walk_nrm
      clear hcl hfz
      refine next_set hF fun _ hF => ?_
      have h4 := h3.sc S (set4 h3.cs (.int .i64 Bv.v))
      have x4 := ((aside_setCell W3 (tog.cA p 4) (.int .i64 Bv.v)).block bx hbx).trans x3
      clear h3 x3 cx
      generalize W3.setCell (tog.cA p 4) (.int .i64 Bv.v) = W4 at hF h4 x4
      u_c stepG_region_end at_rely hF
      u_c stepG_end at_rely hF
      u_in at_rely hF
      rw [stepG_unwind_clo rfl Try.func56 x56 rfl]
      simp only [goes_go]
      refine ⟨by u_nil, ?_⟩
      have hA := @catchN Shun Lw St
      simp only [Try.f56, Option.getD_some, Array.replicate_succ, Array.replicate_zero, List.push_toArray, List.append_toArray, List.nil_append, List.cons_append] at hA
      walk_nrmf Try.f56
      refine Goes.mono (hA (mT := mT + 5) rfl h4.cs (cell_of_one x4) O.lC hMx (fun y hF => ?_) _ hF) (by omega)
      clear hA
      have hX := hT _ (h4.sc S (set5 h4.cs 1))
      u_leave0 Try.func34 at_rely hF
      exact Goes.mono (hX _ hF) (by omega)
    · have h3 := h2.r S 1
      have x3 := ((aside_setCell W2 ⟨p.Rn, 0, none⟩ (.int .i64 1)).block bx hbr).trans x2
      clear h2 x2 cx
      generalize W2.setCell ⟨p.Rn, 0, none⟩ (.int .i64 1) = W3 at hF h3 x3
      have hfv : p.fin = .int .i64 0 := by rw [hfin, hfl]; rfl
      rw [hfv] at hT
      exact Goes.mono (panN (mT := mT) S O h3 (cell_of_one x3) hbx hMx hT _ _ _ hF) (by omega)
  · u_in at_rely hF
    refine goes_oper_k rfl rfl (by k_ne) (fun K hK => ?_)
    have hcl := free.at_cell hF
    have hfz := free.at_frozen hF
    have hsz := free.at_size hF
    go_simp
    refine hK _ _ ⟨fun e he => ?_, ?_⟩
    · (have hm := mem_listed he; simp [go_sem, storedEv, *] at hm; try (subst hm; refine free.evS_may ?_ (Eq.refl _); assumption))
    clear hK K hcl hfz hsz
    u_op at_rely hF
    u_op at_rely hF
    u_in at_rely hF
    refine goes_oper_k rfl rfl (by k_ne) (fun K hK => ?_)
    have hcl := free.at_cell hF
    have hfz := free.at_frozen hF
    have hsz := free.at_size hF
    go_simp
    refine hK _ _ ⟨fun e he => ?_, ?_⟩
    · (have hm := mem_listed he; simp [go_sem, storedEv, *] at hm; try (subst hm; refine free.evS_may ?_ (Eq.refl _); assumption))
    clear hK K hcl hfz hsz
    u_in at_rely hF
    have hcell := (at_cell hF _).trans ((cs3 h2.cs).trans (congrArg some hfC))
    rw [tog.stepG_loadE (ty := 26) (by simp [tog.one]) rfl rfl (by k_ne) rfl rfl hcell itog.q34]
    simp only [goes_go]
    refine ⟨evs1 (⟨O.n3, O.lC 3⟩), ?_⟩
    walk_nrm
    clear hcell
    u_in at_rely hF
    refine goes_callv rfl rfl (by k_ne) rfl rfl Try.func17 itog.x17 rfl ⟨by u_nil, ?_⟩
    have hA := @fN Shun Lw St
    simp only [Try.f17, Option.getD_some, Array.replicate_succ, Array.replicate_zero, List.push_toArray, List.append_toArray, List.nil_append, List.cons_append] at hA
    walk_nrmf Try.f17
    refine Goes.mono (hA (mT := mT + 150) S O h2 (fun hfl y hF => ?_) (fun hfl y hF => ?_) _ hF) (by omega)
    clear hA
    · have h3 := h2.r S 1
      have x3 := ((aside_setCell W2 ⟨p.Rn, 0, none⟩ (.int .i64 1)).block bx hbr).trans x2
      clear h2 x2 cx
      generalize W2.setCell ⟨p.Rn, 0, none⟩ (.int .i64 1) = W3 at hF h3 x3
      have hfv : p.fin = .int .i64 Bv.v := by rw [hfin, hfl]; rfl
      rw [hfv] at hT
      have cx := cell_of_one x3
      walk_nrm
      u_op at_rely hF
      u_op at_rely hF
      u_in at_rely hF
      have hcl := (at_cell hF (tog.cA p 4)).trans (cs4 h3.cs)
      have hfz := (at_frozen hF (tog.cA p 4)).trans (csz h3.cs 4)
      rw [tog.stepG_storeE (ty := 3) (v := .int .i64 Bv.v) (by simp [tog.one]) rfl rfl (by k_ne) rfl rfl rfl (.inl ⟨_, _, rfl⟩) hcl hfz itog.q34]
      simp only [goes_go]
      refine ⟨evs1 (⟨O.n4, O.lC 4⟩), ?_⟩
      walk_nrm
      clear hcl hfz
      refine next_set hF fun _ hF => ?_
      have h4 := h3.sc S (set4 h3.cs (.int .i64 Bv.v))
      have x4 := ((aside_setCell W3 (tog.cA p 4) (.int .i64 Bv.v)).block bx hbx).trans x3
      clear h3 x3 cx
      generalize W3.setCell (tog.cA p 4) (.int .i64 Bv.v) = W4 at hF h4 x4
      u_c stepG_region_end at_rely hF
      u_c stepG_end at_rely hF
      u_in at_rely hF
      rw [stepG_unwind_clo rfl Try.func56 x56 rfl]
      simp only [goes_go]
      refine ⟨by u_nil, ?_⟩
      have hA := @catchN Shun Lw St
      simp only [Try.f56, Option.getD_some, Array.replicate_succ, Array.replicate_zero, List.push_toArray, List.append_toArray, List.nil_append, List.cons_append] at hA
      walk_nrmf Try.f56
      refine Goes.mono (hA (mT := mT + 5) rfl h4.cs (cell_of_one x4) O.lC hMx (fun y hF => ?_) _ hF) (by omega)
      clear hA
      have hX := hT _ (h4.sc S (set5 h4.cs 1))
      u_leave0 Try.func34 at_rely hF
      exact Goes.mono (hX _ hF) (by omega)
    · have h3 := h2.r S 1
      have x3 := ((aside_setCell W2 ⟨p.Rn, 0, none⟩ (.int .i64 1)).block bx hbr).trans x2
      clear h2 x2 cx
      generalize W2.setCell ⟨p.Rn, 0, none⟩ (.int .i64 1) = W3 at hF h3 x3
      have hfv : p.fin = .int .i64 0 := by rw [hfin, hfl]; rfl
      rw [hfv] at hT
      exact Goes.mono (panN (mT := mT) S O h3 (cell_of_one x3) hbx hMx hT _ _ _ hF) (by omega)
  · u_in at_rely hF
    refine goes_oper_k rfl rfl (by k_ne) (fun K hK => ?_)
    have hcl := free.at_cell hF
    have hfz := free.at_frozen hF
    have hsz := free.at_size hF
    go_simp
    refine hK _ _ ⟨fun e he => ?_, ?_⟩
    · (have hm := mem_listed he; simp [go_sem, storedEv, *] at hm; try (subst hm; refine free.evS_may ?_ (Eq.refl _); assumption))
    clear hK K hcl hfz hsz
    u_op at_rely hF
    u_op at_rely hF
    u_in at_rely hF
    have hcell := (at_cell hF _).trans ((cs3 h2.cs).trans (congrArg some hfC))
    rw [tog.stepG_loadE (ty := 26) (by simp [tog.one]) rfl rfl (by k_ne) rfl rfl hcell itog.q34]
    simp only [goes_go]
    refine ⟨evs1 (⟨O.n3, O.lC 3⟩), ?_⟩
    walk_nrm
    clear hcell
    u_in at_rely hF
    refine goes_oper_k rfl rfl (by k_ne) (fun K hK => ?_)
    have hcl := free.at_cell hF
    have hfz := free.at_frozen hF
    have hsz := free.at_size hF
    go_simp
    refine hK _ _ ⟨fun e he => ?_, ?_⟩
    · (have hm := mem_listed he; simp [go_sem, storedEv, *] at hm; try (subst hm; refine free.evS_may ?_ (Eq.refl _); assumption))
    clear hK K hcl hfz hsz
    u_in at_rely hF
    refine goes_callv rfl rfl (by k_ne) rfl rfl Try.func17 itog.x17 rfl ⟨by u_nil, ?_⟩
    have hA := @fN Shun Lw St
    simp only [Try.f17, Option.getD_some, Array.replicate_succ, Array.replicate_zero, List.push_toArray, List.append_toArray, List.nil_append, List.cons_append] at hA
    walk_nrmf Try.f17
    refine Goes.mono (hA (mT := mT + 150) S O h2 (fun hfl y hF => ?_) (fun hfl y hF => ?_) _ hF) (by omega)
    clear hA
    · have h3 := h2.r S 1
      have x3 := ((aside_setCell W2 ⟨p.Rn, 0, none⟩ (.int .i64 1)).block bx hbr).trans x2
      clear h2 x2 cx
      generalize W2.setCell ⟨p.Rn, 0, none⟩ (.int .i64 1) = W3 at hF h3 x3
      have hfv : p.fin = .int .i64 Bv.v := by rw [hfin, hfl]; rfl
      rw [hfv] at hT
      have cx := cell_of_one x3
      walk_nrm
      u_op at_rely hF
      u_op at_rely hF
      u_in at_rely hF
      have hcl := (at_cell hF (tog.cA p 4)).trans (cs4 h3.cs)
      have hfz := (at_frozen hF (tog.cA p 4)).trans (csz h3.cs 4)
      rw [tog.stepG_storeE (ty := 3) (v := .int .i64 Bv.v) (by simp [tog.one]) rfl rfl (by k_ne) rfl rfl rfl (.inl ⟨_, _, rfl⟩) hcl hfz itog.q34]
      simp only [goes_go]
      refine ⟨evs1 (⟨O.n4, O.lC 4⟩), ?_⟩
      walk_nrm
      clear hcl hfz
      refine next_set hF fun _ hF => ?_
      have h4 := h3.sc S (set4 h3.cs (.int .i64 Bv.v))
      have x4 := ((aside_setCell W3 (tog.cA p 4) (.int .i64 Bv.v)).block bx hbx).trans x3
      clear h3 x3 cx
      generalize W3.setCell (tog.cA p 4) (.int .i64 Bv.v) = W4 at hF h4 x4
      u_c stepG_region_end at_rely hF
      u_c stepG_end at_rely hF
      u_in at_rely hF
      rw [stepG_unwind_clo rfl Try.func56 x56 rfl]
      simp only [goes_go]
      refine ⟨by u_nil, ?_⟩
      have hA := @catchN Shun Lw St
      simp only [Try.f56, Option.getD_some, Array.replicate_succ, Array.replicate_zero, List.push_toArray, List.append_toArray, List.nil_append, List.cons_append] at hA
      walk_nrmf Try.f56
      refine Goes.mono (hA (mT := mT + 5) rfl h4.cs (cell_of_one x4) O.lC hMx (fun y hF => ?_) _ hF) (by omega)
      clear hA
      have hX := hT _ (h4.sc S (set5 h4.cs 1))
      u_leave0 Try.func34 at_rely hF
      exact Goes.mono (hX _ hF) (by omega)
    · have h3 := h2.r S 1
      have x3 := ((aside_setCell W2 ⟨p.Rn, 0, none⟩ (.int .i64 1)).block bx hbr).trans x2
      clear h2 x2 cx
      generalize W2.setCell ⟨p.Rn, 0, none⟩ (.int .i64 1) = W3 at hF h3 x3
      have hfv : p.fin = .int .i64 0 := by rw [hfin, hfl]; rfl
      rw [hfv] at hT
      exact Goes.mono (panN (mT := mT) S O h3 (cell_of_one x3) hbx hMx hT _ _ _ hF) (by omega)
  · u_in at_rely hF
    refine goes_oper_k rfl rfl (by k_ne) (fun K hK => ?_)
    have hcl := free.at_cell hF
    have hfz := free.at_frozen hF
    have hsz := free.at_size hF
    go_simp
    refine hK _ _ ⟨fun e he => ?_, ?_⟩
    · (have hm := mem_listed he; simp [go_sem, storedEv, *] at hm; try (subst hm; refine free.evS_may ?_ (Eq.refl _); assumption))
    clear hK K hcl hfz hsz
    u_op at_rely hF
    u_op at_rely hF
    u_in at_rely hF
    have hcell := (at_cell hF _).trans ((cs3 h2.cs).trans (congrArg some hfC))
    rw [tog.stepG_loadE (ty := 26) (by simp [tog.one]) rfl rfl (by k_ne) rfl rfl hcell itog.q34]
    simp only [goes_go]
    refine ⟨evs1 (⟨O.n3, O.lC 3⟩), ?_⟩
    walk_nrm
    clear hcell
    u_in at_rely hF
    refine goes_callv rfl rfl (by k_ne) rfl rfl Try.func17 itog.x17 rfl ⟨by u_nil, ?_⟩
    have hA := @fN Shun Lw St
    simp only [Try.f17, Option.getD_some, Array.replicate_succ, Array.replicate_zero, List.push_toArray, List.append_toArray, List.nil_append, List.cons_append] at hA
    walk_nrmf Try.f17
    refine Goes.mono (hA (mT := mT + 150) S O h2 (fun hfl y hF => ?_) (fun hfl y hF => ?_) _ hF) (by omega)
    clear hA
    · have h3 := h2.r S 1
      have x3 := ((aside_setCell W2 ⟨p.Rn, 0, none⟩ (.int .i64 1)).block bx hbr).trans x2
      clear h2 x2 cx
      generalize W2.setCell ⟨p.Rn, 0, none⟩ (.int .i64 1) = W3 at hF h3 x3
      have hfv : p.fin = .int .i64 Bv.v := by rw [hfin, hfl]; rfl
      rw [hfv] at hT
      have cx := cell_of_one x3
      walk_nrm
      u_in at_rely hF
      refine goes_oper_k rfl rfl (by k_ne) (fun K hK => ?_)
      have hcl := free.at_cell hF
      have hfz := free.at_frozen hF
      have hsz := free.at_size hF
      go_simp
      refine hK _ _ ⟨fun e he => ?_, ?_⟩
      · (have hm := mem_listed he; simp [go_sem, storedEv, *] at hm; try (subst hm; refine free.evS_may ?_ (Eq.refl _); assumption))
      clear hK K hcl hfz hsz
      u_op at_rely hF
      u_op at_rely hF
      u_in at_rely hF
      have hcl := (at_cell hF (tog.cA p 4)).trans (cs4 h3.cs)
      have hfz := (at_frozen hF (tog.cA p 4)).trans (csz h3.cs 4)
      rw [tog.stepG_storeE (ty := 3) (v := .int .i64 Bv.v) (by simp [tog.one]) rfl rfl (by k_ne) rfl rfl rfl (.inl ⟨_, _, rfl⟩) hcl hfz itog.q34]
      simp only [goes_go]
      refine ⟨evs1 (⟨O.n4, O.lC 4⟩), ?_⟩
      walk_nrm
      clear hcl hfz
      refine next_set hF fun _ hF => ?_
      have h4 := h3.sc S (set4 h3.cs (.int .i64 Bv.v))
      have x4 := ((aside_setCell W3 (tog.cA p 4) (.int .i64 Bv.v)).block bx hbx).trans x3
      clear h3 x3 cx
      generalize W3.setCell (tog.cA p 4) (.int .i64 Bv.v) = W4 at hF h4 x4
      u_c stepG_region_end at_rely hF
      u_c stepG_end at_rely hF
      u_in at_rely hF
      rw [stepG_unwind_clo rfl Try.func56 x56 rfl]
      simp only [goes_go]
      refine ⟨by u_nil, ?_⟩
      have hA := @catchN Shun Lw St
      simp only [Try.f56, Option.getD_some, Array.replicate_succ, Array.replicate_zero, List.push_toArray, List.append_toArray, List.nil_append, List.cons_append] at hA
      walk_nrmf Try.f56
      refine Goes.mono (hA (mT := mT + 5) rfl h4.cs (cell_of_one x4) O.lC hMx (fun y hF => ?_) _ hF) (by omega)
      clear hA
      have hX := hT _ (h4.sc S (set5 h4.cs 1))
      u_leave0 Try.func34 at_rely hF
      exact Goes.mono (hX _ hF) (by omega)
    · have h3 := h2.r S 1
      have x3 := ((aside_setCell W2 ⟨p.Rn, 0, none⟩ (.int .i64 1)).block bx hbr).trans x2
      clear h2 x2 cx
      generalize W2.setCell ⟨p.Rn, 0, none⟩ (.int .i64 1) = W3 at hF h3 x3
      have hfv : p.fin = .int .i64 0 := by rw [hfin, hfl]; rfl
      rw [hfv] at hT
      exact Goes.mono (panN (mT := mT) S O h3 (cell_of_one x3) hbx hMx hT _ _ _ hF) (by omega)

end
section
variable {Shun Lw : Loc → Prop} {Stop : Goroutine → World → Prop} {m : Nat} {cs : List Frame} {mT : Nat}
set_option maxRecDepth 100000 in
set_option maxHeartbeats 8000000 in
/-- Unlock, its word being stepped on by others too. -/
theorem unlockL {a : Addr} {c₀ : Frame} {W : World} (hcm : c₀.mode = .returning) (c0 : W.cell? a = some (.int .i32 1)) (z0 : W.frozen? a = false) (hL : Lw (.cell a))
    (hT : ∀ y, Conc.AtRel (W.setCell a (.int .i32 0)) y → Goes Try.prog true Conc.AtRel (DF Shun Lw) (Fz Shun Lw Stop m) mT (G c₀ cs) y) :
    ∀ y, Conc.AtRel W y → Goes Try.prog true Conc.AtRel (DF Shun Lw) (Fz Shun Lw Stop (m + 1)) 40 (G ((baseD 85).at { tmps := #[.pointer (some a)] ++ Array.replicate 5 undef, defers := [] } [.code (Try.f85.body.getD .skip)]) (c₀ :: cs)) y := by
  intro y hF
  simp only [Try.f85, Option.getD_some]
  walk_nrm
  u_reg at_rely hF
  u_op at_rely hF
  u_op at_rely hF
  u_op at_rely hF
  u_call Try.func95 x95 Try.f95 at_rely hF
  u_c stepG_seq at_rely hF
  u_cond true at_rely hF
  u_c stepG_seq at_rely hF
  u_reg at_rely hF
  u_op at_rely hF
  u_op at_rely hF
  u_op at_rely hF
  u_in at_rely hF
  rw [tog.stepG_loadQ rfl rfl (by k_ne) rfl rfl ((at_cell hF _).trans c0) tog.q95]
  simp only [goes_go]
  refine ⟨by u_nil, ?_⟩
  walk_nrm
  u_c stepG_region_end at_rely hF
  u_c stepG_seq at_rely hF
  u_reg at_rely hF
  u_op at_rely hF
  u_in at_rely hF
  refine goes_oper_k rfl rfl (by k_ne) (fun Kx hKx => ?_)
  have hcv := run_convert_to_unsafe (P := Try.prog) u148 u35 r80 ((at_cell hF a).trans c0)
  have hce := fun es => events_convert_to_unsafe (P := Try.prog) u148 u35 r80 ((at_cell hF a).trans c0) es
  go_simp
  refine hKx _ _ ⟨?_, ?_⟩
  · u_none
    intro ex hex
    have hmx := mem_listed hex
    simp [go_sem, hce] at hmx
  clear hKx Kx hcv hce
  u_in at_rely hF
  rw [stepG_markAt .releaseMerge (by simp) rfl rfl (by k_ne) rfl Try.func64 x64.1 x64.2.1 x64.2.2 e64 (by simp [Act.eval]; rfl)]
  simp only [goes_go]
  refine ⟨evm rfl (by simp) (by simp) (by simp), ?_⟩
  walk_nrm
  u_c stepG_region_end at_rely hF
  u_reg at_rely hF
  refine Goes.stop fun w₁ h₁ => ?_
  replace hF := at_rely hF h₁
  clear h₁
  refine ⟨rfl, _, stepG_mark0 .disable (by simp) rfl rfl (by k_ne) rfl Try.func65 x65.1 x65.2.1 x65.2.2 e65, rfl, 100, ?_⟩
  walk_nrm
  u_c stepG_region_end at_rely hF
  u_c stepG_seq at_rely hF
  u_reg at_rely hF
  u_op at_rely hF
  u_op at_rely hF
  u_op at_rely hF
  u_in at_rely hF
  have c0 := (at_cell hF _).trans c0
  have z0 := (at_frozen hF _).trans z0
  rw [stepG_add_atomic (v := 1) (d := -1) rfl rfl (by k_ne) rfl Try.func98 x98.1 x98.2.1 x98.2.2 .i32 e98 rfl rfl c0 z0]
  simp only [goes_go, show IntKind.i32.wrap (1 + -1) = 0 from by decide]
  refine ⟨ev2 hL, ?_⟩
  walk_nrm
  clear c0 z0
  refine next_set hF fun _ hF => ?_
  u_op at_rely hF
  u_c stepG_region_end at_rely hF
  u_c stepG_seq at_rely hF
  u_c stepG_seq at_rely hF
  u_reg at_rely hF
  u_op at_rely hF
  u_op at_rely hF
  u_c stepG_region_end at_rely hF
  u_cond false at_rely hF
  u_c stepG_skip at_rely hF
  u_reg at_rely hF
  refine Goes.stop fun w₁ h₁ => ?_
  replace hF := at_rely hF h₁
  clear h₁
  refine ⟨rfl, _, stepG_mark0 .enable (by simp) rfl rfl (by k_ne) rfl Try.func66 x66.1 x66.2.1 x66.2.2 e66, rfl, mT + 100, ?_⟩
  walk_nrm
  u_c stepG_region_end at_rely hF
  u_c stepG_end at_rely hF
  u_leave0 Try.func95 at_rely hF
  u_c stepG_region_end at_rely hF
  u_c stepG_end at_rely hF
  u_in at_rely hF
  rw [stepG_leave_deferred rfl rfl Try.func85 (results_none rfl _ _ _) (events_results_none rfl _ _) hcm]
  simp only [goes_go]
  refine ⟨by u_nil, ?_⟩
  exact Goes.mono (hT _ hF) (by omega)
end
section
variable {Shun Lw : Loc → Prop} {Stop : Goroutine → World → Prop} {b₀ : Frame} {a₀ : Act} {ops₀ : Array Oper} {i₀ : Nat} {rest₀ : List Nat} {k₀ : List Item} {cs : List Frame} {mT m : Nat} {W0 W : World} {p : Tp} {Bv : Fb} {c : Cs} {sz : Nat}
set_option maxRecDepth 100000 in
set_option maxHeartbeats 16000000 in
/-- Get, asked first. -/
theorem getFirst (S : Sp W0 p Bv) (O : Own Shun Lw p Bv) (hfin : p.fin = .int .i64 (if Bv.fl then 0 else Bv.v)) (hfC : p.fC = .func (.func 17) #[] #[.pointer (some ⟨p.Rn, 0, none⟩), .pointer (some ⟨Bv.bf, 0, none⟩), .pointer (some ⟨Bv.bv, 0, none⟩)]) (hr0 : c.r = 0) (hd : c.d = 0) (hm : c.m = ⟨0, 0, 0, 0⟩) (h : Wd W0 p Bv c 0 sz W) (hMx : May Shun Lw sz)
    (hT : ∀ X, Wd W0 p Bv { c with r := 1, v := p.fin, cd := 1, d := 1 } 1 (sz + 1) X → ∀ y, Conc.AtRel X y → Goes Try.prog true Conc.AtRel (DF Shun Lw) (Fz Shun Lw Stop m) mT (G (b₀.at (a₀.put ((ops₀[i₀]?).bind (·.dst)) p.fin) (.inRegion ops₀ rest₀ :: k₀)) cs) y) :
    ∀ y, Conc.AtRel W y → Goes Try.prog true Conc.AtRel (DF Shun Lw) (Fz Shun Lw Stop (m + 2)) 300 (G ((base 11).at { tmps := #[.pointer (some ⟨p.C, 0, none⟩)] ++ Array.replicate 16 undef, defers := [] } [.code (Try.f11.body.getD .skip)]) (b₀.at a₀ (.inRegion ops₀ (i₀ :: rest₀) :: k₀) :: cs)) y := by
  intro y hF
  have hnr := hnot2
  have hne := hnot3
  have hev := ev_eql_nil p24
  have c0 : W.cell? (tog.cA p 0) = some (.int .u32 0) := by have := cs0 h.cs; rw [hd] at this; exact this
  have c1 : W.cell? (tog.cA p 1) = some (.int .i32 0) := by have := cs1 h.cs; rw [hm] at this; exact this
  have z1 := csz h.cs 1
  have h1 : Wd W0 p Bv { c with m := ⟨1, 0, 0, 0⟩ } 0 sz (W.setCell (tog.cA p 1) (.int .i32 1)) := h.sc S (set1 h.cs ⟨1, 0, 0, 0⟩)
  have hmf := hmf2
  have hme := hmf3
  simp only [Try.f11, Option.getD_some]
  walk_nrm
  u_c stepG_seq at_rely hF
  u_reg at_rely hF
  u_op at_rely hF
  u_c stepG_region_end at_rely hF
  u_c stepG_seq at_rely hF
  u_c stepG_seq at_rely hF
  u_reg at_rely hF
  u_op at_rely hF
  u_op at_rely hF
  u_c stepG_region_end at_rely hF
  u_cond false at_rely hF
  u_c stepG_skip at_rely hF
  u_c stepG_seq at_rely hF
  u_reg at_rely hF
  u_op at_rely hF
  u_op at_rely hF
  u_op at_rely hF
  u_op at_rely hF
  u_op at_rely hF
  u_call Try.func33 x33 Try.f33 at_rely hF
  u_c stepG_seq at_rely hF
  u_reg at_rely hF
  u_op at_rely hF
  u_op at_rely hF
  u_op at_rely hF
  u_in at_rely hF
  refine goes_call rfl rfl (by k_ne) rfl Try.func35 x35 rfl ⟨by u_nil, ?_⟩
  have hA := @boolLoad Shun Lw
  simp only [Try.f35, Option.getD_some, Array.replicate_succ, Array.replicate_zero, List.push_toArray, List.append_toArray, List.nil_append, List.cons_append] at hA
  walk_nrmf Try.f35
  refine Goes.mono (hA (mT := 200) c0 (O.lC 0) (fun y hF => ?_) _ hF) (by omega)
  clear hA
  walk_nrm
  u_op at_rely hF
  u_c stepG_region_end at_rely hF
  u_cond true at_rely hF
  u_reg at_rely hF
  u_op at_rely hF
  u_op at_rely hF
  u_call Try.func55 x55 Try.f55 at_rely hF
  u_c stepG_seq at_rely hF
  u_reg at_rely hF
  u_op at_rely hF
  u_op at_rely hF
  u_op at_rely hF
  u_in at_rely hF
  refine goes_call rfl rfl (by k_ne) rfl Try.func84 x84 rfl ⟨by u_nil, ?_⟩
  have hA := @lockC Shun Lw Stop (m + 1)
  simp only [Try.f84, Option.getD_some, Array.replicate_succ, Array.replicate_zero, List.push_toArray, List.append_toArray, List.nil_append, List.cons_append] at hA
  walk_nrmf Try.f84
  refine Goes.mono (hA (mT := 900) c1 z1 (cs1 h1.cs) (O.lC 1) (fun y hF => ?_) _ hF) (by omega)
  clear hA
  clear c0 c1 z1 h
  generalize W.setCell (tog.cA p 1) (.int .i32 1) = W1 at hF h1
  have c0 : W1.cell? (tog.cA p 0) = some (.int .u32 0) := by have := cs0 h1.cs; rw [hd] at this; exact this
  walk_nrm
  u_c stepG_region_end at_rely hF
  u_c stepG_seq at_rely hF
  u_reg at_rely hF
  u_op at_rely hF
  u_op at_rely hF
  u_op at_rely hF
  u_defer at_rely hF
  u_c stepG_region_end at_rely hF
  u_c stepG_seq at_rely hF
  u_reg at_rely hF
  u_op at_rely hF
  u_op at_rely hF
  u_op at_rely hF
  u_in at_rely hF
  refine goes_call rfl rfl (by k_ne) rfl Try.func35 x35 rfl ⟨by u_nil, ?_⟩
  have hA := @boolLoad Shun Lw
  simp only [Try.f35, Option.getD_some, Array.replicate_succ, Array.replicate_zero, List.push_toArray, List.append_toArray, List.nil_append, List.cons_append] at hA
  walk_nrmf Try.f35
  refine Goes.mono (hA (mT := 700) c0 (O.lC 0) (fun y hF => ?_) _ hF) (by omega)
  clear hA
  walk_nrm
  u_op at_rely hF
  u_c stepG_region_end at_rely hF
  u_cond true at_rely hF
  u_c stepG_seq at_rely hF
  u_reg at_rely hF
  u_op at_rely hF
  u_op at_rely hF
  u_op at_rely hF
  u_defer at_rely hF
  u_c stepG_region_end at_rely hF
  u_reg at_rely hF
  u_op at_rely hF
  u_in at_rely hF
  refine goes_callv rfl rfl (by k_ne) rfl rfl Try.func34 itog.x34 rfl ⟨by u_nil, ?_⟩
  have hA := @runI Shun Lw
  simp only [Try.f34, Option.getD_some, Array.replicate_succ, Array.replicate_zero, List.push_toArray, List.append_toArray, List.nil_append, List.cons_append] at hA
  walk_nrmf Try.f34
  refine Goes.mono (hA (c := { c with m := ⟨1, 0, 0, 0⟩ }) (mT := 200) S O hfin hfC hr0 h1 hMx (fun X hX y hF => ?_) _ hF) (by omega)
  clear hA
  clear c0 h1
  walk_nrm
  u_c stepG_region_end at_rely hF
  u_c stepG_end at_rely hF
  have c0 := cs0 hX.cs
  have z0 := csz hX.cs 0
  have h2 := hX.sc S (set0 hX.cs 1)
  u_in at_rely hF
  rw [stepG_unwind_enter rfl Try.func57 x57 rfl]
  simp only [goes_go]
  refine ⟨by u_nil, ?_⟩
  have hA := @storeD Shun Lw
  simp only [Try.f57, Option.getD_some, Array.replicate_succ, Array.replicate_zero, List.push_toArray, List.append_toArray, List.nil_append, List.cons_append] at hA
  walk_nrmf Try.f57
  refine Goes.mono (hA (mT := 100) rfl c0 z0 (O.lC 0) (fun y hF => ?_) _ hF) (by omega)
  clear hA
  clear c0 z0 hX
  generalize X.setCell (tog.cA p 0) (.int .u32 1) = W2 at hF h2
  have c1 := cs1 h2.cs
  have z1 := csz h2.cs 1
  have h3 : Wd W0 p Bv { c with r := 1, v := p.fin, cd := 1, d := 1, m := ⟨0, 0, 0, 0⟩ } 1 (sz + 1) (W2.setCell (tog.cA p 1) (.int .i32 0)) := h2.sc S (set1 h2.cs ⟨0, 0, 0, 0⟩)
  rw [← hm] at h3
  u_in at_rely hF
  rw [stepG_unwind_enter rfl Try.func85 x85 rfl]
  simp only [goes_go]
  refine ⟨by u_nil, ?_⟩
  have hA := @unlockL Shun Lw Stop m
  simp only [Try.f85, Option.getD_some, Array.replicate_succ, Array.replicate_zero, List.push_toArray, List.append_toArray, List.nil_append, List.cons_append] at hA
  walk_nrmf Try.f85
  refine Goes.mono (hA (a := tog.cA p 1) (mT := mT + 60) rfl c1 z1 (O.lC 1) (fun y hF => ?_) _ hF) (by omega)
  clear hA
  clear c1 z1 h2
  have hQ := hT _ h3
  generalize W2.setCell (tog.cA p 1) (.int .i32 0) = W3 at hF h3 hQ
  u_leave0 Try.func55 at_rely hF
  u_c stepG_region_end at_rely hF
  u_c stepG_end at_rely hF
  u_leave0 Try.func33 at_rely hF
  u_c stepG_region_end at_rely hF
  u_c stepG_seq at_rely hF
  u_reg at_rely hF
  u_op at_rely hF
  u_op at_rely hF
  u_op at_rely hF
  u_in at_rely hF
  have hcell := (at_cell hF _).trans (cs4 h3.cs)
  rw [tog.stepG_loadE (ty := 3) (by simp [tog.one]) rfl rfl (by k_ne) rfl rfl hcell q11]
  simp only [goes_go]
  refine ⟨evs1 (⟨O.n4, O.lC 4⟩), ?_⟩
  walk_nrm
  clear hcell
  u_op at_rely hF
  u_c stepG_region_end at_rely hF
  u_c stepG_ret' at_rely hF
  u_leave1 Try.func11 at_rely hF
  rw [hfin] at hQ
  exact Goes.mono (hQ _ hF) (by omega)
end
section
variable {Shun Lw : Loc → Prop} {St : Goroutine → World → Prop} {b₀ : Frame} {a₀ : Act} {ops₀ : Array Oper} {i₀ : Nat} {rest₀ : List Nat} {k₀ : List Item} {cs : List Frame} {mT : Nat} {W : World} {p : Tp} {c : Cs}
set_option maxRecDepth 100000 in
set_option maxHeartbeats 16000000 in
/-- Get of a cell that has run. -/
theorem getDone (h : AtCs p c W) (hd : c.d ≠ 0) (hL : ∀ i, Lw (.cell (tog.cA p i))) (h4 : ¬ Shun (.cell (tog.cA p 4)))
    (hT : ∀ y, Conc.AtRel W y → Goes Try.prog true Conc.AtRel (DF Shun Lw) St mT (G (b₀.at (a₀.put ((ops₀[i₀]?).bind (·.dst)) c.v) (.inRegion ops₀ rest₀ :: k₀)) cs) y) :
    ∀ y, Conc.AtRel W y → Goes Try.prog true Conc.AtRel (DF Shun Lw) St (mT + 100) (G ((base 11).at { tmps := #[.pointer (some ⟨p.C, 0, none⟩)] ++ Array.replicate 16 undef, defers := [] } [.code (Try.f11.body.getD .skip)]) (b₀.at a₀ (.inRegion ops₀ (i₀ :: rest₀) :: k₀) :: cs)) y := by
  intro y hF
  have hnr := hnot2
  have hne := hnot3
  have hev := ev_eql_nil p24
  have hmf := hmf2
  have hme := hmf3
  have z1 : (c.d != 0) = true := by simpa using hd
  simp only [Try.f11, Option.getD_some]
  walk_nrm
  u_c stepG_seq at_rely hF
  u_reg at_rely hF
  u_op at_rely hF
  u_c stepG_region_end at_rely hF
  u_c stepG_seq at_rely hF
  u_c stepG_seq at_rely hF
  u_reg at_rely hF
  u_op at_rely hF
  u_op at_rely hF
  u_c stepG_region_end at_rely hF
  u_cond false at_rely hF
  u_c stepG_skip at_rely hF
  u_c stepG_seq at_rely hF
  u_reg at_rely hF
  u_op at_rely hF
  u_op at_rely hF
  u_op at_rely hF
  u_op at_rely hF
  u_op at_rely hF
  u_call Try.func33 x33 Try.f33 at_rely hF
  u_c stepG_seq at_rely hF
  u_reg at_rely hF
  u_op at_rely hF
  u_op at_rely hF
  u_op at_rely hF
  u_in at_rely hF
  refine goes_call rfl rfl (by k_ne) rfl Try.func35 x35 rfl ⟨by u_nil, ?_⟩
  have hA := @boolLoad Shun Lw
  simp only [Try.f35, Option.getD_some, Array.replicate_succ, Array.replicate_zero, List.push_toArray, List.append_toArray, List.nil_append, List.cons_append] at hA
  walk_nrmf Try.f35
  refine Goes.mono (hA (mT := mT + 40) (cs0 h) (hL 0) (fun y hF => ?_) _ hF) (by omega)
  clear hA
  rw [z1]
  walk_nrm
  u_op at_rely hF
  u_c stepG_region_end at_rely hF
  u_cond false at_rely hF
  u_c stepG_skip at_rely hF
  u_c stepG_end at_rely hF
  u_leave0 Try.func33 at_rely hF
  u_c stepG_region_end at_rely hF
  u_c stepG_seq at_rely hF
  u_reg at_rely hF
  u_op at_rely hF
  u_op at_rely hF
  u_op at_rely hF
  u_in at_rely hF
  have hcell := (at_cell hF _).trans (cs4 h)
  rw [tog.stepG_loadE (ty := 3) (by simp [tog.one]) rfl rfl (by k_ne) rfl rfl hcell q11]
  simp only [goes_go]
  refine ⟨evs1 (⟨h4, hL 4⟩), ?_⟩
  walk_nrm
  clear hcell
  u_op at_rely hF
  u_c stepG_region_end at_rely hF
  u_c stepG_ret' at_rely hF
  u_leave1 Try.func11 at_rely hF
  exact Goes.mono (hT _ hF) (by omega)
set_option maxRecDepth 100000 in
set_option maxHeartbeats 8000000 in
theorem doneI (h : AtCs p c W) (hL : ∀ i, Lw (.cell (tog.cA p i)))
    (hT : ∀ y, Conc.AtRel W y → Goes Try.prog true Conc.AtRel (DF Shun Lw) St mT (G (b₀.at (a₀.put ((ops₀[i₀]?).bind (·.dst)) (.bool (c.cd != 0))) (.inRegion ops₀ rest₀ :: k₀)) cs) y) :
    ∀ y, Conc.AtRel W y → Goes Try.prog true Conc.AtRel (DF Shun Lw) St (mT + 60) (G ((base 12).at { tmps := #[.pointer (some ⟨p.C, 0, none⟩)] ++ Array.replicate 10 undef, defers := [] } [.code (Try.f12.body.getD .skip)]) (b₀.at a₀ (.inRegion ops₀ (i₀ :: rest₀) :: k₀) :: cs)) y := by
  intro y hF
  have hep := ev_neq_ptr p24
  simp only [Try.f12, Option.getD_some]
  walk_nrm
  u_c stepG_seq at_rely hF
  u_reg at_rely hF
  u_op at_rely hF
  u_c stepG_region_end at_rely hF
  u_c stepG_seq at_rely hF
  u_reg at_rely hF
  u_op at_rely hF
  u_op at_rely hF
  u_op at_rely hF
  u_op at_rely hF
  u_op at_rely hF
  u_op at_rely hF
  u_in at_rely hF
  refine goes_call rfl rfl (by k_ne) rfl Try.func35 x35 rfl ⟨by u_nil, ?_⟩
  have hA := @boolLoad Shun Lw
  simp only [Try.f35, Option.getD_some, Array.replicate_succ, Array.replicate_zero, List.push_toArray, List.append_toArray, List.nil_append, List.cons_append] at hA
  walk_nrmf Try.f35
  refine Goes.mono (hA (mT := mT + 20) (cs5 h) (hL 5) (fun y hF => ?_) _ hF) (by omega)
  clear hA
  walk_nrm
  u_op at_rely hF
  u_op at_rely hF
  u_c stepG_region_end at_rely hF
  u_c stepG_ret' at_rely hF
  u_leave1 Try.func12 at_rely hF
  exact Goes.mono (hT _ hF) (by omega)
set_option maxRecDepth 100000 in
set_option maxHeartbeats 8000000 in
theorem runsI (h : AtCs p c W) (hL : ∀ i, Lw (.cell (tog.cA p i)))
    (hT : ∀ y, Conc.AtRel W y → Goes Try.prog true Conc.AtRel (DF Shun Lw) St mT (G (b₀.at (a₀.put ((ops₀[i₀]?).bind (·.dst)) (.int .i64 c.r)) (.inRegion ops₀ rest₀ :: k₀)) cs) y) :
    ∀ y, Conc.AtRel W y → Goes Try.prog true Conc.AtRel (DF Shun Lw) St (mT + 60) (G ((base 18).at { tmps := #[.pointer (some ⟨p.C, 0, none⟩)] ++ Array.replicate 8 undef, defers := [] } [.code (Try.f18.body.getD .skip)]) (b₀.at a₀ (.inRegion ops₀ (i₀ :: rest₀) :: k₀) :: cs)) y := by
  intro y hF
  have hev := ev_eql_nil p24
  simp only [Try.f18, Option.getD_some]
  walk_nrm
  u_c stepG_seq at_rely hF
  u_reg at_rely hF
  u_op at_rely hF
  u_c stepG_region_end at_rely hF
  u_c stepG_seq at_rely hF
  u_c stepG_seq at_rely hF
  u_reg at_rely hF
  u_op at_rely hF
  u_op at_rely hF
  u_c stepG_region_end at_rely hF
  u_cond false at_rely hF
  u_c stepG_skip at_rely hF
  u_c stepG_seq at_rely hF
  u_reg at_rely hF
  u_op at_rely hF
  u_op at_rely hF
  u_op at_rely hF
  u_in at_rely hF
  refine goes_call rfl rfl (by k_ne) rfl Try.func41 x41 rfl ⟨by u_nil, ?_⟩
  have hA := @int64Load Shun Lw
  simp only [Try.f41, Option.getD_some, Array.replicate_succ, Array.replicate_zero, List.push_toArray, List.append_toArray, List.nil_append, List.cons_append] at hA
  walk_nrmf Try.f41
  refine Goes.mono (hA (mT := mT + 20) (cs6 h) (hL 6) (fun y hF => ?_) _ hF) (by omega)
  clear hA
  walk_nrm
  u_op at_rely hF
  u_c stepG_region_end at_rely hF
  u_c stepG_ret' at_rely hF
  u_leave1 Try.func18 at_rely hF
  exact Goes.mono (hT _ hF) (by omega)
end
end Go.Proofs.Ytdkbkocklnnmdaa.cells
