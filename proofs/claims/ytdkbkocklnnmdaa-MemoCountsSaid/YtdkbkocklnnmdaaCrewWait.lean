/-
  A main goroutine that starts workers and waits for them: main's operations in Wait, and the go statement. Conditions: those of the structure Ways.Ok.
-/
import Derived.Test.YtdkbkocklnnmdaaCrewOps
set_option linter.unusedVariables false
set_option linter.unusedSectionVars false
set_option linter.unusedSimpArgs false
namespace Go.Proofs.Ytdkbkocklnnmdaa.crew
open Go Go.Conc Go.Proofs.Ytdkbkocklnnmdaa.mach Go.Proofs.Ytdkbkocklnnmdaa.wg
open Go.ConcN (upd upd_same upd_ne sumTo sumTo_upd sumTo_congr le_sumTo sumTo_upd_out sumTo_le CT OkW Ok0 Apart RelBy WgLive RW PayAt AtR0 AtK1 AtD1 AtD2 AtD3 AtD4 handedOver_all)
open Go.ConcR (KK WgAt stA smA rd wr mk DC0 Bk g_of_ofEvents)

section
variable {Y : Ways} {pos : Nat → Ps} {N : Nat} {w w' : World} {t : Trace} {s : Stg} {m : Nat} {g g' : Goroutine} {es : Array Event} {q : Ps}

theorem open_facts (G : Glob Y.p pos N w t) {s : Stg} {m : Nat} (h0 : pos 0 = .on s m) (ho : openT (some s)) : OpenW pos Y.p.N0 N ∧ (∀ vs, s = .wcas vs → V pos N ≤ vs ∧ 1 ≤ vs) ∧ wst (pos 0) = 0 := by
  obtain ⟨st, sm, hwg, hm⟩ := G.wg
  have hp0 : tagOf (pos 0) = some s := by rw [h0]; rfl
  obtain ⟨hW, hv, -, -⟩ := hm.openInv (by rw [hp0]; exact ho)
  exact ⟨hW, fun vs e => hv vs (by rw [hp0, e]), wst0_of_open (by rw [hp0]; exact ho)⟩

theorem op_wload (O : Y.Ok) (G : Glob Y.p pos N w t) (h0 : pos 0 = .on .wload m) (hA : stops Y .wload g w) : Out (sys Y) () pos N 0 .wload g w t := by
  obtain ⟨hrun, hall⟩ := hA
  have hwg := wg_open G h0 (s := .wload) trivial
  have hV := V_le G.fits O
  have hsz := G.fits.size
  have hge := G.fits.ge
  have hsm := O.p.small
  have hwg' : WgAt 96 Y.p.Wg w (((V pos N : Nat) : Int) * KK) 0 := by simpa [pendT] using hwg
  obtain ⟨g', hst, hr', h1, h2⟩ := hall (V pos N) (by omega) hwg'
  have same : ∀ pos', Glob Y.p pos' N w t → pos' 0 = .on .wload m → V pos' N = V pos N := fun pos' G' h0' => by
    have hwg1 := wg_open G' h0' (s := .wload) trivial
    exact KK_inj (by have := (hwg1.unique hwg').1; simpa [pendT] using this)
  rcases Nat.eq_zero_or_pos (V pos N) with hz | hz
  · obtain ⟨m', hg⟩ := h1 hz
    refine outMain (q := .on .wena m') O G h0 hst hr' hg (Rm.refl w) fun pos' G' h0' fn place => ?_
    have hVz : V pos' N = 0 := (same pos' G' h0').trans hz
    obtain ⟨hW, -, hz0⟩ := open_facts G' h0' trivial
    exact finStep (s' := .wena) (m' := m') O G' h0' hz0 trivial rfl (allQ_of_zero hW hVz) (Rm.refl w) (by rw [hz] at hwg'; simpa using hwg') rfl (rd_ev (O.p.cellw _ rfl)) rd_nr rfl (fun e => by cases e) (by simp only [rk]; omega) fn place
  · obtain ⟨m', hg⟩ := h2 (by omega)
    refine outMain (q := .on (.wcas (V pos N)) m') O G h0 hst hr' hg (Rm.refl w) fun pos' G' h0' fn place => ?_
    have hVz := same pos' G' h0'
    exact openStep (s' := .wcas (V pos N)) (m' := m') O G' h0' trivial trivial rfl rfl (fun vs e => by cases e; omega) (rd_ev (O.p.cellw _ rfl)) rd_nr rfl (by simp only [rk]; omega) fn place

theorem op_wcas (O : Y.Ok) {vs : Nat} (G : Glob Y.p pos N w t) (h0 : pos 0 = .on (.wcas vs) m) (hA : stops Y (.wcas vs) g w) : Out (sys Y) () pos N 0 (.wcas vs) g w t := by
  obtain ⟨hrun, hall⟩ := hA
  have hwg := wg_open G h0 (s := .wcas vs) trivial
  have hV := V_le G.fits O
  have hsz := G.fits.size
  have hge := G.fits.ge
  have hsm := O.p.small
  have hwg' : WgAt 96 Y.p.Wg w (((V pos N : Nat) : Int) * KK) 0 := by simpa [pendT] using hwg
  obtain ⟨h1, h2⟩ := hall (V pos N) (by omega) hwg'
  have same : ∀ pos', Glob Y.p pos' N w t → pos' 0 = .on (.wcas vs) m → V pos' N = V pos N := fun pos' G' h0' => by
    have hwg1 := wg_open G' h0' (s := .wcas vs) trivial
    exact KK_inj (by have := (hwg1.unique hwg').1; simpa [pendT] using this)
  by_cases hv : V pos N = vs
  · obtain ⟨g', hst, hr', m', hg⟩ := h1 hv
    have hAs := aside_setCell w (stA Y.p.Wg) (.int .u64 (((V pos N : Nat) : Int) * KK + 1))
    have hw' := hwg'.setSt (((V pos N : Nat) : Int) * KK + 1)
    have hR : Rm Y.p.Wg Y.p.Cn w (w.setCell (stA Y.p.Wg) (.int .u64 (((V pos N : Nat) : Int) * KK + 1))) := Rm.of_wg O.p.cw hAs ⟨_, _, hw'⟩
    refine outMain (q := .on .wwr m') O G h0 hst hr' hg hR fun pos' G' h0' fn place => ?_
    have hVV := same pos' G' h0'
    obtain ⟨hW, hc, hz0⟩ := open_facts G' h0' trivial
    have h1v := (hc vs rfl).2
    have hM := Mode.regMk (N := N) O.p.n0 hz0 (p := .on .wwr m') trivial hW (by omega)
    rw [hVV] at hM
    have hp0 : tagOf (pos' 0) = some (.wcas vs) := by rw [h0']; rfl
    refine ⟨G'.main O.p hR (.inr (.inl trivial)) (fun x e => by cases e) (by rw [hp0]; rfl) (ok0_of (rw_ev (O.p.cellw _ rfl))) rw_nr (by rw [h0']; rfl) hw' hM
      (cnt_main hz0 rfl (fun v u e => by simp [tagOf] at e) G'.cnt (aside_heap O.p.cw hAs)) (fun e => by simp [tagOf] at e), phi_main (G'.size O.p) hz0 rfl (by rw [hp0]; simp only [rk, tagOf]; omega)⟩
  · obtain ⟨g', hst, hr', m', hg⟩ := h2 hv
    refine outMain (q := .on .wload (m' + 30)) O G h0 hst hr' (Goes.after (fun w => Rm.refl w) O.anch hg) (Rm.refl w) fun pos' G' h0' fn place => ?_
    have hVV := same pos' G' h0'
    obtain ⟨-, hc, -⟩ := open_facts G' h0' trivial
    have := (hc vs rfl).1
    exact openStep (s' := .wload) (m' := m' + 30) O G' h0' trivial trivial rfl rfl (fun vs e => by cases e) (rd_ev (O.p.cellw _ rfl)) rd_nr rfl (by simp only [rk]; omega) fn place

theorem op_wwr (O : Y.Ok) (G : Glob Y.p pos N w t) (h0 : pos 0 = .on .wwr m) (hA : stops Y .wwr g w) : Out (sys Y) () pos N 0 .wwr g w t := by
  obtain ⟨hrun, g', hst, hr', m', hg⟩ := hA
  refine outMain (q := .on .wsem m') O G h0 hst hr' hg (Rm.refl w) fun pos' G' h0' fn place => ?_
  obtain ⟨st, sm, hwg, hm⟩ := G'.wg
  have hp0 : tagOf (pos' 0) = some .wwr := by rw [h0']; rfl
  have h3 : w3T (tagOf (pos' 0)) := by rw [hp0]; trivial
  refine ⟨G'.main O.p (Rm.refl w) (.inr (.inl trivial)) (fun x e => by cases e) (by rw [hp0]; rfl) (ok0_of (mk_ev (ev0_said (O.p.cellw _ rfl) (.inr rfl)))) (mk_nr (by intro a h; cases h)) (by rw [h0']; rfl) hwg
    (hm.w3Mk O.p.n0 h3 (p := .on .wsem m') trivial (fun _ s e => by cases e)) (cnt_main (wst0_of_w3 h3) rfl (fun v u e => by simp [tagOf] at e) G'.cnt rfl) (fun e => by simp [tagOf] at e),
    phi_main (G'.size O.p) (wst0_of_w3 h3) rfl (by rw [hp0]; simp [rk, tagOf])⟩

theorem fin_facts (G : Glob Y.p pos N w t) {s : Stg} {m : Nat} (h0 : pos 0 = .on s m) (ho : finT (some s)) : AllQ pos Y.p.N0 N ∧ WgAt 96 Y.p.Wg w 0 0 ∧ wst (pos 0) = 0 := by
  obtain ⟨st, sm, hwg, hm⟩ := G.wg
  have hp0 : tagOf (pos 0) = some s := by rw [h0]; rfl
  obtain ⟨hQ, rfl, rfl⟩ := hm.finInv (by rw [hp0]; exact ho)
  exact ⟨hQ, hwg, wst0_of_fin (by rw [hp0]; exact ho)⟩

theorem sem_ev {Sh : Loc → Prop} {a : Addr} (h : Sh (.cell a)) : ∀ e ∈ semEvents a, Ev0s Sh e := by
  intro e he; simp [semEvents] at he
  rcases he with rfl | rfl | rfl | rfl
  · exact ev0_mk (m := .disable) rfl
  · exact ev0_cell h
  · exact ev0_cell h
  · exact ev0_mk (m := .enable) rfl
theorem sem_nr {a : Addr} : ∀ e ∈ semEvents a, ∀ ar : Addr, e.loc ≠ .mark (.release ar) := by
  intro e he; simp [semEvents] at he
  rcases he with rfl | rfl | rfl | rfl <;> simp

theorem op_wsem (O : Y.Ok) (G : Glob Y.p pos N w t) (h0 : pos 0 = .on .wsem m) (hA : ∀ w₁, RR Y w w₁ → stops Y .wsem g w₁) : Out (sys Y) () pos N 0 .wsem g w t := by
  obtain ⟨hrun, hoff, hblk, htake⟩ := hA w (Rm.refl w)
  obtain ⟨st, sm, hwg, hm⟩ := G.wg
  have hp0 : tagOf (pos 0) = some .wsem := by rw [h0]; rfl
  have h3 : w3T (tagOf (pos 0)) := by rw [hp0]; trivial
  rcases hm.w3Inv h3 with rfl | ⟨rfl, rfl, hQ⟩
  · have e0 : t ++ MemOp.ofEvents 0 g.frame.fn g.frame.place #[] = t := by simp [MemOp.ofEvents]
    have hG : Glob Y.p (upd pos 0 (.blk .wsem)) N w (t ++ MemOp.ofEvents 0 g.frame.fn g.frame.place #[]) := G.main O.p (Rm.refl w) (.inr (.inl trivial)) (fun x e => by cases e; rfl) (by rw [hp0]; rfl) (ok0_of (by simp)) (by simp) (by rw [h0]; rfl) hwg
      (hm.w3Mk O.p.n0 h3 (p := .blk .wsem) trivial (fun e => by cases e)) (cnt_main (wst0_of_w3 h3) rfl (fun v u e => by simp [tagOf] at e) G.cnt rfl) (fun e => by simp [tagOf] at e)
    rw [e0] at hG
    have hP : phi Y.p (upd pos 0 (.blk .wsem)) N = phi Y.p pos N := phi_same (fun k _ => by
      by_cases e : k = 0
      · subst e; rw [upd_same, h0]; rfl
      · rw [upd_ne _ _ e]) (G.size O.p)
    exact Out.block (hblk ⟨st, hwg⟩) hoff hA hG (Nat.le_of_eq hP)
  · obtain ⟨g', hst, hr', m', hg⟩ := htake hwg
    have hAs := aside_setCell w (smA Y.p.Wg) (.int .u32 0)
    have hw' := hwg.setSm 0
    have hR : Rm Y.p.Wg Y.p.Cn w (w.setCell (smA Y.p.Wg) (.int .u32 0)) := Rm.of_wg O.p.cw hAs ⟨_, _, hw'⟩
    refine outMain (q := .on .wld2 m') O G h0 hst hr' hg hR fun pos' G' h0' fn place => ?_
    obtain ⟨st', sm', hwg', hm'⟩ := G'.wg
    obtain ⟨rfl, rfl⟩ := hwg'.unique hwg
    have h3' : w3T (tagOf (pos' 0)) := by rw [h0']; trivial
    have hQ' : AllQ pos' Y.p.N0 N := by
      rcases hm'.w3Inv h3' with x | ⟨-, -, x⟩
      · cases x
      · exact x
    exact finStep (s' := .wld2) (m' := m') O G' h0' (wst0_of_w3 h3') trivial rfl hQ' hR hw' (aside_heap O.p.cw hAs) (sem_ev (O.p.cellw _ rfl)) sem_nr rfl (fun e => by cases e) (by simp [rk]) fn place

theorem op_wld2 (O : Y.Ok) (G : Glob Y.p pos N w t) (h0 : pos 0 = .on .wld2 m) (hA : stops Y .wld2 g w) : Out (sys Y) () pos N 0 .wld2 g w t := by
  obtain ⟨hrun, hall⟩ := hA
  obtain ⟨hQ, hwg, hz⟩ := fin_facts G h0 trivial
  obtain ⟨g', hst, hr', m', hg⟩ := hall hwg
  refine outMain (q := .on .wena m') O G h0 hst hr' hg (Rm.refl w) fun pos' G' h0' fn place => ?_
  obtain ⟨hQ', hwg', hz'⟩ := fin_facts G' h0' trivial
  exact finStep (s' := .wena) (m' := m') O G' h0' hz' trivial rfl hQ' (Rm.refl w) hwg' rfl (rd_ev (O.p.cellw _ rfl)) rd_nr rfl (fun e => by cases e) (by simp [rk]) fn place
theorem op_wena (O : Y.Ok) (G : Glob Y.p pos N w t) (h0 : pos 0 = .on .wena m) (hA : stops Y .wena g w) : Out (sys Y) () pos N 0 .wena g w t := by
  obtain ⟨hrun, g', hst, hr', m', hg⟩ := hA
  refine outMain (q := .on .wacq m') O G h0 hst hr' hg (Rm.refl w) fun pos' G' h0' fn place => ?_
  obtain ⟨hQ', hwg', hz'⟩ := fin_facts G' h0' trivial
  exact finStep (s' := .wacq) (m' := m') (es := #[mk Mark.enable]) O G' h0' hz' trivial rfl hQ' (Rm.refl w) hwg' rfl (mk_ev (ev0_mk rfl)) (mk_nr (by intro a h; cases h)) rfl (fun e => by cases e) (by simp [rk]) fn place

/-- Main has said 'acquire', hearing: all is handed over. -/
theorem handed_acq (O : Y.Ok) (G : Glob Y.p pos N w t) (h0 : pos 0 = .on .wacq m) (hQ : AllQ pos Y.p.N0 N) (fn : FuncId) (place : String) : Handed N (t ++ MemOp.ofEvents 0 fn place #[mk (.acquire (stA Y.p.Wg))]) := by
  have e1 : MemOp.ofEvents 0 fn place #[mk (.acquire (stA Y.p.Wg))] = #[{ g := 0, fn, pos := place, act := .mark (.acquire (stA Y.p.Wg)) }] := by rw [ofEvents_eq]; simp [Go.ConcR.ofEvent_mk]
  have hold := G.hand.appOther (u := MemOp.ofEvents 0 fn place #[mk (.acquire (stA Y.p.Wg))]) g_of_ofEvents (.inl rfl)
  have hd : Deaf t 0 = 0 := by rw [G.df 0 (by have := G.size O.p; omega), h0]; rfl
  rw [e1] at hold ⊢
  have hy : (t ++ #[({ g := 0, fn, pos := place, act := .mark (.acquire (stA Y.p.Wg)) } : MemOp)])[t.size]? = some { g := 0, fn, pos := place, act := .mark (.acquire (stA Y.p.Wg)) } := by simp
  have hh : (t ++ #[({ g := 0, fn, pos := place, act := .mark (.acquire (stA Y.p.Wg)) } : MemOp)]).heard t.size := ⟨0, by simp [Trace.g?], by rw [deaf_old (Nat.le_refl _)]; exact hd⟩
  have hn : NoRelease (stA Y.p.Wg) (t ++ #[({ g := 0, fn, pos := place, act := .mark (.acquire (stA Y.p.Wg)) } : MemOp)]) := (G.norel _).app fun op hop => by simp at hop; subst hop; simp
  intro i a hga ha0 haN hc
  rcases Nat.lt_or_ge a Y.p.N0 with hlt | hge
  · exact hold i a hga ha0 hlt hc
  · obtain ⟨r, hr0⟩ := G.rel a hge haN (by rw [hQ a hge haN]; omega)
    have hrt : r < t.size := lt_of_act? hr0.act
    have hr := hr0.appOther (u := #[({ g := 0, fn, pos := place, act := .mark (.acquire (stA Y.p.Wg)) } : MemOp)]) (g := 0) (fun op hop => by simp at hop; subst hop; rfl) (fun e => ha0 e.symm)
    have edge : HappensBefore (t ++ #[({ g := 0, fn, pos := place, act := .mark (.acquire (stA Y.p.Wg)) } : MemOp)]) r t.size := .single (.inr ⟨.marked hrt (.inr hr.act) (by rw [act?_of hy]) (fun k _ _ => hn k), hr.heard, hh⟩)
    have hle : i ≤ r := Nat.le_of_not_lt fun hlt => hr.after i hlt hga hc
    rcases Nat.lt_or_ge i r with hlt | hge'
    · exact ⟨t.size, by simp [Trace.g?], .trans (.single (.inl ⟨hlt, a, hga, hr.g⟩)) edge⟩
    · obtain rfl : i = r := by omega
      exact ⟨t.size, by simp [Trace.g?], edge⟩
theorem op_wacq (O : Y.Ok) (G : Glob Y.p pos N w t) (h0 : pos 0 = .on .wacq m) (hA : stops Y .wacq g w) : Out (sys Y) () pos N 0 .wacq g w t := by
  obtain ⟨hrun, g', hst, hr', m', hg⟩ := hA
  refine outMain (q := .on .fin m') O G h0 hst hr' hg (Rm.refl w) fun pos' G' h0' fn place => ?_
  obtain ⟨hQ', hwg', hz'⟩ := fin_facts G' h0' trivial
  exact finStep (s' := .fin) (m' := m') (es := #[mk (Mark.acquire (stA Y.p.Wg))]) O G' h0' hz' trivial rfl hQ' (Rm.refl w) hwg' rfl (mk_ev (ev0_mk rfl)) (mk_nr (by intro a h; cases h)) rfl (fun _ fn place => handed_acq O G' h0' hQ' fn place) (by simp [rk]) fn place
end
end Go.Proofs.Ytdkbkocklnnmdaa.crew
