/-
  A main goroutine that starts workers and waits for them: main's operations at each of its stages. Conditions: those of the structure Ways.Ok.
-/
import Derived.Test.YtdkbkocklnnmdaaCrewOut
set_option linter.unusedVariables false
set_option linter.unusedSectionVars false
set_option linter.unusedSimpArgs false
namespace Go.Proofs.Ytdkbkocklnnmdaa.crew
open Go Go.Conc Go.Proofs.Ytdkbkocklnnmdaa.mach Go.Proofs.Ytdkbkocklnnmdaa.wg
open Go.ConcN (upd upd_same upd_ne sumTo sumTo_upd sumTo_congr le_sumTo sumTo_upd_out sumTo_le CT OkW Ok0 Apart RelBy WgLive RW PayAt AtR0 AtK1 AtD1 AtD2 AtD3 AtD4 handedOver_all)
open Go.ConcR (KK WgAt stA smA rd wr mk DC0 Bk g_of_ofEvents)

section
variable {Y : Ways} {pos : Nat → Ps} {N : Nat} {w w' : World} {t : Trace} {s : Stg} {m : Nat} {g g' : Goroutine} {es : Array Event} {q : Ps}

theorem V_le (h : Fits Y.p pos N) (O : Y.Ok) : V pos N ≤ N - Y.p.N0 := by
  have n0 := O.p.n0
  have key : ∀ M, M ≤ N → sumTo M (fun k => cn (pos k)) ≤ M - Y.p.N0 := by
    intro M
    induction M with
    | zero => intro _; simp [sumTo]
    | succ M ih =>
      intro hM
      have := ih (by omega)
      simp only [sumTo]
      rcases Nat.lt_or_ge M Y.p.N0 with hlt | hge
      · have hc : cn (pos M) = 0 := by
          unfold cn
          rw [if_neg]
          by_cases e : M = 0
          · subst e
            rcases h.main with a | a | a
            · rw [wst0_of_open a]; omega
            · rw [wst0_of_w3 a]; omega
            · rw [wst0_of_fin a]; omega
          · rw [h.old M (by omega) hlt]; omega
        omega
      · have := cn_le (pos M)
        omega
  exact key N (Nat.le_refl _)

theorem mk_nr {mm : Mark} (h : ∀ ar, mm ≠ .release ar) : ∀ e ∈ #[mk mm], ∀ ar : Addr, e.loc ≠ .mark (.release ar) := by
  intro e he; simp at he; subst he; simpa [mk] using h
theorem mk_ev {Sh : Loc → Prop} {mm : Mark} (h : Ev0s Sh (mk mm)) : ∀ e ∈ #[mk mm], Ev0s Sh e := by
  intro e he; simp at he; subst he; exact h
theorem rw_nr {a : Addr} : ∀ e ∈ #[rd a, wr a], ∀ ar : Addr, e.loc ≠ .mark (.release ar) := by
  intro e he; simp at he; rcases he with rfl | rfl <;> simp [rd, wr]
theorem rd_nr {a : Addr} : ∀ e ∈ #[rd a], ∀ ar : Addr, e.loc ≠ .mark (.release ar) := by
  intro e he; simp at he; subst he; simp [rd]
theorem rw_ev {Sh : Loc → Prop} {a : Addr} (h : Sh (.cell a)) : ∀ e ∈ #[rd a, wr a], Ev0s Sh e := by
  intro e he; simp at he; rcases he with rfl | rfl <;> exact ev0_cell h
theorem rd_ev {Sh : Loc → Prop} {a : Addr} (h : Sh (.cell a)) : ∀ e ∈ #[rd a], Ev0s Sh e := by
  intro e he; simp at he; subst he; exact ev0_cell h

theorem op_dis (O : Y.Ok) {r : Nat} (G : Glob Y.p pos N w t) (h0 : pos 0 = .on (.dis r) m) (hA : stops Y (.dis r) g w) : Out (sys Y) () pos N 0 (.dis r) g w t := by
  obtain ⟨hrun, g', hst, hr', m', hg⟩ := hA
  exact outMain (q := .on (.add r) m') O G h0 hst hr' hg (Rm.refl w) fun pos G h0 fn place =>
    openStep (s' := .add r) (m' := m') (es := #[mk Mark.disable]) O G h0 trivial trivial rfl rfl (fun vs e => by cases e) (mk_ev (ev0_mk rfl)) (mk_nr (by intro a h; cases h)) rfl (by simp [rk]) fn place
theorem op_read (O : Y.Ok) {r : Nat} (G : Glob Y.p pos N w t) (h0 : pos 0 = .on (.read r) m) (hA : stops Y (.read r) g w) : Out (sys Y) () pos N 0 (.read r) g w t := by
  obtain ⟨hrun, g', hst, hr', m', hg⟩ := hA
  exact outMain (q := .on (.ena r) m') O G h0 hst hr' hg (Rm.refl w) fun pos G h0 fn place =>
    openStep (s' := .ena r) (m' := m') (es := #[mk (Mark.read (smA Y.p.Wg))]) O G h0 trivial trivial rfl rfl (fun vs e => by cases e) (mk_ev (ev0_said (O.p.cellw _ rfl) (.inl rfl))) (mk_nr (by intro a h; cases h)) rfl (by simp [rk]) fn place
theorem op_ena (O : Y.Ok) {r : Nat} (G : Glob Y.p pos N w t) (h0 : pos 0 = .on (.ena r) m) (hA : stops Y (.ena r) g w) : Out (sys Y) () pos N 0 (.ena r) g w t := by
  obtain ⟨hrun, g', hst, hr', m', hg⟩ := hA
  exact outMain (q := .on (.go r) m') O G h0 hst hr' hg (Rm.refl w) fun pos G h0 fn place =>
    openStep (s' := .go r) (m' := m') (es := #[mk Mark.enable]) O G h0 trivial trivial rfl rfl (fun vs e => by cases e) (mk_ev (ev0_mk rfl)) (mk_nr (by intro a h; cases h)) rfl (by simp [rk]) fn place
theorem op_wdis (O : Y.Ok) (G : Glob Y.p pos N w t) (h0 : pos 0 = .on .wdis m) (hA : stops Y .wdis g w) : Out (sys Y) () pos N 0 .wdis g w t := by
  obtain ⟨hrun, g', hst, hr', m', hg⟩ := hA
  refine outMain (q := .on .wload (m' + 30)) O G h0 hst hr' (Goes.after (fun w => Rm.refl w) O.anch hg) (Rm.refl w) fun pos G h0 fn place =>
    openStep (s' := .wload) (m' := m' + 30) (es := #[mk Mark.disable]) O G h0 trivial trivial rfl rfl (fun vs e => by cases e) (mk_ev (ev0_mk rfl)) (mk_nr (by intro a h; cases h)) rfl ?_ fn place
  have hV := V_le G.fits O
  have hs := G.fits.size
  have hge := G.fits.ge
  simp only [rk]; omega

theorem KK_inj {a b : Nat} (h : (a : Int) * KK = (b : Int) * KK) : a = b := by simp only [KK] at h; omega
theorem wg_open (G : Glob Y.p pos N w t) {s : Stg} {m : Nat} (h0 : pos 0 = .on s m) (ho : openT (some s)) : WgAt 96 Y.p.Wg w (((V pos N + pendT (some s) : Nat) : Int) * KK) 0 := by
  obtain ⟨st, sm, hwg, hm⟩ := G.wg
  have hp0 : tagOf (pos 0) = some s := by rw [h0]; rfl
  obtain ⟨hW, hv, rfl, rfl⟩ := hm.openInv (by rw [hp0]; exact ho)
  rw [hp0] at hwg
  exact hwg
theorem aside_heap {Wg Cn : Nat} (h : Cn ≠ Wg) (hA : Aside Wg w w') : w'.heap[Cn]? = w.heap[Cn]? := hA.block Cn h

theorem op_add (O : Y.Ok) {r : Nat} (G : Glob Y.p pos N w t) (h0 : pos 0 = .on (.add r) m) (hA : stops Y (.add r) g w) : Out (sys Y) () pos N 0 (.add r) g w t := by
  obtain ⟨hrun, hall⟩ := hA
  have hwg := wg_open G h0 (s := .add r) trivial
  have hV := V_le G.fits O
  have hs : N + (r + 1) = Y.p.N0 + Y.p.n := by have := G.fits.size; rw [h0] at this; exact this
  have hge := G.fits.ge
  have hsm := O.p.small
  have hwg' : WgAt 96 Y.p.Wg w (((V pos N : Nat) : Int) * KK) 0 := by simpa [pendT] using hwg
  obtain ⟨g', hst, hr', h1, h2⟩ := hall (V pos N) (by omega) hwg'
  have hAs := aside_setCell w (stA Y.p.Wg) (.int .u64 ((((V pos N : Nat) : Int) + 1) * KK))
  have hw' := hwg'.setSt ((((V pos N : Nat) : Int) + 1) * KK)
  have hR : Rm Y.p.Wg Y.p.Cn w (w.setCell (stA Y.p.Wg) (.int .u64 ((((V pos N : Nat) : Int) + 1) * KK))) := Rm.of_wg O.p.cw hAs ⟨_, _, hw'⟩
  have key : ∀ (s' : Stg) (m' : Nat), (s' = .read r ∨ s' = .ena r) → ∀ pos', Glob Y.p pos' N w t → pos' 0 = .on (.add r) m → ∀ fn place,
      Glob Y.p (upd pos' 0 (.on s' m')) N (w.setCell (stA Y.p.Wg) (.int .u64 ((((V pos N : Nat) : Int) + 1) * KK))) (t ++ MemOp.ofEvents 0 fn place #[rd (stA Y.p.Wg), wr (stA Y.p.Wg)]) ∧ phi Y.p (upd pos' 0 (.on s' m')) N < phi Y.p pos' N := by
    intro s' m' hs' pos' G' h0' fn place
    have hwg1 := wg_open G' h0' (s := .add r) trivial
    have hVV : V pos' N = V pos N := KK_inj (by have := (hwg1.unique hwg').1; simpa [pendT] using this)
    obtain ⟨st, sm, hwgx, hm⟩ := G'.wg
    have hp0 : tagOf (pos' 0) = some (.add r) := by rw [h0']; rfl
    obtain ⟨hW, hv, -, -⟩ := hm.openInv (by rw [hp0]; trivial)
    have hz : wst (pos' 0) = 0 := wst0_of_open (by rw [hp0]; trivial)
    have ho' : openT (some s') := by rcases hs' with rfl | rfl <;> trivial
    have hp1 : pendT (some s') = 1 := by rcases hs' with rfl | rfl <;> rfl
    have hz' : wst (.on s' m') = 0 := wst0_of_open (p := .on s' m') ho'
    have hM := Mode.openMk (N := N) O.p.n0 hz (p := .on s' m') ho' hW (fun vs e => by rcases hs' with rfl | rfl <;> simp [tagOf] at e)
    rw [show tagOf (.on s' m') = some s' from rfl, hp1, hVV] at hM
    have hM' : Mode (upd pos' 0 (.on s' m')) Y.p.N0 N ((((V pos N : Nat) : Int) + 1) * KK) 0 := by simpa using hM
    refine ⟨G'.main O.p hR (.inl ho') (fun x e => by cases e) (by rw [hp0]; rcases hs' with rfl | rfl <;> rfl) (ok0_of (rw_ev (O.p.cellw _ rfl))) rw_nr (by rw [h0']; rcases hs' with rfl | rfl <;> rfl) hw' hM'
      (cnt_main hz hz' (fun v u e => by rcases hs' with rfl | rfl <;> simp [tagOf] at e) G'.cnt (aside_heap O.p.cw hAs)) (fun e => by rcases hs' with rfl | rfl <;> simp [tagOf] at e),
      phi_main (G'.size O.p) hz hz' (by rw [hp0]; rcases hs' with rfl | rfl <;> simp [rk, tagOf])⟩
  rcases Nat.eq_zero_or_pos (V pos N) with hz | hz
  · obtain ⟨m', hg⟩ := h1 hz
    exact outMain (q := .on (.read r) m') O G h0 hst hr' hg hR (key _ m' (.inl rfl))
  · obtain ⟨m', hg⟩ := h2 (by omega)
    exact outMain (q := .on (.ena r) m') O G h0 hst hr' hg hR (key _ m' (.inr rfl))

/-- Main's step into one of the last stages, or within them: everybody else is only leaving. -/
theorem finStep (O : Y.Ok) (G : Glob Y.p pos N w t) (h0 : pos 0 = .on s m) (hz : wst (pos 0) = 0) {s' : Stg} {m' : Nat} (hf : finT (some s')) (hrem : remT (some s) = 0) (hQ : AllQ pos Y.p.N0 N) (hR : Rm Y.p.Wg Y.p.Cn w w') (hwg : WgAt 96 Y.p.Wg w' 0 0)
    (hcn : w'.heap[Y.p.Cn]? = w.heap[Y.p.Cn]?) (hev : ∀ e ∈ es, Ev0s Y.p.Sh e) (hnr : ∀ e ∈ es, ∀ ar : Addr, e.loc ≠ .mark (.release ar)) (hdf : deafBehind (dfn (.on s m)) es = dfn (.on s' m'))
    (hall : s' = .fin → ∀ fn place, Handed N (t ++ MemOp.ofEvents 0 fn place es)) (hrk : rk Y.p.n (V pos N) (some s') < rk Y.p.n (V pos N) (some s)) (fn : FuncId) (place : String) :
    Glob Y.p (upd pos 0 (.on s' m')) N w' (t ++ MemOp.ofEvents 0 fn place es) ∧ phi Y.p (upd pos 0 (.on s' m')) N < phi Y.p pos N := by
  have hp0 : tagOf (pos 0) = some s := by rw [h0]; rfl
  have hz' : wst (.on s' m') = 0 := wst0_of_fin (p := .on s' m') hf
  refine ⟨G.main O.p hR (.inr (.inr hf)) (fun x e => by cases e) (by rw [hp0, hrem]; show remT (some s') = 0; cases s' <;> first | rfl | exact hf.elim) (ok0_of hev) hnr (by rw [h0]; exact hdf) hwg
    (Mode.finMk O.p.n0 (p := .on s' m') hf hQ) (cnt_main hz hz' (fun v u e => by cases s' <;> simp [tagOf] at e; exact hf) G.cnt hcn) (fun e => hall (by simpa [tagOf] using e) fn place), phi_main (G.size O.p) hz hz' (by rw [hp0]; exact hrk)⟩
end
end Go.Proofs.Ytdkbkocklnnmdaa.crew
