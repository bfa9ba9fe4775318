/-
  Between two phases: what is held of the trace while main is the only one that does not merely leave, and main's walk there, on whatever tape. Conditions: those that the theorems name.
-/
import Derived.Test.YtdkbkocklnnmdaaCrewAll
import Derived.Conc.Beside
import Derived.Conc.RingFork
set_option linter.unusedVariables false
set_option linter.unusedSectionVars false
namespace Go.Proofs.Ytdkbkocklnnmdaa.crew
open Go Go.Conc Go.Proofs.Ytdkbkocklnnmdaa.mach Go.Proofs.Ytdkbkocklnnmdaa.wg
open Go.ConcN (upd upd_same upd_ne sumTo sumTo_upd sumTo_congr le_sumTo sumTo_upd_out sumTo_le CT OkW Ok0 Apart Deaf_absent PermW.of)
open Go.ConcR (KK WgAt stA smA rd wr mk DC0 Bk g_of_ofEvents)

/-- What is held of the trace, N goroutines being there. 'Shun': places that are touched by atomic steps alone; 'Lw': all that was touched lies there. -/
structure Fr (Shun Lw : Loc → Prop) (N : Nat) (t : Trace) : Prop where
  clean : ∀ said, ¬ Race said t
  quiet : Quiet Shun t
  perm : ∀ l, ¬ Shun l → Perm t 0 l
  over : Handed N t
  norel : ∀ ar : Addr, NoRelease ar t
  fine : ∀ op ∈ t, ∀ x, op.act.touch? = some x → Lw x.loc ∧ (op.g ≠ 0 → ¬ Shun x.loc → x.kind ≠ .atomic)
  gs : ∀ (i : Nat) (op : MemOp), t[i]? = some op → op.g < N

/-- What a step between two phases may list. -/
def EvF (Shun Lw : Loc → Prop) (e : Event) : Prop :=
  (∀ x, (MemAct.ofEvent e).touch? = some x → Lw x.loc ∧ (Shun x.loc → x.kind ≠ .plain)) ∧ ∀ ar : Addr, e.loc ≠ .mark (.release ar)
def EvS (Shun Lw : Loc → Prop) (e : Event) : Prop := EvF Shun Lw e ∧ e.loc ≠ .mark .disable ∧ e.loc ≠ .mark .enable
abbrev DF (Shun Lw : Loc → Prop) : World → World → Array Event → Prop := Go.Conc.DE (EvS Shun Lw)

section
variable {Shun Lw : Loc → Prop} {N : Nat} {t u : Trace}

theorem Fr.app0 (h : Fr Shun Lw N t) (hN : 0 < N) {fn : FuncId} {pl : String} {es : Array Event} (he : ∀ e ∈ es, EvF Shun Lw e) : Fr Shun Lw N (t ++ MemOp.ofEvents 0 fn pl es) := by
  have hg : ∀ op ∈ MemOp.ofEvents 0 fn pl es, op.g = 0 := g_of_ofEvents
  have hx : ∀ op ∈ MemOp.ofEvents 0 fn pl es, ∀ x, op.act.touch? = some x → Lw x.loc ∧ (Shun x.loc → x.kind ≠ .plain) := fun op hop x hx => by
    rw [ofEvents_eq] at hop
    obtain ⟨e, hee, rfl⟩ := Array.mem_map.1 hop
    exact (he e hee).1 x hx
  refine ⟨fun said => noRace_append (h.clean said) hg fun i a ha op hop b hb hc => ?_, h.quiet.app fun op hop x hxx hs => ⟨(hx op hop x hxx).2 hs, fun _ => hg op hop⟩, fun l hl => (h.perm l hl).app fun op hop _ _ _ => hg op hop,
    h.over.appOther hg (.inl rfl), fun ar => (h.norel ar).app (norel_all (fun e hee => (he e hee).2) ar), fun op hop x hxx => ?_, fun i op hi => ?_⟩
  · by_cases hs : Shun b.loc
    · exact h.quiet.known hs ((hx op hop b hb).2 hs) (fun _ => rfl) i a ha hc
    · exact h.perm b.loc hs i a ha hc.1
  · rcases Array.mem_append.1 hop with ho | ho
    · exact h.fine op ho x hxx
    · exact ⟨(hx op ho x hxx).1, fun e => absurd (hg op ho) e⟩
  · rcases getElem?_append_cases hi with ⟨_, hi'⟩ | ⟨_, hiu⟩
    · exact h.gs i op hi'
    · rw [hg op hiu]; exact hN

theorem Fr.appMute (h : Fr Shun Lw N t) {k : Nat} (hk : k < N) {fn : FuncId} {pl : String} {es : Array Event} (hm : ∀ e ∈ es, Event.mute e = true) : Fr Shun Lw N (t ++ MemOp.ofEvents k fn pl es) := by
  have hg : ∀ op ∈ MemOp.ofEvents k fn pl es, op.g = k := g_of_ofEvents
  have nt : ∀ op ∈ MemOp.ofEvents k fn pl es, op.act.touch? = none := fun op hop => by
    rw [ofEvents_eq] at hop
    obtain ⟨e, he, rfl⟩ := Array.mem_map.1 hop
    exact (mute_none (hm e he)).1
  refine ⟨fun said => noRace_append (h.clean said) hg fun i a ha op hop b hb hc => ?_, h.quiet.app fun op hop x hxx hs => ?_, fun l hl => (h.perm l hl).app fun op hop _ hb _ => ?_,
    h.over.appMute nt, fun ar => (h.norel ar).app (norel_all (fun e hee => (mute_none (hm e hee)).2) ar), fun op hop x hxx => ?_, fun i op hi => ?_⟩
  · rw [nt op hop] at hb; cases hb
  · rw [nt op hop] at hxx; cases hxx
  · rw [nt op hop] at hb; cases hb
  · rcases Array.mem_append.1 hop with ho | ho
    · exact h.fine op ho x hxx
    · rw [nt op ho] at hxx; cases hxx
  · rcases getElem?_append_cases hi with ⟨_, hi'⟩ | ⟨_, hiu⟩
    · exact h.gs i op hi'
    · rw [hg op hiu]; exact hk
theorem Fr.mono {Lw' : Loc → Prop} (h : Fr Shun Lw N t) (hl : ∀ l, Lw l → Lw' l) : Fr Shun Lw' N t :=
  ⟨h.clean, h.quiet, h.perm, h.over, h.norel, fun op hop x hx => ⟨hl _ (h.fine op hop x hx).1, (h.fine op hop x hx).2⟩, h.gs⟩
theorem fr_nil : Fr (fun _ => False) Lw 1 #[] :=
  ⟨fun said => by rintro ⟨i, j, _, ⟨a, b, ha, _⟩, _⟩; simp [Trace.act?] at ha, fun i op x hi => by simp at hi, fun l _ i a ha => by simp [touchAt, Trace.act?] at ha, fun i g hg => by simp [Trace.g?] at hg,
    fun ar i => by simp [Trace.act?], by simp, fun i op hi => by simp at hi⟩
end

/-! ### the walk -/
def ToF (Shun Lw : Loc → Prop) (St : Goroutine → World → Prop) (g : Goroutine) (w : World) : Prop := ∃ m, Goes Try.prog true Conc.AtRel (DF Shun Lw) St m g w
/-- n deaf stretches lie ahead of the stop. -/
def Fz (Shun Lw : Loc → Prop) (Stop : Goroutine → World → Prop) : Nat → Goroutine → World → Prop
  | 0 => Stop
  | n + 1 => AtMk true .disable (ToF Shun Lw (AtMk true .enable (ToF Shun Lw (Fz Shun Lw Stop n))))

inductive FS where
  | f (n : Nat) | d (n : Nat)
def FS.deaf : FS → Nat
  | .f _ => 0
  | .d _ => 1
def FS.rank : FS → Nat
  | .f n => 2 * n
  | .d n => 2 * n + 1
def rankF : Pos FS → Nat
  | .on s _ => s.rank
  | .blk s => s.rank
  | .quit _ _ => 0

structure GlobF (Shun Lw : Loc → Prop) (N0 : Nat) (pos : Nat → Pos FS) (N : Nat) (t : Trace) : Prop where
  size : N = N0
  pos1 : 1 ≤ N
  main : ∃ s m, pos 0 = .on s m ∧ Deaf t 0 = s.deaf
  old : ∀ k, 1 ≤ k → k < N → ∃ q, pos k = .quit q (Deaf t k)
  fr : Fr Shun Lw N t

noncomputable def sysF (Shun Lw : Loc → Prop) (Stop : Goroutine → World → Prop) (N0 : Nat) : mach.Sys where
  P := Try.prog
  S := FS
  Γ := Unit
  R := fun _ => Conc.AtRel
  D := fun _ => DF Shun Lw
  A := fun s => match s with
    | .f n => Fz Shun Lw Stop n
    | .d n => AtMk true .enable (ToF Shun Lw (Fz Shun Lw Stop n))
  Glob := fun _ pos N _ t => GlobF Shun Lw N0 pos N t
  Φ := fun _ pos _ => rankF (pos 0)
  fin := fun s => s = .f 0

section
variable {Shun Lw : Loc → Prop} {Stop : Goroutine → World → Prop} {N0 : Nat}

theorem mk_fine {m : Mark} (h : (MemAct.mark m).touch? = none) (hr : ∀ ar, m ≠ .release ar) : ∀ e ∈ #[mk m], EvF Shun Lw e := by
  intro e he
  simp at he; subst he
  refine ⟨fun x hx => ?_, fun ar e => hr ar (by simpa [mk] using e)⟩
  have : (MemAct.ofEvent (mk m)).touch? = none := h
  rw [this] at hx; cases hx

theorem wakeF {pos : Nat → Pos FS} {N : Nat} {t : Trace} (b : Bool) (h : GlobF Shun Lw N0 pos N t) : GlobF Shun Lw N0 (wakeIf b pos) N t := by
  obtain ⟨s, m, h0, hd⟩ := h.main
  refine ⟨h.size, h.pos1, ⟨s, m, by unfold wakeIf; split <;> rw [h0]; rfl, hd⟩, fun k k1 kN => ?_, h.fr⟩
  obtain ⟨q, hq⟩ := h.old k k1 kN
  exact ⟨q, by unfold wakeIf; split <;> rw [hq]; rfl⟩

theorem outF {pos : Nat → Pos FS} {N : Nat} {w : World} {t : Trace} {g g' : Goroutine} {s s' : FS} {m m' : Nat} {mm : Mark} (G : GlobF Shun Lw N0 pos N t) (h0 : pos 0 = .on s m) (hs : stepG Try.prog true g w = .go g' w #[mk mm]) (hr : g'.status = .running)
    (hg : Goes Try.prog true Conc.AtRel (DF Shun Lw) ((sysF Shun Lw Stop N0).A s') m' g' w) (hmt : (MemAct.mark mm).touch? = none) (hmr : ∀ ar, mm ≠ .release ar) (hdf : deafBehind s.deaf #[mk mm] = s'.deaf) (hrk : s'.rank < s.rank) :
    Out (sysF Shun Lw Stop N0) () pos N 0 s g w t := by
  have G1 := wakeF (mayWake Try.prog g) G
  refine Out.go g' w #[mk mm] (.on s' m') () hs (by rw [hr]; simp) (by rw [hr]; simp) hg (fun j hj hj0 => ?_) ?_ ?_
  · obtain ⟨q, hq⟩ := G.old j (by omega) hj
    rw [hq]; trivial
  · refine ⟨G1.size, G1.pos1, ⟨s', m', upd_same _ _ _, ?_⟩, fun k k1 kN => ?_, G1.fr.app0 G1.pos1 (mk_fine hmt hmr)⟩
    · obtain ⟨s2, m2, e2, hd⟩ := G.main
      rw [h0] at e2; cases e2
      rw [Deaf_own, hd]; exact hdf
    · obtain ⟨q, hq⟩ := G1.old k k1 kN
      refine ⟨q, ?_⟩
      rw [upd_ne _ _ (by omega), Deaf_other t (g := k) (g' := 0) (by omega) _ g_of_ofEvents]
      exact hq
  · show rankF (upd (wakeIf (mayWake Try.prog g) pos) 0 (Pos.on s' m') 0) < rankF (pos 0)
    rw [upd_same, h0]
    exact hrk

theorem localF {pos : Nat → Pos FS} {N : Nat} {w w' : World} {t : Trace} {k : Nat} {s : FS} {m : Nat} {es : Array Event} (fn : FuncId) (place : String) (b : Bool) (G : GlobF Shun Lw N0 pos N t) (kN : k < N) (h0 : pos k = .on s (m + 1)) (hD : DF Shun Lw w w' es) :
    GlobF Shun Lw N0 (upd (wakeIf b pos) k (.on s m)) N (t ++ MemOp.ofEvents k fn place es) ∧ rankF (upd (wakeIf b pos) k (.on s m) 0) ≤ rankF (pos 0) ∧ ∀ j, j < N → j ≠ k → ∃ q d, pos j = .quit q d := by
  have G1 := wakeF b G
  have hk : k = 0 := by
    rcases Nat.eq_zero_or_pos k with h | h
    · exact h
    · obtain ⟨q, hq⟩ := G.old k h kN
      rw [h0] at hq; cases hq
  subst hk
  refine ⟨⟨G1.size, G1.pos1, ⟨s, m, upd_same _ _ _, ?_⟩, fun k k1 kN => ?_, G1.fr.app0 G1.pos1 (fun e he => (hD e he).1)⟩, ?_, fun j hj hj0 => ?_⟩
  · obtain ⟨s2, m2, e2, hd⟩ := G.main
    rw [h0] at e2; cases e2
    rw [Deaf_own, hd]
    exact deafBehind_still (fun e he => (hD e he).2) _
  · obtain ⟨q, hq⟩ := G1.old k k1 kN
    refine ⟨q, ?_⟩
    rw [upd_ne _ _ (by omega), Deaf_other t (g := k) (g' := 0) (by omega) _ g_of_ofEvents]
    exact hq
  · rw [upd_same, h0]
    exact Nat.le_refl _
  · obtain ⟨q, hq⟩ := G.old j (by omega) hj
    exact ⟨q, _, hq⟩

theorem leaveF {pos : Nat → Pos FS} {N : Nat} {t : Trace} {k q d : Nat} {es : Array Event} (fn : FuncId) (place : String) (b : Bool) (G : GlobF Shun Lw N0 pos N t) (kN : k < N) (h0 : pos k = .quit (q + 1) d) (hm : ∀ e ∈ es, Event.mute e = true) :
    GlobF Shun Lw N0 (upd (wakeIf b pos) k (.quit q (deafBehind d es))) N (t ++ MemOp.ofEvents k fn place es) ∧ rankF (upd (wakeIf b pos) k (.quit q (deafBehind d es)) 0) ≤ rankF (pos 0) := by
  have G1 := wakeF b G
  have hk : k ≠ 0 := by
    intro e; subst e
    obtain ⟨s, m, e, _⟩ := G.main
    rw [h0] at e; cases e
  refine ⟨⟨G1.size, G1.pos1, ?_, fun j j1 jN => ?_, G1.fr.appMute kN hm⟩, ?_⟩
  · obtain ⟨s, m, e, hd⟩ := G1.main
    exact ⟨s, m, by rw [upd_ne _ _ (fun x => hk x.symm)]; exact e, by rw [Deaf_other t (g := 0) (g' := k) hk _ g_of_ofEvents]; exact hd⟩
  · by_cases e : j = k
    · subst e
      obtain ⟨q', hq'⟩ := G.old j j1 jN
      rw [h0] at hq'
      injection hq' with _ hd
      exact ⟨q, by rw [upd_same, Deaf_own, hd]⟩
    · obtain ⟨q', hq'⟩ := G1.old j j1 jN
      exact ⟨q', by rw [upd_ne _ _ e, Deaf_other t (g := j) (g' := k) (fun x => e x.symm) _ g_of_ofEvents]; exact hq'⟩
  · rw [upd_ne _ _ (fun x => hk x.symm)]
    obtain ⟨s, m, e, _⟩ := G.main
    have e1 : wakeIf b pos 0 = .on s m := by unfold wakeIf; split <;> rw [e]; rfl
    rw [e1, e]
    exact Nat.le_refl _

theorem soundF (hStop : ∀ g w, Stop g w → g.status = .running) : (sysF Shun Lw Stop N0).Sound where
  trans := fun _ a b c h h' => atRel_trans a b c h h'
  draw := fun _ w d => ⟨d, rfl⟩
  run := fun s g w h => by
    match s, h with
    | .f 0, h => exact hStop g w h
    | .f (n + 1), h => exact h.1
    | .d n, h => exact h.1
  gdraw := fun _ _ _ _ _ _ h => h
  live := fun _ pos N w t h => by
    obtain ⟨s, m, h0, _⟩ := h.main
    exact ⟨0, s, m, h.pos1, h0⟩
  local_ := fun _ pos N w t k s m w' es fn place b G kN h0 hD => by
    obtain ⟨a, c, e⟩ := localF (w := w) (w' := w') fn place b G kN h0 hD
    refine ⟨a, c, fun j hj hj0 => ?_⟩
    obtain ⟨q, d, hq⟩ := e j hj hj0
    rw [hq]; trivial
  leave := fun _ pos N w t k q d es fn place b G kN h0 hm => leaveF fn place b G kN h0 hm
  op := fun _ pos N w t k s m g G kN h0 hnf hA => by
    have hk : k = 0 := by
      rcases Nat.eq_zero_or_pos k with h | h
      · exact h
      · obtain ⟨q, hq⟩ := G.old k h kN
        rw [h0] at hq; cases hq
    subst hk
    have hA0 := hA w (by exact atRel_refl w)
    match s, hA0, h0, hnf with
    | .f 0, _, _, hnf => exact absurd ⟨rfl, rfl⟩ hnf
    | .f (n + 1), hA0, h0, _ =>
      obtain ⟨_, g', hst, hr, m', hg⟩ := hA0
      exact outF (s' := .d n) (m' := m') G h0 hst hr hg rfl (fun ar e => by cases e) rfl (by simp only [FS.rank]; omega)
    | .d n, hA0, h0, _ =>
      obtain ⟨_, g', hst, hr, m', hg⟩ := hA0
      exact outF (s' := .f n) (m' := m') G h0 hst hr hg rfl (fun ar e => by cases e) rfl (by simp only [FS.rank]; omega)
end

/-- Main is the only one that does not merely leave. -/
def Stands (Shun Lw : Loc → Prop) (gs : Array Goroutine) (a : Goroutine) (t : Trace) : Prop := gs[0]? = some a ∧ (∃ q, Leavers Try.prog t gs q) ∧ Deaf t 0 = 0 ∧ Fr Shun Lw gs.size t
/-- The machine comes, within some number of steps, to where Q holds. -/
def Reaches (gs : Array Goroutine) (w : World) (sl : Option (Nat × Nat)) (t : Trace) (Q : Array Goroutine → World → Option (Nat × Nat) → Trace → Prop) : Prop :=
  ∃ K gs' w' sl' t', runNT Try.prog K (crowd gs w sl) t = (.next (crowd gs' w' sl'), t') ∧ Q gs' w' sl' t'

section
variable {Shun Lw : Loc → Prop} {Stop : Goroutine → World → Prop} {gs : Array Goroutine} {a : Goroutine} {w : World} {sl : Option (Nat × Nat)} {t : Trace}

theorem Reaches.refl {Q : Array Goroutine → World → Option (Nat × Nat) → Trace → Prop} (h : Q gs w sl t) : Reaches gs w sl t Q := ⟨0, gs, w, sl, t, rfl, h⟩
theorem Reaches.bind {Q Q' : Array Goroutine → World → Option (Nat × Nat) → Trace → Prop} (h : Reaches gs w sl t Q) (h' : ∀ gs w sl t, Q gs w sl t → Reaches gs w sl t Q') : Reaches gs w sl t Q' := by
  obtain ⟨K, gs1, w1, sl1, t1, r1, q1⟩ := h
  obtain ⟨K2, gs2, w2, sl2, t2, r2, q2⟩ := h' _ _ _ _ q1
  exact ⟨K + K2, gs2, w2, sl2, t2, by rw [runNT_add, r1]; exact r2, q2⟩

theorem goes_at {P : Program} {main : Bool} {D : World → World → Array Event → Prop} {S : Goroutine → World → Prop} {m : Nat} {d : Nat} (h : Goes P main Conc.AtRel D S m a (w.at d)) : Goes P main Conc.AtRel D S m a w :=
  Goes.rely atRel_trans h ⟨w.drawn, rfl⟩

theorem stands_pos (h : Stands Shun Lw gs a t) : 1 ≤ gs.size := (Array.getElem?_eq_some_iff.1 h.1).1

/-- ████ MAIN's WALK BETWEEN TWO PHASES. -/
theorem free_walk (hStop : ∀ g w, Stop g w → g.status = .running) (hS : Stands Shun Lw gs a t) {n m : Nat} (hG : Goes Try.prog true Conc.AtRel (DF Shun Lw) (Fz Shun Lw Stop n) m a w) :
    Reaches gs w sl t fun gs' w' _ t' => ∃ a', Stands Shun Lw gs' a' t' ∧ gs'.size = gs.size ∧ ∃ d, Stop a' (w'.at d) := by
  have hp := stands_pos hS
  obtain ⟨h0, ⟨q, hL⟩, hd, hF⟩ := hS
  let pos : Nat → Pos FS := fun k => if k = 0 then .on (.f n) m else .quit (q k) (Deaf t k)
  have hI : (sysF Shun Lw Stop gs.size).Inv () pos gs w t := by
    refine ⟨fun k hk => ?_, hp, ⟨rfl, hp, ⟨.f n, m, rfl, hd⟩, fun k k1 kN => ⟨q k, by simp [pos, show k ≠ 0 by omega]⟩, hF⟩⟩
    by_cases e : k = 0
    · subst e; exact ⟨a, h0, hG⟩
    · refine ⟨gs[k], Array.getElem?_eq_getElem hk, ?_⟩
      have := hL.old k gs[k] (by omega) (Array.getElem?_eq_getElem hk)
      simp only [pos, if_neg e]
      exact ⟨e, this⟩
  obtain ⟨K, γ', pos', gs', w', sl', t', hr, ⟨hh, h1, hG'⟩, ⟨d, sl2, s, m2, g, hg, hp0, hfin, hA, _⟩⟩ := runs_to_stop (soundF hStop) _ () pos gs w sl t rfl hI
  refine ⟨K, gs', w', sl', t', hr, g, ⟨hg, ⟨fun k => (pos' k).fuel, fun k x hk hx => ?_, fun j hj => ?_⟩, ?_, hG'.fr⟩, hG'.size, d, ?_⟩
  · have hlt : k < gs'.size := (Array.getElem?_eq_some_iff.1 hx).1
    obtain ⟨y, hy, hy'⟩ := hh k hlt
    rw [hx] at hy; cases hy
    obtain ⟨q', hq'⟩ := hG'.old k hk hlt
    simp only [hq'] at hy' ⊢
    exact hy'.2
  · exact Deaf_absent fun i op hi e => by have := hG'.fr.gs i op hi; omega
  · obtain ⟨s2, m3, e2, hd2⟩ := hG'.main
    rw [hp0] at e2; cases e2
    rw [hd2]
    have : s = .f 0 := hfin
    rw [this]; rfl
  · have : s = .f 0 := hfin
    subst this
    exact hA
end
end Go.Proofs.Ytdkbkocklnnmdaa.crew
