/-
  A whole phase: from where main alone does not merely leave, over the starting of n workers and the wait for them, to where main alone does not merely leave. Conditions: those that the theorem names.
-/
import Derived.Test.YtdkbkocklnnmdaaFrame
set_option linter.unusedVariables false
set_option linter.unusedSectionVars false
namespace Go.Proofs.Ytdkbkocklnnmdaa.crew
open Go Go.Conc Go.Proofs.Ytdkbkocklnnmdaa.mach Go.Proofs.Ytdkbkocklnnmdaa.wg
open Go.ConcN (upd upd_same upd_ne sumTo sumTo_upd sumTo_congr le_sumTo sumTo_upd_out sumTo_le CT OkW Ok0 Apart Deaf_absent PermW.of)
open Go.ConcR (KK WgAt stA smA rd wr mk DC0 Bk g_of_ofEvents)

def startStg : Nat → Stg
  | 0 => .wdis
  | n + 1 => .dis n
theorem stops_start (Y : Ways) (n : Nat) : stops Y (startStg n) = Script Y n := by cases n <;> rfl
theorem start_rem (n : Nat) : remT (some (startStg n)) = n := by cases n <;> rfl
theorem start_open (n : Nat) : openT (some (startStg n)) := by cases n <;> trivial
theorem start_pend (n : Nat) : pendT (some (startStg n)) = 0 := by cases n <;> rfl
theorem start_dfn (n m : Nat) : dfn (.on (startStg n) m) = 0 := by cases n <;> rfl
theorem start_rely (Y : Ways) (n : Nat) : rely Y (startStg n) = RR Y := by cases n <;> rfl
theorem start_guar (Y : Ways) (n : Nat) : guar Y (startStg n) = DC0 := by cases n <;> rfl

theorem sum_none {pos : Nat → Ps} {N : Nat} (h : ∀ k, k < N → wst (pos k) < 8) : (sumTo N fun k => if 8 ≤ wst (pos k) then 1 else 0) = 0 := by
  have : (sumTo N fun k => if 8 ≤ wst (pos k) then 1 else 0) = sumTo N fun _ => 0 := sumTo_congr fun k hk => by rw [if_neg (by have := h k hk; omega)]
  rw [this]
  have := sumTo_le (f := fun _ : Nat => 0) (c := 0) (j := N) fun _ _ => Nat.le_refl _
  omega

theorem un_end {p : Par} {pos : Nat → Ps} {N : Nat} (h : ∀ k, k < N → wst (pos k) < 8) (hN : N = p.N0 + p.n) : Un p pos N = 0 := by
  unfold Un
  rw [sum_none h, hN]
  omega

theorem quit_of {x : Ps} (h : wst x = 1) : ∃ q d, x = .quit q d := by
  cases x with
  | on s m => cases s <;> simp [wst, wT, tagOf] at h
  | blk s => cases s <;> simp [wst, wT, tagOf] at h
  | quit q d => exact ⟨q, d, rfl⟩

section
variable {Y : Ways} {Shun Lw : Loc → Prop} {gs : Array Goroutine} {a : Goroutine} {w : World} {sl : Option (Nat × Nat)} {t : Trace}

/-- What ties a phase to the frame in which it begins. -/
structure Begins (Y : Ways) (Shun Lw : Loc → Prop) (N : Nat) (w : World) : Prop where
  n0 : Y.p.N0 = N
  w0 : Y.p.w0 = w
  sh : ∀ l, Shun l → Y.p.Sh l
  fresh : ∀ l, Y.p.Sh l → Shun l ∨ ¬ Lw l
  lw : ∀ l, Lw l → Y.p.Lw l
  rd : ∀ k, k < N → ∀ l, ¬ Y.p.Rd k l
  rdM : ∀ k l, Y.p.Rd k l → l.isMemory = true
  wg : WgAt 96 Y.p.Wg w 0 0
  cnt : Y.p.useC → CntAt Y.p.Cn w (Y.p.val 0)

theorem glob_begin (O : Y.Ok) (hS : Stands Shun Lw gs a t) (hB : Begins Y Shun Lw gs.size w) (q : Nat → Nat) (m : Nat) :
    Glob Y.p (fun k => if k = 0 then .on (startStg Y.p.n) m else .quit (q k) (Deaf t k)) gs.size w t := by
  have hp := stands_pos hS
  obtain ⟨h0, ⟨_, hL⟩, hd, hF⟩ := hS
  have w0 : wst (.on (startStg Y.p.n) m) = 0 := wst0_of_open (p := .on (startStg Y.p.n) m) (start_open Y.p.n)
  have hw : ∀ k, wst (if k = 0 then Pos.on (startStg Y.p.n) m else .quit (q k) (Deaf t k)) < 2 := fun k => by
    split
    · rw [w0]; omega
    · exact Nat.lt_succ_self 1
  have hV : V (fun k => if k = 0 then .on (startStg Y.p.n) m else .quit (q k) (Deaf t k)) gs.size = 0 := V_zero fun k _ => Nat.lt_of_lt_of_le (hw k) (by omega)
  have hU : Un Y.p (fun k => if k = 0 then .on (startStg Y.p.n) m else .quit (q k) (Deaf t k)) gs.size = Y.p.n := by
    unfold Un
    rw [sum_none fun k _ => Nat.lt_of_lt_of_le (hw k) (by omega), hB.n0]
    omega
  refine ⟨⟨.inl (start_open _), (fun s e => by cases e), ?_, by rw [hB.n0]; exact Nat.le_refl _, fun k k1 kN => ?_, fun k k1 kN => by rw [hB.n0] at k1; omega⟩, fun k kN => ?_, ⟨fun i op x hi hx hs => ?_, fun _ _ _ _ h => h.elim, fun k k1 kN l hl => ?_, fun l hl _ => hF.perm l (fun x => hl (hB.sh l x)), fun l hl _ => .of (hF.perm l (fun x => hl (hB.sh l x))), hF.clean, fun i op hi => by have := hF.gs i op hi; omega⟩,
    hF.norel, fun k k1 kN _ => by rw [hB.n0] at k1; omega, by rw [hB.n0]; exact hF.over, fun e => ?_, by rw [hB.w0]; exact Rm.refl w, ⟨0, 0, hB.wg, ?_⟩, ⟨fun hc => ⟨?_, fun k kN v u e => ?_⟩, fun hc k kN => ?_⟩, fun op hop x hx => ⟨hB.lw _ (hF.fine op hop x hx).1, fun e hs => (hF.fine op hop x hx).2 e (fun y => hs (hB.sh _ y))⟩⟩
  · show gs.size + remT (some (startStg Y.p.n)) = _
    rw [start_rem, hB.n0]
  · simp [show k ≠ 0 by omega, wst, wT, tagOf]
  · by_cases e : k = 0
    · subst e
      simp only [if_pos]
      rw [hd, start_dfn]
    · simp only [if_neg e]; rfl
  · rcases hB.fresh _ hs with h | h
    · exact hF.quiet i op x hi hx h
    · exact absurd (hF.fine op (Array.mem_of_getElem? hi) x hx).1 h
  · exact absurd hl (hB.rd k (by omega) l)
  · have : some (startStg Y.p.n) = some .fin := e
    cases hn : Y.p.n <;> rw [hn] at this <;> cases this
  · have := Mode.opn (pos := fun k => if k = 0 then .on (startStg Y.p.n) m else .quit (q k) (Deaf t k)) (N0 := Y.p.N0) (N := gs.size) (start_open Y.p.n) (fun k k0 kN => by rw [hB.n0] at k0; omega) (fun vs e => by
      have : some (startStg Y.p.n) = some (.wcas vs) := e
      cases hn : Y.p.n <;> rw [hn] at this <;> cases this)
    rw [hV] at this
    have e2 : pendT (tagOf (if (0 : Nat) = 0 then Pos.on (startStg Y.p.n) m else .quit (q 0) (Deaf t 0))) = 0 := start_pend _
    rw [e2] at this
    simpa using this
  · rw [hU, Nat.sub_self]; exact hB.cnt hc
  · by_cases x : k = 0
    · subst x
      have : some (startStg Y.p.n) = some (.kc v u) := e
      cases hn : Y.p.n <;> rw [hn] at this <;> cases this
    · simp only [if_neg x, tagOf] at e; cases e
  · exact Nat.le_of_lt (Nat.lt_of_lt_of_le (hw k) (by omega))

/-- What the frame behind a phase is told. -/
def Behind (Y : Ways) (N : Nat) (w : World) (gs' : Array Goroutine) (w' : World) (t' : Trace) : Prop :=
  ∃ a', Stands Y.p.Sh Y.p.Lw gs' a' t' ∧ gs'.size = N + Y.p.n ∧ (∃ d, Y.St a' (w'.at d)) ∧ Rm Y.p.Wg Y.p.Cn w w' ∧ WgAt 96 Y.p.Wg w' 0 0 ∧ (Y.p.useC → CntAt Y.p.Cn w' (Y.p.val Y.p.n))

/-- ████ A PHASE. -/
theorem phase (O : Y.Ok) (hS : Stands Shun Lw gs a t) (hB : Begins Y Shun Lw gs.size w) {m : Nat} (hG : Goes Try.prog true (RR Y) DC0 (Script Y Y.p.n) m a w) :
    Reaches gs w sl t fun gs' w' _ t' => Behind Y gs.size w gs' w' t' := by
  have hp := stands_pos hS
  obtain ⟨h0, ⟨q, hL⟩, hd, hF⟩ := hS
  have hGl := glob_begin (w := w) O ⟨h0, ⟨q, hL⟩, hd, hF⟩ hB q m
  have hI : (sys Y).Inv () (fun k => if k = 0 then .on (startStg Y.p.n) m else .quit (q k) (Deaf t k)) gs w t := by
    refine ⟨fun k hk => ?_, hp, hGl⟩
    by_cases e : k = 0
    · subst e
      refine ⟨a, h0, ?_⟩
      show Goes Try.prog true (rely Y (startStg Y.p.n)) (guar Y (startStg Y.p.n)) (stops Y (startStg Y.p.n)) m a w
      rw [start_rely, start_guar, stops_start]
      exact hG
    · refine ⟨gs[k], Array.getElem?_eq_getElem hk, ?_⟩
      have := hL.old k gs[k] (by omega) (Array.getElem?_eq_getElem hk)
      simp only [if_neg e]
      exact ⟨e, this⟩
  obtain ⟨K, γ', pos', gs', w', sl', t', hr, ⟨hh, h1, hG'⟩, ⟨d, sl2, s, m2, g, hg, hp0, hfin, hA, _⟩⟩ := runs_to_stop (sound O) _ () _ gs w sl t rfl hI
  have hs : s = .fin := hfin
  subst hs
  have hG2 : Glob Y.p pos' gs'.size w' t' := hG'
  have htag : tagOf (pos' 0) = some .fin := by
    have : pos' 0 = .on .fin m2 := hp0
    rw [this]; rfl
  obtain ⟨st, sm, hwg, hm⟩ := hG2.wg
  obtain ⟨hQ, rfl, rfl⟩ := hm.finInv (by rw [htag]; trivial)
  have n0 := O.p.n0
  have hsz : gs'.size = gs.size + Y.p.n := by
    have := hG2.fits.size
    rw [htag, hB.n0] at this
    exact this
  have hall := hG2.all htag
  have hq : ∀ k, 1 ≤ k → k < gs'.size → wst (pos' k) = 1 := fun k k1 kN => by
    rcases Nat.lt_or_ge k Y.p.N0 with h | h
    · exact hG2.fits.old k k1 h
    · exact hQ k h kN
  have hgs : ∀ (i : Nat) (op : MemOp), t'[i]? = some op → op.g < gs'.size := fun i op hi => by have := hG2.ct.gs i op hi; omega
  refine ⟨K, gs', w', sl', t', hr, g, ⟨hg, ⟨fun k => (pos' k).fuel, fun k x hk hx => ?_, fun j hj => ?_⟩, ?_, ⟨hG2.ct.nr, hG2.ct.quiet, fun l hl => ?_, hall, hG2.norel, hG2.fine, hgs⟩⟩, hsz, ⟨d, hA⟩, by rw [← hB.w0]; exact hG2.world, hwg, fun hc => ?_⟩
  · have hlt : k < gs'.size := (Array.getElem?_eq_some_iff.1 hx).1
    obtain ⟨y, hy, hy'⟩ := hh k hlt
    rw [hx] at hy; cases hy
    obtain ⟨q', d', hq'⟩ := quit_of (hq k hk hlt)
    have hdf := hG2.df k hlt
    rw [hq'] at hdf
    have hdf' : Deaf t' k = d' := hdf
    have hpk : pos' k = .quit q' d' := hq'
    rw [hpk] at hy'
    show QuitsD Try.prog (pos' k).fuel (Deaf t' k) x
    rw [hpk, hdf']
    exact hy'.2
  · exact Deaf_absent fun i op hi e => by have := hgs i op hi; omega
  · have hdf := hG2.df 0 (by omega)
    have hp1 : pos' 0 = .on .fin m2 := hp0
    rw [hp1] at hdf
    exact hdf
  · by_cases hR : ∃ k, 1 ≤ k ∧ k ≤ gs'.size - 1 ∧ Y.p.Rd k l
    · obtain ⟨k, k1, kN, hk⟩ := hR
      have hmem := hB.rdM k l hk
      intro i x hx hxl
      obtain ⟨op, hop, hox⟩ := touch_of hx
      by_cases e : op.g = 0
      · have := knows_own hop
        rwa [e] at this
      · have hfi := (hG2.fine op (Array.mem_of_getElem? hop) x hox).2 e (by rw [hxl]; exact hl)
        obtain ⟨qq, h1', h2'⟩ := hall i op.g (by simp [Trace.g?, hop]) e (hgs i op hop) ⟨x, by simpa [touchAt] using hx, by rw [hxl]; exact hmem, .inl hfi⟩
        obtain ⟨z, hz, hzg⟩ := Option.map_eq_some_iff.1 h1'
        exact ⟨qq, z, hz, hzg, .inr h2'⟩
    · exact hG2.ct.free l hl fun k k1 kN => ⟨fun h => h, fun h => hR ⟨k, k1, kN, h⟩⟩
  · have := (hG2.cnt.1 hc).1
    have hU : Un Y.p pos' gs'.size = 0 := un_end (fun k kN => ?_) (by rw [hsz, hB.n0])
    · rw [hU, Nat.sub_zero] at this
      exact this
    · by_cases e : k = 0
      · subst e
        have hz := wst0_of_fin (p := pos' 0) (show finT (tagOf (pos' 0)) from htag ▸ trivial)
        exact Nat.lt_of_le_of_lt (Nat.le_of_eq hz) (by omega)
      · have := hq k (by omega) kN; omega
end
end Go.Proofs.Ytdkbkocklnnmdaa.crew
