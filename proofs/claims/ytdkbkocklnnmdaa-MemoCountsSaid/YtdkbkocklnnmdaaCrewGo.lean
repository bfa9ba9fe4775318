/-
  A main goroutine that starts workers and waits for them: the go statement. Conditions: those of the structure Ways.Ok.
-/
import Derived.Test.YtdkbkocklnnmdaaCrewWait
set_option linter.unusedVariables false
set_option linter.unusedSectionVars false
set_option linter.unusedSimpArgs false
namespace Go.Proofs.Ytdkbkocklnnmdaa.crew
open Go Go.Conc Go.Proofs.Ytdkbkocklnnmdaa.mach Go.Proofs.Ytdkbkocklnnmdaa.wg
open Go.ConcN (upd upd_same upd_ne sumTo sumTo_upd sumTo_congr le_sumTo sumTo_upd_out sumTo_le CT OkW Ok0 Apart RelBy WgLive RW PayAt AtR0 AtK1 AtD1 AtD2 AtD3 AtD4 handedOver_all Deaf_absent)
open Go.ConcR (KK WgAt stA smA rd wr mk DC0 Bk g_of_ofEvents)

section
variable {Y : Ways} {pos : Nat → Ps} {N : Nat} {w w' : World} {t : Trace} {s : Stg} {m : Nat} {g g' : Goroutine} {es : Array Event} {q : Ps}

theorem Deaf_still {k : Nat} {u : Trace} (hu : ∀ op ∈ u, ∀ mm, op.act ≠ .mark mm) : Deaf (t ++ u) k = Deaf t k := by
  obtain ⟨l⟩ := u
  rw [Deaf_append]
  induction l generalizing t with
  | nil => rfl
  | cons y l ih =>
    have hy : deafStep k (Deaf t k) y = Deaf t k := by
      unfold deafStep
      split
      · rename_i h; exact absurd h (hu y (by simp) _)
      · rename_i h; exact absurd h (hu y (by simp) _)
      · rfl
    rw [List.foldl_cons, hy]
    exact ih fun op hop => hu op (by simp at hop ⊢; exact .inr hop)

theorem counts_mute {u : Trace} (hu : ∀ op ∈ u, op.act.touch? = none) {i : Nat} (hi : t.size ≤ i) : ¬ (t ++ u).counts i := by
  rintro ⟨x, hx, _⟩
  obtain ⟨act, hact, hxt⟩ := Option.bind_eq_some_iff.1 hx
  obtain ⟨op, ho, rfl⟩ := Option.map_eq_some_iff.1 hact
  rcases getElem?_append_cases ho with ⟨hlt, _⟩ | ⟨_, hou⟩
  · omega
  · rw [hu op hou] at hxt; cases hxt

theorem Un_le (h : Fits Y.p pos N) (O : Y.Ok) : Un Y.p pos N ≤ Y.p.n := by
  have n0 := O.p.n0
  have hs := h.size
  have hge := h.ge
  have key : ∀ M, M ≤ N → sumTo M (fun k => if 8 ≤ wst (pos k) then 1 else 0) ≤ M - Y.p.N0 := by
    intro M
    induction M with
    | zero => intro _; simp [sumTo]
    | succ M ih =>
      intro hM
      have := ih (by omega)
      simp only [sumTo]
      rcases Nat.lt_or_ge M Y.p.N0 with hlt | hge
      · rw [if_neg]
        · omega
        · by_cases e : M = 0
          · subst e
            rcases h.main with a | a | a
            · rw [wst0_of_open a]; omega
            · rw [wst0_of_w3 a]; omega
            · rw [wst0_of_fin a]; omega
          · rw [h.old M (by omega) hlt]; omega
      · split <;> omega
  have := key N (Nat.le_refl _)
  unfold Un
  omega

/-- The go statement, whichever of the two stages main goes on to. -/
theorem goStep (O : Y.Ok) {r : Nat} (G : Glob Y.p pos N w t) (h0 : pos 0 = .on (.go r) m) {p' : Ps} {mc : Nat} {fn fn' : FuncId} {pl : String} (hp : openT (tagOf p')) (hpp : pendT (tagOf p') = 0) (hnc : ∀ vs, tagOf p' ≠ some (.wcas vs)) (hd : dfn p' = 0) (hrem : remT (tagOf p') = r)
    (hb : ∀ s, p' ≠ .blk s) (hrk : rk Y.p.n (V pos N + 1) (tagOf p') + 2 * Y.p.n + 12 ≤ rk Y.p.n (V pos N) (some (.go r))) :
    Glob Y.p (upd (upd pos 0 p') N (.on Y.ks mc)) (N + 1) w ((t.push { g := 0, fn, pos := pl, act := .go N }).push { g := N, fn := fn', pos := pl, act := .start }) ∧
      phi Y.p (upd (upd pos 0 p') N (.on Y.ks mc)) (N + 1) < phi Y.p pos N := by
  have n0 := O.p.n0
  have ge := G.fits.ge
  have hN1 := G.size O.p
  have hp0 : tagOf (pos 0) = some (.go r) := by rw [h0]; rfl
  have hsz : N + (r + 1) = Y.p.N0 + Y.p.n := by have := G.fits.size; rw [hp0] at this; exact this
  have hks : Y.ks = .kl ∨ Y.ks = .k0 := by by_cases hc : Y.p.useC; exact .inl (O.kid hc); exact .inr (O.kid0 hc)
  have hwk : 7 ≤ wst (.on Y.ks mc) := by rcases hks with e | e <;> rw [e] <;> simp [wst, wT, tagOf]
  have hdk : dfn (.on Y.ks mc) = 0 := by rcases hks with e | e <;> rw [e] <;> rfl
  obtain ⟨st, sm, hwg, hm⟩ := G.wg
  obtain ⟨hm', hV'⟩ := hm.born n0 ge h0 hp hpp hnc (pc := .on Y.ks mc) (by omega)
  have e0 : upd (upd pos 0 p') N (.on Y.ks mc) 0 = p' := by rw [upd_ne _ _ (by omega), upd_same]
  have eN : upd (upd pos 0 p') N (.on Y.ks mc) N = .on Y.ks mc := upd_same _ _ _
  have ek : ∀ k, k ≠ 0 → k ≠ N → upd (upd pos 0 p') N (.on Y.ks mc) k = pos k := fun k a b => by rw [upd_ne _ _ b, upd_ne _ _ a]
  have hz0 : wst (pos 0) = 0 := wst0_of_open (by rw [hp0]; trivial)
  have hzp : wst p' = 0 := wst0_of_open hp
  have et : (t.push { g := 0, fn, pos := pl, act := .go N }).push { g := N, fn := fn', pos := pl, act := .start } = t ++ #[({ g := 0, fn, pos := pl, act := .go N } : MemOp), { g := N, fn := fn', pos := pl, act := .start }] := by
    apply Array.ext'; simp
  rw [et]
  generalize hu : (#[({ g := 0, fn, pos := pl, act := .go N } : MemOp), { g := N, fn := fn', pos := pl, act := .start }] : Trace) = u
  have mute : ∀ op ∈ u, op.act.touch? = none := by
    intro op hop; rw [← hu] at hop; simp at hop; rcases hop with rfl | rfl <;> rfl
  have nomark : ∀ op ∈ u, ∀ mm, op.act ≠ .mark mm := by
    intro op hop mm; rw [← hu] at hop; simp at hop; rcases hop with rfl | rfl <;> simp
  have hdN : Deaf t N = 0 := Deaf_absent fun i op hi e => by have := G.ct.gs i op hi; omega
  have hct : CT Y.p.Sh noOwn Y.p.Rd (t ++ u) N := by
    have := G.ct.fork (x := { g := 0, fn, pos := pl, act := .go N }) (y := { g := N, fn := fn', pos := pl, act := .start }) O.p.apart ⟨rfl, by rw [Nat.sub_add_cancel hN1]⟩ ⟨by rw [Nat.sub_add_cancel hN1], rfl⟩ (by rw [G.df 0 (by omega), h0]; rfl)
    rw [Nat.sub_add_cancel hN1, hu] at this
    exact this
  have hUn : Y.p.useC → Un Y.p (upd (upd pos 0 p') N (.on Y.ks mc)) (N + 1) = Un Y.p pos N := fun hc => by
    unfold Un
    simp only [sumTo, eN]
    rw [show (sumTo N fun k => if 8 ≤ wst (upd (upd pos 0 p') N (.on Y.ks mc) k) then 1 else 0) = sumTo N fun k => if 8 ≤ wst (pos k) then 1 else 0 from sumTo_congr fun k hk => by
      by_cases x : k = 0
      · subst x; rw [e0, hz0, hzp]
      · rw [ek k x (by omega)]]
    rw [O.kid hc, if_pos (by simp [wst, wT, tagOf])]
    omega
  have hUle : Un Y.p (upd (upd pos 0 p') N (.on Y.ks mc)) (N + 1) ≤ Un Y.p pos N := by
    unfold Un
    simp only [sumTo, eN]
    rw [show (sumTo N fun k => if 8 ≤ wst (upd (upd pos 0 p') N (.on Y.ks mc) k) then 1 else 0) = sumTo N fun k => if 8 ≤ wst (pos k) then 1 else 0 from sumTo_congr fun k hk => by
      by_cases x : k = 0
      · subst x; rw [e0, hz0, hzp]
      · rw [ek k x (by omega)]]
    split <;> omega
  refine ⟨⟨⟨by rw [e0]; exact .inl hp, by rw [e0]; exact fun s e => absurd e (hb s), by rw [e0, hrem]; omega, by omega, fun k a b => by rw [ek k (by omega) (by omega)]; exact G.fits.old k a b, fun k a b => ?_⟩, fun k hk => ?_, hct,
    fun ar => (G.norel ar).app (fun op hop => by have := nomark op hop; exact this _), fun k a b c => ?_, G.hand.appMute mute, fun e => ?_, G.world, ⟨st, sm, hwg, hm'⟩, ⟨fun hc => ?_, fun hc k hk => ?_⟩, fine_app G.fine fun op hop => fine_mute (mute op hop)⟩, ?_⟩
  · by_cases x : k = N
    · subst x; rw [eN]; exact ⟨by omega, fun s e => by cases e⟩
    · rw [ek k (by omega) x]; exact G.fits.wk k a (by omega)
  · rw [Deaf_still nomark]
    by_cases x : k = N
    · subst x; rw [eN, hdk, hdN]
    · by_cases y : k = 0
      · subst y; rw [e0, hd, G.df 0 (by omega), h0]; rfl
      · rw [ek k y x]; exact G.df k (by omega)
  · by_cases x : k = N
    · subst x; rw [eN] at c; omega
    · rw [ek k (by omega) x] at c
      obtain ⟨r', hr'⟩ := G.rel k a (by omega) c
      exact ⟨r', hr'.app fun i hi _ => counts_mute mute hi⟩
  · rw [e0] at e; rw [e] at hp; exact hp.elim
  · rw [hUn hc]
    refine ⟨(G.cnt.1 hc).1, fun k hk v u' e => ?_⟩
    by_cases x : k = N
    · subst x; rw [eN, O.kid hc] at e; simp [tagOf] at e
    · by_cases y : k = 0
      · subst y; rw [e0] at e; rw [e] at hp; exact hp.elim
      · rw [ek k y x] at e; exact (G.cnt.1 hc).2 k (by omega) v u' e
  · by_cases x : k = N
    · subst x; rw [eN, O.kid0 hc]; simp [wst, wT, tagOf]
    · by_cases y : k = 0
      · subst y; rw [e0, hzp]; omega
      · rw [ek k y x]; exact G.cnt.2 hc k (by omega)
  · unfold phi
    rw [hV', e0, hp0]
    have hle := Un_le G.fits O
    simp only [sumTo, eN]
    have h1 : sumTo N (fun k => ww (Un Y.p (upd (upd pos 0 p') N (.on Y.ks mc)) (N + 1)) (tagOf (upd (upd pos 0 p') N (.on Y.ks mc) k))) ≤ sumTo N (fun k => ww (Un Y.p pos N) (tagOf (pos k))) := sumTo_mono fun k hk => by
      by_cases x : k = 0
      · subst x
        rw [e0]
        have : ww (Un Y.p (upd (upd pos 0 p') N (.on Y.ks mc)) (N + 1)) (tagOf p') = 0 := by
          revert hp; cases tagOf p' with
          | none => exact fun h => h.elim
          | some s => cases s <;> intro h <;> first | rfl | exact h.elim
        omega
      · rw [ek k x (by omega)]; exact ww_mono hUle _
    have h2 : ∀ U, U ≤ Y.p.n → ww U (tagOf (.on Y.ks mc)) ≤ 9 + 2 * Y.p.n := by
      intro U hU
      rcases hks with e | e <;> rw [e] <;> simp only [tagOf, ww] <;> omega
    have := h2 _ (Nat.le_trans hUle hle)
    omega

theorem op_go (O : Y.Ok) {r : Nat} (G : Glob Y.p pos N w t) (h0 : pos 0 = .on (.go r) m) (hA : stops Y (.go r) g w) : Out (sys Y) () pos N 0 (.go r) g w t := by
  obtain ⟨hrun, g', child, hst, ⟨mc, hkid⟩, m', hg⟩ := hA
  have hN1 := G.size O.p
  have hks : Y.ks = .kl ∨ Y.ks = .k0 := by by_cases hc : Y.p.useC; exact .inl (O.kid hc); exact .inr (O.kid0 hc)
  have hNk : (N == 0) = false := by simp; omega
  have hkid' : (sys Y).Holds N (.on Y.ks mc) child w := by
    show Goes Try.prog (N == 0) (rely Y Y.ks) (guar Y Y.ks) (stops Y Y.ks) mc child w
    rw [hNk]
    unfold kidStop at hkid
    rcases hks with e | e <;> rw [e] at hkid ⊢ <;> exact hkid
  have e0 : t ++ MemOp.ofEvents 0 g.frame.fn g.frame.place #[] = t := by simp [MemOp.ofEvents]
  have hV := V_le G.fits O
  have hsz : N + (r + 1) = Y.p.N0 + Y.p.n := by have := G.fits.size; rw [h0] at this; exact this
  have hge := G.fits.ge
  cases r with
  | zero =>
    have key := fun fn fn' pl => goStep (p' := .on .wdis m') (mc := mc) (fn := fn) (fn' := fn') (pl := pl) O G h0 trivial rfl (fun vs e => by simp [tagOf] at e) rfl rfl (fun s e => by cases e) (by simp only [tagOf, rk]; omega)
    refine Out.spawn g' child w #[] (.on .wdis m') (.on Y.ks mc) () hst hg hkid' (fun j _ _ => suffers O (Rm.refl w) _) (fun place => ?_) (key 0 0 "").2
    rw [e0]; exact (key _ _ place).1
  | succ r =>
    have hmul : (2 * Y.p.n + 40) * (r + 1 + 1) = (2 * Y.p.n + 40) * (r + 1) + (2 * Y.p.n + 40) := Nat.mul_succ _ _
    have key := fun fn fn' pl => goStep (p' := .on (.dis r) m') (mc := mc) (fn := fn) (fn' := fn') (pl := pl) O G h0 trivial rfl (fun vs e => by simp [tagOf] at e) rfl rfl (fun s e => by cases e) (by simp only [tagOf, rk]; omega)
    refine Out.spawn g' child w #[] (.on (.dis r) m') (.on Y.ks mc) () hst hg hkid' (fun j _ _ => suffers O (Rm.refl w) _) (fun place => ?_) (key 0 0 "").2
    rw [e0]; exact (key _ _ place).1
end
end Go.Proofs.Ytdkbkocklnnmdaa.crew
