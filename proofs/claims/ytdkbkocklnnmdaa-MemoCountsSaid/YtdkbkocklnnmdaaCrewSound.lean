/-
  A main goroutine that starts workers and waits for them: the system is sound: every step of every stage keeps what holds of the whole, and the measure falls. Conditions: those of the structure Ways.Ok.
-/
import Derived.Test.YtdkbkocklnnmdaaCrewWork
set_option linter.unusedVariables false
set_option linter.unusedSectionVars false
set_option linter.unusedSimpArgs false
namespace Go.Proofs.Ytdkbkocklnnmdaa.crew
open Go Go.Conc Go.Proofs.Ytdkbkocklnnmdaa.mach Go.Proofs.Ytdkbkocklnnmdaa.wg
open Go.ConcN (upd upd_same upd_ne sumTo sumTo_upd sumTo_congr le_sumTo sumTo_upd_out sumTo_le CT OkW Ok0 Apart RelBy WgLive RW PayAt AtR0 AtK1 AtD1 AtD2 AtD3 AtD4 handedOver_all RelBy.appOwn RelBy.new)
open Go.ConcR (KK WgAt stA smA rd wr mk DC0 Bk g_of_ofEvents)

section
variable {Y : Ways} {pos : Nat → Ps} {N k : Nat} {w w' : World} {t : Trace} {s : Stg} {m : Nat} {g g' : Goroutine} {es : Array Event} {q : Ps}

theorem rr_refl (w : World) : RR Y w w := Rm.refl w
theorem useC_of (G : Glob Y.p pos N w t) (kN : k < N) (h : 8 ≤ wst (pos k)) : Y.p.useC := Classical.byContradiction fun hc => by have := G.cnt.2 hc k kN; omega
theorem Un_pos (kN : k < N) (h : 8 ≤ wst (pos k)) : 1 ≤ Un Y.p pos N := by
  have := le_sumTo (f := fun k => if 8 ≤ wst (pos k) then 1 else 0) kN
  simp only [if_pos h] at this
  unfold Un; omega
theorem Un_same {pos' : Nat → Ps} (h : ∀ a, a < N → tagOf (pos' a) = tagOf (pos a)) : Un Y.p pos' N = Un Y.p pos N := Un_congr fun a ha => wst_congr (h a ha)

theorem op_kl (O : Y.Ok) (G : Glob Y.p pos N w t) (k0 : Y.p.N0 ≤ k) (kN : k < N) (h0 : pos k = .on .kl m) (hA : stops Y .kl g w) : Out (sys Y) () pos N k .kl g w t := by
  have k1 : k ≠ 0 := by have := O.p.n0; omega
  have hw9 : wst (pos k) = 9 := by rw [h0]; rfl
  have hc := useC_of G kN (by omega)
  obtain ⟨hrun, hall⟩ := hA
  obtain ⟨g', hst, hr', m', hg⟩ := hall _ (G.cnt.1 hc).1
  refine outWork (q := .on (.kc (Y.p.val (Y.p.n - Un Y.p pos N)) (Un Y.p pos N)) m') O G k1 h0 hst (.inl hr') (holds_w k1 hg) (Rm.refl w) fun pos' ht G' h0' _ fn place => ?_
  obtain ⟨st, sm, hwg, hm⟩ := G'.wg
  have e9 : wst (pos' k) = 9 := by rw [h0']; rfl
  have hUU : Un Y.p pos' N = Un Y.p pos N := Un_same ht
  rw [← hUU]
  have hU := Un_upd (Y := Y) (pos := pos') (q := .on (.kc (Y.p.val (Y.p.n - Un Y.p pos' N)) (Un Y.p pos' N)) m') kN
  rw [if_pos (by omega), if_pos (by simp [wst, wT, tagOf])] at hU
  have hU' : Un Y.p (upd pos' k (.on (.kc (Y.p.val (Y.p.n - Un Y.p pos' N)) (Un Y.p pos' N)) m')) N = Un Y.p pos' N := by omega
  refine ⟨G'.worker O.p k0 kN (Rm.refl w) ⟨by simp [wst, wT, tagOf], fun s e => by cases e⟩ (okW_of (evw_rd (O.p.cellc hc _ rfl))) rd_nr (by rw [h0']; rfl) (fun h => by simp [wst, wT, tagOf] at h) hwg (hm.counted k0 kN k1 (by omega) (by simp [wst, wT, tagOf]))
    ⟨fun _ => ?_, fun h => absurd hc h⟩ (fun e => absurd e (no_fin G' k0 kN (by omega))), phi_worker kN k1 (V_upd_le kN (by unfold cn; rw [if_pos (by simp [wst, wT, tagOf]), if_pos (by omega)]; exact Nat.le_refl _)) (by omega) ?_⟩
  · rw [hU']
    refine ⟨(G'.cnt.1 hc).1, fun a ha v u e => ?_⟩
    by_cases x : a = k
    · subst x
      rw [upd_same] at e
      simp only [tagOf, Option.some.injEq, Stg.kc.injEq] at e
      obtain ⟨rfl, rfl⟩ := e
      exact ⟨Nat.le_refl _, fun _ => rfl⟩
    · rw [upd_ne _ _ x] at e; exact (G'.cnt.1 hc).2 a ha v u e
  · rw [hU', h0']; simp only [tagOf, ww]; omega

theorem cell_set {Cn : Nat} {v u : Int} (h : CntAt Cn w v) : CntAt Cn (w.setCell ⟨Cn, 0, none⟩ (.int .i64 u)) u := by
  unfold CntAt at h ⊢
  obtain ⟨hlt, hget⟩ := Array.getElem?_eq_some_iff.1 h
  simp [World.setCell, Array.getElem?_modify, h]

theorem op_kc (O : Y.Ok) {v : Int} {u : Nat} (G : Glob Y.p pos N w t) (k0 : Y.p.N0 ≤ k) (kN : k < N) (h0 : pos k = .on (.kc v u) m) (hA : stops Y (.kc v u) g w) : Out (sys Y) () pos N k (.kc v u) g w t := by
  have k1 : k ≠ 0 := by have := O.p.n0; omega
  have hw9 : wst (pos k) = 8 := by rw [h0]; rfl
  have hc := useC_of G kN (by omega)
  obtain ⟨hrun, hall⟩ := hA
  have hcur := (G.cnt.1 hc).1
  obtain ⟨hit, miss⟩ := hall _ hcur
  have hUn1 := Un_pos (Y := Y) kN (by omega : 8 ≤ wst (pos k))
  have hUle := Un_le G.fits O
  by_cases hv : Y.p.val (Y.p.n - Un Y.p pos N) = v
  · obtain ⟨g', hst, hr', m', hg⟩ := hit hv
    have hAs := aside_setCell w (cA Y) (.int .i64 (Y.nx v))
    have hcs : CntAt Y.p.Cn (w.setCell (cA Y) (.int .i64 (Y.nx v))) (Y.nx v) := cell_set hcur
    have hR : Rm Y.p.Wg Y.p.Cn w (w.setCell (cA Y) (.int .i64 (Y.nx v))) := Rm.of_cnt O.p.cw hAs hcs
    refine outWork (q := .on .k0 m') O G k1 h0 hst (.inl hr') (holds_w k1 hg) hR fun pos' ht G' h0' _ fn place => ?_
    obtain ⟨st, sm, hwg, hm⟩ := G'.wg
    have e9 : wst (pos' k) = 8 := by rw [h0']; rfl
    have hUU : Un Y.p pos' N = Un Y.p pos N := Un_same ht
    have hU := Un_upd (Y := Y) (pos := pos') (q := .on .k0 m') kN
    rw [if_pos (by omega), if_neg (by simp [wst, wT, tagOf])] at hU
    refine ⟨G'.worker O.p k0 kN hR ⟨by simp [wst, wT, tagOf], fun s e => by cases e⟩ (okW_of (evw_rw (O.p.cellc hc _ rfl))) rw_nr (by rw [h0']; rfl) (fun h => by simp [wst, wT, tagOf] at h) (hwg.of_block (hAs.block _ O.p.cw.symm)) (hm.counted k0 kN k1 (by omega) (by simp [wst, wT, tagOf]))
      ⟨fun _ => ⟨?_, fun a ha v2 u2 e => ?_⟩, fun h => absurd hc h⟩ (fun e => absurd e (no_fin G' k0 kN (by omega))), phi_worker kN k1 (V_upd_le kN (by unfold cn; rw [if_pos (by simp [wst, wT, tagOf]), if_pos (by omega)]; exact Nat.le_refl _)) (by omega) ?_⟩
    · have : Y.p.n - Un Y.p (upd pos' k (.on .k0 m')) N = (Y.p.n - Un Y.p pos N) + 1 := by omega
      rw [this, O.nx hc _ (by omega), hv]
      exact hcs
    · by_cases x : a = k
      · subst x; rw [upd_same] at e; simp [tagOf] at e
      · rw [upd_ne _ _ x] at e
        have := ((G'.cnt.1 hc).2 a ha v2 u2 e).1
        exact ⟨by omega, fun h => by omega⟩
    · rw [h0']; simp only [tagOf, ww]; omega
  · obtain ⟨g', hst, hr', m', hg⟩ := miss hv
    have hug : Un Y.p pos N < u := by
      have h1 := (G.cnt.1 hc).2 k kN v u (by rw [h0]; rfl)
      rcases Nat.lt_or_ge (Un Y.p pos N) u with h | h
      · exact h
      · have e : u = Un Y.p pos N := by omega
        exact absurd (by rw [h1.2 e, e]) hv
    refine outWork (q := .on .kl (m' + 30)) O G k1 h0 hst (.inl hr') (holds_w k1 (Goes.after rr_refl (O.anchK hc) hg)) (Rm.refl w) fun pos' ht G' h0' _ fn place => ?_
    obtain ⟨st, sm, hwg, hm⟩ := G'.wg
    have e9 : wst (pos' k) = 8 := by rw [h0']; rfl
    have hUU : Un Y.p pos' N = Un Y.p pos N := Un_same ht
    have hU := Un_upd (Y := Y) (pos := pos') (q := .on .kl (m' + 30)) kN
    rw [if_pos (by omega), if_pos (by simp [wst, wT, tagOf])] at hU
    have hU' : Un Y.p (upd pos' k (.on .kl (m' + 30))) N = Un Y.p pos' N := by omega
    refine ⟨G'.worker O.p k0 kN (Rm.refl w) ⟨by simp [wst, wT, tagOf], fun s e => by cases e⟩ (okW_of (evw_rd (O.p.cellc hc _ rfl))) rd_nr (by rw [h0']; rfl) (fun h => by simp [wst, wT, tagOf] at h) hwg (hm.counted k0 kN k1 (by omega) (by simp [wst, wT, tagOf]))
      ⟨fun _ => ?_, fun h => absurd hc h⟩ (fun e => absurd e (no_fin G' k0 kN (by omega))), phi_worker kN k1 (V_upd_le kN (by unfold cn; rw [if_pos (by simp [wst, wT, tagOf]), if_pos (by omega)]; exact Nat.le_refl _)) (by omega) ?_⟩
    · rw [hU']
      refine ⟨(G'.cnt.1 hc).1, fun a ha v2 u2 e => ?_⟩
      by_cases x : a = k
      · subst x; rw [upd_same] at e; simp [tagOf] at e
      · rw [upd_ne _ _ x] at e; exact (G'.cnt.1 hc).2 a ha v2 u2 e
    · rw [hU', h0']; simp only [tagOf, ww]; omega

theorem mute_none {e : Event} (h : e.mute = true) : (MemAct.ofEvent e).touch? = none ∧ ∀ a, e.loc ≠ .mark (.release a) := by
  obtain ⟨loc, wr, sy⟩ := e
  cases loc with
  | mark m => cases m <;> simp_all [Event.mute, MemAct.ofEvent, MemAct.touch?]
  | _ => simp [Event.mute] at h

theorem tag_upd {p q : Ps} (h : tagOf q = tagOf (pos k)) (a : Nat) : tagOf (upd pos k q a) = tagOf (pos a) := by
  by_cases x : a = k
  · subst x; rw [upd_same, h]
  · rw [upd_ne _ _ x]

theorem leave_one (O : Y.Ok) (G : Glob Y.p pos N w t) (kN : k < N) {n d : Nat} (h0 : pos k = .quit (n + 1) d) (hm : ∀ e ∈ es, Event.mute e = true) (fn : FuncId) (place : String) :
    Glob Y.p (upd pos k (.quit n (deafBehind d es))) N w (t ++ MemOp.ofEvents k fn place es) ∧ phi Y.p (upd pos k (.quit n (deafBehind d es))) N ≤ phi Y.p pos N := by
  have n0 := O.p.n0
  have k1 : k ≠ 0 := by
    intro e; subst e
    rcases G.fits.main with x | x | x <;> rw [h0] at x <;> exact x
  have ht : ∀ a, a < N → tagOf (upd pos k (.quit n (deafBehind d es)) a) = tagOf (pos a) := fun a _ => tag_upd (p := pos a) (by rw [h0]; rfl) a
  have e0 : upd pos k (.quit n (deafBehind d es)) 0 = pos 0 := upd_ne _ _ (fun e => k1 e.symm)
  have nt : ∀ op ∈ MemOp.ofEvents k fn place es, op.act.touch? = none := by
    intro op hop
    rw [ofEvents_eq] at hop
    obtain ⟨e, he, rfl⟩ := Array.mem_map.1 hop
    exact (mute_none (hm e he)).1
  obtain ⟨st, sm, hwg, hmode⟩ := G.wg
  refine ⟨⟨G.fits.congr ht (by rw [e0]; exact G.fits.blk) (fun a _ _ hu => ?_) n0, fun a ha => ?_, G.ct.appW O.p.apart (k := k) (by omega) (by omega) (fun op hop => ⟨g_of_ofEvents op hop, fun x hx => by rw [nt op hop] at hx; cases hx⟩),
    fun ar => (G.norel ar).app (norel_all (fun e he => (mute_none (hm e he)).2) ar), fun a a0 aN a6 => ?_, G.hand.appMute nt, fun e => (G.all (by rw [← e0]; exact e)).appMute nt, G.world, ⟨st, sm, hwg, hmode.congr (by rw [e0]) (by rw [e0]; exact id) fun a ha => wst_congr (ht a ha)⟩, G.cnt.congr ht, fine_app G.fine fun op hop => fine_mute (nt op hop)⟩,
    Nat.le_of_eq (phi_same ht (G.size O.p))⟩
  · by_cases x : a = k
    · subst x; rw [upd_same]; intro s e; cases e
    · rw [upd_ne _ _ x]; exact hu
  · by_cases x : a = k
    · subst x; rw [upd_same, Deaf_own, G.df a ha, h0]; rfl
    · rw [upd_ne _ _ x, Deaf_other t (fun y => x y.symm) _ g_of_ofEvents, G.df a ha]
  · have a6' : wst (pos a) ≤ 6 := by rw [← wst_congr (ht a aN)]; exact a6
    obtain ⟨r, hr⟩ := G.rel a a0 aN a6'
    by_cases x : a = k
    · subst x; exact ⟨r, hr.appOwn fn place es fun j e he => .inl (mute_none (hm e (Array.mem_of_getElem? he))).1⟩
    · exact ⟨r, hr.appOther g_of_ofEvents (fun y => x y.symm)⟩

theorem wst_on {s : Stg} {m m' : Nat} : wst (.on s m) = wst (.on s m') := rfl
theorem dfn_on {s : Stg} {m m' : Nat} : dfn (.on s m) = dfn (.on s m') := by cases s <;> rfl

theorem local_one (O : Y.Ok) (G : Glob Y.p pos N w t) (kN : k < N) (h0 : pos k = .on s (m + 1)) (hD : guar Y s w w' es) (fn : FuncId) (place : String) :
    Glob Y.p (upd pos k (.on s m)) N w' (t ++ MemOp.ofEvents k fn place es) ∧ phi Y.p (upd pos k (.on s m)) N ≤ phi Y.p pos N ∧ w' = w := by
  have n0 := O.p.n0
  have ht : ∀ a, a < N → tagOf (upd pos k (.on s m) a) = tagOf (pos a) := fun a _ => tag_upd (p := pos a) (by rw [h0]; rfl) a
  have hphi : phi Y.p (upd pos k (.on s m)) N ≤ phi Y.p pos N := Nat.le_of_eq (phi_same ht (G.size O.p))
  obtain ⟨st, sm, hwg, hmode⟩ := G.wg
  have hnil : ∀ e ∈ (#[] : Array Event), False := by simp
  by_cases hk : k = 0
  · subst hk
    have hes : w' = w ∧ es = #[] := by
      rcases G.fits.main with x | x | x <;> rw [h0] at x <;> cases s <;> first | exact hD | exact x.elim
    obtain ⟨rfl, rfl⟩ := hes
    have hm' : Mode (upd pos 0 (.on s m)) Y.p.N0 N st sm := hmode.congr (ht 0 kN) (fun _ => by rw [upd_same]; intro s e; cases e) fun a ha => wst_congr (ht a ha)
    refine ⟨G.main O.p (Rm.refl _) (by have := G.fits.main; rw [h0] at this; exact this) (fun s e => by cases e) (by rw [h0]; rfl) (ok0_of fun e he => (hnil e he).elim) (fun e he => (hnil e he).elim) (by rw [h0]; exact dfn_on) hwg hm' (G.cnt.congr ht) (fun e => ?_), hphi, rfl⟩
    exact (G.all (by rw [h0]; exact e)).appMute (by intro op hop; rw [ofEvents_eq] at hop; simp at hop)
  · have ge : Y.p.N0 ≤ k := by
      rcases Nat.lt_or_ge k Y.p.N0 with hlt | hge
      · have := G.fits.old k (by omega) hlt
        rw [h0] at this
        cases s <;> simp [wst, wT, tagOf] at this
      · exact hge
    have hes : w' = w ∧ ∀ e ∈ es, ∃ a : Addr, e = ⟨.cell a, false, false⟩ ∧ (a.block = Y.p.Bc ∨ a.block = Y.p.Bb) := by
      cases s <;> first | exact hD | exact ⟨hD.1, by rw [hD.2]; exact fun e he => (hnil e he).elim⟩
    have hidle : wst (.on s m) ≤ 6 → es = #[] := by
      intro h6
      cases s <;> first | exact hD.2 | simp [wst, wT, tagOf] at h6
    obtain ⟨rfl, hes⟩ := hes
    have hm' : Mode (upd pos k (.on s m)) Y.p.N0 N st sm := by
      have e0 : upd pos k (.on s m) 0 = pos 0 := upd_ne _ _ (fun e => hk e.symm)
      exact hmode.congr (by rw [e0]) (by rw [e0]; exact id) fun a ha => wst_congr (ht a ha)
    have h1 : wst (pos k) ≠ 1 := by rw [h0]; cases s <;> simp [wst, wT, tagOf]
    have hw1 := (G.fits.wk k ge kN).1
    rw [h0] at hw1
    refine ⟨G.worker O.p ge kN (Rm.refl _) ⟨hw1, fun s e => by cases e⟩ (fun op hop => ⟨⟨g_of_ofEvents op hop, fun x hx => ?_⟩, fun x hx _ => ?_⟩) (fun e he => ?_) ?_ (fun h6 => ?_) hwg hm' (G.cnt.congr ht) (fun e => absurd e (no_fin G ge kN h1)), hphi, rfl⟩
    · rw [ofEvents_eq] at hop
      obtain ⟨e, he, rfl⟩ := Array.mem_map.1 hop
      obtain ⟨a, rfl, hb⟩ := hes e he
      have : x = ⟨.cell a, false, .plain⟩ := (Option.some.inj hx).symm
      subst this
      exact .inr (.inr ⟨O.p.rdc k ge a hb, rfl⟩)
    · rw [ofEvents_eq] at hop
      obtain ⟨e, he, rfl⟩ := Array.mem_map.1 hop
      obtain ⟨a, rfl, hb⟩ := hes e he
      have : x = ⟨.cell a, false, .plain⟩ := (Option.some.inj hx).symm
      subst this
      simp
    · obtain ⟨a, rfl, _⟩ := hes e he; simp
    · rw [h0, deafBehind_still (fun e he => by obtain ⟨a, rfl, _⟩ := hes e he; simp)]; exact dfn_on
    · rw [hidle h6]
      exact rel_mute G ge kN (by rw [h0]; exact h6) fn place (fun e he => (hnil e he).elim)

theorem live_one (O : Y.Ok) (G : Glob Y.p pos N w t) : ∃ k s m, k < N ∧ pos k = .on s m := by
  have n0 := O.p.n0
  have hN := G.size O.p
  have onOf : ∀ k, Y.p.N0 ≤ k → k < N → wst (pos k) ≠ 1 → ∃ k s m, k < N ∧ pos k = .on s m := fun k k0 kN h => by
    cases e : pos k with
    | on s m => exact ⟨k, s, m, kN, e⟩
    | blk s => exact absurd e ((G.fits.wk k k0 kN).2 s)
    | quit q d => rw [e] at h; exact absurd rfl h
  cases e : pos 0 with
  | on s m => exact ⟨0, s, m, by omega, e⟩
  | quit q d =>
    rcases G.fits.main with x | x | x <;> rw [e] at x <;> exact x.elim
  | blk s =>
    obtain rfl := G.fits.blk s e
    obtain ⟨st, sm, hwg, hm⟩ := G.wg
    cases hm with
    | opn a b c => rw [e] at a; exact a.elim
    | reg a b c =>
      have : ∃ k, k < N ∧ 5 ≤ wst (pos k) := Classical.byContradiction fun hn => by
        have := V_zero (pos := pos) (N := N) fun k hk => Nat.lt_of_not_le fun h => hn ⟨k, hk, h⟩
        omega
      obtain ⟨k, kN, h5⟩ := this
      have k0 : Y.p.N0 ≤ k := by
        rcases Nat.lt_or_ge k Y.p.N0 with hlt | hge
        · by_cases x : k = 0
          · subst x; rw [e] at h5; simp [wst, wT, tagOf] at h5
          · have := G.fits.old k (by omega) hlt; omega
        · exact hge
      exact onOf k k0 kN (by omega)
    | last L a b c d f => exact onOf L b c (by omega)
    | sema a b c => exact absurd e (b _)
    | fin a b => rw [e] at a; exact a.elim

theorem sound (O : Y.Ok) : (sys Y).Sound where
  trans := fun s a b c h h' => by
    show rely Y s a c
    cases s <;> first | exact Go.ConcN.RW.trans h h' | exact Rm.trans h h'
  draw := fun s w d => by
    show rely Y s w (w.at d)
    cases s <;> first | exact Go.ConcN.RW.at w d | exact Rm.at w d
  run := fun s g w h => by
    cases s <;> first | exact h.1 | exact O.st g w h
  gdraw := fun _ pos N w t d h => h.at d
  live := fun _ pos N w t h => live_one O h
  local_ := fun _ pos N w t k s m w' es fn place b G kN h0 hD => by
    have G1 := G.wake O.p b
    obtain ⟨a, c, rfl⟩ := local_one O G1 kN (wake_on h0) hD fn place
    refine ⟨a, ?_, fun j _ _ => suffers O (Rm.refl _) _⟩
    have e : phi Y.p (wakeIf b pos) N = phi Y.p pos N := phi_same (fun k _ => tag_wake b k) (G.size O.p)
    show phi Y.p _ N ≤ phi Y.p pos N
    rw [← e]; exact c
  leave := fun _ pos N w t k q d es fn place b G kN h0 hm => by
    have G1 := G.wake O.p b
    have h1 : wakeIf b pos k = .quit (q + 1) d := by unfold wakeIf; split <;> rw [h0]; rfl
    obtain ⟨a, c⟩ := leave_one O G1 kN h1 hm fn place
    refine ⟨a, ?_⟩
    have e : phi Y.p (wakeIf b pos) N = phi Y.p pos N := phi_same (fun k _ => tag_wake b k) (G.size O.p)
    show phi Y.p _ N ≤ phi Y.p pos N
    rw [← e]; exact c
  op := fun _ pos N w t k s m g G kN h0 hnf hA => by
    by_cases hk : k = 0
    · subst hk
      have hA0 := hA w (by show rely Y s w w; cases s <;> first | exact Go.ConcN.RW.refl w | exact Rm.refl w)
      have hmain := G.fits.main
      rw [h0] at hmain
      cases s with
      | dis r => exact op_dis O G h0 hA0
      | add r => exact op_add O G h0 hA0
      | read r => exact op_read O G h0 hA0
      | ena r => exact op_ena O G h0 hA0
      | go r => exact op_go O G h0 hA0
      | wdis => exact op_wdis O G h0 hA0
      | wload => exact op_wload O G h0 hA0
      | wcas vs => exact op_wcas O G h0 hA0
      | wwr => exact op_wwr O G h0 hA0
      | wsem => exact op_wsem O G h0 hA
      | wld2 => exact op_wld2 O G h0 hA0
      | wena => exact op_wena O G h0 hA0
      | wacq => exact op_wacq O G h0 hA0
      | fin => exact absurd ⟨rfl, rfl⟩ hnf
      | _ => rcases hmain with x | x | x <;> exact x.elim
    · have ge : Y.p.N0 ≤ k := by
        rcases Nat.lt_or_ge k Y.p.N0 with hlt | hge
        · have := G.fits.old k (by omega) hlt
          rw [h0] at this
          cases s <;> simp [wst, wT, tagOf] at this
        · exact hge
      have hA0 := hA w (by show rely Y s w w; cases s <;> first | exact Go.ConcN.RW.refl w | exact Rm.refl w)
      have hw1 := (G.fits.wk k ge kN).1
      rw [h0] at hw1
      cases s with
      | kl => exact op_kl O G ge kN h0 hA0
      | kc v u => exact op_kc O G ge kN h0 hA0
      | k0 => exact op_k0 O G ge kN h0 hA0
      | k1 => exact op_k1 O G ge kN h0 hA0
      | d1 => exact op_d1 O G ge kN h0 hA0
      | d2 => exact op_d2 O G ge kN h0 hA0
      | d3 => exact op_d3 O G ge kN h0 hA0
      | d4 => exact op_d4 O G ge kN h0 hA0
      | _ => simp [wst, wT, tagOf] at hw1
end
end Go.Proofs.Ytdkbkocklnnmdaa.crew
