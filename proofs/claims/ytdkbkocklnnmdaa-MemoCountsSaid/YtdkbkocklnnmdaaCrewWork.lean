/-
  A main goroutine that starts workers and waits for them: the workers' operations. Conditions: those of the structure Ways.Ok.
-/
import Derived.Test.YtdkbkocklnnmdaaCrewGo
set_option linter.unusedVariables false
set_option linter.unusedSectionVars false
set_option linter.unusedSimpArgs false
namespace Go.Proofs.Ytdkbkocklnnmdaa.crew
open Go Go.Conc Go.Proofs.Ytdkbkocklnnmdaa.mach Go.Proofs.Ytdkbkocklnnmdaa.wg
open Go.ConcN (upd upd_same upd_ne sumTo sumTo_upd sumTo_congr le_sumTo sumTo_upd_out sumTo_le CT OkW Ok0 Apart RelBy WgLive RW PayAt AtR0 AtK1 AtD1 AtD2 AtD3 AtD4 handedOver_all RelBy.appOwn RelBy.new)
open Go.ConcR (KK WgAt stA smA rd wr mk DC0 Bk g_of_ofEvents)

section
variable {Y : Ways} {pos : Nat → Ps} {N k : Nat} {w w' : World} {t : Trace} {s : Stg} {m : Nat} {g g' : Goroutine} {es : Array Event} {q : Ps}

/-- An entry of a worker's that touches nothing, or a shared place by an atomic step. -/
def EvWs (Sh : Loc → Prop) (e : Event) : Prop := ∀ x, (MemAct.ofEvent e).touch? = some x → Sh x.loc ∧ x.kind ≠ .plain ∧ x.kind ≠ .said
theorem okW_of {Sh : Loc → Prop} {Rd : Nat → Loc → Prop} {fn : FuncId} {place : String} (h : ∀ e ∈ es, EvWs Sh e) : ∀ op ∈ MemOp.ofEvents k fn place es, OkW Sh noOwn Rd k op ∧ ∀ x, op.act.touch? = some x → ¬ Sh x.loc → x.kind ≠ .atomic := by
  intro op hop
  rw [ofEvents_eq] at hop
  obtain ⟨e, he, rfl⟩ := Array.mem_map.1 hop
  exact ⟨⟨rfl, fun x hx => .inl (h e he x hx)⟩, fun x hx hs => absurd (h e he x hx).1 hs⟩
theorem evw_mk {Sh : Loc → Prop} {m : Mark} (h : (MemAct.mark m).touch? = none) : EvWs Sh (mk m) := fun x hx => by
  have : (MemAct.ofEvent (mk m)).touch? = none := h
  rw [this] at hx; cases hx
theorem evw_cell {Sh : Loc → Prop} {a : Addr} {wr : Bool} (hS : Sh (.cell a)) : EvWs Sh ⟨.cell a, wr, true⟩ := fun x hx => by
  have : x = ⟨.cell a, wr, .atomic⟩ := (Option.some.inj hx).symm
  subst this; exact ⟨hS, by simp, by simp⟩
theorem evw_one {Sh : Loc → Prop} {mm : Mark} (h : EvWs Sh (mk mm)) : ∀ e ∈ #[mk mm], EvWs Sh e := by
  intro e he; simp at he; subst he; exact h
theorem evw_rw {Sh : Loc → Prop} {a : Addr} (h : Sh (.cell a)) : ∀ e ∈ #[rd a, wr a], EvWs Sh e := by
  intro e he; simp at he; rcases he with rfl | rfl <;> exact evw_cell h
theorem evw_rd {Sh : Loc → Prop} {a : Addr} (h : Sh (.cell a)) : ∀ e ∈ #[rd a], EvWs Sh e := by
  intro e he; simp at he; subst he; exact evw_cell h
theorem evw_wr {Sh : Loc → Prop} {a : Addr} (h : Sh (.cell a)) : ∀ e ∈ #[wr a], EvWs Sh e := by
  intro e he; simp at he; subst he; exact evw_cell h
theorem evw_sem {Sh : Loc → Prop} {a : Addr} (h : Sh (.cell a)) : ∀ e ∈ semEvents a, EvWs Sh e := by
  intro e he; simp [semEvents] at he
  rcases he with rfl | rfl | rfl | rfl
  · exact evw_mk (m := .disable) rfl
  · exact evw_cell h
  · exact evw_cell h
  · exact evw_mk (m := .enable) rfl
theorem wr_nr {a : Addr} : ∀ e ∈ #[wr a], ∀ ar : Addr, e.loc ≠ .mark (.release ar) := by
  intro e he; simp at he; subst he; simp [wr]

theorem V_upd_le (hk : k < N) (h : cn q ≤ cn (pos k)) : V (upd pos k q) N ≤ V pos N := by have := V_upd (pos := pos) q hk; omega
theorem Un_upd (hk : k < N) : Un Y.p (upd pos k q) N + (if 8 ≤ wst (pos k) then 1 else 0) = Un Y.p pos N + (if 8 ≤ wst q then 1 else 0) := by
  have := sumTo_upd pos q (fun x => if 8 ≤ wst x then 1 else 0) hk
  unfold Un
  have e : (sumTo N fun a => if 8 ≤ wst (upd pos k q a) then 1 else 0) = sumTo N (fun a => (fun x => if 8 ≤ wst x then 1 else 0) (upd pos k q a)) := rfl
  omega
theorem no_fin (G : Glob Y.p pos N w t) (k0 : Y.p.N0 ≤ k) (kN : k < N) (h : wst (pos k) ≠ 1) : tagOf (pos 0) ≠ some .fin := by
  intro e
  obtain ⟨st, sm, hwg, hm⟩ := G.wg
  exact h ((hm.finInv (by rw [e]; trivial)).1 k k0 kN)

/-- A worker's step that leaves the count. -/
theorem workStep (O : Y.Ok) (G : Glob Y.p pos N w t) (k0 : Y.p.N0 ≤ k) (kN : k < N) (hk : pos k = .on s m) (hs : wst (pos k) ≠ 1) (h7 : wst (pos k) ≤ 7) (hR : Rm Y.p.Wg Y.p.Cn w w') (hcn : w'.heap[Y.p.Cn]? = w.heap[Y.p.Cn]?) (hq : 1 ≤ wst q ∧ Up q) (hlt : ww 0 (tagOf q) < ww 0 (some s)) (hq7 : wst q ≤ 7) (hcnq : cn q ≤ cn (pos k))
    (hev : ∀ e ∈ es, EvWs Y.p.Sh e) (hnr : ∀ e ∈ es, ∀ ar : Addr, e.loc ≠ .mark (.release ar)) (hdf : deafBehind (dfn (.on s m)) es = dfn q) {st sm : Int} (hwg : WgAt 96 Y.p.Wg w' st sm) (hm : Mode (upd pos k q) Y.p.N0 N st sm) (fn : FuncId) (place : String)
    (hrel : wst q ≤ 6 → ∃ r, RelBy (stA Y.p.Wg) (t ++ MemOp.ofEvents k fn place es) k r) :
    Glob Y.p (upd pos k q) N w' (t ++ MemOp.ofEvents k fn place es) ∧ phi Y.p (upd pos k q) N < phi Y.p pos N := by
  have n0 := O.p.n0
  have hU := Un_upd (Y := Y) (pos := pos) (q := q) kN
  rw [if_neg (by omega), if_neg (by omega)] at hU
  have w7 : ∀ (U : Nat) (x : Ps), wst x ≤ 7 → ww U (tagOf x) = ww 0 (tagOf x) := by
    intro U x hx
    unfold wst at hx
    revert hx
    cases tagOf x with
    | none => intro _; rfl
    | some s => cases s <;> intro hx <;> first | rfl | simp [wT] at hx
  refine ⟨G.worker O.p k0 kN hR hq (okW_of hev) hnr (by rw [hk]; exact hdf) hrel hwg hm (cnt_worker kN h7 hq7 G.cnt hcn) (fun e => absurd e (no_fin G k0 kN hs)), phi_worker kN (by omega) (V_upd_le kN hcnq) (by omega) ?_⟩
  rw [w7 _ _ hq7, w7 _ _ h7, hk]
  exact hlt

theorem rel_mute (G : Glob Y.p pos N w t) (k0 : Y.p.N0 ≤ k) (kN : k < N) (h6 : wst (pos k) ≤ 6) (fn : FuncId) (place : String) (hes : ∀ e ∈ es, (MemAct.ofEvent e).touch? = none) : ∃ r, RelBy (stA Y.p.Wg) (t ++ MemOp.ofEvents k fn place es) k r := by
  obtain ⟨r, hr⟩ := G.rel k k0 kN h6
  exact ⟨r, hr.appOwn fn place es fun j e he => .inl (hes e (Array.mem_of_getElem? he))⟩
theorem rel_deaf (G : Glob Y.p pos N w t) (k0 : Y.p.N0 ≤ k) (kN : k < N) (h6 : wst (pos k) ≤ 6) (hd : dfn (pos k) = 1) (fn : FuncId) (place : String)
    (hes : ∀ j e, es[j]? = some e → (MemAct.ofEvent e).touch? = none ∨ ((∃ ad wr, e = ⟨.cell ad, wr, true⟩) ∧ 0 < deafBehind 1 (es.extract 0 j))) : ∃ r, RelBy (stA Y.p.Wg) (t ++ MemOp.ofEvents k fn place es) k r := by
  obtain ⟨r, hr⟩ := G.rel k k0 kN h6
  exact ⟨r, hr.appOwn fn place es (by rw [G.df k kN, hd]; exact hes)⟩

theorem runs_of {S : Goroutine → World → Prop} {R : World → World → Prop} {D : World → World → Array Event → Prop} (refl : ∀ w, R w w) (hS : ∀ g w, S g w → g.status = .running) {n : Nat} (h : Goes Try.prog false R D S n g w) : g.status = .running :=
  Goes.running hS w (refl w) h
theorem rk_refl (w : World) : RK Y w w := Go.ConcN.RW.refl w
theorem holds_w (k1 : k ≠ 0) {s : Stg} {n : Nat} (h : Goes Try.prog false (rely Y s) (guar Y s) (stops Y s) n g w) : (sys Y).Holds k (.on s n) g w := by
  show Goes Try.prog (k == 0) (rely Y s) (guar Y s) (stops Y s) n g w
  rw [show (k == 0) = false by simpa using k1]
  exact h

theorem op_k0 (O : Y.Ok) (G : Glob Y.p pos N w t) (k0 : Y.p.N0 ≤ k) (kN : k < N) (h0 : pos k = .on .k0 m) (hA : stops Y .k0 g w) : Out (sys Y) () pos N k .k0 g w t := by
  have k1 : k ≠ 0 := by have := O.p.n0; omega
  obtain ⟨hrun, hhas, g', hst, m', hg⟩ := hA
  refine outWork (q := .on .k1 m') O G k1 h0 hst (.inl (runs_of rk_refl (fun _ _ h => h.1) hg)) (holds_w k1 hg) (Rm.refl w) fun pos' _ G' h0' _ fn place => ?_
  obtain ⟨st, sm, hwg, hm⟩ := G'.wg
  have e7 : wst (pos' k) = 7 := by rw [h0']; rfl
  exact workStep O G' k0 kN h0' (by omega) (by omega) (Rm.refl w) rfl ⟨by simp [wst, wT, tagOf], fun s e => by cases e⟩ (by simp [ww, tagOf]) (by simp [wst, wT, tagOf]) (by rw [h0']; exact Nat.le_refl 1) (evw_one (evw_mk rfl)) (mk_nr (by intro a h; cases h)) rfl hwg
    (hm.counted k0 kN k1 (by omega) (by simp [wst, wT, tagOf])) fn place (fun _ => ⟨t.size, RelBy.new (by rw [G'.df k kN, h0']; rfl) fn place⟩)
theorem op_k1 (O : Y.Ok) (G : Glob Y.p pos N w t) (k0 : Y.p.N0 ≤ k) (kN : k < N) (h0 : pos k = .on .k1 m) (hA : stops Y .k1 g w) : Out (sys Y) () pos N k .k1 g w t := by
  have k1 : k ≠ 0 := by have := O.p.n0; omega
  obtain ⟨hrun, g', hst, m', hg⟩ := hA
  refine outWork (q := .on .d1 m') O G k1 h0 hst (.inl (runs_of rk_refl (fun _ _ h => h.1) hg)) (holds_w k1 hg) (Rm.refl w) fun pos' _ G' h0' _ fn place => ?_
  obtain ⟨st, sm, hwg, hm⟩ := G'.wg
  have e7 : wst (pos' k) = 6 := by rw [h0']; rfl
  exact workStep O G' k0 kN h0' (by omega) (by omega) (Rm.refl w) rfl ⟨by simp [wst, wT, tagOf], fun s e => by cases e⟩ (by simp [ww, tagOf]) (by simp [wst, wT, tagOf]) (by rw [h0']; exact Nat.le_refl 1) (evw_one (evw_mk rfl)) (mk_nr (by intro a h; cases h)) rfl hwg
    (hm.counted k0 kN k1 (by omega) (by simp [wst, wT, tagOf])) fn place (fun _ => rel_mute G' k0 kN (by omega) fn place (by intro e he; simp at he; subst he; rfl))

theorem deaf_rw {a : Addr} : ∀ j e, (#[rd a, wr a] : Array Event)[j]? = some e → (MemAct.ofEvent e).touch? = none ∨ ((∃ ad wr, e = ⟨.cell ad, wr, true⟩) ∧ 0 < deafBehind 1 ((#[rd a, wr a] : Array Event).extract 0 j)) := by
  intro j e he
  match j, he with
  | 0, he => simp at he; subst he; exact .inr ⟨⟨a, false, rfl⟩, by simp [deafBehind]⟩
  | 1, he => simp at he; subst he; exact .inr ⟨⟨a, true, rfl⟩, by simp [deafBehind, rd]⟩
  | j + 2, he => simp at he
theorem deaf_rd {a : Addr} : ∀ j e, (#[rd a] : Array Event)[j]? = some e → (MemAct.ofEvent e).touch? = none ∨ ((∃ ad wr, e = ⟨.cell ad, wr, true⟩) ∧ 0 < deafBehind 1 ((#[rd a] : Array Event).extract 0 j)) := by
  intro j e he
  match j, he with
  | 0, he => simp at he; subst he; exact .inr ⟨⟨a, false, rfl⟩, by simp [deafBehind]⟩
  | j + 1, he => simp at he
theorem deaf_wr {a : Addr} : ∀ j e, (#[wr a] : Array Event)[j]? = some e → (MemAct.ofEvent e).touch? = none ∨ ((∃ ad wr, e = ⟨.cell ad, wr, true⟩) ∧ 0 < deafBehind 1 ((#[wr a] : Array Event).extract 0 j)) := by
  intro j e he
  match j, he with
  | 0, he => simp at he; subst he; exact .inr ⟨⟨a, true, rfl⟩, by simp [deafBehind]⟩
  | j + 1, he => simp at he
theorem deaf_sem {a : Addr} : ∀ j e, (semEvents a)[j]? = some e → (MemAct.ofEvent e).touch? = none ∨ ((∃ ad wr, e = ⟨.cell ad, wr, true⟩) ∧ 0 < deafBehind 1 ((semEvents a).extract 0 j)) := by
  intro j e he
  match j, he with
  | 0, he => simp [semEvents] at he; subst he; exact .inl rfl
  | 1, he => simp [semEvents] at he; subst he; exact .inr ⟨⟨a, false, rfl⟩, by simp [deafBehind, semEvents]⟩
  | 2, he => simp [semEvents] at he; subst he; exact .inr ⟨⟨a, true, rfl⟩, by simp [deafBehind, semEvents]⟩
  | 3, he => simp [semEvents] at he; subst he; exact .inl rfl
  | j + 4, he => simp [semEvents] at he

theorem op_d1 (O : Y.Ok) (G : Glob Y.p pos N w t) (k0 : Y.p.N0 ≤ k) (kN : k < N) (h0 : pos k = .on .d1 m) (hA : stops Y .d1 g w) : Out (sys Y) () pos N k .d1 g w t := by
  have k1 : k ≠ 0 := by have := O.p.n0; omega
  have hNs : N < 2147483648 := by have := G.fits.size; have := O.p.small; omega
  obtain ⟨hrun, hall⟩ := hA
  obtain ⟨st, sm, hwg, hm⟩ := G.wg
  obtain ⟨v, wt, hwt, hv, rfl, rfl, -, -⟩ := hm.minus k0 kN k1 hNs (by rw [h0]; rfl)
  obtain ⟨g', hst, h4, h1⟩ := hall v wt hwt hv hwg
  have hAs := aside_setCell w (stA Y.p.Wg) (.int .u64 ((v : Int) * KK + wt))
  have hw' := hwg.setSt ((v : Int) * KK + wt)
  have hR : Rm Y.p.Wg Y.p.Cn w (w.setCell (stA Y.p.Wg) (.int .u64 ((v : Int) * KK + wt))) := Rm.of_wg O.p.cw hAs ⟨_, _, hw'⟩
  have same : ∀ pos', Glob Y.p pos' N w t → pos' k = .on .d1 m → ((v = 0 ∧ wt = 1) → ∀ p, wst p = 4 → Mode (upd pos' k p) Y.p.N0 N ((v : Int) * KK + wt) 0) ∧ (¬ (v = 0 ∧ wt = 1) → ∀ p, wst p = 1 → Mode (upd pos' k p) Y.p.N0 N ((v : Int) * KK + wt) 0) := by
    intro pos' G' h0'
    obtain ⟨st', sm', hwg', hm'⟩ := G'.wg
    obtain ⟨v', wt', hwt', hv', rfl, rfl, a, b⟩ := hm'.minus k0 kN k1 hNs (by rw [h0']; rfl)
    have e := (hwg'.unique hwg).1
    have : v' = v ∧ wt' = wt := by simp only [KK] at e; omega
    obtain ⟨rfl, rfl⟩ := this
    exact ⟨a, b⟩
  by_cases hc : v = 0 ∧ wt = 1
  · obtain ⟨m', hg⟩ := h4 hc
    refine outWork (q := .on .d2 m') O G k1 h0 hst (.inl (runs_of rk_refl (fun _ _ h => h.1) hg)) (holds_w k1 hg) hR fun pos' _ G' h0' _ fn place => ?_
    have e7 : wst (pos' k) = 5 := by rw [h0']; rfl
    exact workStep O G' k0 kN h0' (by omega) (by omega) hR (aside_heap O.p.cw hAs) ⟨by simp [wst, wT, tagOf], fun s e => by cases e⟩ (by simp [ww, tagOf]) (by simp [wst, wT, tagOf]) (by rw [h0']; exact Nat.zero_le _) (evw_rw (O.p.cellw _ rfl)) rw_nr rfl hw'
      ((same pos' G' h0').1 hc _ rfl) fn place (fun _ => rel_deaf G' k0 kN (by omega) (by rw [h0']; rfl) fn place deaf_rw)
  · obtain ⟨qn, hq⟩ := h1 hc
    refine outWork (q := .quit qn 1) O G k1 h0 hst hq.status ⟨k1, hq⟩ hR fun pos' _ G' h0' _ fn place => ?_
    have e7 : wst (pos' k) = 5 := by rw [h0']; rfl
    exact workStep O G' k0 kN h0' (by omega) (by omega) hR (aside_heap O.p.cw hAs) ⟨by simp [wst, wT, tagOf], fun s e => by cases e⟩ (by simp [ww, tagOf]) (by simp [wst, wT, tagOf]) (by rw [h0']; exact Nat.zero_le _) (evw_rw (O.p.cellw _ rfl)) rw_nr rfl hw'
      ((same pos' G' h0').2 hc _ rfl) fn place (fun _ => rel_deaf G' k0 kN (by omega) (by rw [h0']; rfl) fn place deaf_rw)

theorem last_facts (G : Glob Y.p pos N w t) (k0 : Y.p.N0 ≤ k) (kN : k < N) (k1 : k ≠ 0) (h : wst (pos k) = 4 ∨ wst (pos k) = 3 ∨ wst (pos k) = 2) :
    w3T (tagOf (pos 0)) ∧ (∀ a, Y.p.N0 ≤ a → a < N → a ≠ k → wst (pos a) = 1) ∧ WgAt 96 Y.p.Wg w (if wst (pos k) = 2 then 0 else 1) 0 := by
  obtain ⟨st, sm, hwg, hm⟩ := G.wg
  obtain ⟨a, b, rfl, rfl⟩ := hm.isLast k0 kN k1 h
  exact ⟨a, b, hwg⟩
theorem op_d2 (O : Y.Ok) (G : Glob Y.p pos N w t) (k0 : Y.p.N0 ≤ k) (kN : k < N) (h0 : pos k = .on .d2 m) (hA : stops Y .d2 g w) : Out (sys Y) () pos N k .d2 g w t := by
  have k1 : k ≠ 0 := by have := O.p.n0; omega
  obtain ⟨hrun, hall⟩ := hA
  obtain ⟨-, -, hwg⟩ := last_facts G k0 kN k1 (by rw [h0]; exact .inl rfl)
  rw [h0] at hwg
  obtain ⟨g', hst, m', hg⟩ := hall hwg
  refine outWork (q := .on .d3 m') O G k1 h0 hst (.inl (runs_of rk_refl (fun _ _ h => h.1) hg)) (holds_w k1 hg) (Rm.refl w) fun pos' _ G' h0' _ fn place => ?_
  have e7 : wst (pos' k) = 4 := by rw [h0']; rfl
  obtain ⟨a, b, -⟩ := last_facts G' k0 kN k1 (.inl e7)
  exact workStep O G' k0 kN h0' (by omega) (by omega) (Rm.refl w) rfl ⟨by simp [wst, wT, tagOf], fun s e => by cases e⟩ (by simp [ww, tagOf]) (by simp [wst, wT, tagOf]) (by rw [h0']; exact Nat.zero_le _) (evw_rd (O.p.cellw _ rfl)) rd_nr rfl hwg
    (Mode.lastOn k0 kN k1 a b (p := .on .d3 m') (.inl rfl)) fn place (fun _ => rel_deaf G' k0 kN (by omega) (by rw [h0']; rfl) fn place deaf_rd)
theorem op_d3 (O : Y.Ok) (G : Glob Y.p pos N w t) (k0 : Y.p.N0 ≤ k) (kN : k < N) (h0 : pos k = .on .d3 m) (hA : stops Y .d3 g w) : Out (sys Y) () pos N k .d3 g w t := by
  have k1 : k ≠ 0 := by have := O.p.n0; omega
  obtain ⟨hrun, hall⟩ := hA
  obtain ⟨-, -, hwg⟩ := last_facts G k0 kN k1 (by rw [h0]; exact .inr (.inl rfl))
  rw [h0] at hwg
  obtain ⟨g', hst, m', hg⟩ := hall hwg
  have hAs := aside_setCell w (stA Y.p.Wg) (.int .u64 0)
  have hw' := WgAt.setSt hwg 0
  have hR : Rm Y.p.Wg Y.p.Cn w (w.setCell (stA Y.p.Wg) (.int .u64 0)) := Rm.of_wg O.p.cw hAs ⟨_, _, hw'⟩
  refine outWork (q := .on .d4 m') O G k1 h0 hst (.inl (runs_of rk_refl (fun _ _ h => h.1) hg)) (holds_w k1 hg) hR fun pos' _ G' h0' _ fn place => ?_
  have e7 : wst (pos' k) = 3 := by rw [h0']; rfl
  obtain ⟨a, b, -⟩ := last_facts G' k0 kN k1 (.inr (.inl e7))
  exact workStep O G' k0 kN h0' (by omega) (by omega) hR (aside_heap O.p.cw hAs) ⟨by simp [wst, wT, tagOf], fun s e => by cases e⟩ (by simp [ww, tagOf]) (by simp [wst, wT, tagOf]) (by rw [h0']; exact Nat.zero_le _) (evw_wr (O.p.cellw _ rfl)) wr_nr rfl hw'
    (Mode.lastOn k0 kN k1 a b (p := .on .d4 m') (.inr rfl)) fn place (fun _ => rel_deaf G' k0 kN (by omega) (by rw [h0']; rfl) fn place deaf_wr)
theorem op_d4 (O : Y.Ok) (G : Glob Y.p pos N w t) (k0 : Y.p.N0 ≤ k) (kN : k < N) (h0 : pos k = .on .d4 m) (hA : stops Y .d4 g w) : Out (sys Y) () pos N k .d4 g w t := by
  have k1 : k ≠ 0 := by have := O.p.n0; omega
  obtain ⟨hrun, hmay, hall⟩ := hA
  obtain ⟨-, -, hwg⟩ := last_facts G k0 kN k1 (by rw [h0]; exact .inr (.inr rfl))
  rw [h0] at hwg
  obtain ⟨g', hst, qn, hq⟩ := hall hwg
  have hAs := aside_setCell w (smA Y.p.Wg) (.int .u32 1)
  have hw' := WgAt.setSm hwg 1
  have hR : Rm Y.p.Wg Y.p.Cn w (w.setCell (smA Y.p.Wg) (.int .u32 1)) := Rm.of_wg O.p.cw hAs ⟨_, _, hw'⟩
  refine outWork (q := .quit qn 1) O G k1 h0 hst hq.status ⟨k1, hq⟩ hR fun pos' _ G' h0' hup fn place => ?_
  have e7 : wst (pos' k) = 2 := by rw [h0']; rfl
  obtain ⟨a, b, -⟩ := last_facts G' k0 kN k1 (.inr (.inr e7))
  exact workStep O G' k0 kN h0' (by omega) (by omega) hR (aside_heap O.p.cw hAs) ⟨by simp [wst, wT, tagOf], fun s e => by cases e⟩ (by simp [ww, tagOf]) (by simp [wst, wT, tagOf]) (by rw [h0']; exact Nat.zero_le _) (evw_sem (O.p.cellw _ rfl)) sem_nr rfl hw'
    (Mode.lastOut k0 kN k1 a (hup hmay) b rfl) fn place (fun _ => rel_deaf G' k0 kN (by omega) (by rw [h0']; rfl) fn place deaf_sem)
end
end Go.Proofs.Ytdkbkocklnnmdaa.crew
