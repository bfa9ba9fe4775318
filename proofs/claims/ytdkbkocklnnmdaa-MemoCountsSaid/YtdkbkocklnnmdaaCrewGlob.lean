/-
  A main goroutine that starts workers and waits for them: what holds of the whole at every moment (where everybody stands, the world, the trace), and how it is kept by a step of a worker and by a step of main. Conditions: those that the theorems name.
-/
import Derived.Test.YtdkbkocklnnmdaaCrewMain
import Derived.Test.YtdkbkocklnnmdaaWgWait
import Derived.Conc.CrowdStepC
set_option linter.unusedVariables false
set_option linter.unusedSectionVars false
namespace Go.Proofs.Ytdkbkocklnnmdaa.crew
open Go Go.Conc Go.Proofs.Ytdkbkocklnnmdaa.mach Go.Proofs.Ytdkbkocklnnmdaa.wg
open Go.ConcN (upd upd_same upd_ne sumTo sumTo_upd sumTo_congr le_sumTo sumTo_upd_out sumTo_le CT OkW Ok0 Apart RelBy WgLive RelBy.appOther RelBy.appOwn RelBy.new RelBy.book handedOver_all)
open Go.ConcR (KK WgAt stA smA rd wr mk DC0 Bk g_of_ofEvents)

def CntAt (Cn : Nat) (w : World) (v : Int) : Prop := w.heap[Cn]? = some (.cells #[.int .i64 v] 62)

/-- What all suffer in a phase: the group's block and the count's stay such blocks; all other blocks stand. -/
structure Rm (Wg Cn : Nat) (w w₁ : World) : Prop where
  blocks : ∀ b, b ≠ Wg → b ≠ Cn → w₁.heap[b]? = w.heap[b]?
  size : w₁.heap.size = w.heap.size
  tape : w₁.tape = w.tape
  os : w₁.os = w.os
  output : w₁.output = w.output
  live : WgLive 96 Wg w → WgLive 96 Wg w₁
  cnt : (∃ v, CntAt Cn w v) → ∃ v, CntAt Cn w₁ v

section
variable {Wg Cn : Nat} {w w₁ w₂ : World}
theorem Rm.refl (w : World) : Rm Wg Cn w w := ⟨fun _ _ _ => rfl, rfl, rfl, rfl, rfl, id, id⟩
theorem Rm.trans (h : Rm Wg Cn w w₁) (h' : Rm Wg Cn w₁ w₂) : Rm Wg Cn w w₂ :=
  ⟨fun b a c => (h'.blocks b a c).trans (h.blocks b a c), h'.size.trans h.size, h'.tape.trans h.tape, h'.os.trans h.os, h'.output.trans h.output, h'.live ∘ h.live, h'.cnt ∘ h.cnt⟩
theorem Rm.at (w : World) (d : Nat) : Rm Wg Cn w (w.at d) := ⟨fun _ _ _ => rfl, rfl, rfl, rfl, rfl, id, id⟩
theorem Rm.of_wg (hne : Cn ≠ Wg) (h : Aside Wg w w₁) (hl : WgLive 96 Wg w₁) : Rm Wg Cn w w₁ :=
  ⟨fun b a _ => h.block b a, h.size, h.tape, h.os, h.output, fun _ => hl, fun ⟨v, hv⟩ => ⟨v, (h.block Cn hne).trans hv⟩⟩
theorem Rm.of_cnt (hne : Cn ≠ Wg) (h : Aside Cn w w₁) {v : Int} (hl : CntAt Cn w₁ v) : Rm Wg Cn w w₁ :=
  ⟨fun b _ a => h.block b a, h.size, h.tape, h.os, h.output, fun ⟨st, sm, x⟩ => ⟨st, sm, x.of_block (h.block Wg hne.symm)⟩, fun _ => ⟨v, hl⟩⟩
end

/-- A phase. -/
structure Par where
  Wg : Nat
  Cn : Nat
  Bc : Nat
  Bb : Nat
  N0 : Nat
  n : Nat
  w0 : World
  Sh : Loc → Prop
  Rd : Nat → Loc → Prop
  /-- All that the trace touches. -/
  Lw : Loc → Prop
  useC : Prop
  val : Nat → Int

def noOwn : Nat → Loc → Prop := fun _ _ => False

structure Par.Ok (p : Par) : Prop where
  n0 : 1 ≤ p.N0
  small : p.N0 + p.n < 2147483648
  cw : p.Cn ≠ p.Wg
  bw : p.Bb ≠ p.Wg
  bc : p.Bb ≠ p.Cn
  cellw : ∀ a : Addr, a.block = p.Wg → p.Sh (.cell a)
  cellc : p.useC → ∀ a : Addr, a.block = p.Cn → p.Sh (.cell a)
  rdc : ∀ k, p.N0 ≤ k → ∀ a : Addr, a.block = p.Bc ∨ a.block = p.Bb → p.Rd k (.cell a)
  apart : Apart p.Sh noOwn p.Rd
  lwS : ∀ l, p.Sh l → p.Lw l
  lwR : ∀ k l, p.Rd k l → p.Lw l

/-- An operation touches nothing beyond 'Lw'; a worker's atomic steps touch shared places alone. -/
def Par.Fine (p : Par) (op : MemOp) : Prop := ∀ x, op.act.touch? = some x → p.Lw x.loc ∧ (op.g ≠ 0 → ¬ p.Sh x.loc → x.kind ≠ .atomic)

/-- How deaf. -/
def dfn : Ps → Nat
  | .on (.add _) _ | .on (.read _) _ | .on (.ena _) _ => 1
  | .on .wload _ | .on (.wcas _) _ | .on .wwr _ | .on .wsem _ | .on .wld2 _ | .on .wena _ => 1
  | .on .d1 _ | .on .d2 _ | .on .d3 _ | .on .d4 _ => 1
  | .blk _ => 1
  | .quit _ d => d
  | _ => 0
def remT : Option Stg → Nat
  | some (.dis r) | some (.add r) | some (.read r) | some (.ena r) | some (.go r) => r + 1
  | _ => 0
/-- What goroutines below N have done is handed over to goroutine 0. -/
def Handed (N : Nat) (t : Trace) : Prop := ∀ i g, t.g? i = some g → g ≠ 0 → g < N → t.counts i → ∃ q, t.g? q = some 0 ∧ HappensBefore t i q
/-- How many have not yet added. -/
def Un (p : Par) (pos : Nat → Ps) (N : Nat) : Nat := (p.N0 + p.n - N) + sumTo N fun k => if 8 ≤ wst (pos k) then 1 else 0
def Cnt (p : Par) (pos : Nat → Ps) (N : Nat) (w : World) : Prop :=
  (p.useC → CntAt p.Cn w (p.val (p.n - Un p pos N)) ∧ ∀ k, k < N → ∀ v u, tagOf (pos k) = some (.kc v u) → Un p pos N ≤ u ∧ (u = Un p pos N → v = p.val (p.n - u))) ∧
  (¬ p.useC → ∀ k, k < N → wst (pos k) ≤ 7)

/-- Where everybody stands fits. -/
structure Fits (p : Par) (pos : Nat → Ps) (N : Nat) : Prop where
  main : openT (tagOf (pos 0)) ∨ w3T (tagOf (pos 0)) ∨ finT (tagOf (pos 0))
  blk : ∀ s, pos 0 = .blk s → s = .wsem
  size : N + remT (tagOf (pos 0)) = p.N0 + p.n
  ge : p.N0 ≤ N
  old : ∀ k, 1 ≤ k → k < p.N0 → wst (pos k) = 1
  wk : ∀ k, p.N0 ≤ k → k < N → 1 ≤ wst (pos k) ∧ Up (pos k)

structure Glob (p : Par) (pos : Nat → Ps) (N : Nat) (w : World) (t : Trace) : Prop where
  fits : Fits p pos N
  df : ∀ k, k < N → Deaf t k = dfn (pos k)
  ct : CT p.Sh noOwn p.Rd t (N - 1)
  norel : ∀ ar : Addr, NoRelease ar t
  rel : ∀ k, p.N0 ≤ k → k < N → wst (pos k) ≤ 6 → ∃ r, RelBy (stA p.Wg) t k r
  hand : Handed p.N0 t
  all : tagOf (pos 0) = some .fin → Handed N t
  world : Rm p.Wg p.Cn p.w0 w
  wg : ∃ st sm, WgAt 96 p.Wg w st sm ∧ Mode pos p.N0 N st sm
  cnt : Cnt p pos N w
  fine : ∀ op ∈ t, p.Fine op

theorem fine_app {p : Par} {t u : Trace} (h : ∀ op ∈ t, p.Fine op) (hu : ∀ op ∈ u, p.Fine op) : ∀ op ∈ t ++ u, p.Fine op := fun op hop => (Array.mem_append.1 hop).elim (h op) (hu op)
theorem norel_all {g : Nat} {fn : FuncId} {pl : String} {es : Array Event} (h : ∀ e ∈ es, ∀ ar : Addr, e.loc ≠ .mark (.release ar)) (ar : Addr) : ∀ op ∈ MemOp.ofEvents g fn pl es, op.act ≠ .mark (.release ar) := by
  intro op hop e
  rw [ofEvents_eq] at hop
  obtain ⟨x, hx, rfl⟩ := Array.mem_map.1 hop
  exact h x hx ar (Go.ConcR.loc_of_ofEvent e)
theorem fine_mute {p : Par} {op : MemOp} (h : op.act.touch? = none) : p.Fine op := fun x hx => by rw [h] at hx; cases hx

section
variable {p : Par} {pos pos' : Nat → Ps} {N : Nat} {w w' : World} {t u : Trace}

theorem Handed.app {M : Nat} (h : Handed M t) (hu : ∀ i, t.size ≤ i → ∀ g, (t ++ u).g? i = some g → g ≠ 0 → g < M → ¬ (t ++ u).counts i) : Handed M (t ++ u) := by
  intro i g hg h0 hM hc
  rcases Nat.lt_or_ge i t.size with hlt | hge
  · rw [g?_old hlt] at hg
    rw [counts_old hlt] at hc
    obtain ⟨q, h1, h2⟩ := h i g hg h0 hM hc
    have hq : q < t.size := by
      obtain ⟨op, ho, _⟩ := Option.map_eq_some_iff.1 h1
      exact lt_size_of_getElem? ho
    exact ⟨q, by rw [g?_old hq]; exact h1, hb_app u h2⟩
  · exact absurd hc (hu i hge g hg h0 hM)
/-- Operations of a goroutine that is none of them. -/
theorem Handed.appOther {M k : Nat} (h : Handed M t) (hu : ∀ op ∈ u, op.g = k) (hk : k = 0 ∨ M ≤ k) : Handed M (t ++ u) := by
  refine h.app fun i hi g hg h0 hM => ?_
  obtain ⟨op, ho, hog⟩ := Option.map_eq_some_iff.1 hg
  rcases getElem?_append_cases ho with ⟨hlt, _⟩ | ⟨_, hou⟩
  · omega
  · have := hu op hou; omega
/-- Operations that touch nothing. -/
theorem Handed.appMute {M : Nat} (h : Handed M t) (hu : ∀ op ∈ u, op.act.touch? = none) : Handed M (t ++ u) := by
  refine h.app fun i hi g hg h0 hM hc => ?_
  obtain ⟨x, hx, _⟩ := hc
  obtain ⟨act, hact, hxt⟩ := Option.bind_eq_some_iff.1 hx
  obtain ⟨op, ho, rfl⟩ := Option.map_eq_some_iff.1 hact
  rcases getElem?_append_cases ho with ⟨hlt, _⟩ | ⟨_, hou⟩
  · omega
  · rw [hu op hou] at hxt; cases hxt

theorem Un_congr (h : ∀ k, k < N → wst (pos' k) = wst (pos k)) : Un p pos' N = Un p pos N := by
  unfold Un
  rw [show (sumTo N fun k => if 8 ≤ wst (pos' k) then 1 else 0) = sumTo N fun k => if 8 ≤ wst (pos k) then 1 else 0 from sumTo_congr fun k hk => by rw [h k hk]]
theorem Cnt.congr (ht : ∀ k, k < N → tagOf (pos' k) = tagOf (pos k)) (h : Cnt p pos N w) : Cnt p pos' N w := by
  have hU : Un p pos' N = Un p pos N := Un_congr fun k hk => wst_congr (ht k hk)
  refine ⟨fun hc => ?_, fun hc k hk => ?_⟩
  · rw [hU]
    exact ⟨(h.1 hc).1, fun k hk v u e => (h.1 hc).2 k hk v u (by rw [← ht k hk]; exact e)⟩
  · rw [wst_congr (ht k hk)]; exact h.2 hc k hk
theorem Fits.congr (h : Fits p pos N) (ht : ∀ k, k < N → tagOf (pos' k) = tagOf (pos k)) (hb : ∀ s, pos' 0 = .blk s → s = .wsem) (hu : ∀ k, p.N0 ≤ k → k < N → Up (pos k) → Up (pos' k)) (h1 : 1 ≤ p.N0) : Fits p pos' N := by
  have h0 : tagOf (pos' 0) = tagOf (pos 0) := ht 0 (by have := h.ge; omega)
  exact ⟨by rw [h0]; exact h.main, hb, by rw [h0]; exact h.size, h.ge, fun k a b => by rw [wst_congr (ht k (by have := h.ge; omega))]; exact h.old k a b,
    fun k a b => ⟨by rw [wst_congr (ht k b)]; exact (h.wk k a b).1, hu k a b (h.wk k a b).2⟩⟩

theorem dfn_wake (b : Bool) (k : Nat) (hb : ∀ s, pos k = .blk s → s = .wsem) : dfn (wakeIf b pos k) = dfn (pos k) := by
  unfold wakeIf
  split
  · cases e : pos k with
    | on s m => rfl
    | blk s => rw [hb s e]; rfl
    | quit q d => rfl
  · rfl
theorem Fits.blk' (h : Fits p pos N) (h1 : 1 ≤ p.N0) {k : Nat} (hk : k < N) : ∀ s, pos k = .blk s → s = .wsem := by
  intro s e
  by_cases h0 : k = 0
  · subst h0; exact h.blk s e
  · rcases Nat.lt_or_ge k p.N0 with hlt | hge
    · have := h.old k (by omega) hlt
      rw [e] at this
      revert this
      unfold wst tagOf wT
      cases s <;> simp
    · exact absurd e ((h.wk k hge hk).2 s)

theorem Glob.size (h : Glob p pos N w t) (O : p.Ok) : 1 ≤ N := by have := h.fits.ge; have := O.n0; omega
theorem Glob.wake (O : p.Ok) (b : Bool) (h : Glob p pos N w t) : Glob p (wakeIf b pos) N w t := by
  obtain ⟨st, sm, hw, hm⟩ := h.wg
  refine ⟨h.fits.congr (fun k _ => tag_wake b k) (fun s e => ?_) (fun k _ _ hu => up_wake b k hu) O.n0, fun k hk => by rw [dfn_wake b k (h.fits.blk' O.n0 hk)]; exact h.df k hk, h.ct, h.norel, fun k a c d => h.rel k a c (by rw [← wst_congr (tag_wake b k)]; exact d), h.hand,
    fun e => h.all (by rw [← tag_wake b 0]; exact e), h.world, ⟨st, sm, hw, hm.wake b⟩, h.cnt.congr fun k _ => tag_wake b k, h.fine⟩
  have e' := tag_wake (pos := pos) b 0
  rw [e] at e'
  cases e2 : pos 0 with
  | on s' m => unfold wakeIf at e; rw [e2] at e; split at e <;> cases e
  | blk s' => unfold wakeIf at e; rw [e2] at e; split at e
              · cases e
              · injection e with e3; rw [← e3]; exact h.fits.blk s' e2
  | quit q d => unfold wakeIf at e; rw [e2] at e; split at e <;> cases e

theorem Glob.at (h : Glob p pos N w t) (d : Nat) : Glob p pos N (w.at d) t :=
  ⟨h.fits, h.df, h.ct, h.norel, h.rel, h.hand, h.all, h.world.trans (Rm.at w d), h.wg, h.cnt, h.fine⟩

/-- A STEP OF A WORKER's. -/
theorem Glob.worker (O : p.Ok) (h : Glob p pos N w t) {k : Nat} (k0 : p.N0 ≤ k) (kN : k < N) {q : Ps} {fn : FuncId} {place : String} {es : Array Event} {st sm : Int} (hw : Rm p.Wg p.Cn w w')
    (hq : 1 ≤ wst q ∧ Up q) (hok : ∀ op ∈ MemOp.ofEvents k fn place es, OkW p.Sh noOwn p.Rd k op ∧ ∀ x, op.act.touch? = some x → ¬ p.Sh x.loc → x.kind ≠ .atomic) (hnr : ∀ e ∈ es, ∀ ar : Addr, e.loc ≠ .mark (.release ar)) (hdf : deafBehind (dfn (pos k)) es = dfn q)
    (hrel : wst q ≤ 6 → ∃ r, RelBy (stA p.Wg) (t ++ MemOp.ofEvents k fn place es) k r) (hwg : WgAt 96 p.Wg w' st sm) (hm : Mode (upd pos k q) p.N0 N st sm) (hc : Cnt p (upd pos k q) N w')
    (hall : tagOf (pos 0) = some .fin → Handed N (t ++ MemOp.ofEvents k fn place es)) :
    Glob p (upd pos k q) N w' (t ++ MemOp.ofEvents k fn place es) := by
  have k1 : k ≠ 0 := by have := O.n0; omega
  have e0 : upd pos k q 0 = pos 0 := upd_ne _ _ (fun e => k1 e.symm)
  refine ⟨⟨by rw [e0]; exact h.fits.main, by rw [e0]; exact h.fits.blk, by rw [e0]; exact h.fits.size, h.fits.ge, fun a a1 a2 => by rw [upd_ne _ _ (by omega)]; exact h.fits.old a a1 a2, fun a a1 a2 => ?_⟩, fun a ha => ?_,
    h.ct.appW O.apart (by omega) (by omega) (fun op hop => (hok op hop).1), fun ar => (h.norel ar).app (norel_all hnr ar), fun a a1 a2 a3 => ?_, h.hand.appOther g_of_ofEvents (.inr k0), by rw [e0]; exact hall, h.world.trans hw, ⟨st, sm, hwg, hm⟩, hc, fine_app h.fine fun op hop x hx => ⟨?_, fun _ => (hok op hop).2 x hx⟩⟩
  · by_cases e : a = k
    · subst e; rw [upd_same]; exact hq
    · rw [upd_ne _ _ e]; exact h.fits.wk a a1 a2
  · by_cases e : a = k
    · subst e; rw [upd_same, Deaf_own, h.df a ha]; exact hdf
    · rw [upd_ne _ _ e, Deaf_other t (fun x => e x.symm) _ g_of_ofEvents, h.df a ha]
  · by_cases e : a = k
    · subst e; rw [upd_same] at a3; exact hrel a3
    · rw [upd_ne _ _ e] at a3
      obtain ⟨r, hr⟩ := h.rel a a1 a2 a3
      exact ⟨r, hr.appOther g_of_ofEvents (fun x => e x.symm)⟩
  · rcases (hok op hop).1.2 x hx with ⟨hs, _⟩ | ho | ⟨hr, _⟩
    · exact O.lwS _ hs
    · exact ho.elim
    · exact O.lwR _ _ hr

/-- A STEP OF MAIN's THAT STARTS NOBODY. -/
theorem Glob.main (O : p.Ok) (h : Glob p pos N w t) {q : Ps} {fn : FuncId} {place : String} {es : Array Event} {st sm : Int} (hw : Rm p.Wg p.Cn w w')
    (hq : openT (tagOf q) ∨ w3T (tagOf q) ∨ finT (tagOf q)) (hb : ∀ s, q = .blk s → s = .wsem) (hr : remT (tagOf q) = remT (tagOf (pos 0)))
    (hok : ∀ op ∈ MemOp.ofEvents 0 fn place es, Ok0 p.Sh noOwn p.Rd (N - 1) op ∧ ∀ x, op.act.touch? = some x → p.Sh x.loc) (hnr : ∀ e ∈ es, ∀ ar : Addr, e.loc ≠ .mark (.release ar)) (hdf : deafBehind (dfn (pos 0)) es = dfn q)
    (hwg : WgAt 96 p.Wg w' st sm) (hm : Mode (upd pos 0 q) p.N0 N st sm) (hc : Cnt p (upd pos 0 q) N w')
    (hall : tagOf q = some .fin → Handed N (t ++ MemOp.ofEvents 0 fn place es)) :
    Glob p (upd pos 0 q) N w' (t ++ MemOp.ofEvents 0 fn place es) := by
  have ge := h.fits.ge
  have n0 := O.n0
  refine ⟨⟨by rw [upd_same]; exact hq, by rw [upd_same]; exact hb, by rw [upd_same, hr]; exact h.fits.size, ge, fun a a1 a2 => by rw [upd_ne _ _ (by omega)]; exact h.fits.old a a1 a2, fun a a1 a2 => by rw [upd_ne _ _ (by omega)]; exact h.fits.wk a a1 a2⟩, fun a ha => ?_,
    h.ct.app0 O.apart (fun op hop => (hok op hop).1), fun ar => (h.norel ar).app (norel_all hnr ar), fun a a1 a2 a3 => ?_, h.hand.appOther g_of_ofEvents (.inl rfl), by rw [upd_same]; exact hall, h.world.trans hw, ⟨st, sm, hwg, hm⟩, hc, fine_app h.fine fun op hop x hx => ⟨O.lwS _ ((hok op hop).2 x hx), fun h0 => absurd (g_of_ofEvents op hop) h0⟩⟩
  · by_cases e : a = 0
    · subst e; rw [upd_same, Deaf_own, h.df 0 ha]; exact hdf
    · rw [upd_ne _ _ e, Deaf_other t (fun x => e x.symm) _ g_of_ofEvents, h.df a ha]
  · rw [upd_ne _ _ (by omega)] at a3
    obtain ⟨r, hr⟩ := h.rel a a1 a2 a3
    exact ⟨r, hr.appOther g_of_ofEvents (by omega)⟩

theorem cnt_main (h0 : wst (pos 0) = 0) {q : Ps} (hq : wst q = 0) (hk : ∀ v u, tagOf q ≠ some (.kc v u)) (h : Cnt p pos N w) (hw : w'.heap[p.Cn]? = w.heap[p.Cn]?) : Cnt p (upd pos 0 q) N w' := by
  have e : ∀ k, k < N → wst (upd pos 0 q k) = wst (pos k) := fun k _ => by
    by_cases x : k = 0
    · subst x; rw [upd_same, hq, h0]
    · rw [upd_ne _ _ x]
  have hU : Un p (upd pos 0 q) N = Un p pos N := Un_congr e
  refine ⟨fun hc => ?_, fun hc k hk' => by rw [e k hk']; exact h.2 hc k hk'⟩
  rw [hU]
  refine ⟨hw.trans (h.1 hc).1, fun k hk' v u x => ?_⟩
  by_cases y : k = 0
  · subst y; rw [upd_same] at x; exact absurd x (hk v u)
  · rw [upd_ne _ _ y] at x; exact (h.1 hc).2 k hk' v u x

/-- A worker's step by which it neither comes to add nor has added. -/
theorem cnt_worker {k : Nat} (kN : k < N) {q : Ps} (h7 : wst (pos k) ≤ 7) (hq : wst q ≤ 7) (h : Cnt p pos N w) (hw : w'.heap[p.Cn]? = w.heap[p.Cn]?) : Cnt p (upd pos k q) N w' := by
  have hU : Un p (upd pos k q) N = Un p pos N := by
    unfold Un
    rw [show (sumTo N fun a => if 8 ≤ wst (upd pos k q a) then 1 else 0) = sumTo N fun a => if 8 ≤ wst (pos a) then 1 else 0 from sumTo_congr fun a ha => by
      by_cases x : a = k
      · subst x; rw [upd_same, if_neg (by omega), if_neg (by omega)]
      · rw [upd_ne _ _ x]]
  have hnk : ∀ v u, tagOf q ≠ some (.kc v u) := fun v u e => by
    unfold wst at hq; rw [e] at hq; simp [wT] at hq
  refine ⟨fun hc => ?_, fun hc a ha => ?_⟩
  · rw [hU]
    refine ⟨hw.trans (h.1 hc).1, fun a ha v u x => ?_⟩
    by_cases y : a = k
    · subst y; rw [upd_same] at x; exact absurd x (hnk v u)
    · rw [upd_ne _ _ y] at x; exact (h.1 hc).2 a ha v u x
  · by_cases y : a = k
    · subst y; rw [upd_same]; exact hq
    · rw [upd_ne _ _ y]; exact h.2 hc a ha
end
end Go.Proofs.Ytdkbkocklnnmdaa.crew
