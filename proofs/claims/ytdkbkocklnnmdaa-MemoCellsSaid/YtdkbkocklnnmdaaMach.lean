/-
  A machine of many goroutines, each of which stands in a stage: if every step of a stage keeps what is held of the whole, and a measure falls, the run comes, on every tape, to where goroutine 0 has entered a last stage. Conditions: those that the theorem names.
-/
import Derived.Conc.Beside
namespace Go.Proofs.Ytdkbkocklnnmdaa.mach
open Go Go.Conc
open Go.ConcN (upd upd_same upd_ne sumTo sumTo_upd sumTo_congr le_sumTo sumTo_upd_out)

/-- Where a goroutine stands: on its way to, or at, a stage's operation; blocked at it; only leaving. -/
inductive Pos (S : Type) where
  | on (s : S) (m : Nat)
  | blk (s : S)
  | quit (q d : Nat)

def Pos.fuel {S : Type} : Pos S → Nat
  | .on _ m => m
  | .blk _ => 0
  | .quit q _ => q
def Pos.isOn {S : Type} : Pos S → Nat
  | .on _ _ => 1
  | _ => 0
def Pos.wake {S : Type} : Pos S → Pos S
  | .blk s => .on s 0
  | p => p
theorem Pos.wake_fuel {S : Type} (p : Pos S) : p.wake.fuel = p.fuel := by cases p <;> rfl
theorem Pos.isOn_le {S : Type} (p : Pos S) : p.isOn ≤ 1 := by cases p <;> simp [Pos.isOn]
def wakeIf {S : Type} (b : Bool) (pos : Nat → Pos S) : Nat → Pos S := fun j => if b then (pos j).wake else pos j

/-- The stages of a system. -/
structure Sys where
  P : Program
  S : Type
  Γ : Type
  R : S → World → World → Prop
  D : S → World → World → Array Event → Prop
  A : S → Goroutine → World → Prop
  Glob : Γ → (Nat → Pos S) → Nat → World → Trace → Prop
  Φ : Γ → (Nat → Pos S) → Nat → Nat
  fin : S → Prop

variable (Y : Sys)

def Sys.Holds (k : Nat) : Pos Y.S → Goroutine → World → Prop
  | .on s m, g, w => Goes Y.P (k == 0) (Y.R s) (Y.D s) (Y.A s) m g w
  | .blk s, g, w => g.status = .blocked ∧ g.offers = none ∧ ∀ w₁, Y.R s w w₁ → Y.A s { g with status := .running } w₁
  | .quit q d, g, _ => k ≠ 0 ∧ QuitsD Y.P q d g

/-- What the others' doing may be to one who stands so. -/
def Sys.Suffers : Pos Y.S → World → World → Prop
  | .on s _, w, w' => Y.R s w w'
  | .blk s, w, w' => Y.R s w w'
  | .quit _ _, _, _ => True

/-- The outcome of the operation at which a goroutine stands. -/
inductive Out (Y : Sys) (γ : Y.Γ) (pos : Nat → Pos Y.S) (N k : Nat) (s : Y.S) (g : Goroutine) (w : World) (t : Trace) : Prop
  | go (g' : Goroutine) (w' : World) (es : Array Event) (p' : Pos Y.S) (γ' : Y.Γ) :
      stepG Y.P (k == 0) g w = .go g' w' es → g'.status ≠ .blocked → g'.status ≠ .waiting → Y.Holds k p' g' w' → (∀ j, j < N → j ≠ k → Y.Suffers (pos j) w w') →
      Y.Glob γ' (upd (wakeIf (mayWake Y.P g) pos) k p') N w' (t ++ MemOp.ofEvents k g.frame.fn g.frame.place es) →
      Y.Φ γ' (upd (wakeIf (mayWake Y.P g) pos) k p') N < Y.Φ γ pos N → Out Y γ pos N k s g w t
  | block : stepG Y.P (k == 0) g w = .go { g with status := .blocked } w #[] → g.offers = none →
      (∀ w₁, Y.R s w w₁ → Y.A s g w₁) →
      Y.Glob γ (upd pos k (.blk s)) N w t → Y.Φ γ (upd pos k (.blk s)) N ≤ Y.Φ γ pos N → Out Y γ pos N k s g w t
  | spawn (g' child : Goroutine) (w' : World) (es : Array Event) (p' pc : Pos Y.S) (γ' : Y.Γ) :
      stepG Y.P (k == 0) g w = .spawn g' child w' es → Y.Holds k p' g' w' → Y.Holds N pc child w' → (∀ j, j < N → j ≠ k → Y.Suffers (pos j) w w') →
      (∀ place, Y.Glob γ' (upd (upd pos k p') N pc) (N + 1) w' (((t ++ MemOp.ofEvents k g.frame.fn g.frame.place es).push { g := k, fn := g.frame.fn, pos := place, act := .go N }).push { g := N, fn := child.frame.fn, pos := place, act := .start })) →
      Y.Φ γ' (upd (upd pos k p') N pc) (N + 1) < Y.Φ γ pos N → Out Y γ pos N k s g w t

/-- What is asked of the system. -/
structure Sys.Sound : Prop where
  trans : ∀ s a b c, Y.R s a b → Y.R s b c → Y.R s a c
  draw : ∀ s (w : World) d, Y.R s w (w.at d)
  run : ∀ s g w, Y.A s g w → g.status = .running
  gdraw : ∀ γ pos N w t d, Y.Glob γ pos N w t → Y.Glob γ pos N (w.at d) t
  live : ∀ γ pos N w t, Y.Glob γ pos N w t → ∃ k s m, k < N ∧ pos k = .on s m
  local_ : ∀ γ pos N (w : World) t k s m w' es fn place b, Y.Glob γ pos N w t → k < N → pos k = .on s (m + 1) → Y.D s w w' es →
    Y.Glob γ (upd (wakeIf b pos) k (.on s m)) N w' (t ++ MemOp.ofEvents k fn place es) ∧ Y.Φ γ (upd (wakeIf b pos) k (.on s m)) N ≤ Y.Φ γ pos N ∧ ∀ j, j < N → j ≠ k → Y.Suffers (pos j) w w'
  leave : ∀ γ pos N (w : World) t k q d es fn place b, Y.Glob γ pos N w t → k < N → pos k = .quit (q + 1) d → (∀ e ∈ es, Event.mute e = true) →
    Y.Glob γ (upd (wakeIf b pos) k (.quit q (deafBehind d es))) N w (t ++ MemOp.ofEvents k fn place es) ∧ Y.Φ γ (upd (wakeIf b pos) k (.quit q (deafBehind d es))) N ≤ Y.Φ γ pos N
  op : ∀ γ pos N (w : World) t k s m g, Y.Glob γ pos N w t → k < N → pos k = .on s m → ¬ (k = 0 ∧ Y.fin s) → (∀ w₁, Y.R s w w₁ → Y.A s g w₁) → Out Y γ pos N k s g w t

def Sys.Inv (γ : Y.Γ) (pos : Nat → Pos Y.S) (gs : Array Goroutine) (w : World) (t : Trace) : Prop :=
  (∀ k, k < gs.size → ∃ g, gs[k]? = some g ∧ Y.Holds k (pos k) g w) ∧ 1 ≤ gs.size ∧ Y.Glob γ pos gs.size w t

def Sys.meas (γ : Y.Γ) (pos : Nat → Pos Y.S) (N : Nat) : Nat × Nat :=
  (Y.Φ γ pos N, (N + 1) * sumTo N (fun j => (pos j).fuel) + sumTo N (fun j => (pos j).isOn))

section
variable {Y}

theorem Holds.suffer (H : Y.Sound) {k : Nat} {p : Pos Y.S} {g : Goroutine} {w w' : World} (h : Y.Holds k p g w) (hs : Y.Suffers p w w') : Y.Holds k p g w' := by
  cases p with
  | on s m => exact Goes.rely (fun a b c => H.trans s a b c) h hs
  | blk s => exact ⟨h.1, h.2.1, fun w₁ h₁ => h.2.2 w₁ (H.trans s _ _ _ hs h₁)⟩
  | quit q d => exact h

theorem suffers_draw (H : Y.Sound) (p : Pos Y.S) (w : World) (d : Nat) : Y.Suffers p w (w.at d) := by
  cases p with
  | on s m => exact H.draw s w d
  | blk s => exact H.draw s w d
  | quit q d => trivial

theorem Holds.status (H : Y.Sound) {k : Nat} {p : Pos Y.S} {g : Goroutine} {w : World} (h : Y.Holds k p g w) : g.status = .running ∨ g.status = .blocked ∨ g.status = .finished := by
  cases p with
  | on s m => exact .inl (Goes.running (fun g w hg => H.run s g w hg) w (by have := H.draw s w w.drawn; exact this) h)
  | blk s => exact .inr (.inl h.1)
  | quit q d => exact h.2.status.elim .inl (fun x => .inr (.inr x))

/-- Whoever has been let try again stands where he stood. -/
theorem Holds.woken (H : Y.Sound) {k : Nat} {p : Pos Y.S} {o g g' : Goroutine} {w : World} (hb : g'.status ≠ .blocked) (hw : g'.status ≠ .waiting) (h : Y.Holds k p o w) :
    Y.Holds k (if mayWake Y.P g then p.wake else p) (woken Y.P g g' w o) w := by
  have hst : (mayWake Y.P g && g'.status != .blocked && g'.status != .waiting) = mayWake Y.P g := by
    have h1 : (g'.status != .blocked) = true := by simpa using hb
    have h2 : (g'.status != .waiting) = true := by simpa using hw
    rw [h1, h2]; simp
  unfold Conc.woken
  rw [hst]
  by_cases hm : mayWake Y.P g = true
  · rw [if_pos hm, if_pos hm]
    cases p with
    | on s m =>
      have hr : o.status = .running := Goes.running (fun g w hg => H.run s g w hg) w (by have := H.draw s w w.drawn; exact this) h
      have : o.again w = o := by unfold Goroutine.again; rw [hr]
      rw [this]; exact h
    | blk s =>
      obtain ⟨h1, h2, h3⟩ := h
      have : o.again w = { o with status := .running } := by unfold Goroutine.again; rw [h1, h2]
      rw [this]
      exact Goes.stop fun w₁ h₁ => h3 w₁ h₁
    | quit q d =>
      have : o.again w = o := by
        unfold Goroutine.again
        rcases h.2.status with e | e <;> rw [e]
      rw [this]; exact h
  · rw [if_neg hm, if_neg hm]; exact h

theorem sum_isOn_le {S : Type} (pos : Nat → Pos S) (N : Nat) : sumTo N (fun j => (pos j).isOn) ≤ N := by
  induction N with
  | zero => simp [sumTo]
  | succ n ih => simp only [sumTo]; have := (pos n).isOn_le; omega

theorem sum_wake_fuel {S : Type} (b : Bool) (pos : Nat → Pos S) (N : Nat) : sumTo N (fun j => (wakeIf b pos j).fuel) = sumTo N (fun j => (pos j).fuel) := by
  refine sumTo_congr fun i _ => ?_
  unfold wakeIf
  split
  · exact Pos.wake_fuel _
  · rfl


theorem getElem?_set_map {gs : Array Goroutine} {f : Goroutine → Goroutine} {k j : Nat} {g' : Goroutine} (hk : k < gs.size) :
    ((gs.map f).setIfInBounds k g')[j]? = if j = k then some g' else (gs[j]?).map f := by
  by_cases h : j = k
  · subst h; simp [hk]
  · rw [Array.getElem?_setIfInBounds_ne (fun e => h e.symm), if_neg h]; simp

/-- The invariant over an own step of goroutine k. -/
theorem inv_go (H : Y.Sound) {γ' : Y.Γ} {pos : Nat → Pos Y.S} {gs : Array Goroutine} {w w' : World} {t : Trace} {k : Nat} {g g' : Goroutine} {p' : Pos Y.S} (hk : k < gs.size)
    (h : ∀ k, k < gs.size → ∃ g, gs[k]? = some g ∧ Y.Holds k (pos k) g w) (h1 : 1 ≤ gs.size) (hb : g'.status ≠ .blocked) (hw : g'.status ≠ .waiting) (hp : Y.Holds k p' g' w')
    (hs : ∀ j, j < gs.size → j ≠ k → Y.Suffers (pos j) w w') (hG : Y.Glob γ' (upd (wakeIf (mayWake Y.P g) pos) k p') gs.size w' t) :
    Y.Inv γ' (upd (wakeIf (mayWake Y.P g) pos) k p') ((gs.map (Conc.woken Y.P g g' w')).setIfInBounds k g') w' t := by
  have hsz : ((gs.map (Conc.woken Y.P g g' w')).setIfInBounds k g').size = gs.size := by simp
  refine ⟨fun j hj => ?_, by rw [hsz]; exact h1, by rw [hsz]; exact hG⟩
  rw [hsz] at hj
  rw [getElem?_set_map hk]
  by_cases e : j = k
  · subst e
    exact ⟨g', by simp, by rw [upd_same]; exact hp⟩
  · obtain ⟨o, ho, hh⟩ := h j hj
    refine ⟨Conc.woken Y.P g g' w' o, by simp [e, ho], ?_⟩
    rw [upd_ne _ _ e]
    exact Holds.woken H hb hw (Holds.suffer H hh (hs j hj e))

theorem append_push2 {t X : Trace} (a b : MemOp) : t ++ ((X.push a).push b) = ((t ++ X).push a).push b := by
  apply Array.ext'
  simp

/-- Goroutine 0 is to move, and stands at the stop of a last stage. -/
def Sys.Last (Y : Sys) (pos : Nat → Pos Y.S) (gs : Array Goroutine) (w : World) (sl : Option (Nat × Nat)) : Prop :=
  ∃ d sl' s m g, gs[0]? = some g ∧ pos 0 = .on s m ∧ Y.fin s ∧ Y.A s g (w.at d) ∧ stepT Y.P (crowd gs w sl) = runT Y.P (crowd gs (w.at d) sl') 0

/-- ONE STEP OF THE MACHINE. -/
theorem step_inv (H : Y.Sound) (γ : Y.Γ) (pos : Nat → Pos Y.S) (gs : Array Goroutine) (w : World) (sl : Option (Nat × Nat)) (t : Trace)
    (hI : Y.Inv γ pos gs w t) : Y.Last pos gs w sl ∨
    ∃ γ' pos' gs' w' sl' ops, stepT Y.P (crowd gs w sl) = (.next (crowd gs' w' sl'), ops) ∧ Y.Inv γ' pos' gs' w' (t ++ ops) ∧
      Prod.Lex (· < ·) (· < ·) (Y.meas γ' pos' gs'.size) (Y.meas γ pos gs.size) := by
  obtain ⟨hh, h1, hG⟩ := hI
  have aw : ∀ g ∈ gs, awake g := by
    intro g hg tm
    obtain ⟨i, hi⟩ := Array.mem_iff_getElem?.1 hg
    have hlt := (Array.getElem?_eq_some_iff.1 hi).1
    obtain ⟨g', hg', hp⟩ := hh i hlt
    rw [hi] at hg'; cases hg'
    rcases Holds.status H hp with e | e | e <;> rw [e] <;> simp
  have some1 : ∃ (i : Nat) (g : Goroutine), gs[i]? = some g ∧ g.status = .running := by
    obtain ⟨k, s, m, hk, hp⟩ := H.live γ pos gs.size w t hG
    obtain ⟨g, hg, hs⟩ := hh k hk
    rw [hp] at hs
    exact ⟨k, g, hg, Goes.running (fun g w hg => H.run s g w hg) w (by have := H.draw s w w.drawn; exact this) hs⟩
  obtain ⟨k, g, d, sl', hg, hrun, hst⟩ := crowd_pick (P := Y.P) (w := w) (sl := sl) aw some1
  have hk : k < gs.size := (Array.getElem?_eq_some_iff.1 hg).1
  have hG' := H.gdraw γ pos gs.size w t d hG
  have hh' : ∀ j, j < gs.size → ∃ g, gs[j]? = some g ∧ Y.Holds j (pos j) g (w.at d) := fun j hj => by
    obtain ⟨g, hg, hp⟩ := hh j hj
    exact ⟨g, hg, Holds.suffer H hp (suffers_draw H _ w d)⟩
  obtain ⟨g0, hg0, hp⟩ := hh' k hk
  rw [hg] at hg0
  obtain rfl := Option.some.inj hg0
  by_cases hL : k = 0 ∧ ∃ s m, pos 0 = .on s m ∧ Y.fin s ∧ Y.A s g (w.at d)
  · obtain ⟨rfl, s, m, e1, e2, e3⟩ := hL
    exact .inl ⟨d, sl', s, m, g, hg, e1, e2, e3, hst⟩
  refine .inr ?_
  rw [hst]
  have hL' : ∀ s m, pos k = .on s m → Y.A s g (w.at d) → ¬ (k = 0 ∧ Y.fin s) := fun s m e ha hx => hL ⟨hx.1, s, m, by rw [← hx.1]; exact e, hx.2, ha⟩
  clear hL
  generalize hwd : w.at d = wd at *
  -- what the operation at a stop comes to
  have fromOut : ∀ s m, pos k = .on s m → Out Y γ pos gs.size k s g wd t → ∃ γ' pos' gs' w' sl'' ops, runT Y.P (crowd gs wd sl') k = (.next (crowd gs' w' sl''), ops) ∧ Y.Inv γ' pos' gs' w' (t ++ ops) ∧
      Prod.Lex (· < ·) (· < ·) (Y.meas γ' pos' gs'.size) (Y.meas γ pos gs.size) := by
    intro s m hpk hout
    cases hout with
    | go g' w' es p' γ' e1 e2 e3 e4 e5 e6 e7 =>
      refine ⟨γ', _, _, w', sl', _, runT_crowd_go hg e1, inv_go H hk hh' h1 e2 e3 e4 e5 e6, ?_⟩
      simp only [Array.size_setIfInBounds, Array.size_map]
      exact Prod.Lex.left _ _ e7
    | block e1 e2 e3 e4 e5 =>
      refine ⟨γ, upd pos k (.blk s), _, wd, sl', _, runT_crowd_go hg e1, ?_, ?_⟩
      · have hw0 : ∀ o, Conc.woken Y.P g { g with status := .blocked } wd o = o := fun o => by unfold Conc.woken; simp
        have hmap : gs.map (Conc.woken Y.P g { g with status := .blocked } wd) = gs := by
          have : Conc.woken Y.P g { g with status := .blocked } wd = id := funext hw0
          rw [this, Array.map_id]
        rw [hmap]
        have hsz : (gs.setIfInBounds k { g with status := GoStatus.blocked }).size = gs.size := by simp
        refine ⟨fun j hj => ?_, by rw [hsz]; exact h1, by rw [hsz]; simpa [MemOp.ofEvents] using e4⟩
        rw [hsz] at hj
        by_cases e : j = k
        · subst e
          refine ⟨{ g with status := .blocked }, by simp [hk], ?_⟩
          rw [upd_same]
          refine ⟨rfl, e2, fun w₁ h₁ => ?_⟩
          have : ({ ({ g with status := GoStatus.blocked } : Goroutine) with status := GoStatus.running } : Goroutine) = g := by
            cases g; simp at hrun; subst hrun; rfl
          rw [this]
          exact e3 w₁ h₁
        · obtain ⟨o, ho, hh2⟩ := hh' j hj
          refine ⟨o, by rw [Array.getElem?_setIfInBounds_ne (fun x => e x.symm)]; exact ho, ?_⟩
          rw [upd_ne _ _ e]; exact hh2
      · simp only [Array.size_setIfInBounds, Array.size_map, Sys.meas]
        rcases Nat.lt_or_ge (Y.Φ γ (upd pos k (.blk s)) gs.size) (Y.Φ γ pos gs.size) with hlt | hge
        · exact Prod.Lex.left _ _ hlt
        · have he : Y.Φ γ (upd pos k (.blk s)) gs.size = Y.Φ γ pos gs.size := Nat.le_antisymm e5 hge
          rw [he]
          refine Prod.Lex.right _ ?_
          have f1 := sumTo_upd pos (Pos.blk s) Pos.fuel hk
          have f2 := sumTo_upd pos (Pos.blk s) Pos.isOn hk
          rw [hpk] at f1 f2
          rw [show (Pos.on s m).fuel = m from rfl, show (Pos.blk s).fuel = 0 from rfl] at f1
          rw [show (Pos.on s m).isOn = 1 from rfl, show (Pos.blk s).isOn = 0 from rfl] at f2
          have f3 : sumTo gs.size (fun a => (upd pos k (Pos.blk s) a).fuel) ≤ sumTo gs.size (fun a => (pos a).fuel) := by omega
          have f4 := Nat.mul_le_mul_left (gs.size + 1) f3
          omega
    | spawn g' child w' es p' pc γ' e1 e2 e3 e4 e5 e6 =>
      refine ⟨γ', upd (upd pos k p') gs.size pc, _, w', sl', _, runT_crowd_spawn hg e1, ?_, ?_⟩
      · have hsz : ((gs.setIfInBounds k g').push child).size = gs.size + 1 := by simp
        refine ⟨fun j hj => ?_, by rw [hsz]; omega, ?_⟩
        · rw [hsz] at hj
          by_cases e : j = gs.size
          · subst e
            refine ⟨child, by rw [Array.getElem?_push]; simp, ?_⟩
            rw [upd_same]; exact e3
          · rw [upd_ne _ _ e]
            have hj' : j < gs.size := by omega
            have hget : ((gs.setIfInBounds k g').push child)[j]? = (gs.setIfInBounds k g')[j]? := by
              rw [Array.getElem?_push]; simp [e]
            by_cases e' : j = k
            · subst e'
              exact ⟨g', by rw [hget]; simp [hk], by rw [upd_same]; exact e2⟩
            · obtain ⟨o, ho, hh2⟩ := hh' j hj'
              refine ⟨o, by rw [hget, Array.getElem?_setIfInBounds_ne (fun x => e' x.symm)]; exact ho, ?_⟩
              rw [upd_ne _ _ e']
              exact Holds.suffer H hh2 (e4 j hj' e')
        · rw [hsz]
          rw [append_push2]
          exact e5 g.frame.place
      · simp only [Array.size_push, Array.size_setIfInBounds]
        exact Prod.Lex.left _ _ e6
  -- an own step that is no operation at a stop
  have lexOf : ∀ (p' : Pos Y.S) (b : Bool), p'.fuel + 1 = (pos k).fuel → Y.Φ γ (upd (wakeIf b pos) k p') gs.size ≤ Y.Φ γ pos gs.size →
      Prod.Lex (· < ·) (· < ·) (Y.meas γ (upd (wakeIf b pos) k p') gs.size) (Y.meas γ pos gs.size) := by
    intro p' b hfu hle
    unfold Sys.meas
    rcases Nat.lt_or_ge (Y.Φ γ (upd (wakeIf b pos) k p') gs.size) (Y.Φ γ pos gs.size) with hlt | hge
    · exact Prod.Lex.left _ _ hlt
    · have he : Y.Φ γ (upd (wakeIf b pos) k p') gs.size = Y.Φ γ pos gs.size := Nat.le_antisymm hle hge
      rw [he]
      refine Prod.Lex.right _ ?_
      have f1 := sumTo_upd (wakeIf b pos) p' Pos.fuel hk
      have f2 := sum_wake_fuel b pos gs.size
      have f3 : (wakeIf b pos k).fuel = (pos k).fuel := by unfold wakeIf; split; exact Pos.wake_fuel _; rfl
      rw [f3] at f1
      have f4 := sum_isOn_le (upd (wakeIf b pos) k p') gs.size
      have f5 : sumTo gs.size (fun a => (upd (wakeIf b pos) k p' a).fuel) + 1 = sumTo gs.size (fun a => (pos a).fuel) := by omega
      rw [← f5, Nat.mul_add]
      omega
  cases hpk : pos k with
  | blk s =>
    rw [hpk] at hp
    rw [hp.1] at hrun; cases hrun
  | quit q dq =>
    rw [hpk] at hp
    obtain ⟨hk0, hq⟩ := hp
    cases q with
    | zero => rw [hq.1] at hrun; cases hrun
    | succ q =>
      rcases hq with hq | ⟨_, g', es, hm, hstep, hq'⟩
      · rw [hq.1] at hrun; cases hrun
      · have hk0' : (k == 0) = false := by simpa using hk0
        have hs' : stepG Y.P (k == 0) g wd = .go g' wd es := by rw [hk0']; exact hstep wd
        obtain ⟨l1, l2⟩ := H.leave γ pos gs.size wd t k q dq es g.frame.fn g.frame.place (mayWake Y.P g) hG' hk hpk hm
        have hne : g'.status ≠ .blocked ∧ g'.status ≠ .waiting := by rcases hq'.status with e | e <;> rw [e] <;> simp
        refine ⟨γ, _, _, wd, sl', _, runT_crowd_go hg hs', inv_go H hk hh' h1 hne.1 hne.2 (p' := .quit q (deafBehind dq es)) ⟨hk0, hq'⟩ (fun j hj e => ?_) l1, ?_⟩
        · have := suffers_draw H (pos j) wd wd.drawn
          exact this
        · simp only [Array.size_setIfInBounds, Array.size_map]
          exact lexOf _ _ (by rw [hpk]; rfl) l2
  | on s m =>
    rw [hpk] at hp
    have hrefl : Y.R s wd wd := by have := H.draw s wd wd.drawn; exact this
    have atStop : (∀ w₁, Y.R s wd w₁ → Y.A s g w₁) → _ := fun ha => fromOut s m hpk (H.op γ pos gs.size wd t k s m g hG' hk hpk (hL' s m hpk (ha wd hrefl)) ha)
    cases m with
    | zero => exact atStop hp
    | succ m =>
      rcases hp with hp | ⟨_, hp⟩
      · exact atStop hp
      · have hx := hp wd hrefl
        cases hsg : stepG Y.P (k == 0) g wd with
        | go g' w' es =>
          rw [hsg] at hx
          simp only [goes_go] at hx
          obtain ⟨hD, hgo⟩ := hx
          obtain ⟨l1, l2, l3⟩ := H.local_ γ pos gs.size wd t k s m w' es g.frame.fn g.frame.place (mayWake Y.P g) hG' hk hpk hD
          have hr' : g'.status = .running := Goes.running (fun g w hg => H.run s g w hg) w' (by have := H.draw s w' w'.drawn; exact this) hgo
          refine ⟨γ, _, _, w', sl', _, runT_crowd_go hg hsg, inv_go H hk hh' h1 (by rw [hr']; simp) (by rw [hr']; simp) (p' := .on s m) hgo l3 l1, ?_⟩
          simp only [Array.size_setIfInBounds, Array.size_map]
          exact lexOf _ _ (by rw [hpk]; rfl) l2
        | _ => rw [hsg] at hx; exact (hx : False).elim

/-- ████ THE RUN COMES TO WHERE GOROUTINE 0 IS TO MOVE AT THE STOP OF A LAST STAGE, ON EVERY TAPE. -/
theorem runs_to_stop (H : Y.Sound) : ∀ (μ : Nat × Nat) (γ : Y.Γ) (pos : Nat → Pos Y.S) (gs : Array Goroutine) (w : World) (sl : Option (Nat × Nat)) (t : Trace),
    Y.meas γ pos gs.size = μ → Y.Inv γ pos gs w t →
    ∃ n γ' pos' gs' w' sl' t', runNT Y.P n (crowd gs w sl) t = (.next (crowd gs' w' sl'), t') ∧ Y.Inv γ' pos' gs' w' t' ∧ Y.Last pos' gs' w' sl' := by
  intro μ
  induction μ using (Prod.lex Nat.lt_wfRel Nat.lt_wfRel).wf.induction with
  | _ μ ih =>
    intro γ pos gs w sl t hμ hI
    rcases step_inv H γ pos gs w sl t hI with hL | ⟨γ', pos', gs', w', sl', ops, hst, hI', hlt⟩
    · exact ⟨0, γ, pos, gs, w, sl, t, rfl, hI, hL⟩
    · obtain ⟨n, γ2, pos2, gs2, w2, sl2, t2, r1, r2, r3⟩ := ih _ (hμ ▸ hlt) γ' pos' gs' w' sl' (t ++ ops) rfl hI'
      exact ⟨n + 1, γ2, pos2, gs2, w2, sl2, t2, by rw [runNT_succ_next hst]; exact r1, r2, r3⟩
end
end Go.Proofs.Ytdkbkocklnnmdaa.mach
