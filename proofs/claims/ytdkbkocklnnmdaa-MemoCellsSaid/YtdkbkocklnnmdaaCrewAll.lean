/-
  A main goroutine that adds and starts workers one by one and waits for them: the stages of all, and how the wait group's two cells hang on where everybody stands. No program here, and no condition.
-/
import Derived.Test.YtdkbkocklnnmdaaMach
import Derived.Conc.WgGenN3
import Derived.Test.YtdkbkocklnnmdaaWgWait
import Derived.Conc.CrowdStepC
set_option linter.unusedVariables false
set_option linter.unusedSectionVars false
namespace Go.Proofs.Ytdkbkocklnnmdaa.crew
open Go Go.Conc Go.Proofs.Ytdkbkocklnnmdaa.mach
open Go.ConcN (upd upd_same upd_ne sumTo sumTo_upd sumTo_congr le_sumTo sumTo_upd_out sumTo_le)
open Go.ConcR (KK)

/-- The stages. 'dis r' .. 'go r': r workers are to be started behind the one at hand. 'kc v u': the count was v as it was read, and u workers had not yet added. -/
inductive Stg where
  | dis (r : Nat) | add (r : Nat) | read (r : Nat) | ena (r : Nat) | go (r : Nat)
  | wdis | wload | wcas (vs : Nat) | wwr | wsem | wld2 | wena | wacq | fin
  | kl | kc (v : Int) (u : Nat) | k0 | k1 | d1 | d2 | d3 | d4

abbrev Ps := Pos Stg
def tagOf : Ps → Option Stg
  | .on s _ => some s
  | .blk s => some s
  | .quit _ _ => none
def wT : Option Stg → Nat
  | some .kl => 9
  | some (.kc _ _) => 8
  | some .k0 => 7
  | some .k1 => 6
  | some .d1 => 5
  | some .d2 => 4
  | some .d3 => 3
  | some .d4 => 2
  | none => 1
  | _ => 0
def wst (p : Ps) : Nat := wT (tagOf p)
def cn (p : Ps) : Nat := if 5 ≤ wst p then 1 else 0
def V (pos : Nat → Ps) (N : Nat) : Nat := sumTo N fun k => cn (pos k)
def pendT : Option Stg → Nat
  | some (.read _) => 1
  | some (.ena _) => 1
  | some (.go _) => 1
  | _ => 0
def openT : Option Stg → Prop
  | some (.dis _) | some (.add _) | some (.read _) | some (.ena _) | some (.go _) | some .wdis | some .wload | some (.wcas _) => True
  | _ => False
def w3T : Option Stg → Prop
  | some .wwr | some .wsem => True
  | _ => False
def finT : Option Stg → Prop
  | some .wld2 | some .wena | some .wacq | some .fin => True
  | _ => False

def OpenW (pos : Nat → Ps) (N0 N : Nat) : Prop := ∀ k, N0 ≤ k → k < N → 5 ≤ wst (pos k) ∨ wst (pos k) = 1
def AllQ (pos : Nat → Ps) (N0 N : Nat) : Prop := ∀ k, N0 ≤ k → k < N → wst (pos k) = 1
def Up (p : Ps) : Prop := ∀ s, p ≠ .blk s

inductive Mode (pos : Nat → Ps) (N0 N : Nat) : Int → Int → Prop
  | opn : openT (tagOf (pos 0)) → OpenW pos N0 N → (∀ vs, tagOf (pos 0) = some (.wcas vs) → V pos N ≤ vs ∧ 1 ≤ vs) → Mode pos N0 N (((V pos N + pendT (tagOf (pos 0)) : Nat) : Int) * KK) 0
  | reg : w3T (tagOf (pos 0)) → OpenW pos N0 N → 1 ≤ V pos N → Mode pos N0 N (((V pos N : Nat) : Int) * KK + 1) 0
  | last (L : Nat) : w3T (tagOf (pos 0)) → N0 ≤ L → L < N → (wst (pos L) = 4 ∨ wst (pos L) = 3 ∨ wst (pos L) = 2) → (∀ k, N0 ≤ k → k < N → k ≠ L → wst (pos k) = 1) → Mode pos N0 N (if wst (pos L) = 2 then 0 else 1) 0
  | sema : w3T (tagOf (pos 0)) → Up (pos 0) → AllQ pos N0 N → Mode pos N0 N 0 1
  | fin : finT (tagOf (pos 0)) → AllQ pos N0 N → Mode pos N0 N 0 0

section
variable {pos pos' : Nat → Ps} {N0 N : Nat} {st sm : Int}

theorem wst_congr {p p' : Ps} (h : tagOf p' = tagOf p) : wst p' = wst p := by unfold wst; rw [h]
theorem V_congr (h : ∀ k, k < N → wst (pos' k) = wst (pos k)) : V pos' N = V pos N := sumTo_congr fun k hk => by simp only [cn, h k hk]

/-- Where everybody stands at the same stage, and main is not put to sleep. -/
theorem Mode.congr (h0 : tagOf (pos' 0) = tagOf (pos 0)) (hu : Up (pos 0) → Up (pos' 0)) (h : ∀ k, k < N → wst (pos' k) = wst (pos k)) (hm : Mode pos N0 N st sm) : Mode pos' N0 N st sm := by
  have hv : V pos' N = V pos N := V_congr h
  cases hm with
  | opn a b c => rw [← hv, ← h0]; exact .opn (by rw [h0]; exact a) (fun k k1 k2 => by rw [h k k2]; exact b k k1 k2) (fun vs e => by rw [hv]; exact c vs (by rw [← h0]; exact e))
  | reg a b c => rw [← hv]; exact .reg (by rw [h0]; exact a) (fun k k1 k2 => by rw [h k k2]; exact b k k1 k2) (by rw [hv]; exact c)
  | last L a b c d e => rw [← h L c]; exact .last L (by rw [h0]; exact a) b c (by rw [h L c]; exact d) (fun k k1 k2 k3 => by rw [h k k2]; exact e k k1 k2 k3)
  | sema a b c => exact .sema (by rw [h0]; exact a) (hu b) (fun k k1 k2 => by rw [h k k2]; exact c k k1 k2)
  | fin a b => exact .fin (by rw [h0]; exact a) (fun k k1 k2 => by rw [h k k2]; exact b k k1 k2)

theorem tag_wake (b : Bool) (k : Nat) : tagOf (wakeIf b pos k) = tagOf (pos k) := by
  unfold wakeIf
  split
  · cases pos k <;> rfl
  · rfl
theorem up_wake (b : Bool) (k : Nat) (h : Up (pos k)) : Up (wakeIf b pos k) := by
  unfold wakeIf
  split
  · revert h
    cases pos k <;> intro h s e
    · cases e
    · cases e
    · cases e
  · exact h
theorem up_woken (k : Nat) : Up (wakeIf true pos k) := by
  unfold wakeIf
  simp only [if_true]
  cases pos k <;> intro s e <;> cases e
theorem Mode.wake (b : Bool) (hm : Mode pos N0 N st sm) : Mode (wakeIf b pos) N0 N st sm :=
  hm.congr (tag_wake b 0) (up_wake b 0) fun k _ => wst_congr (tag_wake b k)

theorem V_upd {k : Nat} (p : Ps) (hk : k < N) : V (upd pos k p) N + cn (pos k) = V pos N + cn p := sumTo_upd pos p cn hk
theorem V_main (p : Ps) (h0 : wst (pos 0) = 0) (hp : wst p = 0) : V (upd pos 0 p) N = V pos N := by
  refine V_congr fun k _ => ?_
  by_cases e : k = 0
  · subst e; rw [upd_same, hp, h0]
  · rw [upd_ne _ _ e]
theorem cn_le (p : Ps) : cn p ≤ 1 := by unfold cn; split <;> omega
theorem V_pos {k : Nat} (hk : k < N) (h : 5 ≤ wst (pos k)) : 1 ≤ V pos N := by
  have := le_sumTo (f := fun k => cn (pos k)) hk
  have hc : cn (pos k) = 1 := by unfold cn; rw [if_pos h]
  simp only [V]; omega
theorem V_zero (hq : ∀ k, k < N → wst (pos k) < 5) : V pos N = 0 := by
  have : sumTo N (fun k => cn (pos k)) = sumTo N (fun _ => 0) := sumTo_congr fun k hk => by unfold cn; rw [if_neg (by have := hq k hk; omega)]
  rw [V, this]
  have := sumTo_le (f := fun _ : Nat => 0) (c := 0) (j := N) fun _ _ => Nat.le_refl 0
  omega
theorem of_V_zero (h : V pos N = 0) {k : Nat} (hk : k < N) : wst (pos k) < 5 := by
  rcases Nat.lt_or_ge (wst (pos k)) 5 with h5 | h5
  · exact h5
  · have := V_pos hk h5; omega
/-- If one alone is counted, the others are not. -/
theorem others_uncounted {k : Nat} (hk : k < N) (h1 : V pos N = 1) (hc : 5 ≤ wst (pos k)) : ∀ a, a < N → a ≠ k → wst (pos a) < 5 := by
  intro a ha e
  have h0 := V_upd (pos := pos) (.quit 0 0) hk
  have c0 : cn (.quit 0 0) = 0 := rfl
  have c1 : cn (pos k) = 1 := by unfold cn; rw [if_pos hc]
  have hz : V (upd pos k (.quit 0 0)) N = 0 := by omega
  have := of_V_zero hz ha
  rwa [upd_ne _ _ e] at this

/-! ### a worker's steps -/
section
variable {k : Nat} (k0 : N0 ≤ k) (kN : k < N) (k1 : k ≠ 0)
include k0 kN k1

theorem Mode.counted (hm : Mode pos N0 N st sm) {p : Ps} (h5 : 5 ≤ wst (pos k)) (hp : 5 ≤ wst p) : Mode (upd pos k p) N0 N st sm := by
  have e0 : upd pos k p 0 = pos 0 := upd_ne _ _ (fun e => k1 e.symm)
  have hv : V (upd pos k p) N = V pos N := by
    have := V_upd (pos := pos) p kN
    have c1 : cn (pos k) = 1 := by unfold cn; rw [if_pos h5]
    have c2 : cn p = 1 := by unfold cn; rw [if_pos hp]
    omega
  have ho : OpenW pos N0 N → OpenW (upd pos k p) N0 N := fun h a a1 a2 => by
    by_cases e : a = k
    · subst e; rw [upd_same]; exact .inl hp
    · rw [upd_ne _ _ e]; exact h a a1 a2
  cases hm with
  | opn a b c => rw [← hv, ← e0]; exact .opn (by rw [e0]; exact a) (ho b) (fun vs e => by rw [hv]; exact c vs (by rw [← e0]; exact e))
  | reg a b c => rw [← hv]; exact .reg (by rw [e0]; exact a) (ho b) (by rw [hv]; exact c)
  | last L a b c d e =>
    by_cases x : k = L
    · subst x; omega
    · have := e k k0 kN x; omega
  | sema a b c => have := c k k0 kN; omega
  | fin a b => have := b k k0 kN; omega

/-- THE ADD OF -1. -/
theorem Mode.minus (hm : Mode pos N0 N st sm) (hN : N < 2147483648) (h5 : wst (pos k) = 5) :
    ∃ v wt : Nat, wt ≤ 1 ∧ v < 2147483647 ∧ st = ((v : Int) + 1) * KK + wt ∧ sm = 0 ∧ ((v = 0 ∧ wt = 1) → ∀ p, wst p = 4 → Mode (upd pos k p) N0 N ((v : Int) * KK + wt) 0) ∧
      (¬ (v = 0 ∧ wt = 1) → ∀ p, wst p = 1 → Mode (upd pos k p) N0 N ((v : Int) * KK + wt) 0) := by
  have h5' : 5 ≤ wst (pos k) := by omega
  have c1 : cn (pos k) = 1 := by unfold cn; rw [if_pos h5']
  have hV1 := V_pos kN h5'
  have hVN : V pos N ≤ N := by
    have := sumTo_le (f := fun k => cn (pos k)) (c := 1) (j := N) fun i _ => cn_le _
    simp only [V]; omega
  have ho : ∀ p, wst p = 1 → OpenW pos N0 N → OpenW (upd pos k p) N0 N := fun p hp h a a1 a2 => by
    by_cases e : a = k
    · subst e; rw [upd_same]; exact .inr hp
    · rw [upd_ne _ _ e]; exact h a a1 a2
  have e0 : ∀ p, upd pos k p 0 = pos 0 := fun p => upd_ne _ _ (fun e => k1 e.symm)
  have hv : ∀ p, wst p < 5 → V (upd pos k p) N + 1 = V pos N := fun p hp => by
    have := V_upd (pos := pos) p kN
    have c2 : cn p = 0 := by unfold cn; rw [if_neg (by omega)]
    omega
  cases hm with
  | opn a b c =>
    have hp1 : pendT (tagOf (pos 0)) ≤ 1 := by unfold pendT; split <;> omega
    refine ⟨V pos N + pendT (tagOf (pos 0)) - 1, 0, by omega, ?_, ?_, rfl, fun h => by omega, fun _ p hp => ?_⟩
    · -- main itself is not counted
      have hk0 : V pos N ≤ N - 1 := by
        have h0 : cn (pos 0) = 0 := by
          unfold cn wst
          revert a
          cases tagOf (pos 0) with
          | none => intro a; exact a.elim
          | some s => cases s <;> intro a <;> first | rfl | exact a.elim
        have := V_upd (pos := pos) (.on .d1 0) (show 0 < N by omega)
        have c2 : cn (.on .d1 0) = 1 := rfl
        have h3 := sumTo_le (f := fun i => cn (upd pos 0 (.on .d1 0) i)) (c := 1) (j := N) fun i _ => cn_le _
        simp only [V] at *
        omega
      omega
    · have : ((V pos N + pendT (tagOf (pos 0)) - 1 : Nat) : Int) + 1 = ((V pos N + pendT (tagOf (pos 0)) : Nat) : Int) := by omega
      rw [this]; simp
    · have hv' := hv p (by omega)
      have e : ((V pos N + pendT (tagOf (pos 0)) - 1 : Nat) : Int) * KK + ((0 : Nat) : Int) = (((V (upd pos k p) N + pendT (tagOf (upd pos k p 0)) : Nat) : Int)) * KK := by
        rw [e0]
        have : V pos N + pendT (tagOf (pos 0)) - 1 = V (upd pos k p) N + pendT (tagOf (pos 0)) := by omega
        rw [this]; simp
      rw [e]
      exact .opn (by rw [e0]; exact a) (ho p hp b) (fun vs x => by have := c vs (by rw [← e0 p]; exact x); omega)
  | reg a b c =>
    refine ⟨V pos N - 1, 1, by omega, by omega, ?_, rfl, fun h p hp => ?_, fun h p hp => ?_⟩
    · have : ((V pos N - 1 : Nat) : Int) + 1 = ((V pos N : Nat) : Int) := by omega
      rw [this]; simp
    · have hV : V pos N = 1 := by omega
      have ou := others_uncounted kN hV h5'
      have := Mode.last (pos := upd pos k p) (N0 := N0) (N := N) k (by rw [e0]; exact a) k0 kN (by rw [upd_same]; exact .inl hp) (fun x x0 xN xk => by
        rw [upd_ne _ _ xk]
        rcases b x x0 xN with h' | h'
        · have := ou x xN xk; omega
        · exact h')
      rw [upd_same, hp] at this
      rw [h.1]
      simpa using this
    · have hv' := hv p (by omega)
      have e : ((V pos N - 1 : Nat) : Int) * KK + ((1 : Nat) : Int) = ((V (upd pos k p) N : Nat) : Int) * KK + 1 := by
        have : V pos N - 1 = V (upd pos k p) N := by omega
        rw [this]; simp
      rw [e]
      exact .reg (by rw [e0]; exact a) (ho p hp b) (by omega)
  | last L a b c d e =>
    by_cases x : k = L
    · subst x; omega
    · have := e k k0 kN x; omega
  | sema a b c => have := c k k0 kN; omega
  | fin a b => have := b k k0 kN; omega

/-- Whoever stands at stage 4, 3 or 2 is the last one. -/
theorem Mode.isLast (hm : Mode pos N0 N st sm) (h : wst (pos k) = 4 ∨ wst (pos k) = 3 ∨ wst (pos k) = 2) :
    w3T (tagOf (pos 0)) ∧ (∀ a, N0 ≤ a → a < N → a ≠ k → wst (pos a) = 1) ∧ st = (if wst (pos k) = 2 then 0 else 1) ∧ sm = 0 := by
  cases hm with
  | opn a b c => have := b k k0 kN; omega
  | reg a b c => have := b k k0 kN; omega
  | last L a b c d e =>
    by_cases x : k = L
    · subst x; exact ⟨a, e, rfl, rfl⟩
    · have := e k k0 kN x; omega
  | sema a b c => have := c k k0 kN; omega
  | fin a b => have := b k k0 kN; omega
theorem Mode.lastOn (ha : w3T (tagOf (pos 0))) (hq : ∀ a, N0 ≤ a → a < N → a ≠ k → wst (pos a) = 1) {p : Ps} (hp : wst p = 3 ∨ wst p = 2) : Mode (upd pos k p) N0 N (if wst p = 2 then 0 else 1) 0 := by
  have := Mode.last (pos := upd pos k p) (N0 := N0) (N := N) k (by rw [upd_ne _ _ (fun e => k1 e.symm)]; exact ha) k0 kN (by rw [upd_same]; omega) (fun a a0 aN ak => by rw [upd_ne _ _ ak]; exact hq a a0 aN ak)
  rwa [upd_same] at this
theorem Mode.lastOut (ha : w3T (tagOf (pos 0))) (hu : Up (pos 0)) (hq : ∀ a, N0 ≤ a → a < N → a ≠ k → wst (pos a) = 1) {p : Ps} (hp : wst p = 1) : Mode (upd pos k p) N0 N 0 1 :=
  .sema (by rw [upd_ne _ _ (fun e => k1 e.symm)]; exact ha) (by rw [upd_ne _ _ (fun e => k1 e.symm)]; exact hu) (fun a a0 aN => by
    by_cases e : a = k
    · subst e; rw [upd_same]; exact hp
    · rw [upd_ne _ _ e]; exact hq a a0 aN e)
end
end
end Go.Proofs.Ytdkbkocklnnmdaa.crew
/-
  A main goroutine that starts workers and waits for them: main's own steps keep the law that ties the wait group's cells to where everybody stands. No program here, and no condition.
-/
set_option linter.unusedVariables false
set_option linter.unusedSectionVars false
namespace Go.Proofs.Ytdkbkocklnnmdaa.crew
open Go Go.Conc Go.Proofs.Ytdkbkocklnnmdaa.mach
open Go.ConcN (upd upd_same upd_ne sumTo sumTo_upd sumTo_congr le_sumTo sumTo_upd_out sumTo_le)
open Go.ConcR (KK)

section
variable {pos : Nat → Ps} {N0 N : Nat} {st sm : Int}
theorem Mode.openInv (hm : Mode pos N0 N st sm) (ho : openT (tagOf (pos 0))) :
    OpenW pos N0 N ∧ (∀ vs, tagOf (pos 0) = some (.wcas vs) → V pos N ≤ vs ∧ 1 ≤ vs) ∧ st = ((V pos N + pendT (tagOf (pos 0)) : Nat) : Int) * KK ∧ sm = 0 := by
  have no3 : ¬ w3T (tagOf (pos 0)) := by
    revert ho
    cases tagOf (pos 0) with
    | none => exact fun h => h.elim
    | some s => cases s <;> intro h <;> first | exact fun x => x | exact h.elim
  have noF : ¬ finT (tagOf (pos 0)) := by
    revert ho
    cases tagOf (pos 0) with
    | none => exact fun h => h.elim
    | some s => cases s <;> intro h <;> first | exact fun x => x | exact h.elim
  cases hm with
  | opn a b c => exact ⟨b, c, rfl, rfl⟩
  | reg a b c => exact absurd a no3
  | last L a b c d e => exact absurd a no3
  | sema a b c => exact absurd a no3
  | fin a b => exact absurd a noF
theorem Mode.finInv (hm : Mode pos N0 N st sm) (ho : finT (tagOf (pos 0))) : AllQ pos N0 N ∧ st = 0 ∧ sm = 0 := by
  have no3 : ¬ w3T (tagOf (pos 0)) := by
    revert ho
    cases tagOf (pos 0) with
    | none => exact fun h => h.elim
    | some s => cases s <;> intro h <;> first | exact fun x => x | exact h.elim
  have noO : ¬ openT (tagOf (pos 0)) := by
    revert ho
    cases tagOf (pos 0) with
    | none => exact fun h => h.elim
    | some s => cases s <;> intro h <;> first | exact fun x => x | exact h.elim
  cases hm with
  | opn a b c => exact absurd a noO
  | reg a b c => exact absurd a no3
  | last L a b c d e => exact absurd a no3
  | sema a b c => exact absurd a no3
  | fin a b => exact ⟨b, rfl, rfl⟩
theorem Mode.w3Inv (hm : Mode pos N0 N st sm) (ho : w3T (tagOf (pos 0))) :
    (sm = 0) ∨ (sm = 1 ∧ st = 0 ∧ AllQ pos N0 N) := by
  cases hm with
  | opn a b c => exact .inl rfl
  | reg a b c => exact .inl rfl
  | last L a b c d e => exact .inl rfl
  | sema a b c => exact .inr ⟨rfl, rfl, c⟩
  | fin a b => exact .inl rfl

theorem openW_main (p : Ps) (h0 : 1 ≤ N0) (h : OpenW pos N0 N) : OpenW (upd pos 0 p) N0 N := fun k a b => by rw [upd_ne _ _ (by omega)]; exact h k a b
theorem allQ_main (p : Ps) (h0 : 1 ≤ N0) (h : AllQ pos N0 N) : AllQ (upd pos 0 p) N0 N := fun k a b => by rw [upd_ne _ _ (by omega)]; exact h k a b

theorem wst0_of_open {p : Ps} (h : openT (tagOf p)) : wst p = 0 := by
  unfold wst; revert h
  cases tagOf p with
  | none => exact fun h => h.elim
  | some s => cases s <;> intro h <;> first | rfl | exact h.elim
theorem wst0_of_w3 {p : Ps} (h : w3T (tagOf p)) : wst p = 0 := by
  unfold wst; revert h
  cases tagOf p with
  | none => exact fun h => h.elim
  | some s => cases s <;> intro h <;> first | rfl | exact h.elim
theorem wst0_of_fin {p : Ps} (h : finT (tagOf p)) : wst p = 0 := by
  unfold wst; revert h
  cases tagOf p with
  | none => exact fun h => h.elim
  | some s => cases s <;> intro h <;> first | rfl | exact h.elim

theorem Mode.openMk (h0 : 1 ≤ N0) (hz : wst (pos 0) = 0) {p : Ps} (ho : openT (tagOf p)) (hW : OpenW pos N0 N) (hc : ∀ vs, tagOf p = some (.wcas vs) → V pos N ≤ vs ∧ 1 ≤ vs) :
    Mode (upd pos 0 p) N0 N (((V pos N + pendT (tagOf p) : Nat) : Int) * KK) 0 := by
  have hv := V_main (N := N) p hz (wst0_of_open ho)
  have := Mode.opn (pos := upd pos 0 p) (N0 := N0) (N := N) (by rw [upd_same]; exact ho) (openW_main p h0 hW) (fun vs e => by rw [hv]; rw [upd_same] at e; exact hc vs e)
  rwa [hv, upd_same] at this
theorem Mode.regMk (h0 : 1 ≤ N0) (hz : wst (pos 0) = 0) {p : Ps} (ho : w3T (tagOf p)) (hW : OpenW pos N0 N) (hc : 1 ≤ V pos N) : Mode (upd pos 0 p) N0 N (((V pos N : Nat) : Int) * KK + 1) 0 := by
  have hv := V_main (N := N) p hz (wst0_of_w3 ho)
  have := Mode.reg (pos := upd pos 0 p) (N0 := N0) (N := N) (by rw [upd_same]; exact ho) (openW_main p h0 hW) (by rw [hv]; exact hc)
  rwa [hv] at this
theorem Mode.finMk (h0 : 1 ≤ N0) {p : Ps} (ho : finT (tagOf p)) (hQ : AllQ pos N0 N) : Mode (upd pos 0 p) N0 N 0 0 := .fin (by rw [upd_same]; exact ho) (allQ_main p h0 hQ)
theorem Mode.w3Mk (h0 : 1 ≤ N0) (hm : Mode pos N0 N st sm) (h3 : w3T (tagOf (pos 0))) {p : Ps} (ho : w3T (tagOf p)) (hu : sm = 1 → Up p) : Mode (upd pos 0 p) N0 N st sm := by
  have hv := V_main (N := N) p (wst0_of_w3 h3) (wst0_of_w3 ho)
  have e : ∀ k, k < N → wst (upd pos 0 p k) = wst (pos k) := fun k _ => by
    by_cases x : k = 0
    · subst x; rw [upd_same, wst0_of_w3 h3, wst0_of_w3 ho]
    · rw [upd_ne _ _ x]
  have same : tagOf (upd pos 0 p 0) = tagOf p := by rw [upd_same]
  cases hm with
  | opn a b c => revert a h3; cases tagOf (pos 0) with
    | none => exact fun h => h.elim
    | some s => cases s <;> intro h3 a <;> first | exact a.elim | exact h3.elim
  | reg a b c => exact .regMk h0 (wst0_of_w3 h3) ho b c
  | last L a b c d f =>
    have hL : wst (upd pos 0 p L) = wst (pos L) := e L c
    rw [← hL]
    exact .last L (by rw [same]; exact ho) b c (by rw [hL]; exact d) (fun k k0 kN kL => by rw [e k kN]; exact f k k0 kN kL)
  | sema a b c => exact .sema (by rw [same]; exact ho) (by rw [upd_same]; exact hu rfl) (allQ_main p h0 c)
  | fin a b => revert a h3; cases tagOf (pos 0) with
    | none => exact fun h => h.elim
    | some s => cases s <;> intro h3 a <;> first | exact a.elim | exact h3.elim

theorem allQ_of_zero (hW : OpenW pos N0 N) (hV : V pos N = 0) : AllQ pos N0 N := fun k a b => by
  rcases hW k a b with h | h
  · have := of_V_zero hV b; omega
  · exact h

theorem sumTo_succ (f : Nat → Nat) (n : Nat) : sumTo (n + 1) f = sumTo n f + f n := rfl
/-- A worker is started. -/
theorem Mode.born (h0 : 1 ≤ N0) (hN : N0 ≤ N) (hm : Mode pos N0 N st sm) {r : Nat} {f : Nat} (hg : pos 0 = .on (.go r) f) {p pc : Ps} (hp : openT (tagOf p)) (hpp : pendT (tagOf p) = 0) (hnc : ∀ vs, tagOf p ≠ some (.wcas vs))
    (hc : 5 ≤ wst pc) : Mode (upd (upd pos 0 p) N pc) N0 (N + 1) st sm ∧ V (upd (upd pos 0 p) N pc) (N + 1) = V pos N + 1 := by
  have ho : openT (tagOf (pos 0)) := by rw [hg]; trivial
  obtain ⟨a, b, rfl, rfl⟩ := hm.openInv ho
  have hpend : pendT (tagOf (pos 0)) = 1 := by rw [hg]; rfl
  have hv : V (upd (upd pos 0 p) N pc) (N + 1) = V pos N + 1 := by
    have e1 : V (upd (upd pos 0 p) N pc) N = V (upd pos 0 p) N := V_congr fun k hk => by rw [upd_ne _ _ (by omega)]
    have e2 := V_main (pos := pos) (N := N) p (wst0_of_open ho) (wst0_of_open hp)
    have e3 : cn (upd (upd pos 0 p) N pc N) = 1 := by rw [upd_same]; unfold cn; rw [if_pos hc]
    have e4 : V (upd (upd pos 0 p) N pc) (N + 1) = V (upd (upd pos 0 p) N pc) N + cn (upd (upd pos 0 p) N pc N) := rfl
    omega
  refine ⟨?_, hv⟩
  have e0 : upd (upd pos 0 p) N pc 0 = p := by rw [upd_ne _ _ (by omega), upd_same]
  have := Mode.opn (pos := upd (upd pos 0 p) N pc) (N0 := N0) (N := N + 1) (by rw [e0]; exact hp) (fun k k0 kN => by
      by_cases x : k = N
      · subst x; rw [upd_same]; exact .inl hc
      · rw [upd_ne _ _ x, upd_ne _ _ (by omega)]; exact a k k0 (by omega)) (fun vs e => by rw [e0] at e; exact absurd e (hnc vs))
  rw [hv, e0, hpp] at this
  rw [hpend]
  exact this
end
end Go.Proofs.Ytdkbkocklnnmdaa.crew
/-
  A main goroutine that starts workers and waits for them: what holds of the whole at every moment (where everybody stands, the world, the trace), and how it is kept by a step of a worker and by a step of main. Conditions: those that the theorems name.
-/
set_option linter.unusedVariables false
set_option linter.unusedSectionVars false
namespace Go.Proofs.Ytdkbkocklnnmdaa.crew
open Go Go.Conc Go.Proofs.Ytdkbkocklnnmdaa.mach Go.Proofs.Ytdkbkocklnnmdaa.wg
open Go.ConcN (upd upd_same upd_ne sumTo sumTo_upd sumTo_congr le_sumTo sumTo_upd_out sumTo_le CT OkW Ok0 Apart RelBy WgLive RelBy.appOther RelBy.appOwn RelBy.new RelBy.book handedOver_all)
open Go.ConcR (KK WgAt stA smA rd wr mk DC0 Bk g_of_ofEvents)

def CntAt (Cn : Nat) (w : World) (v : Int) : Prop := w.heap[Cn]? = some (.cells #[.int .i64 v] 62)

/-- What all suffer in a phase: the group's block and the count's stay such blocks; all other blocks stand. -/
structure Rm (Wg Cn : Nat) (w w₁ : World) : Prop where
  blocks : ∀ b, b ≠ Wg → b ≠ Cn → w₁.heap[b]? = w.heap[b]?
  size : w₁.heap.size = w.heap.size
  tape : w₁.tape = w.tape
  os : w₁.os = w.os
  output : w₁.output = w.output
  live : WgLive 96 Wg w → WgLive 96 Wg w₁
  cnt : (∃ v, CntAt Cn w v) → ∃ v, CntAt Cn w₁ v

section
variable {Wg Cn : Nat} {w w₁ w₂ : World}
theorem Rm.refl (w : World) : Rm Wg Cn w w := ⟨fun _ _ _ => rfl, rfl, rfl, rfl, rfl, id, id⟩
theorem Rm.trans (h : Rm Wg Cn w w₁) (h' : Rm Wg Cn w₁ w₂) : Rm Wg Cn w w₂ :=
  ⟨fun b a c => (h'.blocks b a c).trans (h.blocks b a c), h'.size.trans h.size, h'.tape.trans h.tape, h'.os.trans h.os, h'.output.trans h.output, h'.live ∘ h.live, h'.cnt ∘ h.cnt⟩
theorem Rm.at (w : World) (d : Nat) : Rm Wg Cn w (w.at d) := ⟨fun _ _ _ => rfl, rfl, rfl, rfl, rfl, id, id⟩
theorem Rm.of_wg (hne : Cn ≠ Wg) (h : Aside Wg w w₁) (hl : WgLive 96 Wg w₁) : Rm Wg Cn w w₁ :=
  ⟨fun b a _ => h.block b a, h.size, h.tape, h.os, h.output, fun _ => hl, fun ⟨v, hv⟩ => ⟨v, (h.block Cn hne).trans hv⟩⟩
theorem Rm.of_cnt (hne : Cn ≠ Wg) (h : Aside Cn w w₁) {v : Int} (hl : CntAt Cn w₁ v) : Rm Wg Cn w w₁ :=
  ⟨fun b _ a => h.block b a, h.size, h.tape, h.os, h.output, fun ⟨st, sm, x⟩ => ⟨st, sm, x.of_block (h.block Wg hne.symm)⟩, fun _ => ⟨v, hl⟩⟩
end

/-- A phase. -/
structure Par where
  Wg : Nat
  Cn : Nat
  Bc : Nat
  Bb : Nat
  N0 : Nat
  n : Nat
  w0 : World
  Sh : Loc → Prop
  Rd : Nat → Loc → Prop
  /-- All that the trace touches. -/
  Lw : Loc → Prop
  useC : Prop
  val : Nat → Int

def noOwn : Nat → Loc → Prop := fun _ _ => False

structure Par.Ok (p : Par) : Prop where
  n0 : 1 ≤ p.N0
  small : p.N0 + p.n < 2147483648
  cw : p.Cn ≠ p.Wg
  bw : p.Bb ≠ p.Wg
  bc : p.Bb ≠ p.Cn
  cellw : ∀ a : Addr, a.block = p.Wg → p.Sh (.cell a)
  cellc : p.useC → ∀ a : Addr, a.block = p.Cn → p.Sh (.cell a)
  rdc : ∀ k, p.N0 ≤ k → ∀ a : Addr, a.block = p.Bc ∨ a.block = p.Bb → p.Rd k (.cell a)
  apart : Apart p.Sh noOwn p.Rd
  lwS : ∀ l, p.Sh l → p.Lw l
  lwR : ∀ k l, p.Rd k l → p.Lw l

/-- An operation touches nothing beyond 'Lw'; a worker's atomic steps touch shared places alone. -/
def Par.Fine (p : Par) (op : MemOp) : Prop := ∀ x, op.act.touch? = some x → p.Lw x.loc ∧ (op.g ≠ 0 → ¬ p.Sh x.loc → x.kind ≠ .atomic)

/-- How deaf. -/
def dfn : Ps → Nat
  | .on (.add _) _ | .on (.read _) _ | .on (.ena _) _ => 1
  | .on .wload _ | .on (.wcas _) _ | .on .wwr _ | .on .wsem _ | .on .wld2 _ | .on .wena _ => 1
  | .on .d1 _ | .on .d2 _ | .on .d3 _ | .on .d4 _ => 1
  | .blk _ => 1
  | .quit _ d => d
  | _ => 0
def remT : Option Stg → Nat
  | some (.dis r) | some (.add r) | some (.read r) | some (.ena r) | some (.go r) => r + 1
  | _ => 0
/-- What goroutines below N have done is handed over to goroutine 0. -/
def Handed (N : Nat) (t : Trace) : Prop := ∀ i g, t.g? i = some g → g ≠ 0 → g < N → t.counts i → ∃ q, t.g? q = some 0 ∧ HappensBefore t i q
/-- How many have not yet added. -/
def Un (p : Par) (pos : Nat → Ps) (N : Nat) : Nat := (p.N0 + p.n - N) + sumTo N fun k => if 8 ≤ wst (pos k) then 1 else 0
def Cnt (p : Par) (pos : Nat → Ps) (N : Nat) (w : World) : Prop :=
  (p.useC → CntAt p.Cn w (p.val (p.n - Un p pos N)) ∧ ∀ k, k < N → ∀ v u, tagOf (pos k) = some (.kc v u) → Un p pos N ≤ u ∧ (u = Un p pos N → v = p.val (p.n - u))) ∧
  (¬ p.useC → ∀ k, k < N → wst (pos k) ≤ 7)

/-- Where everybody stands fits. -/
structure Fits (p : Par) (pos : Nat → Ps) (N : Nat) : Prop where
  main : openT (tagOf (pos 0)) ∨ w3T (tagOf (pos 0)) ∨ finT (tagOf (pos 0))
  blk : ∀ s, pos 0 = .blk s → s = .wsem
  size : N + remT (tagOf (pos 0)) = p.N0 + p.n
  ge : p.N0 ≤ N
  old : ∀ k, 1 ≤ k → k < p.N0 → wst (pos k) = 1
  wk : ∀ k, p.N0 ≤ k → k < N → 1 ≤ wst (pos k) ∧ Up (pos k)

structure Glob (p : Par) (pos : Nat → Ps) (N : Nat) (w : World) (t : Trace) : Prop where
  fits : Fits p pos N
  df : ∀ k, k < N → Deaf t k = dfn (pos k)
  ct : CT p.Sh noOwn p.Rd t (N - 1)
  norel : ∀ ar : Addr, NoRelease ar t
  rel : ∀ k, p.N0 ≤ k → k < N → wst (pos k) ≤ 6 → ∃ r, RelBy (stA p.Wg) t k r
  hand : Handed p.N0 t
  all : tagOf (pos 0) = some .fin → Handed N t
  world : Rm p.Wg p.Cn p.w0 w
  wg : ∃ st sm, WgAt 96 p.Wg w st sm ∧ Mode pos p.N0 N st sm
  cnt : Cnt p pos N w
  fine : ∀ op ∈ t, p.Fine op

theorem fine_app {p : Par} {t u : Trace} (h : ∀ op ∈ t, p.Fine op) (hu : ∀ op ∈ u, p.Fine op) : ∀ op ∈ t ++ u, p.Fine op := fun op hop => (Array.mem_append.1 hop).elim (h op) (hu op)
theorem norel_all {g : Nat} {fn : FuncId} {pl : String} {es : Array Event} (h : ∀ e ∈ es, ∀ ar : Addr, e.loc ≠ .mark (.release ar)) (ar : Addr) : ∀ op ∈ MemOp.ofEvents g fn pl es, op.act ≠ .mark (.release ar) := by
  intro op hop e
  rw [ofEvents_eq] at hop
  obtain ⟨x, hx, rfl⟩ := Array.mem_map.1 hop
  exact h x hx ar (Go.ConcR.loc_of_ofEvent e)
theorem fine_mute {p : Par} {op : MemOp} (h : op.act.touch? = none) : p.Fine op := fun x hx => by rw [h] at hx; cases hx

section
variable {p : Par} {pos pos' : Nat → Ps} {N : Nat} {w w' : World} {t u : Trace}

theorem Handed.app {M : Nat} (h : Handed M t) (hu : ∀ i, t.size ≤ i → ∀ g, (t ++ u).g? i = some g → g ≠ 0 → g < M → ¬ (t ++ u).counts i) : Handed M (t ++ u) := by
  intro i g hg h0 hM hc
  rcases Nat.lt_or_ge i t.size with hlt | hge
  · rw [g?_old hlt] at hg
    rw [counts_old hlt] at hc
    obtain ⟨q, h1, h2⟩ := h i g hg h0 hM hc
    have hq : q < t.size := by
      obtain ⟨op, ho, _⟩ := Option.map_eq_some_iff.1 h1
      exact lt_size_of_getElem? ho
    exact ⟨q, by rw [g?_old hq]; exact h1, hb_app u h2⟩
  · exact absurd hc (hu i hge g hg h0 hM)
/-- Operations of a goroutine that is none of them. -/
theorem Handed.appOther {M k : Nat} (h : Handed M t) (hu : ∀ op ∈ u, op.g = k) (hk : k = 0 ∨ M ≤ k) : Handed M (t ++ u) := by
  refine h.app fun i hi g hg h0 hM => ?_
  obtain ⟨op, ho, hog⟩ := Option.map_eq_some_iff.1 hg
  rcases getElem?_append_cases ho with ⟨hlt, _⟩ | ⟨_, hou⟩
  · omega
  · have := hu op hou; omega
/-- Operations that touch nothing. -/
theorem Handed.appMute {M : Nat} (h : Handed M t) (hu : ∀ op ∈ u, op.act.touch? = none) : Handed M (t ++ u) := by
  refine h.app fun i hi g hg h0 hM hc => ?_
  obtain ⟨x, hx, _⟩ := hc
  obtain ⟨act, hact, hxt⟩ := Option.bind_eq_some_iff.1 hx
  obtain ⟨op, ho, rfl⟩ := Option.map_eq_some_iff.1 hact
  rcases getElem?_append_cases ho with ⟨hlt, _⟩ | ⟨_, hou⟩
  · omega
  · rw [hu op hou] at hxt; cases hxt

theorem Un_congr (h : ∀ k, k < N → wst (pos' k) = wst (pos k)) : Un p pos' N = Un p pos N := by
  unfold Un
  rw [show (sumTo N fun k => if 8 ≤ wst (pos' k) then 1 else 0) = sumTo N fun k => if 8 ≤ wst (pos k) then 1 else 0 from sumTo_congr fun k hk => by rw [h k hk]]
theorem Cnt.congr (ht : ∀ k, k < N → tagOf (pos' k) = tagOf (pos k)) (h : Cnt p pos N w) : Cnt p pos' N w := by
  have hU : Un p pos' N = Un p pos N := Un_congr fun k hk => wst_congr (ht k hk)
  refine ⟨fun hc => ?_, fun hc k hk => ?_⟩
  · rw [hU]
    exact ⟨(h.1 hc).1, fun k hk v u e => (h.1 hc).2 k hk v u (by rw [← ht k hk]; exact e)⟩
  · rw [wst_congr (ht k hk)]; exact h.2 hc k hk
theorem Fits.congr (h : Fits p pos N) (ht : ∀ k, k < N → tagOf (pos' k) = tagOf (pos k)) (hb : ∀ s, pos' 0 = .blk s → s = .wsem) (hu : ∀ k, p.N0 ≤ k → k < N → Up (pos k) → Up (pos' k)) (h1 : 1 ≤ p.N0) : Fits p pos' N := by
  have h0 : tagOf (pos' 0) = tagOf (pos 0) := ht 0 (by have := h.ge; omega)
  exact ⟨by rw [h0]; exact h.main, hb, by rw [h0]; exact h.size, h.ge, fun k a b => by rw [wst_congr (ht k (by have := h.ge; omega))]; exact h.old k a b,
    fun k a b => ⟨by rw [wst_congr (ht k b)]; exact (h.wk k a b).1, hu k a b (h.wk k a b).2⟩⟩

theorem dfn_wake (b : Bool) (k : Nat) (hb : ∀ s, pos k = .blk s → s = .wsem) : dfn (wakeIf b pos k) = dfn (pos k) := by
  unfold wakeIf
  split
  · cases e : pos k with
    | on s m => rfl
    | blk s => rw [hb s e]; rfl
    | quit q d => rfl
  · rfl
theorem Fits.blk' (h : Fits p pos N) (h1 : 1 ≤ p.N0) {k : Nat} (hk : k < N) : ∀ s, pos k = .blk s → s = .wsem := by
  intro s e
  by_cases h0 : k = 0
  · subst h0; exact h.blk s e
  · rcases Nat.lt_or_ge k p.N0 with hlt | hge
    · have := h.old k (by omega) hlt
      rw [e] at this
      revert this
      unfold wst tagOf wT
      cases s <;> simp
    · exact absurd e ((h.wk k hge hk).2 s)

theorem Glob.size (h : Glob p pos N w t) (O : p.Ok) : 1 ≤ N := by have := h.fits.ge; have := O.n0; omega
theorem Glob.wake (O : p.Ok) (b : Bool) (h : Glob p pos N w t) : Glob p (wakeIf b pos) N w t := by
  obtain ⟨st, sm, hw, hm⟩ := h.wg
  refine ⟨h.fits.congr (fun k _ => tag_wake b k) (fun s e => ?_) (fun k _ _ hu => up_wake b k hu) O.n0, fun k hk => by rw [dfn_wake b k (h.fits.blk' O.n0 hk)]; exact h.df k hk, h.ct, h.norel, fun k a c d => h.rel k a c (by rw [← wst_congr (tag_wake b k)]; exact d), h.hand,
    fun e => h.all (by rw [← tag_wake b 0]; exact e), h.world, ⟨st, sm, hw, hm.wake b⟩, h.cnt.congr fun k _ => tag_wake b k, h.fine⟩
  have e' := tag_wake (pos := pos) b 0
  rw [e] at e'
  cases e2 : pos 0 with
  | on s' m => unfold wakeIf at e; rw [e2] at e; split at e <;> cases e
  | blk s' => unfold wakeIf at e; rw [e2] at e; split at e
              · cases e
              · injection e with e3; rw [← e3]; exact h.fits.blk s' e2
  | quit q d => unfold wakeIf at e; rw [e2] at e; split at e <;> cases e

theorem Glob.at (h : Glob p pos N w t) (d : Nat) : Glob p pos N (w.at d) t :=
  ⟨h.fits, h.df, h.ct, h.norel, h.rel, h.hand, h.all, h.world.trans (Rm.at w d), h.wg, h.cnt, h.fine⟩

/-- A STEP OF A WORKER's. -/
theorem Glob.worker (O : p.Ok) (h : Glob p pos N w t) {k : Nat} (k0 : p.N0 ≤ k) (kN : k < N) {q : Ps} {fn : FuncId} {place : String} {es : Array Event} {st sm : Int} (hw : Rm p.Wg p.Cn w w')
    (hq : 1 ≤ wst q ∧ Up q) (hok : ∀ op ∈ MemOp.ofEvents k fn place es, OkW p.Sh noOwn p.Rd k op ∧ ∀ x, op.act.touch? = some x → ¬ p.Sh x.loc → x.kind ≠ .atomic) (hnr : ∀ e ∈ es, ∀ ar : Addr, e.loc ≠ .mark (.release ar)) (hdf : deafBehind (dfn (pos k)) es = dfn q)
    (hrel : wst q ≤ 6 → ∃ r, RelBy (stA p.Wg) (t ++ MemOp.ofEvents k fn place es) k r) (hwg : WgAt 96 p.Wg w' st sm) (hm : Mode (upd pos k q) p.N0 N st sm) (hc : Cnt p (upd pos k q) N w')
    (hall : tagOf (pos 0) = some .fin → Handed N (t ++ MemOp.ofEvents k fn place es)) :
    Glob p (upd pos k q) N w' (t ++ MemOp.ofEvents k fn place es) := by
  have k1 : k ≠ 0 := by have := O.n0; omega
  have e0 : upd pos k q 0 = pos 0 := upd_ne _ _ (fun e => k1 e.symm)
  refine ⟨⟨by rw [e0]; exact h.fits.main, by rw [e0]; exact h.fits.blk, by rw [e0]; exact h.fits.size, h.fits.ge, fun a a1 a2 => by rw [upd_ne _ _ (by omega)]; exact h.fits.old a a1 a2, fun a a1 a2 => ?_⟩, fun a ha => ?_,
    h.ct.appW O.apart (by omega) (by omega) (fun op hop => (hok op hop).1), fun ar => (h.norel ar).app (norel_all hnr ar), fun a a1 a2 a3 => ?_, h.hand.appOther g_of_ofEvents (.inr k0), by rw [e0]; exact hall, h.world.trans hw, ⟨st, sm, hwg, hm⟩, hc, fine_app h.fine fun op hop x hx => ⟨?_, fun _ => (hok op hop).2 x hx⟩⟩
  · by_cases e : a = k
    · subst e; rw [upd_same]; exact hq
    · rw [upd_ne _ _ e]; exact h.fits.wk a a1 a2
  · by_cases e : a = k
    · subst e; rw [upd_same, Deaf_own, h.df a ha]; exact hdf
    · rw [upd_ne _ _ e, Deaf_other t (fun x => e x.symm) _ g_of_ofEvents, h.df a ha]
  · by_cases e : a = k
    · subst e; rw [upd_same] at a3; exact hrel a3
    · rw [upd_ne _ _ e] at a3
      obtain ⟨r, hr⟩ := h.rel a a1 a2 a3
      exact ⟨r, hr.appOther g_of_ofEvents (fun x => e x.symm)⟩
  · rcases (hok op hop).1.2 x hx with ⟨hs, _⟩ | ho | ⟨hr, _⟩
    · exact O.lwS _ hs
    · exact ho.elim
    · exact O.lwR _ _ hr

/-- A STEP OF MAIN's THAT STARTS NOBODY. -/
theorem Glob.main (O : p.Ok) (h : Glob p pos N w t) {q : Ps} {fn : FuncId} {place : String} {es : Array Event} {st sm : Int} (hw : Rm p.Wg p.Cn w w')
    (hq : openT (tagOf q) ∨ w3T (tagOf q) ∨ finT (tagOf q)) (hb : ∀ s, q = .blk s → s = .wsem) (hr : remT (tagOf q) = remT (tagOf (pos 0)))
    (hok : ∀ op ∈ MemOp.ofEvents 0 fn place es, Ok0 p.Sh noOwn p.Rd (N - 1) op ∧ ∀ x, op.act.touch? = some x → p.Sh x.loc) (hnr : ∀ e ∈ es, ∀ ar : Addr, e.loc ≠ .mark (.release ar)) (hdf : deafBehind (dfn (pos 0)) es = dfn q)
    (hwg : WgAt 96 p.Wg w' st sm) (hm : Mode (upd pos 0 q) p.N0 N st sm) (hc : Cnt p (upd pos 0 q) N w')
    (hall : tagOf q = some .fin → Handed N (t ++ MemOp.ofEvents 0 fn place es)) :
    Glob p (upd pos 0 q) N w' (t ++ MemOp.ofEvents 0 fn place es) := by
  have ge := h.fits.ge
  have n0 := O.n0
  refine ⟨⟨by rw [upd_same]; exact hq, by rw [upd_same]; exact hb, by rw [upd_same, hr]; exact h.fits.size, ge, fun a a1 a2 => by rw [upd_ne _ _ (by omega)]; exact h.fits.old a a1 a2, fun a a1 a2 => by rw [upd_ne _ _ (by omega)]; exact h.fits.wk a a1 a2⟩, fun a ha => ?_,
    h.ct.app0 O.apart (fun op hop => (hok op hop).1), fun ar => (h.norel ar).app (norel_all hnr ar), fun a a1 a2 a3 => ?_, h.hand.appOther g_of_ofEvents (.inl rfl), by rw [upd_same]; exact hall, h.world.trans hw, ⟨st, sm, hwg, hm⟩, hc, fine_app h.fine fun op hop x hx => ⟨O.lwS _ ((hok op hop).2 x hx), fun h0 => absurd (g_of_ofEvents op hop) h0⟩⟩
  · by_cases e : a = 0
    · subst e; rw [upd_same, Deaf_own, h.df 0 ha]; exact hdf
    · rw [upd_ne _ _ e, Deaf_other t (fun x => e x.symm) _ g_of_ofEvents, h.df a ha]
  · rw [upd_ne _ _ (by omega)] at a3
    obtain ⟨r, hr⟩ := h.rel a a1 a2 a3
    exact ⟨r, hr.appOther g_of_ofEvents (by omega)⟩

theorem cnt_main (h0 : wst (pos 0) = 0) {q : Ps} (hq : wst q = 0) (hk : ∀ v u, tagOf q ≠ some (.kc v u)) (h : Cnt p pos N w) (hw : w'.heap[p.Cn]? = w.heap[p.Cn]?) : Cnt p (upd pos 0 q) N w' := by
  have e : ∀ k, k < N → wst (upd pos 0 q k) = wst (pos k) := fun k _ => by
    by_cases x : k = 0
    · subst x; rw [upd_same, hq, h0]
    · rw [upd_ne _ _ x]
  have hU : Un p (upd pos 0 q) N = Un p pos N := Un_congr e
  refine ⟨fun hc => ?_, fun hc k hk' => by rw [e k hk']; exact h.2 hc k hk'⟩
  rw [hU]
  refine ⟨hw.trans (h.1 hc).1, fun k hk' v u x => ?_⟩
  by_cases y : k = 0
  · subst y; rw [upd_same] at x; exact absurd x (hk v u)
  · rw [upd_ne _ _ y] at x; exact (h.1 hc).2 k hk' v u x

/-- A worker's step by which it neither comes to add nor has added. -/
theorem cnt_worker {k : Nat} (kN : k < N) {q : Ps} (h7 : wst (pos k) ≤ 7) (hq : wst q ≤ 7) (h : Cnt p pos N w) (hw : w'.heap[p.Cn]? = w.heap[p.Cn]?) : Cnt p (upd pos k q) N w' := by
  have hU : Un p (upd pos k q) N = Un p pos N := by
    unfold Un
    rw [show (sumTo N fun a => if 8 ≤ wst (upd pos k q a) then 1 else 0) = sumTo N fun a => if 8 ≤ wst (pos a) then 1 else 0 from sumTo_congr fun a ha => by
      by_cases x : a = k
      · subst x; rw [upd_same, if_neg (by omega), if_neg (by omega)]
      · rw [upd_ne _ _ x]]
  have hnk : ∀ v u, tagOf q ≠ some (.kc v u) := fun v u e => by
    unfold wst at hq; rw [e] at hq; simp [wT] at hq
  refine ⟨fun hc => ?_, fun hc a ha => ?_⟩
  · rw [hU]
    refine ⟨hw.trans (h.1 hc).1, fun a ha v u x => ?_⟩
    by_cases y : a = k
    · subst y; rw [upd_same] at x; exact absurd x (hnk v u)
    · rw [upd_ne _ _ y] at x; exact (h.1 hc).2 a ha v u x
  · by_cases y : a = k
    · subst y; rw [upd_same]; exact hq
    · rw [upd_ne _ _ y]; exact h.2 hc a ha
end
end Go.Proofs.Ytdkbkocklnnmdaa.crew
/-
  A main goroutine that starts workers and waits for them: the system of stages, its measure, and the laws of the measure. Conditions: those that the theorems name.
-/
set_option linter.unusedVariables false
set_option linter.unusedSectionVars false
namespace Go.Proofs.Ytdkbkocklnnmdaa.crew
open Go Go.Conc Go.Proofs.Ytdkbkocklnnmdaa.mach Go.Proofs.Ytdkbkocklnnmdaa.wg
open Go.ConcN (upd upd_same upd_ne sumTo sumTo_upd sumTo_congr le_sumTo sumTo_upd_out sumTo_le CT OkW Ok0 Apart RelBy WgLive RW PayAt AtR0 AtK1 AtD1 AtD2 AtD3 AtD4)
open Go.ConcR (KK WgAt stA smA rd wr mk DC0 Bk g_of_ofEvents)

/-- What a phase's walks are about. -/
structure Ways where
  p : Par
  nx : Int → Int
  by_ : Value
  AnchK : Goroutine → World → Prop
  Anch : Goroutine → World → Prop
  St : Goroutine → World → Prop
  ks : Stg

section
variable (Y : Ways)
def RR : World → World → Prop := Rm Y.p.Wg Y.p.Cn
def RK : World → World → Prop := RW 96 Y.p.Wg Y.p.Bb 1 0 0
def DK (w w' : World) (es : Array Event) : Prop := w' = w ∧ ∀ e ∈ es, ∃ a : Addr, e = ⟨.cell a, false, false⟩ ∧ (a.block = Y.p.Bc ∨ a.block = Y.p.Bb)
def AtRel : Goroutine → World → Prop := AtR0 Try.prog 96 Y.p.Wg Y.p.Bb 1 0 1 Y.by_
def cA : Addr := ⟨Y.p.Cn, 0, none⟩
/-- At the count's CompareAndSwap, v having been read. -/
def AtKc (v : Int) (g : Goroutine) (w : World) : Prop :=
  g.status = .running ∧ ∀ v', CntAt Y.p.Cn w v' →
    (v' = v → ∃ g', stepG Try.prog false g w = .go g' (w.setCell (cA Y) (.int .i64 (Y.nx v))) #[rd (cA Y), wr (cA Y)] ∧ g'.status = .running ∧ ∃ m, Goes Try.prog false (RR Y) (DK Y) (AtRel Y) m g' (w.setCell (cA Y) (.int .i64 (Y.nx v)))) ∧
    (v' ≠ v → ∃ g', stepG Try.prog false g w = .go g' w #[rd (cA Y)] ∧ g'.status = .running ∧ ∃ m, Goes Try.prog false (RR Y) (DK Y) Y.AnchK m g' w)
def AtKl (g : Goroutine) (w : World) : Prop :=
  g.status = .running ∧ ∀ v, CntAt Y.p.Cn w v → ∃ g', stepG Try.prog false g w = .go g' w #[rd (cA Y)] ∧ g'.status = .running ∧ ∃ m, Goes Try.prog false (RR Y) (DK Y) (AtKc Y v) m g' w
def kidStop : Goroutine → World → Prop := match Y.ks with
  | .kl => AtKl Y
  | _ => AtRel Y
/-- At the go statement. -/
def AtGo (Next : Goroutine → World → Prop) (g : Goroutine) (w : World) : Prop :=
  g.status = .running ∧ ∃ g' child, stepG Try.prog true g w = .spawn g' child w #[] ∧ (∃ m, Goes Try.prog false (RR Y) (DK Y) (kidStop Y) m child w) ∧ Next g' w
/-- r workers are still to be started. -/
def Script : Nat → Goroutine → World → Prop
  | 0 => WDis (RR Y) Y.Anch
  | r + 1 => IncDis (RR Y) Y.p.Wg (AtGo Y (To true (RR Y) (Script r)))

def stops : Stg → Goroutine → World → Prop
  | .dis r => Script Y (r + 1)
  | .add r => IncAdd (RR Y) Y.p.Wg (AtGo Y (To true (RR Y) (Script Y r)))
  | .read r => IncRead (RR Y) Y.p.Wg (AtGo Y (To true (RR Y) (Script Y r)))
  | .ena r => IncEna (RR Y) (AtGo Y (To true (RR Y) (Script Y r)))
  | .go r => AtGo Y (To true (RR Y) (Script Y r))
  | .wdis => WDis (RR Y) Y.Anch
  | .wload => WLoad (RR Y) Y.p.Wg Y.Anch Y.St
  | .wcas vs => WCas (RR Y) Y.p.Wg Y.Anch Y.St vs
  | .wwr => WWr (RR Y) Y.p.Wg Y.St
  | .wsem => WSem (RR Y) Y.p.Wg Y.St
  | .wld2 => WLd2 (RR Y) Y.p.Wg Y.St
  | .wena => WEna (RR Y) Y.p.Wg Y.St
  | .wacq => WAcq (RR Y) Y.p.Wg Y.St
  | .fin => Y.St
  | .kl => AtKl Y
  | .kc v _ => AtKc Y v
  | .k0 => AtRel Y
  | .k1 => AtK1 Try.prog 96 Y.p.Wg Y.p.Bb 1 0 1
  | .d1 => AtD1 Try.prog 96 Y.p.Wg Y.p.Bb 1 0 1
  | .d2 => AtD2 Try.prog 96 Y.p.Wg Y.p.Bb 1 0 1
  | .d3 => AtD3 Try.prog 96 Y.p.Wg Y.p.Bb 1 0 1
  | .d4 => AtD4 Try.prog 96 Y.p.Wg
def rely : Stg → World → World → Prop
  | .k1 | .d1 | .d2 | .d3 | .d4 => RK Y
  | _ => RR Y
def guar : Stg → World → World → Array Event → Prop
  | .kl | .kc _ _ | .k0 => DK Y
  | _ => DC0
end

/-! ### the measure -/
def rk (n v : Nat) : Option Stg → Nat
  | some (.dis r) => 8 * n + 60 + (2 * n + 40) * (r + 1) + 5
  | some (.add r) => 8 * n + 60 + (2 * n + 40) * (r + 1) + 4
  | some (.read r) => 8 * n + 60 + (2 * n + 40) * (r + 1) + 3
  | some (.ena r) => 8 * n + 60 + (2 * n + 40) * (r + 1) + 2
  | some (.go r) => 8 * n + 60 + (2 * n + 40) * (r + 1) + 1
  | some .wdis => 8 * n + 59
  | some .wload => 8 * v + 25
  | some (.wcas vs) => 8 * vs + 24
  | some .wwr => 7
  | some .wsem => 6
  | some .wld2 => 5
  | some .wena => 3
  | some .wacq => 2
  | _ => 1
def ww (U : Nat) : Option Stg → Nat
  | some .kl => 9 + 2 * U
  | some (.kc _ u) => 8 + 2 * u
  | some .k0 => 7
  | some .k1 => 6
  | some .d1 => 5
  | some .d2 => 4
  | some .d3 => 3
  | some .d4 => 2
  | none => 1
  | _ => 0
def phi (p : Par) (pos : Nat → Ps) (N : Nat) : Nat := rk p.n (V pos N) (tagOf (pos 0)) + sumTo N fun k => ww (Un p pos N) (tagOf (pos k))

section
variable {p : Par} {pos pos' : Nat → Ps} {N : Nat}
theorem rk_mono (n : Nat) {v v' : Nat} (h : v' ≤ v) (o : Option Stg) : rk n v' o ≤ rk n v o := by
  cases o with
  | none => exact Nat.le_refl _
  | some s => cases s <;> simp only [rk] <;> omega
theorem ww_mono {U U' : Nat} (h : U' ≤ U) (o : Option Stg) : ww U' o ≤ ww U o := by
  cases o with
  | none => exact Nat.le_refl _
  | some s => cases s <;> simp only [ww] <;> omega
theorem sumTo_mono {f g : Nat → Nat} : ∀ {n : Nat}, (∀ i, i < n → f i ≤ g i) → sumTo n f ≤ sumTo n g
  | 0, _ => Nat.le_refl _
  | n + 1, h => by
    have := sumTo_mono (n := n) fun i hi => h i (by omega)
    have := h n (by omega)
    simp only [sumTo]; omega
theorem phi_same (ht : ∀ k, k < N → tagOf (pos' k) = tagOf (pos k)) (h1 : 1 ≤ N) : phi p pos' N = phi p pos N := by
  have hV : V pos' N = V pos N := V_congr fun k hk => wst_congr (ht k hk)
  have hU : Un p pos' N = Un p pos N := Un_congr fun k hk => wst_congr (ht k hk)
  unfold phi
  rw [hV, hU, ht 0 (by omega)]
  congr 1
  exact sumTo_congr fun k hk => by rw [ht k hk]
theorem phi_worker {k : Nat} (kN : k < N) (k1 : k ≠ 0) {q : Ps} (hV : V (upd pos k q) N ≤ V pos N) (hU : Un p (upd pos k q) N ≤ Un p pos N) (hw : ww (Un p (upd pos k q) N) (tagOf q) < ww (Un p pos N) (tagOf (pos k))) :
    phi p (upd pos k q) N < phi p pos N := by
  unfold phi
  have e0 : upd pos k q 0 = pos 0 := upd_ne _ _ (fun e => k1 e.symm)
  rw [e0]
  have h1 := rk_mono p.n hV (tagOf (pos 0))
  have h2 := sumTo_upd pos q (fun x => ww (Un p (upd pos k q) N) (tagOf x)) kN
  have h3 : sumTo N (fun a => ww (Un p (upd pos k q) N) (tagOf (upd pos k q a))) + ww (Un p (upd pos k q) N) (tagOf (pos k)) = sumTo N (fun a => ww (Un p (upd pos k q) N) (tagOf (pos a))) + ww (Un p (upd pos k q) N) (tagOf q) := h2
  have h4 : sumTo N (fun a => ww (Un p (upd pos k q) N) (tagOf (pos a))) + ww (Un p pos N) (tagOf (pos k)) ≤ sumTo N (fun a => ww (Un p pos N) (tagOf (pos a))) + ww (Un p (upd pos k q) N) (tagOf (pos k)) := by
    have key : ∀ n, k < n → sumTo n (fun a => ww (Un p (upd pos k q) N) (tagOf (pos a))) + ww (Un p pos N) (tagOf (pos k)) ≤ sumTo n (fun a => ww (Un p pos N) (tagOf (pos a))) + ww (Un p (upd pos k q) N) (tagOf (pos k)) := by
      intro n
      induction n with
      | zero => intro h; omega
      | succ n ih =>
        intro h
        simp only [sumTo]
        rcases Nat.lt_or_ge k n with hlt | hge
        · have := ih hlt
          have := ww_mono hU (tagOf (pos n))
          omega
        · obtain rfl : k = n := by omega
          have := sumTo_mono (n := k) fun i _ => ww_mono hU (tagOf (pos i))
          omega
    exact key N kN
  omega
theorem phi_main (h1 : 1 ≤ N) (h0 : wst (pos 0) = 0) {q : Ps} (hq : wst q = 0) (hr : rk p.n (V pos N) (tagOf q) < rk p.n (V pos N) (tagOf (pos 0))) : phi p (upd pos 0 q) N < phi p pos N := by
  have e : ∀ k, k < N → wst (upd pos 0 q k) = wst (pos k) := fun k _ => by
    by_cases x : k = 0
    · subst x; rw [upd_same, hq, h0]
    · rw [upd_ne _ _ x]
  unfold phi
  rw [Un_congr e, V_congr e, upd_same]
  have w0 : ∀ {x : Ps}, wst x = 0 → ww (Un p pos N) (tagOf x) = 0 := by
    intro x hx
    unfold wst at hx
    revert hx
    cases tagOf x with
    | none => simp [wT]
    | some s => cases s <;> simp [wT, ww]
  have : sumTo N (fun k => ww (Un p pos N) (tagOf (upd pos 0 q k))) = sumTo N (fun k => ww (Un p pos N) (tagOf (pos k))) := sumTo_congr fun k _ => by
    by_cases x : k = 0
    · subst x; rw [upd_same, w0 hq, w0 h0]
    · rw [upd_ne _ _ x]
  rw [this]
  omega
end
end Go.Proofs.Ytdkbkocklnnmdaa.crew
/-
  A main goroutine that starts workers and waits for them: main's operations, each with what it comes to. Conditions: those of the structure Ways.Ok.
-/
set_option linter.unusedVariables false
set_option linter.unusedSectionVars false
namespace Go.Proofs.Ytdkbkocklnnmdaa.crew
open Go Go.Conc Go.Proofs.Ytdkbkocklnnmdaa.mach Go.Proofs.Ytdkbkocklnnmdaa.wg
open Go.ConcN (upd upd_same upd_ne sumTo sumTo_upd sumTo_congr le_sumTo sumTo_upd_out sumTo_le CT OkW Ok0 Apart RelBy WgLive RW PayAt AtR0 AtK1 AtD1 AtD2 AtD3 AtD4 handedOver_all)
open Go.ConcR (KK WgAt stA smA rd wr mk DC0 Bk g_of_ofEvents)

noncomputable def sys (Y : Ways) : mach.Sys where
  P := Try.prog
  S := Stg
  Γ := Unit
  R := rely Y
  D := guar Y
  A := stops Y
  Glob := fun _ pos N w t => Glob Y.p pos N w t
  Φ := fun _ pos N => phi Y.p pos N
  fin := fun s => s = .fin

structure Ways.Ok (Y : Ways) : Prop where
  p : Y.p.Ok
  kid : Y.p.useC → Y.ks = .kl
  kid0 : ¬ Y.p.useC → Y.ks = .k0
  anch : ∀ g w, Y.Anch g w → Goes Try.prog true (RR Y) DC0 (WLoad (RR Y) Y.p.Wg Y.Anch Y.St) 30 g w
  anchK : Y.p.useC → ∀ g w, Y.AnchK g w → Goes Try.prog false (RR Y) (DK Y) (AtKl Y) 30 g w
  st : ∀ g w, Y.St g w → g.status = .running
  nx : Y.p.useC → ∀ s, s < Y.p.n → Y.p.val (s + 1) = Y.nx (Y.p.val s)

section
variable {Y : Ways} {pos : Nat → Ps} {N : Nat} {w w' : World} {t : Trace} {s : Stg} {m : Nat} {g g' : Goroutine} {es : Array Event} {q : Ps}

theorem Goes.after {P : Program} {main : Bool} {R : World → World → Prop} {D : World → World → Array Event → Prop} {S₁ S₂ : Goroutine → World → Prop} {n : Nat} (refl : ∀ w, R w w) (h2 : ∀ g w, S₁ g w → Goes P main R D S₂ n g w) :
    ∀ {m : Nat} {g : Goroutine} {w : World}, Goes P main R D S₁ m g w → Goes P main R D S₂ (m + n) g w := by
  intro m
  induction m with
  | zero => intro g w h; rw [Nat.zero_add]; exact h2 g w (h w (refl w))
  | succ m ih =>
    intro g w h
    rcases h with h | ⟨hs, h⟩
    · have := h2 g w (h w (refl w))
      clear h
      have key : ∀ k, Goes P main R D S₂ (n + k) g w := by
        intro k
        induction k with
        | zero => exact this
        | succ k ihk => exact ihk.more
      have := key (m + 1)
      rwa [show n + (m + 1) = m + 1 + n by omega] at this
    · rw [show m + 1 + n = (m + n) + 1 by omega]
      refine Goes.step hs fun w₁ h₁ => ?_
      have := h w₁ h₁
      revert this
      cases stepG P main g w₁ <;> simp only [GStep.goes, imp_self]
      exact fun ⟨d, x⟩ => ⟨d, ih x⟩

theorem rk_of_rm (hbw : Y.p.Bb ≠ Y.p.Wg) (hbc : Y.p.Bb ≠ Y.p.Cn) (h : RR Y w w') : RK Y w w' :=
  ⟨fun b hb => absurd hb (by omega), h.live, fun ⟨cs, a, b⟩ => ⟨cs, (h.blocks _ hbw hbc).trans a, b⟩, by simp [World.cell?, h.blocks _ hbw hbc]⟩
theorem suffers (O : Y.Ok) (h : RR Y w w') (x : Ps) : (sys Y).Suffers x w w' := by
  have key : ∀ s, rely Y s w w' := fun s => by
    cases s <;> first | exact rk_of_rm O.p.bw O.p.bc h | exact h
  cases x with
  | on s m => exact key s
  | blk s => exact key s
  | quit q d => trivial

theorem wake_on {b : Bool} {k : Nat} (h : pos k = .on s m) : wakeIf b pos k = .on s m := by
  unfold wakeIf; split <;> rw [h]; rfl

/-- What main's operation comes to. -/
theorem outMain (O : Y.Ok) (G : Glob Y.p pos N w t) (h0 : pos 0 = .on s m) (hs : stepG Try.prog true g w = .go g' w' es) (hr : g'.status = .running) (hh : (sys Y).Holds 0 q g' w') (hw : RR Y w w')
    (hk : ∀ pos, Glob Y.p pos N w t → pos 0 = .on s m → ∀ fn place, Glob Y.p (upd pos 0 q) N w' (t ++ MemOp.ofEvents 0 fn place es) ∧ phi Y.p (upd pos 0 q) N < phi Y.p pos N) : Out (sys Y) () pos N 0 s g w t := by
  have G1 := G.wake O.p (mayWake Try.prog g)
  obtain ⟨a, b⟩ := hk _ G1 (wake_on h0) g.frame.fn g.frame.place
  refine Out.go g' w' es q () hs (by rw [hr]; simp) (by rw [hr]; simp) hh (fun j _ _ => suffers O hw _) a ?_
  have := phi_same (p := Y.p) (pos := pos) (pos' := wakeIf (mayWake Try.prog g) pos) (N := N) (fun k _ => tag_wake _ k) (G.size O.p)
  show phi Y.p _ N < phi Y.p pos N
  rw [← this]
  exact b
/-- What a worker's operation comes to. -/
theorem outWork (O : Y.Ok) (G : Glob Y.p pos N w t) {k : Nat} (k1 : k ≠ 0) (h0 : pos k = .on s m) (hs : stepG Try.prog false g w = .go g' w' es) (hr : g'.status = .running ∨ g'.status = .finished) (hh : (sys Y).Holds k q g' w') (hw : RR Y w w')
    (hk : ∀ pos', (∀ a, a < N → tagOf (pos' a) = tagOf (pos a)) → Glob Y.p pos' N w t → pos' k = .on s m → (mayWake Try.prog g = true → Up (pos' 0)) → ∀ fn place, Glob Y.p (upd pos' k q) N w' (t ++ MemOp.ofEvents k fn place es) ∧ phi Y.p (upd pos' k q) N < phi Y.p pos' N) : Out (sys Y) () pos N k s g w t := by
  have G1 := G.wake O.p (mayWake Try.prog g)
  obtain ⟨a, b⟩ := hk _ (fun a _ => tag_wake _ a) G1 (wake_on h0) (fun e => by rw [e]; exact up_woken 0) g.frame.fn g.frame.place
  have hk0 : (k == 0) = false := by simpa using k1
  refine Out.go g' w' es q () (by rw [hk0]; exact hs) (by rcases hr with e | e <;> rw [e] <;> simp) (by rcases hr with e | e <;> rw [e] <;> simp) hh (fun j _ _ => suffers O hw _) a ?_
  have := phi_same (p := Y.p) (pos := pos) (pos' := wakeIf (mayWake Try.prog g) pos) (N := N) (fun k _ => tag_wake _ k) (G.size O.p)
  show phi Y.p _ N < phi Y.p pos N
  rw [← this]
  exact b

/-! ### events -/
/-- An entry that touches nothing, or a shared place not plainly. -/
def Ev0s (Sh : Loc → Prop) (e : Event) : Prop := ∀ x, (MemAct.ofEvent e).touch? = some x → Sh x.loc ∧ x.kind ≠ .plain
theorem ok0_of {Sh : Loc → Prop} {Rd : Nat → Loc → Prop} {j : Nat} {fn : FuncId} {place : String} (h : ∀ e ∈ es, Ev0s Sh e) : ∀ op ∈ MemOp.ofEvents 0 fn place es, Ok0 Sh noOwn Rd j op ∧ ∀ x, op.act.touch? = some x → Sh x.loc := by
  intro op hop
  rw [ofEvents_eq] at hop
  obtain ⟨e, he, rfl⟩ := Array.mem_map.1 hop
  exact ⟨⟨rfl, fun x hx => .inl (h e he x hx)⟩, fun x hx => (h e he x hx).1⟩
theorem ev0_mk {Sh : Loc → Prop} {m : Mark} (h : (MemAct.mark m).touch? = none) : Ev0s Sh (mk m) := fun x hx => by
  have : (MemAct.ofEvent (mk m)).touch? = none := h
  rw [this] at hx; cases hx
theorem ev0_said {Sh : Loc → Prop} {m : Mark} {a : Addr} (hS : Sh (.cell a)) (h : m = .read a ∨ m = .write a) : Ev0s Sh (mk m) := fun x hx => by
  rcases h with rfl | rfl
  · have : x = ⟨.cell a, false, .said⟩ := (Option.some.inj hx).symm
    subst this; exact ⟨hS, by simp⟩
  · have : x = ⟨.cell a, true, .said⟩ := (Option.some.inj hx).symm
    subst this; exact ⟨hS, by simp⟩
theorem ev0_cell {Sh : Loc → Prop} {a : Addr} {wr : Bool} (hS : Sh (.cell a)) : Ev0s Sh ⟨.cell a, wr, true⟩ := fun x hx => by
  have : x = ⟨.cell a, wr, .atomic⟩ := (Option.some.inj hx).symm
  subst this; exact ⟨hS, by simp⟩

/-- Main's step within the open stages. -/
theorem openStep (O : Y.Ok) (G : Glob Y.p pos N w t) (h0 : pos 0 = .on s m) (ho : openT (some s)) {s' : Stg} {m' : Nat} (ho' : openT (some s')) (hp : pendT (some s') = pendT (some s)) (hrem : remT (some s') = remT (some s))
    (hc : ∀ vs, s' = .wcas vs → V pos N ≤ vs ∧ 1 ≤ vs) (hev : ∀ e ∈ es, Ev0s Y.p.Sh e) (hnr : ∀ e ∈ es, ∀ ar : Addr, e.loc ≠ .mark (.release ar)) (hdf : deafBehind (dfn (.on s m)) es = dfn (.on s' m'))
    (hrk : rk Y.p.n (V pos N) (some s') < rk Y.p.n (V pos N) (some s)) (fn : FuncId) (place : String) :
    Glob Y.p (upd pos 0 (.on s' m')) N w (t ++ MemOp.ofEvents 0 fn place es) ∧ phi Y.p (upd pos 0 (.on s' m')) N < phi Y.p pos N := by
  obtain ⟨st, sm, hwg, hm⟩ := G.wg
  have hp0 : tagOf (pos 0) = some s := by rw [h0]; rfl
  obtain ⟨hW, hv, rfl, rfl⟩ := hm.openInv (by rw [hp0]; exact ho)
  rw [hp0, ← hp] at hwg
  have hz : wst (pos 0) = 0 := wst0_of_open (by rw [hp0]; exact ho)
  have hz' : wst (.on s' m') = 0 := wst0_of_open (p := .on s' m') ho'
  refine ⟨G.main O.p (Rm.refl w) (.inl ho') (fun x e => by cases e) (by rw [hp0]; exact hrem) (ok0_of hev) hnr (by rw [h0]; exact hdf) hwg
    (Mode.openMk O.p.n0 hz (p := .on s' m') ho' hW (fun vs e => hc vs (by simpa [tagOf] using e))) (cnt_main hz hz' (fun v u e => by cases s' <;> simp [tagOf] at e; exact ho') G.cnt rfl) (fun e => ?_), phi_main (G.size O.p) hz hz' (by rw [hp0]; exact hrk)⟩
  have : s' = .fin := by simpa [tagOf] using e
  subst this; exact ho'.elim
end
end Go.Proofs.Ytdkbkocklnnmdaa.crew
/-
  A main goroutine that starts workers and waits for them: main's operations at each of its stages. Conditions: those of the structure Ways.Ok.
-/
set_option linter.unusedVariables false
set_option linter.unusedSectionVars false
set_option linter.unusedSimpArgs false
namespace Go.Proofs.Ytdkbkocklnnmdaa.crew
open Go Go.Conc Go.Proofs.Ytdkbkocklnnmdaa.mach Go.Proofs.Ytdkbkocklnnmdaa.wg
open Go.ConcN (upd upd_same upd_ne sumTo sumTo_upd sumTo_congr le_sumTo sumTo_upd_out sumTo_le CT OkW Ok0 Apart RelBy WgLive RW PayAt AtR0 AtK1 AtD1 AtD2 AtD3 AtD4 handedOver_all)
open Go.ConcR (KK WgAt stA smA rd wr mk DC0 Bk g_of_ofEvents)

section
variable {Y : Ways} {pos : Nat → Ps} {N : Nat} {w w' : World} {t : Trace} {s : Stg} {m : Nat} {g g' : Goroutine} {es : Array Event} {q : Ps}

theorem V_le (h : Fits Y.p pos N) (O : Y.Ok) : V pos N ≤ N - Y.p.N0 := by
  have n0 := O.p.n0
  have key : ∀ M, M ≤ N → sumTo M (fun k => cn (pos k)) ≤ M - Y.p.N0 := by
    intro M
    induction M with
    | zero => intro _; simp [sumTo]
    | succ M ih =>
      intro hM
      have := ih (by omega)
      simp only [sumTo]
      rcases Nat.lt_or_ge M Y.p.N0 with hlt | hge
      · have hc : cn (pos M) = 0 := by
          unfold cn
          rw [if_neg]
          by_cases e : M = 0
          · subst e
            rcases h.main with a | a | a
            · rw [wst0_of_open a]; omega
            · rw [wst0_of_w3 a]; omega
            · rw [wst0_of_fin a]; omega
          · rw [h.old M (by omega) hlt]; omega
        omega
      · have := cn_le (pos M)
        omega
  exact key N (Nat.le_refl _)

theorem mk_nr {mm : Mark} (h : ∀ ar, mm ≠ .release ar) : ∀ e ∈ #[mk mm], ∀ ar : Addr, e.loc ≠ .mark (.release ar) := by
  intro e he; simp at he; subst he; simpa [mk] using h
theorem mk_ev {Sh : Loc → Prop} {mm : Mark} (h : Ev0s Sh (mk mm)) : ∀ e ∈ #[mk mm], Ev0s Sh e := by
  intro e he; simp at he; subst he; exact h
theorem rw_nr {a : Addr} : ∀ e ∈ #[rd a, wr a], ∀ ar : Addr, e.loc ≠ .mark (.release ar) := by
  intro e he; simp at he; rcases he with rfl | rfl <;> simp [rd, wr]
theorem rd_nr {a : Addr} : ∀ e ∈ #[rd a], ∀ ar : Addr, e.loc ≠ .mark (.release ar) := by
  intro e he; simp at he; subst he; simp [rd]
theorem rw_ev {Sh : Loc → Prop} {a : Addr} (h : Sh (.cell a)) : ∀ e ∈ #[rd a, wr a], Ev0s Sh e := by
  intro e he; simp at he; rcases he with rfl | rfl <;> exact ev0_cell h
theorem rd_ev {Sh : Loc → Prop} {a : Addr} (h : Sh (.cell a)) : ∀ e ∈ #[rd a], Ev0s Sh e := by
  intro e he; simp at he; subst he; exact ev0_cell h

theorem op_dis (O : Y.Ok) {r : Nat} (G : Glob Y.p pos N w t) (h0 : pos 0 = .on (.dis r) m) (hA : stops Y (.dis r) g w) : Out (sys Y) () pos N 0 (.dis r) g w t := by
  obtain ⟨hrun, g', hst, hr', m', hg⟩ := hA
  exact outMain (q := .on (.add r) m') O G h0 hst hr' hg (Rm.refl w) fun pos G h0 fn place =>
    openStep (s' := .add r) (m' := m') (es := #[mk Mark.disable]) O G h0 trivial trivial rfl rfl (fun vs e => by cases e) (mk_ev (ev0_mk rfl)) (mk_nr (by intro a h; cases h)) rfl (by simp [rk]) fn place
theorem op_read (O : Y.Ok) {r : Nat} (G : Glob Y.p pos N w t) (h0 : pos 0 = .on (.read r) m) (hA : stops Y (.read r) g w) : Out (sys Y) () pos N 0 (.read r) g w t := by
  obtain ⟨hrun, g', hst, hr', m', hg⟩ := hA
  exact outMain (q := .on (.ena r) m') O G h0 hst hr' hg (Rm.refl w) fun pos G h0 fn place =>
    openStep (s' := .ena r) (m' := m') (es := #[mk (Mark.read (smA Y.p.Wg))]) O G h0 trivial trivial rfl rfl (fun vs e => by cases e) (mk_ev (ev0_said (O.p.cellw _ rfl) (.inl rfl))) (mk_nr (by intro a h; cases h)) rfl (by simp [rk]) fn place
theorem op_ena (O : Y.Ok) {r : Nat} (G : Glob Y.p pos N w t) (h0 : pos 0 = .on (.ena r) m) (hA : stops Y (.ena r) g w) : Out (sys Y) () pos N 0 (.ena r) g w t := by
  obtain ⟨hrun, g', hst, hr', m', hg⟩ := hA
  exact outMain (q := .on (.go r) m') O G h0 hst hr' hg (Rm.refl w) fun pos G h0 fn place =>
    openStep (s' := .go r) (m' := m') (es := #[mk Mark.enable]) O G h0 trivial trivial rfl rfl (fun vs e => by cases e) (mk_ev (ev0_mk rfl)) (mk_nr (by intro a h; cases h)) rfl (by simp [rk]) fn place
theorem op_wdis (O : Y.Ok) (G : Glob Y.p pos N w t) (h0 : pos 0 = .on .wdis m) (hA : stops Y .wdis g w) : Out (sys Y) () pos N 0 .wdis g w t := by
  obtain ⟨hrun, g', hst, hr', m', hg⟩ := hA
  refine outMain (q := .on .wload (m' + 30)) O G h0 hst hr' (Goes.after (fun w => Rm.refl w) O.anch hg) (Rm.refl w) fun pos G h0 fn place =>
    openStep (s' := .wload) (m' := m' + 30) (es := #[mk Mark.disable]) O G h0 trivial trivial rfl rfl (fun vs e => by cases e) (mk_ev (ev0_mk rfl)) (mk_nr (by intro a h; cases h)) rfl ?_ fn place
  have hV := V_le G.fits O
  have hs := G.fits.size
  have hge := G.fits.ge
  simp only [rk]; omega

theorem KK_inj {a b : Nat} (h : (a : Int) * KK = (b : Int) * KK) : a = b := by simp only [KK] at h; omega
theorem wg_open (G : Glob Y.p pos N w t) {s : Stg} {m : Nat} (h0 : pos 0 = .on s m) (ho : openT (some s)) : WgAt 96 Y.p.Wg w (((V pos N + pendT (some s) : Nat) : Int) * KK) 0 := by
  obtain ⟨st, sm, hwg, hm⟩ := G.wg
  have hp0 : tagOf (pos 0) = some s := by rw [h0]; rfl
  obtain ⟨hW, hv, rfl, rfl⟩ := hm.openInv (by rw [hp0]; exact ho)
  rw [hp0] at hwg
  exact hwg
theorem aside_heap {Wg Cn : Nat} (h : Cn ≠ Wg) (hA : Aside Wg w w') : w'.heap[Cn]? = w.heap[Cn]? := hA.block Cn h

theorem op_add (O : Y.Ok) {r : Nat} (G : Glob Y.p pos N w t) (h0 : pos 0 = .on (.add r) m) (hA : stops Y (.add r) g w) : Out (sys Y) () pos N 0 (.add r) g w t := by
  obtain ⟨hrun, hall⟩ := hA
  have hwg := wg_open G h0 (s := .add r) trivial
  have hV := V_le G.fits O
  have hs : N + (r + 1) = Y.p.N0 + Y.p.n := by have := G.fits.size; rw [h0] at this; exact this
  have hge := G.fits.ge
  have hsm := O.p.small
  have hwg' : WgAt 96 Y.p.Wg w (((V pos N : Nat) : Int) * KK) 0 := by simpa [pendT] using hwg
  obtain ⟨g', hst, hr', h1, h2⟩ := hall (V pos N) (by omega) hwg'
  have hAs := aside_setCell w (stA Y.p.Wg) (.int .u64 ((((V pos N : Nat) : Int) + 1) * KK))
  have hw' := hwg'.setSt ((((V pos N : Nat) : Int) + 1) * KK)
  have hR : Rm Y.p.Wg Y.p.Cn w (w.setCell (stA Y.p.Wg) (.int .u64 ((((V pos N : Nat) : Int) + 1) * KK))) := Rm.of_wg O.p.cw hAs ⟨_, _, hw'⟩
  have key : ∀ (s' : Stg) (m' : Nat), (s' = .read r ∨ s' = .ena r) → ∀ pos', Glob Y.p pos' N w t → pos' 0 = .on (.add r) m → ∀ fn place,
      Glob Y.p (upd pos' 0 (.on s' m')) N (w.setCell (stA Y.p.Wg) (.int .u64 ((((V pos N : Nat) : Int) + 1) * KK))) (t ++ MemOp.ofEvents 0 fn place #[rd (stA Y.p.Wg), wr (stA Y.p.Wg)]) ∧ phi Y.p (upd pos' 0 (.on s' m')) N < phi Y.p pos' N := by
    intro s' m' hs' pos' G' h0' fn place
    have hwg1 := wg_open G' h0' (s := .add r) trivial
    have hVV : V pos' N = V pos N := KK_inj (by have := (hwg1.unique hwg').1; simpa [pendT] using this)
    obtain ⟨st, sm, hwgx, hm⟩ := G'.wg
    have hp0 : tagOf (pos' 0) = some (.add r) := by rw [h0']; rfl
    obtain ⟨hW, hv, -, -⟩ := hm.openInv (by rw [hp0]; trivial)
    have hz : wst (pos' 0) = 0 := wst0_of_open (by rw [hp0]; trivial)
    have ho' : openT (some s') := by rcases hs' with rfl | rfl <;> trivial
    have hp1 : pendT (some s') = 1 := by rcases hs' with rfl | rfl <;> rfl
    have hz' : wst (.on s' m') = 0 := wst0_of_open (p := .on s' m') ho'
    have hM := Mode.openMk (N := N) O.p.n0 hz (p := .on s' m') ho' hW (fun vs e => by rcases hs' with rfl | rfl <;> simp [tagOf] at e)
    rw [show tagOf (.on s' m') = some s' from rfl, hp1, hVV] at hM
    have hM' : Mode (upd pos' 0 (.on s' m')) Y.p.N0 N ((((V pos N : Nat) : Int) + 1) * KK) 0 := by simpa using hM
    refine ⟨G'.main O.p hR (.inl ho') (fun x e => by cases e) (by rw [hp0]; rcases hs' with rfl | rfl <;> rfl) (ok0_of (rw_ev (O.p.cellw _ rfl))) rw_nr (by rw [h0']; rcases hs' with rfl | rfl <;> rfl) hw' hM'
      (cnt_main hz hz' (fun v u e => by rcases hs' with rfl | rfl <;> simp [tagOf] at e) G'.cnt (aside_heap O.p.cw hAs)) (fun e => by rcases hs' with rfl | rfl <;> simp [tagOf] at e),
      phi_main (G'.size O.p) hz hz' (by rw [hp0]; rcases hs' with rfl | rfl <;> simp [rk, tagOf])⟩
  rcases Nat.eq_zero_or_pos (V pos N) with hz | hz
  · obtain ⟨m', hg⟩ := h1 hz
    exact outMain (q := .on (.read r) m') O G h0 hst hr' hg hR (key _ m' (.inl rfl))
  · obtain ⟨m', hg⟩ := h2 (by omega)
    exact outMain (q := .on (.ena r) m') O G h0 hst hr' hg hR (key _ m' (.inr rfl))

/-- Main's step into one of the last stages, or within them: everybody else is only leaving. -/
theorem finStep (O : Y.Ok) (G : Glob Y.p pos N w t) (h0 : pos 0 = .on s m) (hz : wst (pos 0) = 0) {s' : Stg} {m' : Nat} (hf : finT (some s')) (hrem : remT (some s) = 0) (hQ : AllQ pos Y.p.N0 N) (hR : Rm Y.p.Wg Y.p.Cn w w') (hwg : WgAt 96 Y.p.Wg w' 0 0)
    (hcn : w'.heap[Y.p.Cn]? = w.heap[Y.p.Cn]?) (hev : ∀ e ∈ es, Ev0s Y.p.Sh e) (hnr : ∀ e ∈ es, ∀ ar : Addr, e.loc ≠ .mark (.release ar)) (hdf : deafBehind (dfn (.on s m)) es = dfn (.on s' m'))
    (hall : s' = .fin → ∀ fn place, Handed N (t ++ MemOp.ofEvents 0 fn place es)) (hrk : rk Y.p.n (V pos N) (some s') < rk Y.p.n (V pos N) (some s)) (fn : FuncId) (place : String) :
    Glob Y.p (upd pos 0 (.on s' m')) N w' (t ++ MemOp.ofEvents 0 fn place es) ∧ phi Y.p (upd pos 0 (.on s' m')) N < phi Y.p pos N := by
  have hp0 : tagOf (pos 0) = some s := by rw [h0]; rfl
  have hz' : wst (.on s' m') = 0 := wst0_of_fin (p := .on s' m') hf
  refine ⟨G.main O.p hR (.inr (.inr hf)) (fun x e => by cases e) (by rw [hp0, hrem]; show remT (some s') = 0; cases s' <;> first | rfl | exact hf.elim) (ok0_of hev) hnr (by rw [h0]; exact hdf) hwg
    (Mode.finMk O.p.n0 (p := .on s' m') hf hQ) (cnt_main hz hz' (fun v u e => by cases s' <;> simp [tagOf] at e; exact hf) G.cnt hcn) (fun e => hall (by simpa [tagOf] using e) fn place), phi_main (G.size O.p) hz hz' (by rw [hp0]; exact hrk)⟩
end
end Go.Proofs.Ytdkbkocklnnmdaa.crew
/-
  A main goroutine that starts workers and waits for them: main's operations in Wait, and the go statement. Conditions: those of the structure Ways.Ok.
-/
set_option linter.unusedVariables false
set_option linter.unusedSectionVars false
set_option linter.unusedSimpArgs false
namespace Go.Proofs.Ytdkbkocklnnmdaa.crew
open Go Go.Conc Go.Proofs.Ytdkbkocklnnmdaa.mach Go.Proofs.Ytdkbkocklnnmdaa.wg
open Go.ConcN (upd upd_same upd_ne sumTo sumTo_upd sumTo_congr le_sumTo sumTo_upd_out sumTo_le CT OkW Ok0 Apart RelBy WgLive RW PayAt AtR0 AtK1 AtD1 AtD2 AtD3 AtD4 handedOver_all)
open Go.ConcR (KK WgAt stA smA rd wr mk DC0 Bk g_of_ofEvents)

section
variable {Y : Ways} {pos : Nat → Ps} {N : Nat} {w w' : World} {t : Trace} {s : Stg} {m : Nat} {g g' : Goroutine} {es : Array Event} {q : Ps}

theorem open_facts (G : Glob Y.p pos N w t) {s : Stg} {m : Nat} (h0 : pos 0 = .on s m) (ho : openT (some s)) : OpenW pos Y.p.N0 N ∧ (∀ vs, s = .wcas vs → V pos N ≤ vs ∧ 1 ≤ vs) ∧ wst (pos 0) = 0 := by
  obtain ⟨st, sm, hwg, hm⟩ := G.wg
  have hp0 : tagOf (pos 0) = some s := by rw [h0]; rfl
  obtain ⟨hW, hv, -, -⟩ := hm.openInv (by rw [hp0]; exact ho)
  exact ⟨hW, fun vs e => hv vs (by rw [hp0, e]), wst0_of_open (by rw [hp0]; exact ho)⟩

theorem op_wload (O : Y.Ok) (G : Glob Y.p pos N w t) (h0 : pos 0 = .on .wload m) (hA : stops Y .wload g w) : Out (sys Y) () pos N 0 .wload g w t := by
  obtain ⟨hrun, hall⟩ := hA
  have hwg := wg_open G h0 (s := .wload) trivial
  have hV := V_le G.fits O
  have hsz := G.fits.size
  have hge := G.fits.ge
  have hsm := O.p.small
  have hwg' : WgAt 96 Y.p.Wg w (((V pos N : Nat) : Int) * KK) 0 := by simpa [pendT] using hwg
  obtain ⟨g', hst, hr', h1, h2⟩ := hall (V pos N) (by omega) hwg'
  have same : ∀ pos', Glob Y.p pos' N w t → pos' 0 = .on .wload m → V pos' N = V pos N := fun pos' G' h0' => by
    have hwg1 := wg_open G' h0' (s := .wload) trivial
    exact KK_inj (by have := (hwg1.unique hwg').1; simpa [pendT] using this)
  rcases Nat.eq_zero_or_pos (V pos N) with hz | hz
  · obtain ⟨m', hg⟩ := h1 hz
    refine outMain (q := .on .wena m') O G h0 hst hr' hg (Rm.refl w) fun pos' G' h0' fn place => ?_
    have hVz : V pos' N = 0 := (same pos' G' h0').trans hz
    obtain ⟨hW, -, hz0⟩ := open_facts G' h0' trivial
    exact finStep (s' := .wena) (m' := m') O G' h0' hz0 trivial rfl (allQ_of_zero hW hVz) (Rm.refl w) (by rw [hz] at hwg'; simpa using hwg') rfl (rd_ev (O.p.cellw _ rfl)) rd_nr rfl (fun e => by cases e) (by simp only [rk]; omega) fn place
  · obtain ⟨m', hg⟩ := h2 (by omega)
    refine outMain (q := .on (.wcas (V pos N)) m') O G h0 hst hr' hg (Rm.refl w) fun pos' G' h0' fn place => ?_
    have hVz := same pos' G' h0'
    exact openStep (s' := .wcas (V pos N)) (m' := m') O G' h0' trivial trivial rfl rfl (fun vs e => by cases e; omega) (rd_ev (O.p.cellw _ rfl)) rd_nr rfl (by simp only [rk]; omega) fn place

theorem op_wcas (O : Y.Ok) {vs : Nat} (G : Glob Y.p pos N w t) (h0 : pos 0 = .on (.wcas vs) m) (hA : stops Y (.wcas vs) g w) : Out (sys Y) () pos N 0 (.wcas vs) g w t := by
  obtain ⟨hrun, hall⟩ := hA
  have hwg := wg_open G h0 (s := .wcas vs) trivial
  have hV := V_le G.fits O
  have hsz := G.fits.size
  have hge := G.fits.ge
  have hsm := O.p.small
  have hwg' : WgAt 96 Y.p.Wg w (((V pos N : Nat) : Int) * KK) 0 := by simpa [pendT] using hwg
  obtain ⟨h1, h2⟩ := hall (V pos N) (by omega) hwg'
  have same : ∀ pos', Glob Y.p pos' N w t → pos' 0 = .on (.wcas vs) m → V pos' N = V pos N := fun pos' G' h0' => by
    have hwg1 := wg_open G' h0' (s := .wcas vs) trivial
    exact KK_inj (by have := (hwg1.unique hwg').1; simpa [pendT] using this)
  by_cases hv : V pos N = vs
  · obtain ⟨g', hst, hr', m', hg⟩ := h1 hv
    have hAs := aside_setCell w (stA Y.p.Wg) (.int .u64 (((V pos N : Nat) : Int) * KK + 1))
    have hw' := hwg'.setSt (((V pos N : Nat) : Int) * KK + 1)
    have hR : Rm Y.p.Wg Y.p.Cn w (w.setCell (stA Y.p.Wg) (.int .u64 (((V pos N : Nat) : Int) * KK + 1))) := Rm.of_wg O.p.cw hAs ⟨_, _, hw'⟩
    refine outMain (q := .on .wwr m') O G h0 hst hr' hg hR fun pos' G' h0' fn place => ?_
    have hVV := same pos' G' h0'
    obtain ⟨hW, hc, hz0⟩ := open_facts G' h0' trivial
    have h1v := (hc vs rfl).2
    have hM := Mode.regMk (N := N) O.p.n0 hz0 (p := .on .wwr m') trivial hW (by omega)
    rw [hVV] at hM
    have hp0 : tagOf (pos' 0) = some (.wcas vs) := by rw [h0']; rfl
    refine ⟨G'.main O.p hR (.inr (.inl trivial)) (fun x e => by cases e) (by rw [hp0]; rfl) (ok0_of (rw_ev (O.p.cellw _ rfl))) rw_nr (by rw [h0']; rfl) hw' hM
      (cnt_main hz0 rfl (fun v u e => by simp [tagOf] at e) G'.cnt (aside_heap O.p.cw hAs)) (fun e => by simp [tagOf] at e), phi_main (G'.size O.p) hz0 rfl (by rw [hp0]; simp only [rk, tagOf]; omega)⟩
  · obtain ⟨g', hst, hr', m', hg⟩ := h2 hv
    refine outMain (q := .on .wload (m' + 30)) O G h0 hst hr' (Goes.after (fun w => Rm.refl w) O.anch hg) (Rm.refl w) fun pos' G' h0' fn place => ?_
    have hVV := same pos' G' h0'
    obtain ⟨-, hc, -⟩ := open_facts G' h0' trivial
    have := (hc vs rfl).1
    exact openStep (s' := .wload) (m' := m' + 30) O G' h0' trivial trivial rfl rfl (fun vs e => by cases e) (rd_ev (O.p.cellw _ rfl)) rd_nr rfl (by simp only [rk]; omega) fn place

theorem op_wwr (O : Y.Ok) (G : Glob Y.p pos N w t) (h0 : pos 0 = .on .wwr m) (hA : stops Y .wwr g w) : Out (sys Y) () pos N 0 .wwr g w t := by
  obtain ⟨hrun, g', hst, hr', m', hg⟩ := hA
  refine outMain (q := .on .wsem m') O G h0 hst hr' hg (Rm.refl w) fun pos' G' h0' fn place => ?_
  obtain ⟨st, sm, hwg, hm⟩ := G'.wg
  have hp0 : tagOf (pos' 0) = some .wwr := by rw [h0']; rfl
  have h3 : w3T (tagOf (pos' 0)) := by rw [hp0]; trivial
  refine ⟨G'.main O.p (Rm.refl w) (.inr (.inl trivial)) (fun x e => by cases e) (by rw [hp0]; rfl) (ok0_of (mk_ev (ev0_said (O.p.cellw _ rfl) (.inr rfl)))) (mk_nr (by intro a h; cases h)) (by rw [h0']; rfl) hwg
    (hm.w3Mk O.p.n0 h3 (p := .on .wsem m') trivial (fun _ s e => by cases e)) (cnt_main (wst0_of_w3 h3) rfl (fun v u e => by simp [tagOf] at e) G'.cnt rfl) (fun e => by simp [tagOf] at e),
    phi_main (G'.size O.p) (wst0_of_w3 h3) rfl (by rw [hp0]; simp [rk, tagOf])⟩

theorem fin_facts (G : Glob Y.p pos N w t) {s : Stg} {m : Nat} (h0 : pos 0 = .on s m) (ho : finT (some s)) : AllQ pos Y.p.N0 N ∧ WgAt 96 Y.p.Wg w 0 0 ∧ wst (pos 0) = 0 := by
  obtain ⟨st, sm, hwg, hm⟩ := G.wg
  have hp0 : tagOf (pos 0) = some s := by rw [h0]; rfl
  obtain ⟨hQ, rfl, rfl⟩ := hm.finInv (by rw [hp0]; exact ho)
  exact ⟨hQ, hwg, wst0_of_fin (by rw [hp0]; exact ho)⟩

theorem sem_ev {Sh : Loc → Prop} {a : Addr} (h : Sh (.cell a)) : ∀ e ∈ semEvents a, Ev0s Sh e := by
  intro e he; simp [semEvents] at he
  rcases he with rfl | rfl | rfl | rfl
  · exact ev0_mk (m := .disable) rfl
  · exact ev0_cell h
  · exact ev0_cell h
  · exact ev0_mk (m := .enable) rfl
theorem sem_nr {a : Addr} : ∀ e ∈ semEvents a, ∀ ar : Addr, e.loc ≠ .mark (.release ar) := by
  intro e he; simp [semEvents] at he
  rcases he with rfl | rfl | rfl | rfl <;> simp

theorem op_wsem (O : Y.Ok) (G : Glob Y.p pos N w t) (h0 : pos 0 = .on .wsem m) (hA : ∀ w₁, RR Y w w₁ → stops Y .wsem g w₁) : Out (sys Y) () pos N 0 .wsem g w t := by
  obtain ⟨hrun, hoff, hblk, htake⟩ := hA w (Rm.refl w)
  obtain ⟨st, sm, hwg, hm⟩ := G.wg
  have hp0 : tagOf (pos 0) = some .wsem := by rw [h0]; rfl
  have h3 : w3T (tagOf (pos 0)) := by rw [hp0]; trivial
  rcases hm.w3Inv h3 with rfl | ⟨rfl, rfl, hQ⟩
  · have e0 : t ++ MemOp.ofEvents 0 g.frame.fn g.frame.place #[] = t := by simp [MemOp.ofEvents]
    have hG : Glob Y.p (upd pos 0 (.blk .wsem)) N w (t ++ MemOp.ofEvents 0 g.frame.fn g.frame.place #[]) := G.main O.p (Rm.refl w) (.inr (.inl trivial)) (fun x e => by cases e; rfl) (by rw [hp0]; rfl) (ok0_of (by simp)) (by simp) (by rw [h0]; rfl) hwg
      (hm.w3Mk O.p.n0 h3 (p := .blk .wsem) trivial (fun e => by cases e)) (cnt_main (wst0_of_w3 h3) rfl (fun v u e => by simp [tagOf] at e) G.cnt rfl) (fun e => by simp [tagOf] at e)
    rw [e0] at hG
    have hP : phi Y.p (upd pos 0 (.blk .wsem)) N = phi Y.p pos N := phi_same (fun k _ => by
      by_cases e : k = 0
      · subst e; rw [upd_same, h0]; rfl
      · rw [upd_ne _ _ e]) (G.size O.p)
    exact Out.block (hblk ⟨st, hwg⟩) hoff hA hG (Nat.le_of_eq hP)
  · obtain ⟨g', hst, hr', m', hg⟩ := htake hwg
    have hAs := aside_setCell w (smA Y.p.Wg) (.int .u32 0)
    have hw' := hwg.setSm 0
    have hR : Rm Y.p.Wg Y.p.Cn w (w.setCell (smA Y.p.Wg) (.int .u32 0)) := Rm.of_wg O.p.cw hAs ⟨_, _, hw'⟩
    refine outMain (q := .on .wld2 m') O G h0 hst hr' hg hR fun pos' G' h0' fn place => ?_
    obtain ⟨st', sm', hwg', hm'⟩ := G'.wg
    obtain ⟨rfl, rfl⟩ := hwg'.unique hwg
    have h3' : w3T (tagOf (pos' 0)) := by rw [h0']; trivial
    have hQ' : AllQ pos' Y.p.N0 N := by
      rcases hm'.w3Inv h3' with x | ⟨-, -, x⟩
      · cases x
      · exact x
    exact finStep (s' := .wld2) (m' := m') O G' h0' (wst0_of_w3 h3') trivial rfl hQ' hR hw' (aside_heap O.p.cw hAs) (sem_ev (O.p.cellw _ rfl)) sem_nr rfl (fun e => by cases e) (by simp [rk]) fn place

theorem op_wld2 (O : Y.Ok) (G : Glob Y.p pos N w t) (h0 : pos 0 = .on .wld2 m) (hA : stops Y .wld2 g w) : Out (sys Y) () pos N 0 .wld2 g w t := by
  obtain ⟨hrun, hall⟩ := hA
  obtain ⟨hQ, hwg, hz⟩ := fin_facts G h0 trivial
  obtain ⟨g', hst, hr', m', hg⟩ := hall hwg
  refine outMain (q := .on .wena m') O G h0 hst hr' hg (Rm.refl w) fun pos' G' h0' fn place => ?_
  obtain ⟨hQ', hwg', hz'⟩ := fin_facts G' h0' trivial
  exact finStep (s' := .wena) (m' := m') O G' h0' hz' trivial rfl hQ' (Rm.refl w) hwg' rfl (rd_ev (O.p.cellw _ rfl)) rd_nr rfl (fun e => by cases e) (by simp [rk]) fn place
theorem op_wena (O : Y.Ok) (G : Glob Y.p pos N w t) (h0 : pos 0 = .on .wena m) (hA : stops Y .wena g w) : Out (sys Y) () pos N 0 .wena g w t := by
  obtain ⟨hrun, g', hst, hr', m', hg⟩ := hA
  refine outMain (q := .on .wacq m') O G h0 hst hr' hg (Rm.refl w) fun pos' G' h0' fn place => ?_
  obtain ⟨hQ', hwg', hz'⟩ := fin_facts G' h0' trivial
  exact finStep (s' := .wacq) (m' := m') (es := #[mk Mark.enable]) O G' h0' hz' trivial rfl hQ' (Rm.refl w) hwg' rfl (mk_ev (ev0_mk rfl)) (mk_nr (by intro a h; cases h)) rfl (fun e => by cases e) (by simp [rk]) fn place

/-- Main has said 'acquire', hearing: all is handed over. -/
theorem handed_acq (O : Y.Ok) (G : Glob Y.p pos N w t) (h0 : pos 0 = .on .wacq m) (hQ : AllQ pos Y.p.N0 N) (fn : FuncId) (place : String) : Handed N (t ++ MemOp.ofEvents 0 fn place #[mk (.acquire (stA Y.p.Wg))]) := by
  have e1 : MemOp.ofEvents 0 fn place #[mk (.acquire (stA Y.p.Wg))] = #[{ g := 0, fn, pos := place, act := .mark (.acquire (stA Y.p.Wg)) }] := by rw [ofEvents_eq]; simp [Go.ConcR.ofEvent_mk]
  have hold := G.hand.appOther (u := MemOp.ofEvents 0 fn place #[mk (.acquire (stA Y.p.Wg))]) g_of_ofEvents (.inl rfl)
  have hd : Deaf t 0 = 0 := by rw [G.df 0 (by have := G.size O.p; omega), h0]; rfl
  rw [e1] at hold ⊢
  have hy : (t ++ #[({ g := 0, fn, pos := place, act := .mark (.acquire (stA Y.p.Wg)) } : MemOp)])[t.size]? = some { g := 0, fn, pos := place, act := .mark (.acquire (stA Y.p.Wg)) } := by simp
  have hh : (t ++ #[({ g := 0, fn, pos := place, act := .mark (.acquire (stA Y.p.Wg)) } : MemOp)]).heard t.size := ⟨0, by simp [Trace.g?], by rw [deaf_old (Nat.le_refl _)]; exact hd⟩
  have hn : NoRelease (stA Y.p.Wg) (t ++ #[({ g := 0, fn, pos := place, act := .mark (.acquire (stA Y.p.Wg)) } : MemOp)]) := (G.norel _).app fun op hop => by simp at hop; subst hop; simp
  intro i a hga ha0 haN hc
  rcases Nat.lt_or_ge a Y.p.N0 with hlt | hge
  · exact hold i a hga ha0 hlt hc
  · obtain ⟨r, hr0⟩ := G.rel a hge haN (by rw [hQ a hge haN]; omega)
    have hrt : r < t.size := lt_of_act? hr0.act
    have hr := hr0.appOther (u := #[({ g := 0, fn, pos := place, act := .mark (.acquire (stA Y.p.Wg)) } : MemOp)]) (g := 0) (fun op hop => by simp at hop; subst hop; rfl) (fun e => ha0 e.symm)
    have edge : HappensBefore (t ++ #[({ g := 0, fn, pos := place, act := .mark (.acquire (stA Y.p.Wg)) } : MemOp)]) r t.size := .single (.inr ⟨.marked hrt (.inr hr.act) (by rw [act?_of hy]) (fun k _ _ => hn k), hr.heard, hh⟩)
    have hle : i ≤ r := Nat.le_of_not_lt fun hlt => hr.after i hlt hga hc
    rcases Nat.lt_or_ge i r with hlt | hge'
    · exact ⟨t.size, by simp [Trace.g?], .trans (.single (.inl ⟨hlt, a, hga, hr.g⟩)) edge⟩
    · obtain rfl : i = r := by omega
      exact ⟨t.size, by simp [Trace.g?], edge⟩
theorem op_wacq (O : Y.Ok) (G : Glob Y.p pos N w t) (h0 : pos 0 = .on .wacq m) (hA : stops Y .wacq g w) : Out (sys Y) () pos N 0 .wacq g w t := by
  obtain ⟨hrun, g', hst, hr', m', hg⟩ := hA
  refine outMain (q := .on .fin m') O G h0 hst hr' hg (Rm.refl w) fun pos' G' h0' fn place => ?_
  obtain ⟨hQ', hwg', hz'⟩ := fin_facts G' h0' trivial
  exact finStep (s' := .fin) (m' := m') (es := #[mk (Mark.acquire (stA Y.p.Wg))]) O G' h0' hz' trivial rfl hQ' (Rm.refl w) hwg' rfl (mk_ev (ev0_mk rfl)) (mk_nr (by intro a h; cases h)) rfl (fun _ fn place => handed_acq O G' h0' hQ' fn place) (by simp [rk]) fn place
end
end Go.Proofs.Ytdkbkocklnnmdaa.crew
/-
  A main goroutine that starts workers and waits for them: the go statement. Conditions: those of the structure Ways.Ok.
-/
set_option linter.unusedVariables false
set_option linter.unusedSectionVars false
set_option linter.unusedSimpArgs false
namespace Go.Proofs.Ytdkbkocklnnmdaa.crew
open Go Go.Conc Go.Proofs.Ytdkbkocklnnmdaa.mach Go.Proofs.Ytdkbkocklnnmdaa.wg
open Go.ConcN (upd upd_same upd_ne sumTo sumTo_upd sumTo_congr le_sumTo sumTo_upd_out sumTo_le CT OkW Ok0 Apart RelBy WgLive RW PayAt AtR0 AtK1 AtD1 AtD2 AtD3 AtD4 handedOver_all Deaf_absent)
open Go.ConcR (KK WgAt stA smA rd wr mk DC0 Bk g_of_ofEvents)

section
variable {Y : Ways} {pos : Nat → Ps} {N : Nat} {w w' : World} {t : Trace} {s : Stg} {m : Nat} {g g' : Goroutine} {es : Array Event} {q : Ps}

theorem Deaf_still {k : Nat} {u : Trace} (hu : ∀ op ∈ u, ∀ mm, op.act ≠ .mark mm) : Deaf (t ++ u) k = Deaf t k := by
  obtain ⟨l⟩ := u
  rw [Deaf_append]
  induction l generalizing t with
  | nil => rfl
  | cons y l ih =>
    have hy : deafStep k (Deaf t k) y = Deaf t k := by
      unfold deafStep
      split
      · rename_i h; exact absurd h (hu y (by simp) _)
      · rename_i h; exact absurd h (hu y (by simp) _)
      · rfl
    rw [List.foldl_cons, hy]
    exact ih fun op hop => hu op (by simp at hop ⊢; exact .inr hop)

theorem counts_mute {u : Trace} (hu : ∀ op ∈ u, op.act.touch? = none) {i : Nat} (hi : t.size ≤ i) : ¬ (t ++ u).counts i := by
  rintro ⟨x, hx, _⟩
  obtain ⟨act, hact, hxt⟩ := Option.bind_eq_some_iff.1 hx
  obtain ⟨op, ho, rfl⟩ := Option.map_eq_some_iff.1 hact
  rcases getElem?_append_cases ho with ⟨hlt, _⟩ | ⟨_, hou⟩
  · omega
  · rw [hu op hou] at hxt; cases hxt

theorem Un_le (h : Fits Y.p pos N) (O : Y.Ok) : Un Y.p pos N ≤ Y.p.n := by
  have n0 := O.p.n0
  have hs := h.size
  have hge := h.ge
  have key : ∀ M, M ≤ N → sumTo M (fun k => if 8 ≤ wst (pos k) then 1 else 0) ≤ M - Y.p.N0 := by
    intro M
    induction M with
    | zero => intro _; simp [sumTo]
    | succ M ih =>
      intro hM
      have := ih (by omega)
      simp only [sumTo]
      rcases Nat.lt_or_ge M Y.p.N0 with hlt | hge
      · rw [if_neg]
        · omega
        · by_cases e : M = 0
          · subst e
            rcases h.main with a | a | a
            · rw [wst0_of_open a]; omega
            · rw [wst0_of_w3 a]; omega
            · rw [wst0_of_fin a]; omega
          · rw [h.old M (by omega) hlt]; omega
      · split <;> omega
  have := key N (Nat.le_refl _)
  unfold Un
  omega

/-- The go statement, whichever of the two stages main goes on to. -/
theorem goStep (O : Y.Ok) {r : Nat} (G : Glob Y.p pos N w t) (h0 : pos 0 = .on (.go r) m) {p' : Ps} {mc : Nat} {fn fn' : FuncId} {pl : String} (hp : openT (tagOf p')) (hpp : pendT (tagOf p') = 0) (hnc : ∀ vs, tagOf p' ≠ some (.wcas vs)) (hd : dfn p' = 0) (hrem : remT (tagOf p') = r)
    (hb : ∀ s, p' ≠ .blk s) (hrk : rk Y.p.n (V pos N + 1) (tagOf p') + 2 * Y.p.n + 12 ≤ rk Y.p.n (V pos N) (some (.go r))) :
    Glob Y.p (upd (upd pos 0 p') N (.on Y.ks mc)) (N + 1) w ((t.push { g := 0, fn, pos := pl, act := .go N }).push { g := N, fn := fn', pos := pl, act := .start }) ∧
      phi Y.p (upd (upd pos 0 p') N (.on Y.ks mc)) (N + 1) < phi Y.p pos N := by
  have n0 := O.p.n0
  have ge := G.fits.ge
  have hN1 := G.size O.p
  have hp0 : tagOf (pos 0) = some (.go r) := by rw [h0]; rfl
  have hsz : N + (r + 1) = Y.p.N0 + Y.p.n := by have := G.fits.size; rw [hp0] at this; exact this
  have hks : Y.ks = .kl ∨ Y.ks = .k0 := by by_cases hc : Y.p.useC; exact .inl (O.kid hc); exact .inr (O.kid0 hc)
  have hwk : 7 ≤ wst (.on Y.ks mc) := by rcases hks with e | e <;> rw [e] <;> simp [wst, wT, tagOf]
  have hdk : dfn (.on Y.ks mc) = 0 := by rcases hks with e | e <;> rw [e] <;> rfl
  obtain ⟨st, sm, hwg, hm⟩ := G.wg
  obtain ⟨hm', hV'⟩ := hm.born n0 ge h0 hp hpp hnc (pc := .on Y.ks mc) (by omega)
  have e0 : upd (upd pos 0 p') N (.on Y.ks mc) 0 = p' := by rw [upd_ne _ _ (by omega), upd_same]
  have eN : upd (upd pos 0 p') N (.on Y.ks mc) N = .on Y.ks mc := upd_same _ _ _
  have ek : ∀ k, k ≠ 0 → k ≠ N → upd (upd pos 0 p') N (.on Y.ks mc) k = pos k := fun k a b => by rw [upd_ne _ _ b, upd_ne _ _ a]
  have hz0 : wst (pos 0) = 0 := wst0_of_open (by rw [hp0]; trivial)
  have hzp : wst p' = 0 := wst0_of_open hp
  have et : (t.push { g := 0, fn, pos := pl, act := .go N }).push { g := N, fn := fn', pos := pl, act := .start } = t ++ #[({ g := 0, fn, pos := pl, act := .go N } : MemOp), { g := N, fn := fn', pos := pl, act := .start }] := by
    apply Array.ext'; simp
  rw [et]
  generalize hu : (#[({ g := 0, fn, pos := pl, act := .go N } : MemOp), { g := N, fn := fn', pos := pl, act := .start }] : Trace) = u
  have mute : ∀ op ∈ u, op.act.touch? = none := by
    intro op hop; rw [← hu] at hop; simp at hop; rcases hop with rfl | rfl <;> rfl
  have nomark : ∀ op ∈ u, ∀ mm, op.act ≠ .mark mm := by
    intro op hop mm; rw [← hu] at hop; simp at hop; rcases hop with rfl | rfl <;> simp
  have hdN : Deaf t N = 0 := Deaf_absent fun i op hi e => by have := G.ct.gs i op hi; omega
  have hct : CT Y.p.Sh noOwn Y.p.Rd (t ++ u) N := by
    have := G.ct.fork (x := { g := 0, fn, pos := pl, act := .go N }) (y := { g := N, fn := fn', pos := pl, act := .start }) O.p.apart ⟨rfl, by rw [Nat.sub_add_cancel hN1]⟩ ⟨by rw [Nat.sub_add_cancel hN1], rfl⟩ (by rw [G.df 0 (by omega), h0]; rfl)
    rw [Nat.sub_add_cancel hN1, hu] at this
    exact this
  have hUn : Y.p.useC → Un Y.p (upd (upd pos 0 p') N (.on Y.ks mc)) (N + 1) = Un Y.p pos N := fun hc => by
    unfold Un
    simp only [sumTo, eN]
    rw [show (sumTo N fun k => if 8 ≤ wst (upd (upd pos 0 p') N (.on Y.ks mc) k) then 1 else 0) = sumTo N fun k => if 8 ≤ wst (pos k) then 1 else 0 from sumTo_congr fun k hk => by
      by_cases x : k = 0
      · subst x; rw [e0, hz0, hzp]
      · rw [ek k x (by omega)]]
    rw [O.kid hc, if_pos (by simp [wst, wT, tagOf])]
    omega
  have hUle : Un Y.p (upd (upd pos 0 p') N (.on Y.ks mc)) (N + 1) ≤ Un Y.p pos N := by
    unfold Un
    simp only [sumTo, eN]
    rw [show (sumTo N fun k => if 8 ≤ wst (upd (upd pos 0 p') N (.on Y.ks mc) k) then 1 else 0) = sumTo N fun k => if 8 ≤ wst (pos k) then 1 else 0 from sumTo_congr fun k hk => by
      by_cases x : k = 0
      · subst x; rw [e0, hz0, hzp]
      · rw [ek k x (by omega)]]
    split <;> omega
  refine ⟨⟨⟨by rw [e0]; exact .inl hp, by rw [e0]; exact fun s e => absurd e (hb s), by rw [e0, hrem]; omega, by omega, fun k a b => by rw [ek k (by omega) (by omega)]; exact G.fits.old k a b, fun k a b => ?_⟩, fun k hk => ?_, hct,
    fun ar => (G.norel ar).app (fun op hop => by have := nomark op hop; exact this _), fun k a b c => ?_, G.hand.appMute mute, fun e => ?_, G.world, ⟨st, sm, hwg, hm'⟩, ⟨fun hc => ?_, fun hc k hk => ?_⟩, fine_app G.fine fun op hop => fine_mute (mute op hop)⟩, ?_⟩
  · by_cases x : k = N
    · subst x; rw [eN]; exact ⟨by omega, fun s e => by cases e⟩
    · rw [ek k (by omega) x]; exact G.fits.wk k a (by omega)
  · rw [Deaf_still nomark]
    by_cases x : k = N
    · subst x; rw [eN, hdk, hdN]
    · by_cases y : k = 0
      · subst y; rw [e0, hd, G.df 0 (by omega), h0]; rfl
      · rw [ek k y x]; exact G.df k (by omega)
  · by_cases x : k = N
    · subst x; rw [eN] at c; omega
    · rw [ek k (by omega) x] at c
      obtain ⟨r', hr'⟩ := G.rel k a (by omega) c
      exact ⟨r', hr'.app fun i hi _ => counts_mute mute hi⟩
  · rw [e0] at e; rw [e] at hp; exact hp.elim
  · rw [hUn hc]
    refine ⟨(G.cnt.1 hc).1, fun k hk v u' e => ?_⟩
    by_cases x : k = N
    · subst x; rw [eN, O.kid hc] at e; simp [tagOf] at e
    · by_cases y : k = 0
      · subst y; rw [e0] at e; rw [e] at hp; exact hp.elim
      · rw [ek k y x] at e; exact (G.cnt.1 hc).2 k (by omega) v u' e
  · by_cases x : k = N
    · subst x; rw [eN, O.kid0 hc]; simp [wst, wT, tagOf]
    · by_cases y : k = 0
      · subst y; rw [e0, hzp]; omega
      · rw [ek k y x]; exact G.cnt.2 hc k (by omega)
  · unfold phi
    rw [hV', e0, hp0]
    have hle := Un_le G.fits O
    simp only [sumTo, eN]
    have h1 : sumTo N (fun k => ww (Un Y.p (upd (upd pos 0 p') N (.on Y.ks mc)) (N + 1)) (tagOf (upd (upd pos 0 p') N (.on Y.ks mc) k))) ≤ sumTo N (fun k => ww (Un Y.p pos N) (tagOf (pos k))) := sumTo_mono fun k hk => by
      by_cases x : k = 0
      · subst x
        rw [e0]
        have : ww (Un Y.p (upd (upd pos 0 p') N (.on Y.ks mc)) (N + 1)) (tagOf p') = 0 := by
          revert hp; cases tagOf p' with
          | none => exact fun h => h.elim
          | some s => cases s <;> intro h <;> first | rfl | exact h.elim
        omega
      · rw [ek k x (by omega)]; exact ww_mono hUle _
    have h2 : ∀ U, U ≤ Y.p.n → ww U (tagOf (.on Y.ks mc)) ≤ 9 + 2 * Y.p.n := by
      intro U hU
      rcases hks with e | e <;> rw [e] <;> simp only [tagOf, ww] <;> omega
    have := h2 _ (Nat.le_trans hUle hle)
    omega

theorem op_go (O : Y.Ok) {r : Nat} (G : Glob Y.p pos N w t) (h0 : pos 0 = .on (.go r) m) (hA : stops Y (.go r) g w) : Out (sys Y) () pos N 0 (.go r) g w t := by
  obtain ⟨hrun, g', child, hst, ⟨mc, hkid⟩, m', hg⟩ := hA
  have hN1 := G.size O.p
  have hks : Y.ks = .kl ∨ Y.ks = .k0 := by by_cases hc : Y.p.useC; exact .inl (O.kid hc); exact .inr (O.kid0 hc)
  have hNk : (N == 0) = false := by simp; omega
  have hkid' : (sys Y).Holds N (.on Y.ks mc) child w := by
    show Goes Try.prog (N == 0) (rely Y Y.ks) (guar Y Y.ks) (stops Y Y.ks) mc child w
    rw [hNk]
    unfold kidStop at hkid
    rcases hks with e | e <;> rw [e] at hkid ⊢ <;> exact hkid
  have e0 : t ++ MemOp.ofEvents 0 g.frame.fn g.frame.place #[] = t := by simp [MemOp.ofEvents]
  have hV := V_le G.fits O
  have hsz : N + (r + 1) = Y.p.N0 + Y.p.n := by have := G.fits.size; rw [h0] at this; exact this
  have hge := G.fits.ge
  cases r with
  | zero =>
    have key := fun fn fn' pl => goStep (p' := .on .wdis m') (mc := mc) (fn := fn) (fn' := fn') (pl := pl) O G h0 trivial rfl (fun vs e => by simp [tagOf] at e) rfl rfl (fun s e => by cases e) (by simp only [tagOf, rk]; omega)
    refine Out.spawn g' child w #[] (.on .wdis m') (.on Y.ks mc) () hst hg hkid' (fun j _ _ => suffers O (Rm.refl w) _) (fun place => ?_) (key 0 0 "").2
    rw [e0]; exact (key _ _ place).1
  | succ r =>
    have hmul : (2 * Y.p.n + 40) * (r + 1 + 1) = (2 * Y.p.n + 40) * (r + 1) + (2 * Y.p.n + 40) := Nat.mul_succ _ _
    have key := fun fn fn' pl => goStep (p' := .on (.dis r) m') (mc := mc) (fn := fn) (fn' := fn') (pl := pl) O G h0 trivial rfl (fun vs e => by simp [tagOf] at e) rfl rfl (fun s e => by cases e) (by simp only [tagOf, rk]; omega)
    refine Out.spawn g' child w #[] (.on (.dis r) m') (.on Y.ks mc) () hst hg hkid' (fun j _ _ => suffers O (Rm.refl w) _) (fun place => ?_) (key 0 0 "").2
    rw [e0]; exact (key _ _ place).1
end
end Go.Proofs.Ytdkbkocklnnmdaa.crew
/-
  A main goroutine that starts workers and waits for them: the workers' operations. Conditions: those of the structure Ways.Ok.
-/
set_option linter.unusedVariables false
set_option linter.unusedSectionVars false
set_option linter.unusedSimpArgs false
namespace Go.Proofs.Ytdkbkocklnnmdaa.crew
open Go Go.Conc Go.Proofs.Ytdkbkocklnnmdaa.mach Go.Proofs.Ytdkbkocklnnmdaa.wg
open Go.ConcN (upd upd_same upd_ne sumTo sumTo_upd sumTo_congr le_sumTo sumTo_upd_out sumTo_le CT OkW Ok0 Apart RelBy WgLive RW PayAt AtR0 AtK1 AtD1 AtD2 AtD3 AtD4 handedOver_all RelBy.appOwn RelBy.new)
open Go.ConcR (KK WgAt stA smA rd wr mk DC0 Bk g_of_ofEvents)

section
variable {Y : Ways} {pos : Nat → Ps} {N k : Nat} {w w' : World} {t : Trace} {s : Stg} {m : Nat} {g g' : Goroutine} {es : Array Event} {q : Ps}

/-- An entry of a worker's that touches nothing, or a shared place by an atomic step. -/
def EvWs (Sh : Loc → Prop) (e : Event) : Prop := ∀ x, (MemAct.ofEvent e).touch? = some x → Sh x.loc ∧ x.kind ≠ .plain ∧ x.kind ≠ .said
theorem okW_of {Sh : Loc → Prop} {Rd : Nat → Loc → Prop} {fn : FuncId} {place : String} (h : ∀ e ∈ es, EvWs Sh e) : ∀ op ∈ MemOp.ofEvents k fn place es, OkW Sh noOwn Rd k op ∧ ∀ x, op.act.touch? = some x → ¬ Sh x.loc → x.kind ≠ .atomic := by
  intro op hop
  rw [ofEvents_eq] at hop
  obtain ⟨e, he, rfl⟩ := Array.mem_map.1 hop
  exact ⟨⟨rfl, fun x hx => .inl (h e he x hx)⟩, fun x hx hs => absurd (h e he x hx).1 hs⟩
theorem evw_mk {Sh : Loc → Prop} {m : Mark} (h : (MemAct.mark m).touch? = none) : EvWs Sh (mk m) := fun x hx => by
  have : (MemAct.ofEvent (mk m)).touch? = none := h
  rw [this] at hx; cases hx
theorem evw_cell {Sh : Loc → Prop} {a : Addr} {wr : Bool} (hS : Sh (.cell a)) : EvWs Sh ⟨.cell a, wr, true⟩ := fun x hx => by
  have : x = ⟨.cell a, wr, .atomic⟩ := (Option.some.inj hx).symm
  subst this; exact ⟨hS, by simp, by simp⟩
theorem evw_one {Sh : Loc → Prop} {mm : Mark} (h : EvWs Sh (mk mm)) : ∀ e ∈ #[mk mm], EvWs Sh e := by
  intro e he; simp at he; subst he; exact h
theorem evw_rw {Sh : Loc → Prop} {a : Addr} (h : Sh (.cell a)) : ∀ e ∈ #[rd a, wr a], EvWs Sh e := by
  intro e he; simp at he; rcases he with rfl | rfl <;> exact evw_cell h
theorem evw_rd {Sh : Loc → Prop} {a : Addr} (h : Sh (.cell a)) : ∀ e ∈ #[rd a], EvWs Sh e := by
  intro e he; simp at he; subst he; exact evw_cell h
theorem evw_wr {Sh : Loc → Prop} {a : Addr} (h : Sh (.cell a)) : ∀ e ∈ #[wr a], EvWs Sh e := by
  intro e he; simp at he; subst he; exact evw_cell h
theorem evw_sem {Sh : Loc → Prop} {a : Addr} (h : Sh (.cell a)) : ∀ e ∈ semEvents a, EvWs Sh e := by
  intro e he; simp [semEvents] at he
  rcases he with rfl | rfl | rfl | rfl
  · exact evw_mk (m := .disable) rfl
  · exact evw_cell h
  · exact evw_cell h
  · exact evw_mk (m := .enable) rfl
theorem wr_nr {a : Addr} : ∀ e ∈ #[wr a], ∀ ar : Addr, e.loc ≠ .mark (.release ar) := by
  intro e he; simp at he; subst he; simp [wr]

theorem V_upd_le (hk : k < N) (h : cn q ≤ cn (pos k)) : V (upd pos k q) N ≤ V pos N := by have := V_upd (pos := pos) q hk; omega
theorem Un_upd (hk : k < N) : Un Y.p (upd pos k q) N + (if 8 ≤ wst (pos k) then 1 else 0) = Un Y.p pos N + (if 8 ≤ wst q then 1 else 0) := by
  have := sumTo_upd pos q (fun x => if 8 ≤ wst x then 1 else 0) hk
  unfold Un
  have e : (sumTo N fun a => if 8 ≤ wst (upd pos k q a) then 1 else 0) = sumTo N (fun a => (fun x => if 8 ≤ wst x then 1 else 0) (upd pos k q a)) := rfl
  omega
theorem no_fin (G : Glob Y.p pos N w t) (k0 : Y.p.N0 ≤ k) (kN : k < N) (h : wst (pos k) ≠ 1) : tagOf (pos 0) ≠ some .fin := by
  intro e
  obtain ⟨st, sm, hwg, hm⟩ := G.wg
  exact h ((hm.finInv (by rw [e]; trivial)).1 k k0 kN)

/-- A worker's step that leaves the count. -/
theorem workStep (O : Y.Ok) (G : Glob Y.p pos N w t) (k0 : Y.p.N0 ≤ k) (kN : k < N) (hk : pos k = .on s m) (hs : wst (pos k) ≠ 1) (h7 : wst (pos k) ≤ 7) (hR : Rm Y.p.Wg Y.p.Cn w w') (hcn : w'.heap[Y.p.Cn]? = w.heap[Y.p.Cn]?) (hq : 1 ≤ wst q ∧ Up q) (hlt : ww 0 (tagOf q) < ww 0 (some s)) (hq7 : wst q ≤ 7) (hcnq : cn q ≤ cn (pos k))
    (hev : ∀ e ∈ es, EvWs Y.p.Sh e) (hnr : ∀ e ∈ es, ∀ ar : Addr, e.loc ≠ .mark (.release ar)) (hdf : deafBehind (dfn (.on s m)) es = dfn q) {st sm : Int} (hwg : WgAt 96 Y.p.Wg w' st sm) (hm : Mode (upd pos k q) Y.p.N0 N st sm) (fn : FuncId) (place : String)
    (hrel : wst q ≤ 6 → ∃ r, RelBy (stA Y.p.Wg) (t ++ MemOp.ofEvents k fn place es) k r) :
    Glob Y.p (upd pos k q) N w' (t ++ MemOp.ofEvents k fn place es) ∧ phi Y.p (upd pos k q) N < phi Y.p pos N := by
  have n0 := O.p.n0
  have hU := Un_upd (Y := Y) (pos := pos) (q := q) kN
  rw [if_neg (by omega), if_neg (by omega)] at hU
  have w7 : ∀ (U : Nat) (x : Ps), wst x ≤ 7 → ww U (tagOf x) = ww 0 (tagOf x) := by
    intro U x hx
    unfold wst at hx
    revert hx
    cases tagOf x with
    | none => intro _; rfl
    | some s => cases s <;> intro hx <;> first | rfl | simp [wT] at hx
  refine ⟨G.worker O.p k0 kN hR hq (okW_of hev) hnr (by rw [hk]; exact hdf) hrel hwg hm (cnt_worker kN h7 hq7 G.cnt hcn) (fun e => absurd e (no_fin G k0 kN hs)), phi_worker kN (by omega) (V_upd_le kN hcnq) (by omega) ?_⟩
  rw [w7 _ _ hq7, w7 _ _ h7, hk]
  exact hlt

theorem rel_mute (G : Glob Y.p pos N w t) (k0 : Y.p.N0 ≤ k) (kN : k < N) (h6 : wst (pos k) ≤ 6) (fn : FuncId) (place : String) (hes : ∀ e ∈ es, (MemAct.ofEvent e).touch? = none) : ∃ r, RelBy (stA Y.p.Wg) (t ++ MemOp.ofEvents k fn place es) k r := by
  obtain ⟨r, hr⟩ := G.rel k k0 kN h6
  exact ⟨r, hr.appOwn fn place es fun j e he => .inl (hes e (Array.mem_of_getElem? he))⟩
theorem rel_deaf (G : Glob Y.p pos N w t) (k0 : Y.p.N0 ≤ k) (kN : k < N) (h6 : wst (pos k) ≤ 6) (hd : dfn (pos k) = 1) (fn : FuncId) (place : String)
    (hes : ∀ j e, es[j]? = some e → (MemAct.ofEvent e).touch? = none ∨ ((∃ ad wr, e = ⟨.cell ad, wr, true⟩) ∧ 0 < deafBehind 1 (es.extract 0 j))) : ∃ r, RelBy (stA Y.p.Wg) (t ++ MemOp.ofEvents k fn place es) k r := by
  obtain ⟨r, hr⟩ := G.rel k k0 kN h6
  exact ⟨r, hr.appOwn fn place es (by rw [G.df k kN, hd]; exact hes)⟩

theorem runs_of {S : Goroutine → World → Prop} {R : World → World → Prop} {D : World → World → Array Event → Prop} (refl : ∀ w, R w w) (hS : ∀ g w, S g w → g.status = .running) {n : Nat} (h : Goes Try.prog false R D S n g w) : g.status = .running :=
  Goes.running hS w (refl w) h
theorem rk_refl (w : World) : RK Y w w := Go.ConcN.RW.refl w
theorem holds_w (k1 : k ≠ 0) {s : Stg} {n : Nat} (h : Goes Try.prog false (rely Y s) (guar Y s) (stops Y s) n g w) : (sys Y).Holds k (.on s n) g w := by
  show Goes Try.prog (k == 0) (rely Y s) (guar Y s) (stops Y s) n g w
  rw [show (k == 0) = false by simpa using k1]
  exact h

theorem op_k0 (O : Y.Ok) (G : Glob Y.p pos N w t) (k0 : Y.p.N0 ≤ k) (kN : k < N) (h0 : pos k = .on .k0 m) (hA : stops Y .k0 g w) : Out (sys Y) () pos N k .k0 g w t := by
  have k1 : k ≠ 0 := by have := O.p.n0; omega
  obtain ⟨hrun, hhas, g', hst, m', hg⟩ := hA
  refine outWork (q := .on .k1 m') O G k1 h0 hst (.inl (runs_of rk_refl (fun _ _ h => h.1) hg)) (holds_w k1 hg) (Rm.refl w) fun pos' _ G' h0' _ fn place => ?_
  obtain ⟨st, sm, hwg, hm⟩ := G'.wg
  have e7 : wst (pos' k) = 7 := by rw [h0']; rfl
  exact workStep O G' k0 kN h0' (by omega) (by omega) (Rm.refl w) rfl ⟨by simp [wst, wT, tagOf], fun s e => by cases e⟩ (by simp [ww, tagOf]) (by simp [wst, wT, tagOf]) (by rw [h0']; exact Nat.le_refl 1) (evw_one (evw_mk rfl)) (mk_nr (by intro a h; cases h)) rfl hwg
    (hm.counted k0 kN k1 (by omega) (by simp [wst, wT, tagOf])) fn place (fun _ => ⟨t.size, RelBy.new (by rw [G'.df k kN, h0']; rfl) fn place⟩)
theorem op_k1 (O : Y.Ok) (G : Glob Y.p pos N w t) (k0 : Y.p.N0 ≤ k) (kN : k < N) (h0 : pos k = .on .k1 m) (hA : stops Y .k1 g w) : Out (sys Y) () pos N k .k1 g w t := by
  have k1 : k ≠ 0 := by have := O.p.n0; omega
  obtain ⟨hrun, g', hst, m', hg⟩ := hA
  refine outWork (q := .on .d1 m') O G k1 h0 hst (.inl (runs_of rk_refl (fun _ _ h => h.1) hg)) (holds_w k1 hg) (Rm.refl w) fun pos' _ G' h0' _ fn place => ?_
  obtain ⟨st, sm, hwg, hm⟩ := G'.wg
  have e7 : wst (pos' k) = 6 := by rw [h0']; rfl
  exact workStep O G' k0 kN h0' (by omega) (by omega) (Rm.refl w) rfl ⟨by simp [wst, wT, tagOf], fun s e => by cases e⟩ (by simp [ww, tagOf]) (by simp [wst, wT, tagOf]) (by rw [h0']; exact Nat.le_refl 1) (evw_one (evw_mk rfl)) (mk_nr (by intro a h; cases h)) rfl hwg
    (hm.counted k0 kN k1 (by omega) (by simp [wst, wT, tagOf])) fn place (fun _ => rel_mute G' k0 kN (by omega) fn place (by intro e he; simp at he; subst he; rfl))

theorem deaf_rw {a : Addr} : ∀ j e, (#[rd a, wr a] : Array Event)[j]? = some e → (MemAct.ofEvent e).touch? = none ∨ ((∃ ad wr, e = ⟨.cell ad, wr, true⟩) ∧ 0 < deafBehind 1 ((#[rd a, wr a] : Array Event).extract 0 j)) := by
  intro j e he
  match j, he with
  | 0, he => simp at he; subst he; exact .inr ⟨⟨a, false, rfl⟩, by simp [deafBehind]⟩
  | 1, he => simp at he; subst he; exact .inr ⟨⟨a, true, rfl⟩, by simp [deafBehind, rd]⟩
  | j + 2, he => simp at he
theorem deaf_rd {a : Addr} : ∀ j e, (#[rd a] : Array Event)[j]? = some e → (MemAct.ofEvent e).touch? = none ∨ ((∃ ad wr, e = ⟨.cell ad, wr, true⟩) ∧ 0 < deafBehind 1 ((#[rd a] : Array Event).extract 0 j)) := by
  intro j e he
  match j, he with
  | 0, he => simp at he; subst he; exact .inr ⟨⟨a, false, rfl⟩, by simp [deafBehind]⟩
  | j + 1, he => simp at he
theorem deaf_wr {a : Addr} : ∀ j e, (#[wr a] : Array Event)[j]? = some e → (MemAct.ofEvent e).touch? = none ∨ ((∃ ad wr, e = ⟨.cell ad, wr, true⟩) ∧ 0 < deafBehind 1 ((#[wr a] : Array Event).extract 0 j)) := by
  intro j e he
  match j, he with
  | 0, he => simp at he; subst he; exact .inr ⟨⟨a, true, rfl⟩, by simp [deafBehind]⟩
  | j + 1, he => simp at he
theorem deaf_sem {a : Addr} : ∀ j e, (semEvents a)[j]? = some e → (MemAct.ofEvent e).touch? = none ∨ ((∃ ad wr, e = ⟨.cell ad, wr, true⟩) ∧ 0 < deafBehind 1 ((semEvents a).extract 0 j)) := by
  intro j e he
  match j, he with
  | 0, he => simp [semEvents] at he; subst he; exact .inl rfl
  | 1, he => simp [semEvents] at he; subst he; exact .inr ⟨⟨a, false, rfl⟩, by simp [deafBehind, semEvents]⟩
  | 2, he => simp [semEvents] at he; subst he; exact .inr ⟨⟨a, true, rfl⟩, by simp [deafBehind, semEvents]⟩
  | 3, he => simp [semEvents] at he; subst he; exact .inl rfl
  | j + 4, he => simp [semEvents] at he

theorem op_d1 (O : Y.Ok) (G : Glob Y.p pos N w t) (k0 : Y.p.N0 ≤ k) (kN : k < N) (h0 : pos k = .on .d1 m) (hA : stops Y .d1 g w) : Out (sys Y) () pos N k .d1 g w t := by
  have k1 : k ≠ 0 := by have := O.p.n0; omega
  have hNs : N < 2147483648 := by have := G.fits.size; have := O.p.small; omega
  obtain ⟨hrun, hall⟩ := hA
  obtain ⟨st, sm, hwg, hm⟩ := G.wg
  obtain ⟨v, wt, hwt, hv, rfl, rfl, -, -⟩ := hm.minus k0 kN k1 hNs (by rw [h0]; rfl)
  obtain ⟨g', hst, h4, h1⟩ := hall v wt hwt hv hwg
  have hAs := aside_setCell w (stA Y.p.Wg) (.int .u64 ((v : Int) * KK + wt))
  have hw' := hwg.setSt ((v : Int) * KK + wt)
  have hR : Rm Y.p.Wg Y.p.Cn w (w.setCell (stA Y.p.Wg) (.int .u64 ((v : Int) * KK + wt))) := Rm.of_wg O.p.cw hAs ⟨_, _, hw'⟩
  have same : ∀ pos', Glob Y.p pos' N w t → pos' k = .on .d1 m → ((v = 0 ∧ wt = 1) → ∀ p, wst p = 4 → Mode (upd pos' k p) Y.p.N0 N ((v : Int) * KK + wt) 0) ∧ (¬ (v = 0 ∧ wt = 1) → ∀ p, wst p = 1 → Mode (upd pos' k p) Y.p.N0 N ((v : Int) * KK + wt) 0) := by
    intro pos' G' h0'
    obtain ⟨st', sm', hwg', hm'⟩ := G'.wg
    obtain ⟨v', wt', hwt', hv', rfl, rfl, a, b⟩ := hm'.minus k0 kN k1 hNs (by rw [h0']; rfl)
    have e := (hwg'.unique hwg).1
    have : v' = v ∧ wt' = wt := by simp only [KK] at e; omega
    obtain ⟨rfl, rfl⟩ := this
    exact ⟨a, b⟩
  by_cases hc : v = 0 ∧ wt = 1
  · obtain ⟨m', hg⟩ := h4 hc
    refine outWork (q := .on .d2 m') O G k1 h0 hst (.inl (runs_of rk_refl (fun _ _ h => h.1) hg)) (holds_w k1 hg) hR fun pos' _ G' h0' _ fn place => ?_
    have e7 : wst (pos' k) = 5 := by rw [h0']; rfl
    exact workStep O G' k0 kN h0' (by omega) (by omega) hR (aside_heap O.p.cw hAs) ⟨by simp [wst, wT, tagOf], fun s e => by cases e⟩ (by simp [ww, tagOf]) (by simp [wst, wT, tagOf]) (by rw [h0']; exact Nat.zero_le _) (evw_rw (O.p.cellw _ rfl)) rw_nr rfl hw'
      ((same pos' G' h0').1 hc _ rfl) fn place (fun _ => rel_deaf G' k0 kN (by omega) (by rw [h0']; rfl) fn place deaf_rw)
  · obtain ⟨qn, hq⟩ := h1 hc
    refine outWork (q := .quit qn 1) O G k1 h0 hst hq.status ⟨k1, hq⟩ hR fun pos' _ G' h0' _ fn place => ?_
    have e7 : wst (pos' k) = 5 := by rw [h0']; rfl
    exact workStep O G' k0 kN h0' (by omega) (by omega) hR (aside_heap O.p.cw hAs) ⟨by simp [wst, wT, tagOf], fun s e => by cases e⟩ (by simp [ww, tagOf]) (by simp [wst, wT, tagOf]) (by rw [h0']; exact Nat.zero_le _) (evw_rw (O.p.cellw _ rfl)) rw_nr rfl hw'
      ((same pos' G' h0').2 hc _ rfl) fn place (fun _ => rel_deaf G' k0 kN (by omega) (by rw [h0']; rfl) fn place deaf_rw)

theorem last_facts (G : Glob Y.p pos N w t) (k0 : Y.p.N0 ≤ k) (kN : k < N) (k1 : k ≠ 0) (h : wst (pos k) = 4 ∨ wst (pos k) = 3 ∨ wst (pos k) = 2) :
    w3T (tagOf (pos 0)) ∧ (∀ a, Y.p.N0 ≤ a → a < N → a ≠ k → wst (pos a) = 1) ∧ WgAt 96 Y.p.Wg w (if wst (pos k) = 2 then 0 else 1) 0 := by
  obtain ⟨st, sm, hwg, hm⟩ := G.wg
  obtain ⟨a, b, rfl, rfl⟩ := hm.isLast k0 kN k1 h
  exact ⟨a, b, hwg⟩
theorem op_d2 (O : Y.Ok) (G : Glob Y.p pos N w t) (k0 : Y.p.N0 ≤ k) (kN : k < N) (h0 : pos k = .on .d2 m) (hA : stops Y .d2 g w) : Out (sys Y) () pos N k .d2 g w t := by
  have k1 : k ≠ 0 := by have := O.p.n0; omega
  obtain ⟨hrun, hall⟩ := hA
  obtain ⟨-, -, hwg⟩ := last_facts G k0 kN k1 (by rw [h0]; exact .inl rfl)
  rw [h0] at hwg
  obtain ⟨g', hst, m', hg⟩ := hall hwg
  refine outWork (q := .on .d3 m') O G k1 h0 hst (.inl (runs_of rk_refl (fun _ _ h => h.1) hg)) (holds_w k1 hg) (Rm.refl w) fun pos' _ G' h0' _ fn place => ?_
  have e7 : wst (pos' k) = 4 := by rw [h0']; rfl
  obtain ⟨a, b, -⟩ := last_facts G' k0 kN k1 (.inl e7)
  exact workStep O G' k0 kN h0' (by omega) (by omega) (Rm.refl w) rfl ⟨by simp [wst, wT, tagOf], fun s e => by cases e⟩ (by simp [ww, tagOf]) (by simp [wst, wT, tagOf]) (by rw [h0']; exact Nat.zero_le _) (evw_rd (O.p.cellw _ rfl)) rd_nr rfl hwg
    (Mode.lastOn k0 kN k1 a b (p := .on .d3 m') (.inl rfl)) fn place (fun _ => rel_deaf G' k0 kN (by omega) (by rw [h0']; rfl) fn place deaf_rd)
theorem op_d3 (O : Y.Ok) (G : Glob Y.p pos N w t) (k0 : Y.p.N0 ≤ k) (kN : k < N) (h0 : pos k = .on .d3 m) (hA : stops Y .d3 g w) : Out (sys Y) () pos N k .d3 g w t := by
  have k1 : k ≠ 0 := by have := O.p.n0; omega
  obtain ⟨hrun, hall⟩ := hA
  obtain ⟨-, -, hwg⟩ := last_facts G k0 kN k1 (by rw [h0]; exact .inr (.inl rfl))
  rw [h0] at hwg
  obtain ⟨g', hst, m', hg⟩ := hall hwg
  have hAs := aside_setCell w (stA Y.p.Wg) (.int .u64 0)
  have hw' := WgAt.setSt hwg 0
  have hR : Rm Y.p.Wg Y.p.Cn w (w.setCell (stA Y.p.Wg) (.int .u64 0)) := Rm.of_wg O.p.cw hAs ⟨_, _, hw'⟩
  refine outWork (q := .on .d4 m') O G k1 h0 hst (.inl (runs_of rk_refl (fun _ _ h => h.1) hg)) (holds_w k1 hg) hR fun pos' _ G' h0' _ fn place => ?_
  have e7 : wst (pos' k) = 3 := by rw [h0']; rfl
  obtain ⟨a, b, -⟩ := last_facts G' k0 kN k1 (.inr (.inl e7))
  exact workStep O G' k0 kN h0' (by omega) (by omega) hR (aside_heap O.p.cw hAs) ⟨by simp [wst, wT, tagOf], fun s e => by cases e⟩ (by simp [ww, tagOf]) (by simp [wst, wT, tagOf]) (by rw [h0']; exact Nat.zero_le _) (evw_wr (O.p.cellw _ rfl)) wr_nr rfl hw'
    (Mode.lastOn k0 kN k1 a b (p := .on .d4 m') (.inr rfl)) fn place (fun _ => rel_deaf G' k0 kN (by omega) (by rw [h0']; rfl) fn place deaf_wr)
theorem op_d4 (O : Y.Ok) (G : Glob Y.p pos N w t) (k0 : Y.p.N0 ≤ k) (kN : k < N) (h0 : pos k = .on .d4 m) (hA : stops Y .d4 g w) : Out (sys Y) () pos N k .d4 g w t := by
  have k1 : k ≠ 0 := by have := O.p.n0; omega
  obtain ⟨hrun, hmay, hall⟩ := hA
  obtain ⟨-, -, hwg⟩ := last_facts G k0 kN k1 (by rw [h0]; exact .inr (.inr rfl))
  rw [h0] at hwg
  obtain ⟨g', hst, qn, hq⟩ := hall hwg
  have hAs := aside_setCell w (smA Y.p.Wg) (.int .u32 1)
  have hw' := WgAt.setSm hwg 1
  have hR : Rm Y.p.Wg Y.p.Cn w (w.setCell (smA Y.p.Wg) (.int .u32 1)) := Rm.of_wg O.p.cw hAs ⟨_, _, hw'⟩
  refine outWork (q := .quit qn 1) O G k1 h0 hst hq.status ⟨k1, hq⟩ hR fun pos' _ G' h0' hup fn place => ?_
  have e7 : wst (pos' k) = 2 := by rw [h0']; rfl
  obtain ⟨a, b, -⟩ := last_facts G' k0 kN k1 (.inr (.inr e7))
  exact workStep O G' k0 kN h0' (by omega) (by omega) hR (aside_heap O.p.cw hAs) ⟨by simp [wst, wT, tagOf], fun s e => by cases e⟩ (by simp [ww, tagOf]) (by simp [wst, wT, tagOf]) (by rw [h0']; exact Nat.zero_le _) (evw_sem (O.p.cellw _ rfl)) sem_nr rfl hw'
    (Mode.lastOut k0 kN k1 a (hup hmay) b rfl) fn place (fun _ => rel_deaf G' k0 kN (by omega) (by rw [h0']; rfl) fn place deaf_sem)
end
end Go.Proofs.Ytdkbkocklnnmdaa.crew
/-
  A main goroutine that starts workers and waits for them: the system is sound: every step of every stage keeps what holds of the whole, and the measure falls. Conditions: those of the structure Ways.Ok.
-/
set_option linter.unusedVariables false
set_option linter.unusedSectionVars false
set_option linter.unusedSimpArgs false
namespace Go.Proofs.Ytdkbkocklnnmdaa.crew
open Go Go.Conc Go.Proofs.Ytdkbkocklnnmdaa.mach Go.Proofs.Ytdkbkocklnnmdaa.wg
open Go.ConcN (upd upd_same upd_ne sumTo sumTo_upd sumTo_congr le_sumTo sumTo_upd_out sumTo_le CT OkW Ok0 Apart RelBy WgLive RW PayAt AtR0 AtK1 AtD1 AtD2 AtD3 AtD4 handedOver_all RelBy.appOwn RelBy.new)
open Go.ConcR (KK WgAt stA smA rd wr mk DC0 Bk g_of_ofEvents)

section
variable {Y : Ways} {pos : Nat → Ps} {N k : Nat} {w w' : World} {t : Trace} {s : Stg} {m : Nat} {g g' : Goroutine} {es : Array Event} {q : Ps}

theorem rr_refl (w : World) : RR Y w w := Rm.refl w
theorem useC_of (G : Glob Y.p pos N w t) (kN : k < N) (h : 8 ≤ wst (pos k)) : Y.p.useC := Classical.byContradiction fun hc => by have := G.cnt.2 hc k kN; omega
theorem Un_pos (kN : k < N) (h : 8 ≤ wst (pos k)) : 1 ≤ Un Y.p pos N := by
  have := le_sumTo (f := fun k => if 8 ≤ wst (pos k) then 1 else 0) kN
  simp only [if_pos h] at this
  unfold Un; omega
theorem Un_same {pos' : Nat → Ps} (h : ∀ a, a < N → tagOf (pos' a) = tagOf (pos a)) : Un Y.p pos' N = Un Y.p pos N := Un_congr fun a ha => wst_congr (h a ha)

theorem op_kl (O : Y.Ok) (G : Glob Y.p pos N w t) (k0 : Y.p.N0 ≤ k) (kN : k < N) (h0 : pos k = .on .kl m) (hA : stops Y .kl g w) : Out (sys Y) () pos N k .kl g w t := by
  have k1 : k ≠ 0 := by have := O.p.n0; omega
  have hw9 : wst (pos k) = 9 := by rw [h0]; rfl
  have hc := useC_of G kN (by omega)
  obtain ⟨hrun, hall⟩ := hA
  obtain ⟨g', hst, hr', m', hg⟩ := hall _ (G.cnt.1 hc).1
  refine outWork (q := .on (.kc (Y.p.val (Y.p.n - Un Y.p pos N)) (Un Y.p pos N)) m') O G k1 h0 hst (.inl hr') (holds_w k1 hg) (Rm.refl w) fun pos' ht G' h0' _ fn place => ?_
  obtain ⟨st, sm, hwg, hm⟩ := G'.wg
  have e9 : wst (pos' k) = 9 := by rw [h0']; rfl
  have hUU : Un Y.p pos' N = Un Y.p pos N := Un_same ht
  rw [← hUU]
  have hU := Un_upd (Y := Y) (pos := pos') (q := .on (.kc (Y.p.val (Y.p.n - Un Y.p pos' N)) (Un Y.p pos' N)) m') kN
  rw [if_pos (by omega), if_pos (by simp [wst, wT, tagOf])] at hU
  have hU' : Un Y.p (upd pos' k (.on (.kc (Y.p.val (Y.p.n - Un Y.p pos' N)) (Un Y.p pos' N)) m')) N = Un Y.p pos' N := by omega
  refine ⟨G'.worker O.p k0 kN (Rm.refl w) ⟨by simp [wst, wT, tagOf], fun s e => by cases e⟩ (okW_of (evw_rd (O.p.cellc hc _ rfl))) rd_nr (by rw [h0']; rfl) (fun h => by simp [wst, wT, tagOf] at h) hwg (hm.counted k0 kN k1 (by omega) (by simp [wst, wT, tagOf]))
    ⟨fun _ => ?_, fun h => absurd hc h⟩ (fun e => absurd e (no_fin G' k0 kN (by omega))), phi_worker kN k1 (V_upd_le kN (by unfold cn; rw [if_pos (by simp [wst, wT, tagOf]), if_pos (by omega)]; exact Nat.le_refl _)) (by omega) ?_⟩
  · rw [hU']
    refine ⟨(G'.cnt.1 hc).1, fun a ha v u e => ?_⟩
    by_cases x : a = k
    · subst x
      rw [upd_same] at e
      simp only [tagOf, Option.some.injEq, Stg.kc.injEq] at e
      obtain ⟨rfl, rfl⟩ := e
      exact ⟨Nat.le_refl _, fun _ => rfl⟩
    · rw [upd_ne _ _ x] at e; exact (G'.cnt.1 hc).2 a ha v u e
  · rw [hU', h0']; simp only [tagOf, ww]; omega

theorem cell_set {Cn : Nat} {v u : Int} (h : CntAt Cn w v) : CntAt Cn (w.setCell ⟨Cn, 0, none⟩ (.int .i64 u)) u := by
  unfold CntAt at h ⊢
  obtain ⟨hlt, hget⟩ := Array.getElem?_eq_some_iff.1 h
  simp [World.setCell, Array.getElem?_modify, h]

theorem op_kc (O : Y.Ok) {v : Int} {u : Nat} (G : Glob Y.p pos N w t) (k0 : Y.p.N0 ≤ k) (kN : k < N) (h0 : pos k = .on (.kc v u) m) (hA : stops Y (.kc v u) g w) : Out (sys Y) () pos N k (.kc v u) g w t := by
  have k1 : k ≠ 0 := by have := O.p.n0; omega
  have hw9 : wst (pos k) = 8 := by rw [h0]; rfl
  have hc := useC_of G kN (by omega)
  obtain ⟨hrun, hall⟩ := hA
  have hcur := (G.cnt.1 hc).1
  obtain ⟨hit, miss⟩ := hall _ hcur
  have hUn1 := Un_pos (Y := Y) kN (by omega : 8 ≤ wst (pos k))
  have hUle := Un_le G.fits O
  by_cases hv : Y.p.val (Y.p.n - Un Y.p pos N) = v
  · obtain ⟨g', hst, hr', m', hg⟩ := hit hv
    have hAs := aside_setCell w (cA Y) (.int .i64 (Y.nx v))
    have hcs : CntAt Y.p.Cn (w.setCell (cA Y) (.int .i64 (Y.nx v))) (Y.nx v) := cell_set hcur
    have hR : Rm Y.p.Wg Y.p.Cn w (w.setCell (cA Y) (.int .i64 (Y.nx v))) := Rm.of_cnt O.p.cw hAs hcs
    refine outWork (q := .on .k0 m') O G k1 h0 hst (.inl hr') (holds_w k1 hg) hR fun pos' ht G' h0' _ fn place => ?_
    obtain ⟨st, sm, hwg, hm⟩ := G'.wg
    have e9 : wst (pos' k) = 8 := by rw [h0']; rfl
    have hUU : Un Y.p pos' N = Un Y.p pos N := Un_same ht
    have hU := Un_upd (Y := Y) (pos := pos') (q := .on .k0 m') kN
    rw [if_pos (by omega), if_neg (by simp [wst, wT, tagOf])] at hU
    refine ⟨G'.worker O.p k0 kN hR ⟨by simp [wst, wT, tagOf], fun s e => by cases e⟩ (okW_of (evw_rw (O.p.cellc hc _ rfl))) rw_nr (by rw [h0']; rfl) (fun h => by simp [wst, wT, tagOf] at h) (hwg.of_block (hAs.block _ O.p.cw.symm)) (hm.counted k0 kN k1 (by omega) (by simp [wst, wT, tagOf]))
      ⟨fun _ => ⟨?_, fun a ha v2 u2 e => ?_⟩, fun h => absurd hc h⟩ (fun e => absurd e (no_fin G' k0 kN (by omega))), phi_worker kN k1 (V_upd_le kN (by unfold cn; rw [if_pos (by simp [wst, wT, tagOf]), if_pos (by omega)]; exact Nat.le_refl _)) (by omega) ?_⟩
    · have : Y.p.n - Un Y.p (upd pos' k (.on .k0 m')) N = (Y.p.n - Un Y.p pos N) + 1 := by omega
      rw [this, O.nx hc _ (by omega), hv]
      exact hcs
    · by_cases x : a = k
      · subst x; rw [upd_same] at e; simp [tagOf] at e
      · rw [upd_ne _ _ x] at e
        have := ((G'.cnt.1 hc).2 a ha v2 u2 e).1
        exact ⟨by omega, fun h => by omega⟩
    · rw [h0']; simp only [tagOf, ww]; omega
  · obtain ⟨g', hst, hr', m', hg⟩ := miss hv
    have hug : Un Y.p pos N < u := by
      have h1 := (G.cnt.1 hc).2 k kN v u (by rw [h0]; rfl)
      rcases Nat.lt_or_ge (Un Y.p pos N) u with h | h
      · exact h
      · have e : u = Un Y.p pos N := by omega
        exact absurd (by rw [h1.2 e, e]) hv
    refine outWork (q := .on .kl (m' + 30)) O G k1 h0 hst (.inl hr') (holds_w k1 (Goes.after rr_refl (O.anchK hc) hg)) (Rm.refl w) fun pos' ht G' h0' _ fn place => ?_
    obtain ⟨st, sm, hwg, hm⟩ := G'.wg
    have e9 : wst (pos' k) = 8 := by rw [h0']; rfl
    have hUU : Un Y.p pos' N = Un Y.p pos N := Un_same ht
    have hU := Un_upd (Y := Y) (pos := pos') (q := .on .kl (m' + 30)) kN
    rw [if_pos (by omega), if_pos (by simp [wst, wT, tagOf])] at hU
    have hU' : Un Y.p (upd pos' k (.on .kl (m' + 30))) N = Un Y.p pos' N := by omega
    refine ⟨G'.worker O.p k0 kN (Rm.refl w) ⟨by simp [wst, wT, tagOf], fun s e => by cases e⟩ (okW_of (evw_rd (O.p.cellc hc _ rfl))) rd_nr (by rw [h0']; rfl) (fun h => by simp [wst, wT, tagOf] at h) hwg (hm.counted k0 kN k1 (by omega) (by simp [wst, wT, tagOf]))
      ⟨fun _ => ?_, fun h => absurd hc h⟩ (fun e => absurd e (no_fin G' k0 kN (by omega))), phi_worker kN k1 (V_upd_le kN (by unfold cn; rw [if_pos (by simp [wst, wT, tagOf]), if_pos (by omega)]; exact Nat.le_refl _)) (by omega) ?_⟩
    · rw [hU']
      refine ⟨(G'.cnt.1 hc).1, fun a ha v2 u2 e => ?_⟩
      by_cases x : a = k
      · subst x; rw [upd_same] at e; simp [tagOf] at e
      · rw [upd_ne _ _ x] at e; exact (G'.cnt.1 hc).2 a ha v2 u2 e
    · rw [hU', h0']; simp only [tagOf, ww]; omega

theorem mute_none {e : Event} (h : e.mute = true) : (MemAct.ofEvent e).touch? = none ∧ ∀ a, e.loc ≠ .mark (.release a) := by
  obtain ⟨loc, wr, sy⟩ := e
  cases loc with
  | mark m => cases m <;> simp_all [Event.mute, MemAct.ofEvent, MemAct.touch?]
  | _ => simp [Event.mute] at h

theorem tag_upd {p q : Ps} (h : tagOf q = tagOf (pos k)) (a : Nat) : tagOf (upd pos k q a) = tagOf (pos a) := by
  by_cases x : a = k
  · subst x; rw [upd_same, h]
  · rw [upd_ne _ _ x]

theorem leave_one (O : Y.Ok) (G : Glob Y.p pos N w t) (kN : k < N) {n d : Nat} (h0 : pos k = .quit (n + 1) d) (hm : ∀ e ∈ es, Event.mute e = true) (fn : FuncId) (place : String) :
    Glob Y.p (upd pos k (.quit n (deafBehind d es))) N w (t ++ MemOp.ofEvents k fn place es) ∧ phi Y.p (upd pos k (.quit n (deafBehind d es))) N ≤ phi Y.p pos N := by
  have n0 := O.p.n0
  have k1 : k ≠ 0 := by
    intro e; subst e
    rcases G.fits.main with x | x | x <;> rw [h0] at x <;> exact x
  have ht : ∀ a, a < N → tagOf (upd pos k (.quit n (deafBehind d es)) a) = tagOf (pos a) := fun a _ => tag_upd (p := pos a) (by rw [h0]; rfl) a
  have e0 : upd pos k (.quit n (deafBehind d es)) 0 = pos 0 := upd_ne _ _ (fun e => k1 e.symm)
  have nt : ∀ op ∈ MemOp.ofEvents k fn place es, op.act.touch? = none := by
    intro op hop
    rw [ofEvents_eq] at hop
    obtain ⟨e, he, rfl⟩ := Array.mem_map.1 hop
    exact (mute_none (hm e he)).1
  obtain ⟨st, sm, hwg, hmode⟩ := G.wg
  refine ⟨⟨G.fits.congr ht (by rw [e0]; exact G.fits.blk) (fun a _ _ hu => ?_) n0, fun a ha => ?_, G.ct.appW O.p.apart (k := k) (by omega) (by omega) (fun op hop => ⟨g_of_ofEvents op hop, fun x hx => by rw [nt op hop] at hx; cases hx⟩),
    fun ar => (G.norel ar).app (norel_all (fun e he => (mute_none (hm e he)).2) ar), fun a a0 aN a6 => ?_, G.hand.appMute nt, fun e => (G.all (by rw [← e0]; exact e)).appMute nt, G.world, ⟨st, sm, hwg, hmode.congr (by rw [e0]) (by rw [e0]; exact id) fun a ha => wst_congr (ht a ha)⟩, G.cnt.congr ht, fine_app G.fine fun op hop => fine_mute (nt op hop)⟩,
    Nat.le_of_eq (phi_same ht (G.size O.p))⟩
  · by_cases x : a = k
    · subst x; rw [upd_same]; intro s e; cases e
    · rw [upd_ne _ _ x]; exact hu
  · by_cases x : a = k
    · subst x; rw [upd_same, Deaf_own, G.df a ha, h0]; rfl
    · rw [upd_ne _ _ x, Deaf_other t (fun y => x y.symm) _ g_of_ofEvents, G.df a ha]
  · have a6' : wst (pos a) ≤ 6 := by rw [← wst_congr (ht a aN)]; exact a6
    obtain ⟨r, hr⟩ := G.rel a a0 aN a6'
    by_cases x : a = k
    · subst x; exact ⟨r, hr.appOwn fn place es fun j e he => .inl (mute_none (hm e (Array.mem_of_getElem? he))).1⟩
    · exact ⟨r, hr.appOther g_of_ofEvents (fun y => x y.symm)⟩

theorem wst_on {s : Stg} {m m' : Nat} : wst (.on s m) = wst (.on s m') := rfl
theorem dfn_on {s : Stg} {m m' : Nat} : dfn (.on s m) = dfn (.on s m') := by cases s <;> rfl

theorem local_one (O : Y.Ok) (G : Glob Y.p pos N w t) (kN : k < N) (h0 : pos k = .on s (m + 1)) (hD : guar Y s w w' es) (fn : FuncId) (place : String) :
    Glob Y.p (upd pos k (.on s m)) N w' (t ++ MemOp.ofEvents k fn place es) ∧ phi Y.p (upd pos k (.on s m)) N ≤ phi Y.p pos N ∧ w' = w := by
  have n0 := O.p.n0
  have ht : ∀ a, a < N → tagOf (upd pos k (.on s m) a) = tagOf (pos a) := fun a _ => tag_upd (p := pos a) (by rw [h0]; rfl) a
  have hphi : phi Y.p (upd pos k (.on s m)) N ≤ phi Y.p pos N := Nat.le_of_eq (phi_same ht (G.size O.p))
  obtain ⟨st, sm, hwg, hmode⟩ := G.wg
  have hnil : ∀ e ∈ (#[] : Array Event), False := by simp
  by_cases hk : k = 0
  · subst hk
    have hes : w' = w ∧ es = #[] := by
      rcases G.fits.main with x | x | x <;> rw [h0] at x <;> cases s <;> first | exact hD | exact x.elim
    obtain ⟨rfl, rfl⟩ := hes
    have hm' : Mode (upd pos 0 (.on s m)) Y.p.N0 N st sm := hmode.congr (ht 0 kN) (fun _ => by rw [upd_same]; intro s e; cases e) fun a ha => wst_congr (ht a ha)
    refine ⟨G.main O.p (Rm.refl _) (by have := G.fits.main; rw [h0] at this; exact this) (fun s e => by cases e) (by rw [h0]; rfl) (ok0_of fun e he => (hnil e he).elim) (fun e he => (hnil e he).elim) (by rw [h0]; exact dfn_on) hwg hm' (G.cnt.congr ht) (fun e => ?_), hphi, rfl⟩
    exact (G.all (by rw [h0]; exact e)).appMute (by intro op hop; rw [ofEvents_eq] at hop; simp at hop)
  · have ge : Y.p.N0 ≤ k := by
      rcases Nat.lt_or_ge k Y.p.N0 with hlt | hge
      · have := G.fits.old k (by omega) hlt
        rw [h0] at this
        cases s <;> simp [wst, wT, tagOf] at this
      · exact hge
    have hes : w' = w ∧ ∀ e ∈ es, ∃ a : Addr, e = ⟨.cell a, false, false⟩ ∧ (a.block = Y.p.Bc ∨ a.block = Y.p.Bb) := by
      cases s <;> first | exact hD | exact ⟨hD.1, by rw [hD.2]; exact fun e he => (hnil e he).elim⟩
    have hidle : wst (.on s m) ≤ 6 → es = #[] := by
      intro h6
      cases s <;> first | exact hD.2 | simp [wst, wT, tagOf] at h6
    obtain ⟨rfl, hes⟩ := hes
    have hm' : Mode (upd pos k (.on s m)) Y.p.N0 N st sm := by
      have e0 : upd pos k (.on s m) 0 = pos 0 := upd_ne _ _ (fun e => hk e.symm)
      exact hmode.congr (by rw [e0]) (by rw [e0]; exact id) fun a ha => wst_congr (ht a ha)
    have h1 : wst (pos k) ≠ 1 := by rw [h0]; cases s <;> simp [wst, wT, tagOf]
    have hw1 := (G.fits.wk k ge kN).1
    rw [h0] at hw1
    refine ⟨G.worker O.p ge kN (Rm.refl _) ⟨hw1, fun s e => by cases e⟩ (fun op hop => ⟨⟨g_of_ofEvents op hop, fun x hx => ?_⟩, fun x hx _ => ?_⟩) (fun e he => ?_) ?_ (fun h6 => ?_) hwg hm' (G.cnt.congr ht) (fun e => absurd e (no_fin G ge kN h1)), hphi, rfl⟩
    · rw [ofEvents_eq] at hop
      obtain ⟨e, he, rfl⟩ := Array.mem_map.1 hop
      obtain ⟨a, rfl, hb⟩ := hes e he
      have : x = ⟨.cell a, false, .plain⟩ := (Option.some.inj hx).symm
      subst this
      exact .inr (.inr ⟨O.p.rdc k ge a hb, rfl⟩)
    · rw [ofEvents_eq] at hop
      obtain ⟨e, he, rfl⟩ := Array.mem_map.1 hop
      obtain ⟨a, rfl, hb⟩ := hes e he
      have : x = ⟨.cell a, false, .plain⟩ := (Option.some.inj hx).symm
      subst this
      simp
    · obtain ⟨a, rfl, _⟩ := hes e he; simp
    · rw [h0, deafBehind_still (fun e he => by obtain ⟨a, rfl, _⟩ := hes e he; simp)]; exact dfn_on
    · rw [hidle h6]
      exact rel_mute G ge kN (by rw [h0]; exact h6) fn place (fun e he => (hnil e he).elim)

theorem live_one (O : Y.Ok) (G : Glob Y.p pos N w t) : ∃ k s m, k < N ∧ pos k = .on s m := by
  have n0 := O.p.n0
  have hN := G.size O.p
  have onOf : ∀ k, Y.p.N0 ≤ k → k < N → wst (pos k) ≠ 1 → ∃ k s m, k < N ∧ pos k = .on s m := fun k k0 kN h => by
    cases e : pos k with
    | on s m => exact ⟨k, s, m, kN, e⟩
    | blk s => exact absurd e ((G.fits.wk k k0 kN).2 s)
    | quit q d => rw [e] at h; exact absurd rfl h
  cases e : pos 0 with
  | on s m => exact ⟨0, s, m, by omega, e⟩
  | quit q d =>
    rcases G.fits.main with x | x | x <;> rw [e] at x <;> exact x.elim
  | blk s =>
    obtain rfl := G.fits.blk s e
    obtain ⟨st, sm, hwg, hm⟩ := G.wg
    cases hm with
    | opn a b c => rw [e] at a; exact a.elim
    | reg a b c =>
      have : ∃ k, k < N ∧ 5 ≤ wst (pos k) := Classical.byContradiction fun hn => by
        have := V_zero (pos := pos) (N := N) fun k hk => Nat.lt_of_not_le fun h => hn ⟨k, hk, h⟩
        omega
      obtain ⟨k, kN, h5⟩ := this
      have k0 : Y.p.N0 ≤ k := by
        rcases Nat.lt_or_ge k Y.p.N0 with hlt | hge
        · by_cases x : k = 0
          · subst x; rw [e] at h5; simp [wst, wT, tagOf] at h5
          · have := G.fits.old k (by omega) hlt; omega
        · exact hge
      exact onOf k k0 kN (by omega)
    | last L a b c d f => exact onOf L b c (by omega)
    | sema a b c => exact absurd e (b _)
    | fin a b => rw [e] at a; exact a.elim

theorem sound (O : Y.Ok) : (sys Y).Sound where
  trans := fun s a b c h h' => by
    show rely Y s a c
    cases s <;> first | exact Go.ConcN.RW.trans h h' | exact Rm.trans h h'
  draw := fun s w d => by
    show rely Y s w (w.at d)
    cases s <;> first | exact Go.ConcN.RW.at w d | exact Rm.at w d
  run := fun s g w h => by
    cases s <;> first | exact h.1 | exact O.st g w h
  gdraw := fun _ pos N w t d h => h.at d
  live := fun _ pos N w t h => live_one O h
  local_ := fun _ pos N w t k s m w' es fn place b G kN h0 hD => by
    have G1 := G.wake O.p b
    obtain ⟨a, c, rfl⟩ := local_one O G1 kN (wake_on h0) hD fn place
    refine ⟨a, ?_, fun j _ _ => suffers O (Rm.refl _) _⟩
    have e : phi Y.p (wakeIf b pos) N = phi Y.p pos N := phi_same (fun k _ => tag_wake b k) (G.size O.p)
    show phi Y.p _ N ≤ phi Y.p pos N
    rw [← e]; exact c
  leave := fun _ pos N w t k q d es fn place b G kN h0 hm => by
    have G1 := G.wake O.p b
    have h1 : wakeIf b pos k = .quit (q + 1) d := by unfold wakeIf; split <;> rw [h0]; rfl
    obtain ⟨a, c⟩ := leave_one O G1 kN h1 hm fn place
    refine ⟨a, ?_⟩
    have e : phi Y.p (wakeIf b pos) N = phi Y.p pos N := phi_same (fun k _ => tag_wake b k) (G.size O.p)
    show phi Y.p _ N ≤ phi Y.p pos N
    rw [← e]; exact c
  op := fun _ pos N w t k s m g G kN h0 hnf hA => by
    by_cases hk : k = 0
    · subst hk
      have hA0 := hA w (by show rely Y s w w; cases s <;> first | exact Go.ConcN.RW.refl w | exact Rm.refl w)
      have hmain := G.fits.main
      rw [h0] at hmain
      cases s with
      | dis r => exact op_dis O G h0 hA0
      | add r => exact op_add O G h0 hA0
      | read r => exact op_read O G h0 hA0
      | ena r => exact op_ena O G h0 hA0
      | go r => exact op_go O G h0 hA0
      | wdis => exact op_wdis O G h0 hA0
      | wload => exact op_wload O G h0 hA0
      | wcas vs => exact op_wcas O G h0 hA0
      | wwr => exact op_wwr O G h0 hA0
      | wsem => exact op_wsem O G h0 hA
      | wld2 => exact op_wld2 O G h0 hA0
      | wena => exact op_wena O G h0 hA0
      | wacq => exact op_wacq O G h0 hA0
      | fin => exact absurd ⟨rfl, rfl⟩ hnf
      | _ => rcases hmain with x | x | x <;> exact x.elim
    · have ge : Y.p.N0 ≤ k := by
        rcases Nat.lt_or_ge k Y.p.N0 with hlt | hge
        · have := G.fits.old k (by omega) hlt
          rw [h0] at this
          cases s <;> simp [wst, wT, tagOf] at this
        · exact hge
      have hA0 := hA w (by show rely Y s w w; cases s <;> first | exact Go.ConcN.RW.refl w | exact Rm.refl w)
      have hw1 := (G.fits.wk k ge kN).1
      rw [h0] at hw1
      cases s with
      | kl => exact op_kl O G ge kN h0 hA0
      | kc v u => exact op_kc O G ge kN h0 hA0
      | k0 => exact op_k0 O G ge kN h0 hA0
      | k1 => exact op_k1 O G ge kN h0 hA0
      | d1 => exact op_d1 O G ge kN h0 hA0
      | d2 => exact op_d2 O G ge kN h0 hA0
      | d3 => exact op_d3 O G ge kN h0 hA0
      | d4 => exact op_d4 O G ge kN h0 hA0
      | _ => simp [wst, wT, tagOf] at hw1
end
end Go.Proofs.Ytdkbkocklnnmdaa.crew
