/-
  Together: a main goroutine that makes each worker's number, adds, starts it, and waits for all: the stages of all, and how the wait group's two cells hang on where everybody stands. No program here, and no condition.
-/
import Derived.Test.YtdkbkocklnnmdaaMach
import Derived.Test.YtdkbkocklnnmdaaTogStops
import Derived.Conc.WgGenN3
import Derived.Test.YtdkbkocklnnmdaaCrewAll
import Derived.Test.YtdkbkocklnnmdaaTogStore
import Derived.Test.YtdkbkocklnnmdaaTogRun
import Derived.Test.YtdkbkocklnnmdaaPhase
set_option linter.unusedVariables false
set_option linter.unusedSectionVars false
namespace Go.Proofs.Ytdkbkocklnnmdaa.tgs
open Go Go.Conc Go.Proofs.Ytdkbkocklnnmdaa.mach Go.Proofs.Ytdkbkocklnnmdaa.tog
open Go.ConcN (upd upd_same upd_ne sumTo sumTo_upd sumTo_congr le_sumTo sumTo_upd_out sumTo_le)
open Go.ConcR (KK)

/-- The stages. 'al r' .. 'go r bi': r workers are to be started behind the one at hand, whose number lies in block bi. 'tk bi ix s': the worker of number ix at its stop s. -/
inductive Stg where
  | al (r : Nat) | st (r bi : Nat) | dis (r bi : Nat) | add (r bi : Nat) | read (r bi : Nat) | ena (r bi : Nat) | go (r bi : Nat)
  | wdis | wload | wcas (vs : Nat) | wwr | wsem | wld2 | wena | wacq | fin
  | tk (bi ix : Nat) (s : WS) | k0 (bi : Nat) | k1 | d1 | d2 | d3 | d4

abbrev Ps := Pos Stg
def tagOf : Ps → Option Stg
  | .on s _ => some s
  | .blk s => some s
  | .quit _ _ => none
def wT : Option Stg → Nat
  | some (.tk _ _ _) => 8
  | some (.k0 _) => 7
  | some .k1 => 6
  | some .d1 => 5
  | some .d2 => 4
  | some .d3 => 3
  | some .d4 => 2
  | none => 1
  | _ => 0
def wst (p : Ps) : Nat := wT (tagOf p)
def cn (p : Ps) : Nat := if 5 ≤ wst p then 1 else 0
def V (pos : Nat → Ps) (N : Nat) : Nat := sumTo N fun k => cn (pos k)
def pendT : Option Stg → Nat
  | some (.read _ _) => 1
  | some (.ena _ _) => 1
  | some (.go _ _) => 1
  | _ => 0
def openT : Option Stg → Prop
  | some (.al _) | some (.st _ _) | some (.dis _ _) | some (.add _ _) | some (.read _ _) | some (.ena _ _) | some (.go _ _) | some .wdis | some .wload | some (.wcas _) => True
  | _ => False
def w3T : Option Stg → Prop
  | some .wwr | some .wsem => True
  | _ => False
def finT : Option Stg → Prop
  | some .wld2 | some .wena | some .wacq | some .fin => True
  | _ => False

def OpenW (pos : Nat → Ps) (N0 N : Nat) : Prop := ∀ k, N0 ≤ k → k < N → 5 ≤ wst (pos k) ∨ wst (pos k) = 1
def AllQ (pos : Nat → Ps) (N0 N : Nat) : Prop := ∀ k, N0 ≤ k → k < N → wst (pos k) = 1
def Up (p : Ps) : Prop := ∀ s, p ≠ .blk s

inductive Mode (pos : Nat → Ps) (N0 N : Nat) : Int → Int → Prop
  | opn : openT (tagOf (pos 0)) → OpenW pos N0 N → (∀ vs, tagOf (pos 0) = some (.wcas vs) → V pos N ≤ vs ∧ 1 ≤ vs) → Mode pos N0 N (((V pos N + pendT (tagOf (pos 0)) : Nat) : Int) * KK) 0
  | reg : w3T (tagOf (pos 0)) → OpenW pos N0 N → 1 ≤ V pos N → Mode pos N0 N (((V pos N : Nat) : Int) * KK + 1) 0
  | last (L : Nat) : w3T (tagOf (pos 0)) → N0 ≤ L → L < N → (wst (pos L) = 4 ∨ wst (pos L) = 3 ∨ wst (pos L) = 2) → (∀ k, N0 ≤ k → k < N → k ≠ L → wst (pos k) = 1) → Mode pos N0 N (if wst (pos L) = 2 then 0 else 1) 0
  | sema : w3T (tagOf (pos 0)) → Up (pos 0) → AllQ pos N0 N → Mode pos N0 N 0 1
  | fin : finT (tagOf (pos 0)) → AllQ pos N0 N → Mode pos N0 N 0 0

section
variable {pos pos' : Nat → Ps} {N0 N : Nat} {st sm : Int}

theorem wst_congr {p p' : Ps} (h : tagOf p' = tagOf p) : wst p' = wst p := by unfold wst; rw [h]
theorem V_congr (h : ∀ k, k < N → wst (pos' k) = wst (pos k)) : V pos' N = V pos N := sumTo_congr fun k hk => by simp only [cn, h k hk]

/-- Where everybody stands at the same stage, and main is not put to sleep. -/
theorem Mode.congr (h0 : tagOf (pos' 0) = tagOf (pos 0)) (hu : Up (pos 0) → Up (pos' 0)) (h : ∀ k, k < N → wst (pos' k) = wst (pos k)) (hm : Mode pos N0 N st sm) : Mode pos' N0 N st sm := by
  have hv : V pos' N = V pos N := V_congr h
  cases hm with
  | opn a b c => rw [← hv, ← h0]; exact .opn (by rw [h0]; exact a) (fun k k1 k2 => by rw [h k k2]; exact b k k1 k2) (fun vs e => by rw [hv]; exact c vs (by rw [← h0]; exact e))
  | reg a b c => rw [← hv]; exact .reg (by rw [h0]; exact a) (fun k k1 k2 => by rw [h k k2]; exact b k k1 k2) (by rw [hv]; exact c)
  | last L a b c d e => rw [← h L c]; exact .last L (by rw [h0]; exact a) b c (by rw [h L c]; exact d) (fun k k1 k2 k3 => by rw [h k k2]; exact e k k1 k2 k3)
  | sema a b c => exact .sema (by rw [h0]; exact a) (hu b) (fun k k1 k2 => by rw [h k k2]; exact c k k1 k2)
  | fin a b => exact .fin (by rw [h0]; exact a) (fun k k1 k2 => by rw [h k k2]; exact b k k1 k2)

theorem tag_wake (b : Bool) (k : Nat) : tagOf (wakeIf b pos k) = tagOf (pos k) := by
  unfold wakeIf
  split
  · cases pos k <;> rfl
  · rfl
theorem up_wake (b : Bool) (k : Nat) (h : Up (pos k)) : Up (wakeIf b pos k) := by
  unfold wakeIf
  split
  · revert h
    cases pos k <;> intro h s e
    · cases e
    · cases e
    · cases e
  · exact h
theorem up_woken (k : Nat) : Up (wakeIf true pos k) := by
  unfold wakeIf
  simp only [if_true]
  cases pos k <;> intro s e <;> cases e
theorem Mode.wake (b : Bool) (hm : Mode pos N0 N st sm) : Mode (wakeIf b pos) N0 N st sm :=
  hm.congr (tag_wake b 0) (up_wake b 0) fun k _ => wst_congr (tag_wake b k)

theorem V_upd {k : Nat} (p : Ps) (hk : k < N) : V (upd pos k p) N + cn (pos k) = V pos N + cn p := sumTo_upd pos p cn hk
theorem V_main (p : Ps) (h0 : wst (pos 0) = 0) (hp : wst p = 0) : V (upd pos 0 p) N = V pos N := by
  refine V_congr fun k _ => ?_
  by_cases e : k = 0
  · subst e; rw [upd_same, hp, h0]
  · rw [upd_ne _ _ e]
theorem cn_le (p : Ps) : cn p ≤ 1 := by unfold cn; split <;> omega
theorem V_pos {k : Nat} (hk : k < N) (h : 5 ≤ wst (pos k)) : 1 ≤ V pos N := by
  have := le_sumTo (f := fun k => cn (pos k)) hk
  have hc : cn (pos k) = 1 := by unfold cn; rw [if_pos h]
  simp only [V]; omega
theorem V_zero (hq : ∀ k, k < N → wst (pos k) < 5) : V pos N = 0 := by
  have : sumTo N (fun k => cn (pos k)) = sumTo N (fun _ => 0) := sumTo_congr fun k hk => by unfold cn; rw [if_neg (by have := hq k hk; omega)]
  rw [V, this]
  have := sumTo_le (f := fun _ : Nat => 0) (c := 0) (j := N) fun _ _ => Nat.le_refl 0
  omega
theorem of_V_zero (h : V pos N = 0) {k : Nat} (hk : k < N) : wst (pos k) < 5 := by
  rcases Nat.lt_or_ge (wst (pos k)) 5 with h5 | h5
  · exact h5
  · have := V_pos hk h5; omega
/-- If one alone is counted, the others are not. -/
theorem others_uncounted {k : Nat} (hk : k < N) (h1 : V pos N = 1) (hc : 5 ≤ wst (pos k)) : ∀ a, a < N → a ≠ k → wst (pos a) < 5 := by
  intro a ha e
  have h0 := V_upd (pos := pos) (.quit 0 0) hk
  have c0 : cn (.quit 0 0) = 0 := rfl
  have c1 : cn (pos k) = 1 := by unfold cn; rw [if_pos hc]
  have hz : V (upd pos k (.quit 0 0)) N = 0 := by omega
  have := of_V_zero hz ha
  rwa [upd_ne _ _ e] at this

/-! ### a worker's steps -/
section
variable {k : Nat} (k0 : N0 ≤ k) (kN : k < N) (k1 : k ≠ 0)
include k0 kN k1

theorem Mode.counted (hm : Mode pos N0 N st sm) {p : Ps} (h5 : 5 ≤ wst (pos k)) (hp : 5 ≤ wst p) : Mode (upd pos k p) N0 N st sm := by
  have e0 : upd pos k p 0 = pos 0 := upd_ne _ _ (fun e => k1 e.symm)
  have hv : V (upd pos k p) N = V pos N := by
    have := V_upd (pos := pos) p kN
    have c1 : cn (pos k) = 1 := by unfold cn; rw [if_pos h5]
    have c2 : cn p = 1 := by unfold cn; rw [if_pos hp]
    omega
  have ho : OpenW pos N0 N → OpenW (upd pos k p) N0 N := fun h a a1 a2 => by
    by_cases e : a = k
    · subst e; rw [upd_same]; exact .inl hp
    · rw [upd_ne _ _ e]; exact h a a1 a2
  cases hm with
  | opn a b c => rw [← hv, ← e0]; exact .opn (by rw [e0]; exact a) (ho b) (fun vs e => by rw [hv]; exact c vs (by rw [← e0]; exact e))
  | reg a b c => rw [← hv]; exact .reg (by rw [e0]; exact a) (ho b) (by rw [hv]; exact c)
  | last L a b c d e =>
    by_cases x : k = L
    · subst x; omega
    · have := e k k0 kN x; omega
  | sema a b c => have := c k k0 kN; omega
  | fin a b => have := b k k0 kN; omega

/-- THE ADD OF -1. -/
theorem Mode.minus (hm : Mode pos N0 N st sm) (hN : N < 2147483648) (h5 : wst (pos k) = 5) :
    ∃ v wt : Nat, wt ≤ 1 ∧ v < 2147483647 ∧ st = ((v : Int) + 1) * KK + wt ∧ sm = 0 ∧ ((v = 0 ∧ wt = 1) → ∀ p, wst p = 4 → Mode (upd pos k p) N0 N ((v : Int) * KK + wt) 0) ∧
      (¬ (v = 0 ∧ wt = 1) → ∀ p, wst p = 1 → Mode (upd pos k p) N0 N ((v : Int) * KK + wt) 0) := by
  have h5' : 5 ≤ wst (pos k) := by omega
  have c1 : cn (pos k) = 1 := by unfold cn; rw [if_pos h5']
  have hV1 := V_pos kN h5'
  have hVN : V pos N ≤ N := by
    have := sumTo_le (f := fun k => cn (pos k)) (c := 1) (j := N) fun i _ => cn_le _
    simp only [V]; omega
  have ho : ∀ p, wst p = 1 → OpenW pos N0 N → OpenW (upd pos k p) N0 N := fun p hp h a a1 a2 => by
    by_cases e : a = k
    · subst e; rw [upd_same]; exact .inr hp
    · rw [upd_ne _ _ e]; exact h a a1 a2
  have e0 : ∀ p, upd pos k p 0 = pos 0 := fun p => upd_ne _ _ (fun e => k1 e.symm)
  have hv : ∀ p, wst p < 5 → V (upd pos k p) N + 1 = V pos N := fun p hp => by
    have := V_upd (pos := pos) p kN
    have c2 : cn p = 0 := by unfold cn; rw [if_neg (by omega)]
    omega
  cases hm with
  | opn a b c =>
    have hp1 : pendT (tagOf (pos 0)) ≤ 1 := by unfold pendT; split <;> omega
    refine ⟨V pos N + pendT (tagOf (pos 0)) - 1, 0, by omega, ?_, ?_, rfl, fun h => by omega, fun _ p hp => ?_⟩
    · -- main itself is not counted
      have hk0 : V pos N ≤ N - 1 := by
        have h0 : cn (pos 0) = 0 := by
          unfold cn wst
          revert a
          cases tagOf (pos 0) with
          | none => intro a; exact a.elim
          | some s => cases s <;> intro a <;> first | rfl | exact a.elim
        have := V_upd (pos := pos) (.on .d1 0) (show 0 < N by omega)
        have c2 : cn (.on .d1 0) = 1 := rfl
        have h3 := sumTo_le (f := fun i => cn (upd pos 0 (.on .d1 0) i)) (c := 1) (j := N) fun i _ => cn_le _
        simp only [V] at *
        omega
      omega
    · have : ((V pos N + pendT (tagOf (pos 0)) - 1 : Nat) : Int) + 1 = ((V pos N + pendT (tagOf (pos 0)) : Nat) : Int) := by omega
      rw [this]; simp
    · have hv' := hv p (by omega)
      have e : ((V pos N + pendT (tagOf (pos 0)) - 1 : Nat) : Int) * KK + ((0 : Nat) : Int) = (((V (upd pos k p) N + pendT (tagOf (upd pos k p 0)) : Nat) : Int)) * KK := by
        rw [e0]
        have : V pos N + pendT (tagOf (pos 0)) - 1 = V (upd pos k p) N + pendT (tagOf (pos 0)) := by omega
        rw [this]; simp
      rw [e]
      exact .opn (by rw [e0]; exact a) (ho p hp b) (fun vs x => by have := c vs (by rw [← e0 p]; exact x); omega)
  | reg a b c =>
    refine ⟨V pos N - 1, 1, by omega, by omega, ?_, rfl, fun h p hp => ?_, fun h p hp => ?_⟩
    · have : ((V pos N - 1 : Nat) : Int) + 1 = ((V pos N : Nat) : Int) := by omega
      rw [this]; simp
    · have hV : V pos N = 1 := by omega
      have ou := others_uncounted kN hV h5'
      have := Mode.last (pos := upd pos k p) (N0 := N0) (N := N) k (by rw [e0]; exact a) k0 kN (by rw [upd_same]; exact .inl hp) (fun x x0 xN xk => by
        rw [upd_ne _ _ xk]
        rcases b x x0 xN with h' | h'
        · have := ou x xN xk; omega
        · exact h')
      rw [upd_same, hp] at this
      rw [h.1]
      simpa using this
    · have hv' := hv p (by omega)
      have e : ((V pos N - 1 : Nat) : Int) * KK + ((1 : Nat) : Int) = ((V (upd pos k p) N : Nat) : Int) * KK + 1 := by
        have : V pos N - 1 = V (upd pos k p) N := by omega
        rw [this]; simp
      rw [e]
      exact .reg (by rw [e0]; exact a) (ho p hp b) (by omega)
  | last L a b c d e =>
    by_cases x : k = L
    · subst x; omega
    · have := e k k0 kN x; omega
  | sema a b c => have := c k k0 kN; omega
  | fin a b => have := b k k0 kN; omega

/-- Whoever stands at stage 4, 3 or 2 is the last one. -/
theorem Mode.isLast (hm : Mode pos N0 N st sm) (h : wst (pos k) = 4 ∨ wst (pos k) = 3 ∨ wst (pos k) = 2) :
    w3T (tagOf (pos 0)) ∧ (∀ a, N0 ≤ a → a < N → a ≠ k → wst (pos a) = 1) ∧ st = (if wst (pos k) = 2 then 0 else 1) ∧ sm = 0 := by
  cases hm with
  | opn a b c => have := b k k0 kN; omega
  | reg a b c => have := b k k0 kN; omega
  | last L a b c d e =>
    by_cases x : k = L
    · subst x; exact ⟨a, e, rfl, rfl⟩
    · have := e k k0 kN x; omega
  | sema a b c => have := c k k0 kN; omega
  | fin a b => have := b k k0 kN; omega
theorem Mode.lastOn (ha : w3T (tagOf (pos 0))) (hq : ∀ a, N0 ≤ a → a < N → a ≠ k → wst (pos a) = 1) {p : Ps} (hp : wst p = 3 ∨ wst p = 2) : Mode (upd pos k p) N0 N (if wst p = 2 then 0 else 1) 0 := by
  have := Mode.last (pos := upd pos k p) (N0 := N0) (N := N) k (by rw [upd_ne _ _ (fun e => k1 e.symm)]; exact ha) k0 kN (by rw [upd_same]; omega) (fun a a0 aN ak => by rw [upd_ne _ _ ak]; exact hq a a0 aN ak)
  rwa [upd_same] at this
theorem Mode.lastOut (ha : w3T (tagOf (pos 0))) (hu : Up (pos 0)) (hq : ∀ a, N0 ≤ a → a < N → a ≠ k → wst (pos a) = 1) {p : Ps} (hp : wst p = 1) : Mode (upd pos k p) N0 N 0 1 :=
  .sema (by rw [upd_ne _ _ (fun e => k1 e.symm)]; exact ha) (by rw [upd_ne _ _ (fun e => k1 e.symm)]; exact hu) (fun a a0 aN => by
    by_cases e : a = k
    · subst e; rw [upd_same]; exact hp
    · rw [upd_ne _ _ e]; exact hq a a0 aN e)
end
end
end Go.Proofs.Ytdkbkocklnnmdaa.tgs
/-
  Together: main's own steps keep the law that ties the wait group's cells to where everybody stands. No program here, and no condition.
-/
set_option linter.unusedVariables false
set_option linter.unusedSectionVars false
namespace Go.Proofs.Ytdkbkocklnnmdaa.tgs
open Go Go.Conc Go.Proofs.Ytdkbkocklnnmdaa.mach
open Go.ConcN (upd upd_same upd_ne sumTo sumTo_upd sumTo_congr le_sumTo sumTo_upd_out sumTo_le)
open Go.ConcR (KK)

section
variable {pos : Nat → Ps} {N0 N : Nat} {st sm : Int}
theorem Mode.openInv (hm : Mode pos N0 N st sm) (ho : openT (tagOf (pos 0))) :
    OpenW pos N0 N ∧ (∀ vs, tagOf (pos 0) = some (.wcas vs) → V pos N ≤ vs ∧ 1 ≤ vs) ∧ st = ((V pos N + pendT (tagOf (pos 0)) : Nat) : Int) * KK ∧ sm = 0 := by
  have no3 : ¬ w3T (tagOf (pos 0)) := by
    revert ho
    cases tagOf (pos 0) with
    | none => exact fun h => h.elim
    | some s => cases s <;> intro h <;> first | exact fun x => x | exact h.elim
  have noF : ¬ finT (tagOf (pos 0)) := by
    revert ho
    cases tagOf (pos 0) with
    | none => exact fun h => h.elim
    | some s => cases s <;> intro h <;> first | exact fun x => x | exact h.elim
  cases hm with
  | opn a b c => exact ⟨b, c, rfl, rfl⟩
  | reg a b c => exact absurd a no3
  | last L a b c d e => exact absurd a no3
  | sema a b c => exact absurd a no3
  | fin a b => exact absurd a noF
theorem Mode.finInv (hm : Mode pos N0 N st sm) (ho : finT (tagOf (pos 0))) : AllQ pos N0 N ∧ st = 0 ∧ sm = 0 := by
  have no3 : ¬ w3T (tagOf (pos 0)) := by
    revert ho
    cases tagOf (pos 0) with
    | none => exact fun h => h.elim
    | some s => cases s <;> intro h <;> first | exact fun x => x | exact h.elim
  have noO : ¬ openT (tagOf (pos 0)) := by
    revert ho
    cases tagOf (pos 0) with
    | none => exact fun h => h.elim
    | some s => cases s <;> intro h <;> first | exact fun x => x | exact h.elim
  cases hm with
  | opn a b c => exact absurd a noO
  | reg a b c => exact absurd a no3
  | last L a b c d e => exact absurd a no3
  | sema a b c => exact absurd a no3
  | fin a b => exact ⟨b, rfl, rfl⟩
theorem Mode.w3Inv (hm : Mode pos N0 N st sm) (ho : w3T (tagOf (pos 0))) :
    (sm = 0) ∨ (sm = 1 ∧ st = 0 ∧ AllQ pos N0 N) := by
  cases hm with
  | opn a b c => exact .inl rfl
  | reg a b c => exact .inl rfl
  | last L a b c d e => exact .inl rfl
  | sema a b c => exact .inr ⟨rfl, rfl, c⟩
  | fin a b => exact .inl rfl

theorem openW_main (p : Ps) (h0 : 1 ≤ N0) (h : OpenW pos N0 N) : OpenW (upd pos 0 p) N0 N := fun k a b => by rw [upd_ne _ _ (by omega)]; exact h k a b
theorem allQ_main (p : Ps) (h0 : 1 ≤ N0) (h : AllQ pos N0 N) : AllQ (upd pos 0 p) N0 N := fun k a b => by rw [upd_ne _ _ (by omega)]; exact h k a b

theorem wst0_of_open {p : Ps} (h : openT (tagOf p)) : wst p = 0 := by
  unfold wst; revert h
  cases tagOf p with
  | none => exact fun h => h.elim
  | some s => cases s <;> intro h <;> first | rfl | exact h.elim
theorem wst0_of_w3 {p : Ps} (h : w3T (tagOf p)) : wst p = 0 := by
  unfold wst; revert h
  cases tagOf p with
  | none => exact fun h => h.elim
  | some s => cases s <;> intro h <;> first | rfl | exact h.elim
theorem wst0_of_fin {p : Ps} (h : finT (tagOf p)) : wst p = 0 := by
  unfold wst; revert h
  cases tagOf p with
  | none => exact fun h => h.elim
  | some s => cases s <;> intro h <;> first | rfl | exact h.elim

theorem Mode.openMk (h0 : 1 ≤ N0) (hz : wst (pos 0) = 0) {p : Ps} (ho : openT (tagOf p)) (hW : OpenW pos N0 N) (hc : ∀ vs, tagOf p = some (.wcas vs) → V pos N ≤ vs ∧ 1 ≤ vs) :
    Mode (upd pos 0 p) N0 N (((V pos N + pendT (tagOf p) : Nat) : Int) * KK) 0 := by
  have hv := V_main (N := N) p hz (wst0_of_open ho)
  have := Mode.opn (pos := upd pos 0 p) (N0 := N0) (N := N) (by rw [upd_same]; exact ho) (openW_main p h0 hW) (fun vs e => by rw [hv]; rw [upd_same] at e; exact hc vs e)
  rwa [hv, upd_same] at this
theorem Mode.regMk (h0 : 1 ≤ N0) (hz : wst (pos 0) = 0) {p : Ps} (ho : w3T (tagOf p)) (hW : OpenW pos N0 N) (hc : 1 ≤ V pos N) : Mode (upd pos 0 p) N0 N (((V pos N : Nat) : Int) * KK + 1) 0 := by
  have hv := V_main (N := N) p hz (wst0_of_w3 ho)
  have := Mode.reg (pos := upd pos 0 p) (N0 := N0) (N := N) (by rw [upd_same]; exact ho) (openW_main p h0 hW) (by rw [hv]; exact hc)
  rwa [hv] at this
theorem Mode.finMk (h0 : 1 ≤ N0) {p : Ps} (ho : finT (tagOf p)) (hQ : AllQ pos N0 N) : Mode (upd pos 0 p) N0 N 0 0 := .fin (by rw [upd_same]; exact ho) (allQ_main p h0 hQ)
theorem Mode.w3Mk (h0 : 1 ≤ N0) (hm : Mode pos N0 N st sm) (h3 : w3T (tagOf (pos 0))) {p : Ps} (ho : w3T (tagOf p)) (hu : sm = 1 → Up p) : Mode (upd pos 0 p) N0 N st sm := by
  have hv := V_main (N := N) p (wst0_of_w3 h3) (wst0_of_w3 ho)
  have e : ∀ k, k < N → wst (upd pos 0 p k) = wst (pos k) := fun k _ => by
    by_cases x : k = 0
    · subst x; rw [upd_same, wst0_of_w3 h3, wst0_of_w3 ho]
    · rw [upd_ne _ _ x]
  have same : tagOf (upd pos 0 p 0) = tagOf p := by rw [upd_same]
  cases hm with
  | opn a b c => revert a h3; cases tagOf (pos 0) with
    | none => exact fun h => h.elim
    | some s => cases s <;> intro h3 a <;> first | exact a.elim | exact h3.elim
  | reg a b c => exact .regMk h0 (wst0_of_w3 h3) ho b c
  | last L a b c d f =>
    have hL : wst (upd pos 0 p L) = wst (pos L) := e L c
    rw [← hL]
    exact .last L (by rw [same]; exact ho) b c (by rw [hL]; exact d) (fun k k0 kN kL => by rw [e k kN]; exact f k k0 kN kL)
  | sema a b c => exact .sema (by rw [same]; exact ho) (by rw [upd_same]; exact hu rfl) (allQ_main p h0 c)
  | fin a b => revert a h3; cases tagOf (pos 0) with
    | none => exact fun h => h.elim
    | some s => cases s <;> intro h3 a <;> first | exact a.elim | exact h3.elim

theorem allQ_of_zero (hW : OpenW pos N0 N) (hV : V pos N = 0) : AllQ pos N0 N := fun k a b => by
  rcases hW k a b with h | h
  · have := of_V_zero hV b; omega
  · exact h

theorem sumTo_succ (f : Nat → Nat) (n : Nat) : sumTo (n + 1) f = sumTo n f + f n := rfl
/-- A worker is started. -/
theorem Mode.born (h0 : 1 ≤ N0) (hN : N0 ≤ N) (hm : Mode pos N0 N st sm) {r bi : Nat} {f : Nat} (hg : pos 0 = .on (.go r bi) f) {p pc : Ps} (hp : openT (tagOf p)) (hpp : pendT (tagOf p) = 0) (hnc : ∀ vs, tagOf p ≠ some (.wcas vs))
    (hc : 5 ≤ wst pc) : Mode (upd (upd pos 0 p) N pc) N0 (N + 1) st sm ∧ V (upd (upd pos 0 p) N pc) (N + 1) = V pos N + 1 := by
  have ho : openT (tagOf (pos 0)) := by rw [hg]; trivial
  obtain ⟨a, b, rfl, rfl⟩ := hm.openInv ho
  have hpend : pendT (tagOf (pos 0)) = 1 := by rw [hg]; rfl
  have hv : V (upd (upd pos 0 p) N pc) (N + 1) = V pos N + 1 := by
    have e1 : V (upd (upd pos 0 p) N pc) N = V (upd pos 0 p) N := V_congr fun k hk => by rw [upd_ne _ _ (by omega)]
    have e2 := V_main (pos := pos) (N := N) p (wst0_of_open ho) (wst0_of_open hp)
    have e3 : cn (upd (upd pos 0 p) N pc N) = 1 := by rw [upd_same]; unfold cn; rw [if_pos hc]
    have e4 : V (upd (upd pos 0 p) N pc) (N + 1) = V (upd (upd pos 0 p) N pc) N + cn (upd (upd pos 0 p) N pc N) := rfl
    omega
  refine ⟨?_, hv⟩
  have e0 : upd (upd pos 0 p) N pc 0 = p := by rw [upd_ne _ _ (by omega), upd_same]
  have := Mode.opn (pos := upd (upd pos 0 p) N pc) (N0 := N0) (N := N + 1) (by rw [e0]; exact hp) (fun k k0 kN => by
      by_cases x : k = N
      · subst x; rw [upd_same]; exact .inl hc
      · rw [upd_ne _ _ x, upd_ne _ _ (by omega)]; exact a k k0 (by omega)) (fun vs e => by rw [e0] at e; exact absurd e (hnc vs))
  rw [hv, e0, hpp] at this
  rw [hpend]
  exact this
end
end Go.Proofs.Ytdkbkocklnnmdaa.tgs
/-
  What many goroutines know of one another's accesses: who may touch which place, how it is kept by an operation, by a go statement, and how an atomic read passes on what the last atomic writer knew. No program here, and no condition.
-/
set_option linter.unusedVariables false
namespace Go.Proofs.Ytdkbkocklnnmdaa.tgs
open Go Go.Conc
open Go.ConcN (PermW PermW.app fork_knows)

/-- The shared places are quiet; whoever may write a place knows all its touches; whoever may read it all its writes. -/
structure Pm (Sh : Loc → Prop) (Wp Rp : Nat → Loc → Prop) (N : Nat) (t : Trace) : Prop where
  quiet : Quiet Sh t
  w : ∀ k l, Wp k l → Perm t k l
  r : ∀ k l, Rp k l → PermW t k l
  nr : ∀ said, ¬ Race said t
  gs : ∀ (i : Nat) (op : MemOp), t[i]? = some op → op.g < N

def OkOp (Sh W R : Loc → Prop) (k : Nat) (op : MemOp) : Prop :=
  op.g = k ∧ ∀ x, op.act.touch? = some x → (Sh x.loc ∧ x.kind ≠ .plain ∧ (x.kind = .said → k = 0)) ∨ (¬ Sh x.loc ∧ W x.loc) ∨ (¬ Sh x.loc ∧ R x.loc ∧ x.write = false)

section
variable {Sh : Loc → Prop} {Wp Rp Wp' Rp' : Nat → Loc → Prop} {N k : Nat} {t u : Trace}

/-- OPERATIONS OF ONE. -/
theorem Pm.app (h : Pm Sh Wp Rp N t) (hk : k < N) (hu : ∀ op ∈ u, OkOp Sh (Wp k) (Rp k) k op) (hW : ∀ j l, Wp' j l → Perm (t ++ u) j l) (hR : ∀ j l, Rp' j l → PermW (t ++ u) j l) : Pm Sh Wp' Rp' N (t ++ u) := by
  refine ⟨h.quiet.app fun op hop x hx hs => ?_, hW, hR, fun said => noRace_append (h.nr said) (fun op hop => (hu op hop).1) (fun i a ha op hop b hb hc => ?_), fun i op hi => ?_⟩
  · rcases (hu op hop).2 x hx with ⟨_, a, b⟩ | ⟨hn, _⟩ | ⟨hn, _⟩
    · exact ⟨a, fun e => by rw [(hu op hop).1]; exact b e⟩
    · exact absurd hs hn
    · exact absurd hs hn
  · rcases (hu op hop).2 b hb with ⟨hs, h1, h2⟩ | ⟨hn, hw⟩ | ⟨hn, hr, hbw⟩
    · exact h.quiet.known hs h1 h2 i a ha hc
    · exact h.w k b.loc hw i a ha hc.1
    · exact h.r k b.loc hr i a ha hc.1 (hc.2.2.1.resolve_right (by simp [hbw]))
  · rcases getElem?_append_cases hi with ⟨_, hi'⟩ | ⟨_, hiu⟩
    · exact h.gs i op hi'
    · rw [(hu op hiu).1]; exact hk
/-- Kept by oneself, or where the others' operations leave the place. -/
theorem perm_keep {j : Nat} {l : Loc} (h : Perm t j l) (hg : ∀ op ∈ u, op.g = k) (hu : j = k ∨ ∀ op ∈ u, ∀ x, op.act.touch? = some x → x.loc ≠ l) : Perm (t ++ u) j l := by
  refine h.app fun op hop b hb e => ?_
  rcases hu with rfl | hu
  · exact hg op hop
  · exact absurd e (hu op hop b hb)
theorem permW_keep {j : Nat} {l : Loc} (h : PermW t j l) (hg : ∀ op ∈ u, op.g = k) (hu : j = k ∨ ∀ op ∈ u, ∀ x, op.act.touch? = some x → x.loc = l → x.write = false) : PermW (t ++ u) j l := by
  refine PermW.app h fun op hop b hb e hw => ?_
  rcases hu with rfl | hu
  · exact hg op hop
  · rw [hu op hop b hb e] at hw; cases hw
theorem perm_W {j : Nat} {l : Loc} (h : Perm t j l) : PermW t j l := fun i a ha e _ => h i a ha e
/-- Nobody has touched it. -/
theorem perm_new {j : Nat} {l : Loc} (h : ∀ op ∈ t, ∀ x, op.act.touch? = some x → x.loc ≠ l) : Perm t j l := fun i a ha e => by
  obtain ⟨x, hx, hxa⟩ := touch_of ha
  exact absurd e (h x (Array.mem_of_getElem? hx) a hxa)

/-- A go STATEMENT. -/
theorem Pm.fork (h : Pm Sh Wp Rp N t) {x y : MemOp} (hN : 0 < N) (hx : x.g = 0 ∧ x.act = .go N) (hy : y.g = N ∧ y.act = .start) (h0 : Deaf t 0 = 0)
    (hW : ∀ j l, Wp' j l → Wp j l ∨ (j = N ∧ Wp 0 l)) (hR : ∀ j l, Rp' j l → (Rp j l ∨ Wp j l) ∨ (j = N ∧ (Rp 0 l ∨ Wp 0 l))) : Pm Sh Wp' Rp' (N + 1) (t ++ #[x, y]) := by
  obtain ⟨M, rfl⟩ : ∃ M, N = M + 1 := ⟨N - 1, by omega⟩
  have hk : Deaf t (M + 1) = 0 := Go.ConcN.Deaf_absent fun i op hi e => by have := h.gs i op hi; omega
  have hnt : ∀ op ∈ #[x, y], ∀ b, op.act.touch? = some b → False := by
    intro op hop b hb
    simp only [List.mem_toArray, List.mem_cons, List.not_mem_nil, or_false] at hop
    rcases hop with rfl | rfl
    · rw [hx.2] at hb; cases hb
    · rw [hy.2] at hb; cases hb
  have old : ∀ {i : Nat} {a : Touch}, touchAt (t ++ #[x, y]) i = some a → touchAt t i = some a := by
    intro i a ha
    obtain ⟨z, hz, hza⟩ := touch_of ha
    rcases getElem?_append_cases hz with ⟨_, hz'⟩ | ⟨_, hzu⟩
    · rw [touchAt_of hz']; exact hza
    · exact (hnt z hzu a hza).elim
  have stay : ∀ j l, Perm t j l → Perm (t ++ #[x, y]) j l := fun j l hp => Perm.app hp fun op hop b hb _ => (hnt op hop b hb).elim
  have stayW : ∀ j l, PermW t j l → PermW (t ++ #[x, y]) j l := fun j l hp => PermW.app hp fun op hop b hb _ _ => (hnt op hop b hb).elim
  refine ⟨h.quiet.app fun op hop b hb _ => (hnt op hop b hb).elim, fun j l hl => ?_, fun j l hl => ?_, fun said => ?_, fun i op hi => ?_⟩
  · rcases hW j l hl with h' | ⟨rfl, h'⟩
    · exact stay j l (h.w j l h')
    · exact fun i a ha e => fork_knows hx hy h0 hk (h.w 0 l h' i a (old ha) e)
  · rcases hR j l hl with (h' | h') | ⟨rfl, h'⟩
    · exact stayW j l (h.r j l h')
    · exact stayW j l (perm_W (h.w j l h'))
    · intro i a ha e hw
      rcases h' with h' | h'
      · exact fork_knows hx hy h0 hk (h.r 0 l h' i a (old ha) e hw)
      · exact fork_knows hx hy h0 hk (h.w 0 l h' i a (old ha) e)
  · have e : t ++ #[x, y] = (t ++ #[x]) ++ #[y] := by apply Array.ext'; simp
    rw [e]
    refine noRace_append (g := M + 1) (noRace_append (g := 0) (h.nr said) (fun op hop => by simp at hop; rw [hop]; exact hx.1) (fun i a _ op hop b hb _ => (hnt op (by simp at hop ⊢; exact .inl hop) b hb).elim))
      (fun op hop => by simp at hop; rw [hop]; exact hy.1) (fun i a _ op hop b hb _ => (hnt op (by simp at hop ⊢; exact .inr hop) b hb).elim)
  · rcases getElem?_append_cases hi with ⟨_, hi'⟩ | ⟨_, hiu⟩
    · have := h.gs i op hi'; omega
    · simp only [List.mem_toArray, List.mem_cons, List.not_mem_nil, or_false] at hiu
      rcases hiu with rfl | rfl
      · rw [hx.1]; omega
      · rw [hy.1]; omega

/-! ### the atomic word that passes on what its writer knew -/
/-- The last write to the cell a is the atomic one at q, heard; all writes of l are before it. -/
def Pub (t : Trace) (a : Addr) (l : Loc) (q : Nat) : Prop := LastWrite t a q ∧ t.heard q ∧ ∀ i b, touchAt t i = some b → b.loc = l → b.write = true → Before t i q
theorem Pub.app {a : Addr} {l : Loc} {q : Nat} (h : Pub t a l q) (hu : ∀ op ∈ u, ∀ sync, op.act ≠ .access ⟨.cell a, true, sync⟩) (hl : ∀ op ∈ u, ∀ x, op.act.touch? = some x → x.loc = l → x.write = false) : Pub (t ++ u) a l q := by
  have hq := lt_of_act? h.1.1
  refine ⟨h.1.app hu, (heard_old hq).2 h.2.1, fun i b hb e hw => ?_⟩
  obtain ⟨x, hx, hxa⟩ := touch_of hb
  rcases getElem?_append_cases hx with ⟨hi, hx'⟩ | ⟨_, hxu⟩
  · exact (h.2.2 i b (by rw [touchAt_of hx']; exact hxa) e hw).app u
  · rw [hl x hxu b hxa e] at hw; cases hw
theorem push_last (t : Trace) (y : MemOp) : (t ++ #[y])[t.size]? = some y := by rw [Array.getElem?_append_right (Nat.le_refl _)]; simp
theorem heard_last {y : MemOp} (hd : Deaf t y.g = 0) : (t ++ #[y]).heard t.size := ⟨y.g, by simp [Trace.g?], by rw [deaf_old (Nat.le_refl _)]; exact hd⟩
/-- The atomic write publishes. -/
theorem Pub.new {a : Addr} {l : Loc} {y : MemOp} (hy : y.act = .access ⟨.cell a, true, true⟩) (hd : Deaf t y.g = 0) (h : Perm t y.g l) (hl : l ≠ .cell a) : Pub (t ++ #[y]) a l t.size := by
  refine ⟨LastWrite.new t a hy, heard_last hd, fun i b hb e hw => ?_⟩
  refine h.release (y := y) rfl (fun x hx => ?_) i b hb e
  rw [hy] at hx
  have : x = ⟨.cell a, true, .atomic⟩ := (Option.some.inj hx).symm
  subst this
  exact fun x => hl x.symm
/-- Whoever reads the word atomically, hearing, knows. -/
theorem Pub.get {a : Addr} {l : Loc} {q : Nat} {y : MemOp} (h : Pub t a l q) (hy : y.act = .access ⟨.cell a, false, true⟩) (hd : Deaf t y.g = 0) (hl : l ≠ .cell a) : PermW (t ++ #[y]) y.g l := by
  have hlast := push_last t y
  have hp := lt_of_act? h.1.1
  obtain ⟨x, hx, _⟩ := Option.map_eq_some_iff.1 h.1.1
  have hkn : Knows (t ++ #[y]) y.g q := ⟨t.size, y, hlast, rfl, .inr (.single (.inr ⟨.atomic (a := a) hp (by rw [act?_old hp]; exact h.1.1) (by rw [act?_of hlast, hy]) (fun k sync h1 h2 => by rw [act?_old h2]; exact h.1.2 k sync h1), (heard_old hp).2 h.2.1, heard_last hd⟩))⟩
  intro i b hb e hw
  obtain ⟨x', hx', hxa⟩ := touch_of hb
  rcases getElem?_append_cases hx' with ⟨hi, hx2⟩ | ⟨_, hxu⟩
  · exact Knows.of_before ((h.2.2 i b (by rw [touchAt_of hx2]; exact hxa) e hw).app _) hkn
  · have : x' = y := by simpa using hxu
    subst this
    rw [hy] at hxa
    have : b = ⟨.cell a, false, .atomic⟩ := (Option.some.inj hxa).symm
    subst this
    cases hw
end
end Go.Proofs.Ytdkbkocklnnmdaa.tgs
/-
  Together: what holds of the whole at every moment: where everybody stands, the cell, the lock, the answers, the trace. Conditions: those that the theorems name.
-/
set_option linter.unusedVariables false
set_option linter.unusedSectionVars false
namespace Go.Proofs.Ytdkbkocklnnmdaa.tgs
open Go Go.Conc Go.Proofs.Ytdkbkocklnnmdaa.mach Go.Proofs.Ytdkbkocklnnmdaa.wg Go.Proofs.Ytdkbkocklnnmdaa.tog Go.Proofs.Ytdkbkocklnnmdaa.lock
open Go.ConcN (upd upd_same upd_ne sumTo sumTo_upd sumTo_congr le_sumTo sumTo_upd_out sumTo_le RelBy WgLive RelBy.appOther RelBy.appOwn RelBy.new PermW PermW.app)
open Go.ConcR (KK WgAt stA smA rd wr mk DC0 g_of_ofEvents)
open Go.Proofs.Ytdkbkocklnnmdaa.crew (Handed Handed.app Handed.appOther Handed.appMute norel_all)

/-- A call of Together's. -/
structure Par where
  p : Tp
  N0 : Nat
  n : Nat
  w0 : World
  Sh : Loc → Prop
  Lw : Loc → Prop
  tyO : TypeId
  tyR : TypeId
  d0 : Prop

def inB (b : Nat) (l : Loc) : Prop := ∃ a : Addr, l = .cell a ∧ a.block = b
/-- The places that are no goroutine's alone and not only stepped on atomically. -/
def Par.Plain (P : Par) (l : Loc) : Prop := (∃ b, P.p.Ro b ∧ inB b l) ∨ inB P.p.Rn l ∨ inB P.p.Ot l ∨ (∃ b, P.w0.heap.size ≤ b ∧ inB b l) ∨ l = .cell (tog.cA P.p 3) ∨ l = .cell (tog.cA P.p 4)

structure Par.Ok (P : Par) : Prop where
  n0 : 1 ≤ P.N0
  small : P.N0 + P.n ≤ 300000
  cro : ¬ P.p.Ro P.p.C
  wro : ¬ P.p.Ro P.p.Wg
  rro : ¬ P.p.Ro P.p.Rn
  oro : ¬ P.p.Ro P.p.Ot
  cw : P.p.C ≠ P.p.Wg
  cr : P.p.C ≠ P.p.Rn
  co : P.p.C ≠ P.p.Ot
  wr : P.p.Wg ≠ P.p.Rn
  wo : P.p.Wg ≠ P.p.Ot
  ro : P.p.Rn ≠ P.p.Ot
  low : ∀ b, P.p.Ro b ∨ b = P.p.C ∨ b = P.p.Wg ∨ b = P.p.Rn ∨ b = P.p.Ot → b < P.w0.heap.size
  bd : P.p.Ro P.p.Bd
  shw : ∀ a : Addr, a.block = P.p.Wg → P.Sh (.cell a)
  shc : P.Sh (.cell (tog.cA P.p 0)) ∧ P.Sh (.cell (tog.cA P.p 1)) ∧ P.Sh (.cell (tog.cA P.p 2)) ∧ P.Sh (.cell (tog.cA P.p 5)) ∧ P.Sh (.cell (tog.cA P.p 6))
  nsh : ∀ l, P.Plain l → ¬ P.Sh l
  lwS : ∀ l, P.Sh l → P.Lw l
  lwP : ∀ l, P.Plain l → P.Lw l
  fin : Atom P.p.fin
  shm : ∀ l, P.Sh l → l.isMemory = true
  eb : ∀ w, P.p.eb w = #[]

/-- The cell's make, and the law's count. -/
structure Gam where
  c : Cs
  x : Int

/-- The world since. -/
structure TW (p : Tp) (w0 w : World) : Prop where
  blocks : ∀ b, b < w0.heap.size → b ≠ p.C → b ≠ p.Wg → b ≠ p.Rn → b ≠ p.Ot → w.heap[b]? = w0.heap[b]?
  size : w0.heap.size ≤ w.heap.size
  tape : w.tape = w0.tape
  os : ∃ d, w.os = { w0.os with wall := w0.os.wall + d, mono := w0.os.mono + d }
  output : w.output = w0.output

theorem TW.refl (p : Tp) (w : World) : TW p w w := ⟨fun _ _ _ _ _ _ => rfl, Nat.le_refl _, rfl, ⟨0, rfl⟩, rfl⟩
theorem TW.trans {p : Tp} {a b c : World} (h : TW p a b) (h' : TW p b c) : TW p a c := by
  refine ⟨fun x h1 h2 h3 h4 h5 => (h'.blocks x (Nat.lt_of_lt_of_le h1 h.size) h2 h3 h4 h5).trans (h.blocks x h1 h2 h3 h4 h5), Nat.le_trans h.size h'.size, h'.tape.trans h.tape, ?_, h'.output.trans h.output⟩
  obtain ⟨d, e⟩ := h.os
  obtain ⟨d', e'⟩ := h'.os
  exact ⟨d + d', by rw [e', e]; simp [Nat.add_assoc]⟩
theorem TW.at (p : Tp) (w : World) (d : Nat) : TW p w (w.at d) := ⟨fun _ _ _ _ _ _ => rfl, Nat.le_refl _, rfl, ⟨0, rfl⟩, rfl⟩
theorem TW.aside {p : Tp} {w w' : World} {b : Nat} (h : Aside b w w') (hb : b = p.C ∨ b = p.Wg ∨ b = p.Rn ∨ b = p.Ot) : TW p w w' :=
  ⟨fun x h1 h2 h3 h4 h5 => h.block x (by rcases hb with e | e | e | e <;> rw [e] <;> assumption), Nat.le_of_eq h.size.symm, h.tape, ⟨0, by rw [h.os]; rfl⟩, h.output⟩
theorem TW.alloc (p : Tp) (w : World) (o : Obj) : TW p w (w.alloc o) := by
  refine ⟨fun x h1 _ _ _ _ => ?_, ?_, rfl, ⟨0, rfl⟩, rfl⟩
  · show (w.heap.push o)[x]? = _
    rw [Array.getElem?_push_lt h1, Array.getElem?_eq_getElem h1]
  · show _ ≤ (w.heap.push o).size
    simp
/-- .. in a block that has come since. -/
theorem TW.fresh {p : Tp} {w0 w w' : World} {b : Nat} (h0 : TW p w0 w) (h : Aside b w w') (hb : w0.heap.size ≤ b) : TW p w0 w' :=
  ⟨fun x h1 h2 h3 h4 h5 => (h.block x (by omega)).trans (h0.blocks x h1 h2 h3 h4 h5), by rw [h.size]; exact h0.size, h.tape.trans h0.tape, by obtain ⟨d, e⟩ := h0.os; exact ⟨d, by rw [h.os, e]⟩, h.output.trans h0.output⟩
theorem TW.later (p : Tp) (w : World) : TW p w w.later := ⟨fun _ _ _ _ _ _ => rfl, Nat.le_refl _, rfl, ⟨w.tick, rfl⟩, rfl⟩
theorem TW.asked (p : Tp) (w : World) : TW p w w.asked := ⟨fun _ _ _ _ _ _ => rfl, Nat.le_refl _, rfl, ⟨0, rfl⟩, rfl⟩

/-! ### what a position tells -/
/-- The blocks that are one's own. -/
def blkT : Option Stg → List Nat
  | some (.st _ bi) | some (.dis _ bi) | some (.add _ bi) | some (.read _ bi) | some (.ena _ bi) | some (.go _ bi) => [bi]
  | some (.tk bi _ s) => bi :: s.own
  | some (.k0 bi) => [bi]
  | _ => []
def lkS : WS → Lk
  | .lk x => x
  | .od | .gv | .ow _ => .off
  | _ => .cr
def lkT : Option Stg → Lk
  | some (.tk _ _ s) => lkS s
  | _ => .off
def lkOf (q : Ps) : Lk := lkT (tagOf q)
/-- It runs, or is about to run, the cell's function. -/
def runS : WS → Prop
  | .bx | .ra _ | .rl _ | .rs _ _ | .vs _ | .cs _ | .os _ => True
  | _ => False
def runT : Option Stg → Prop
  | some (.tk _ _ s) => runS s
  | _ => False
/-- It knows that the cell has run. -/
def knS : WS → Prop
  | .gv | .ow _ | .lk .ur | .lk .ud | .lk .u0 | .lk (.uc _) | .lk .ux | .lk (.us _) | .lk .ue => True
  | _ => False
def knT : Option Stg → Prop
  | some (.tk _ _ s) => knS s
  | _ => False
/-- What the one that runs has come to. -/
def PhS (p : Tp) (γ : Gam) : WS → Prop
  | .bx | .ra _ => γ.c.d = 0 ∧ γ.c.cd = 0 ∧ γ.c.r = 0 ∧ γ.x = 0
  | .rl _ => γ.c.d = 0 ∧ γ.c.cd = 0 ∧ γ.c.r = 1 ∧ γ.x = 0
  | .rs _ y => γ.c.d = 0 ∧ γ.c.cd = 0 ∧ γ.c.r = 1 ∧ γ.x = 0 ∧ y = 1
  | .vs _ => γ.c.d = 0 ∧ γ.c.cd = 0 ∧ γ.c.r = 1 ∧ γ.x = 1
  | .cs _ => γ.c.d = 0 ∧ γ.c.cd = 0 ∧ γ.c.r = 1 ∧ γ.x = 1 ∧ γ.c.v = p.fin
  | .os _ => γ.c.d = 0 ∧ γ.c.cd = 1 ∧ γ.c.r = 1 ∧ γ.x = 1 ∧ γ.c.v = p.fin
  | .ow v => v = p.fin
  | .lk .off | .lk .cr => False
  | _ => True
def Done (p : Tp) (γ : Gam) : Prop := γ.c.d = 1 ∧ γ.c.cd = 1 ∧ γ.c.r = 1 ∧ γ.x = 1 ∧ γ.c.v = p.fin
def Idle (p : Tp) (γ : Gam) : Prop := (γ.c.d = 0 ∧ γ.c.cd = 0 ∧ γ.c.r = 0 ∧ γ.x = 0) ∨ Done p γ

structure Once (P : Par) (γ : Gam) (pos : Nat → Ps) (N : Nat) : Prop where
  run : ∀ k, k < N → ∀ bi ix s, tagOf (pos k) = some (.tk bi ix s) → PhS P.p γ s
  idle : (∀ k, k < N → ¬ runT (tagOf (pos k))) → Idle P.p γ
  kn : ∀ k, P.N0 ≤ k → k < N → knT (tagOf (pos k)) ∨ wst (pos k) ≤ 7 → γ.c.d = 1
  d0 : P.d0 → γ.c.d = 1

def dfL : Lk → Nat
  | .ld | .la | .cr | .ur | .ud | .off => 0
  | _ => 1
def dfS : WS → Nat
  | .lk x => dfL x
  | _ => 0
/-- How deaf. -/
def dfn : Ps → Nat
  | .on (.add _ _) _ | .on (.read _ _) _ | .on (.ena _ _) _ => 1
  | .on .wload _ | .on (.wcas _) _ | .on .wwr _ | .on .wsem _ | .on .wld2 _ | .on .wena _ => 1
  | .on .d1 _ | .on .d2 _ | .on .d3 _ | .on .d4 _ => 1
  | .on (.tk _ _ s) _ => dfS s
  | .blk _ => 1
  | .quit _ d => d
  | _ => 0
def remT : Option Stg → Nat
  | some (.al r) | some (.st r _) | some (.dis r _) | some (.add r _) | some (.read r _) | some (.ena r _) | some (.go r _) => r + 1
  | _ => 0

/-- The places that the one who runs alone may touch. -/
def Dl (p : Tp) (l : Loc) : Prop := l = .cell (tog.cA p 4) ∨ l = .cell (nA p)
/-- Who may write (and knows all touches). -/
def Wp (P : Par) (γ : Gam) (pos : Nat → Ps) (N k : Nat) (l : Loc) : Prop :=
  (k = 0 ∧ 0 < N ∧ ((∃ ix, N ≤ P.N0 + ix ∧ l = .cell (oA P.p ix)) ∨ ∃ b, b ∈ blkT (tagOf (pos 0)) ∧ inB b l)) ∨
  (P.N0 ≤ k ∧ k < N ∧ ((∃ ix, k = P.N0 + ix ∧ l = .cell (oA P.p ix)) ∨ ∃ bi ix s b, tagOf (pos k) = some (.tk bi ix s) ∧ b ∈ s.own ∧ inB b l)) ∨
  ((k = 0 ∨ P.N0 ≤ k) ∧ k < N ∧ Dl P.p l ∧ γ.c.d = 0 ∧ ∀ j, j < N → runT (tagOf (pos j)) → j = k)
/-- Who may read (and knows all writes). -/
def Rp (P : Par) (γ : Gam) (pos : Nat → Ps) (N k : Nat) (l : Loc) : Prop :=
  (k = 0 ∨ P.N0 ≤ k) ∧ k < N ∧ ((∃ b, P.p.Ro b ∧ inB b l) ∨ l = .cell (tog.cA P.p 3) ∨ (k ≠ 0 ∧ ∃ b, b ∈ blkT (tagOf (pos k)) ∧ inB b l) ∨ ((P.d0 ∨ (k ≠ 0 ∧ knT (tagOf (pos k)))) ∧ l = .cell (tog.cA P.p 4)))

/-- Where everybody stands fits. -/
structure Fits (P : Par) (pos : Nat → Ps) (N : Nat) : Prop where
  main : openT (tagOf (pos 0)) ∨ w3T (tagOf (pos 0)) ∨ finT (tagOf (pos 0))
  blk : ∀ s, pos 0 = .blk s → s = .wsem
  size : N + remT (tagOf (pos 0)) = P.N0 + P.n
  ge : P.N0 ≤ N
  old : ∀ k, 1 ≤ k → k < P.N0 → wst (pos k) = 1
  wk : ∀ k, P.N0 ≤ k → k < N → 1 ≤ wst (pos k)
  wb : ∀ k, P.N0 ≤ k → k < N → ∀ s, pos k = .blk s → ∃ bi ix sv ws, s = .tk bi ix (.lk (.s1 sv ws))
  ix : ∀ k, P.N0 ≤ k → k < N → ∀ bi ix s, tagOf (pos k) = some (.tk bi ix s) → k = P.N0 + ix

def Par.Fine (P : Par) (op : MemOp) : Prop := ∀ x, op.act.touch? = some x → P.Lw x.loc ∧ (op.g ≠ 0 → ¬ P.Sh x.loc → x.kind ≠ .atomic)
/-- All touches lie in blocks that are there. -/
def Bnd (w : World) (t : Trace) : Prop := ∀ op ∈ t, ∀ x, op.act.touch? = some x → ∀ a, x.loc = .cell a → a.block < w.heap.size

structure Glob (P : Par) (γ : Gam) (pos : Nat → Ps) (N : Nat) (w : World) (t : Trace) : Prop where
  fits : Fits P pos N
  df : ∀ k, k < N → Deaf t k = dfn (pos k)
  pm : Pm P.Sh (Wp P γ pos N) (Rp P γ pos N) N t
  norel : ∀ ar : Addr, NoRelease ar t
  rel : ∀ k, P.N0 ≤ k → k < N → wst (pos k) ≤ 6 → ∃ r, RelBy (stA P.p.Wg) t k r
  hand : Handed P.N0 t
  all : tagOf (pos 0) = some .fin → Handed N t
  world : TW P.p P.w0 w
  wg : ∃ st sm, WgAt 96 P.p.Wg w st sm ∧ Mode pos P.N0 N st sm
  cs : AtCs P.p γ.c w
  lock : LockInv N (fun k => lkOf (pos k)) γ.c.m γ.c.s
  sem : ∀ k, P.N0 ≤ k → k < N → ∀ s, pos k = .blk s → γ.c.s = 0
  once : Once P γ pos N
  pub : γ.c.d = 1 → P.d0 ∨ ∃ q, Pub t (tog.cA P.p 0) (.cell (tog.cA P.p 4)) q
  rn : w.heap[P.p.Rn]? = some (.cells #[.int .i64 γ.x] P.tyR)
  ot : ∃ o : Array Value, w.heap[P.p.Ot]? = some (.cells o P.tyO) ∧ o.size = P.n ∧ ∀ k, P.N0 ≤ k → k < N → wst (pos k) ≤ 7 → o[k - P.N0]? = some P.p.fin
  own : ∀ k, k < N → ∀ b, b ∈ blkT (tagOf (pos k)) → P.w0.heap.size ≤ b ∧ b < w.heap.size
  sep : ∀ j k, j < N → k < N → j ≠ k → ∀ b, b ∈ blkT (tagOf (pos j)) → b ∉ blkT (tagOf (pos k))
  bnd : Bnd w t
  fine : ∀ op ∈ t, P.Fine op
  nc : ∀ l : Loc, l.isMemory = false → Perm t 0 l

section
variable {P : Par} {γ : Gam} {pos pos' : Nat → Ps} {N : Nat} {w w' : World} {t u : Trace}
theorem runT_cr {o : Option Stg} (h : runT o) : rH (lkT o) = 1 := by
  cases o with
  | none => exact h.elim
  | some s => cases s with
    | tk bi ix x => cases x <;> first | exact h.elim | rfl
    | _ => exact h.elim
/-- One runs at most. -/
theorem Glob.alone (h : Glob P γ pos N w t) {k j : Nat} (hk : k < N) (hj : j < N) (rk : runT (tagOf (pos k))) (rj : runT (tagOf (pos j))) : j = k :=
  Classical.byContradiction fun e => by
    have := h.lock.alone hk (runT_cr rk) hj e
    rw [show lkOf (pos j) = lkT (tagOf (pos j)) from rfl, runT_cr rj] at this
    omega
theorem PhS_run {p : Tp} {s : WS} (h : runS s) (hp : PhS p γ s) : γ.c.d = 0 := by
  cases s <;> first | exact h.elim | exact hp.1
theorem Glob.d_run (h : Glob P γ pos N w t) {k : Nat} (hk : k < N) (rk : runT (tagOf (pos k))) : γ.c.d = 0 := by
  cases e : tagOf (pos k) with
  | none => rw [e] at rk; exact rk.elim
  | some s => cases s with
    | tk bi ix x => rw [e] at rk; exact PhS_run rk (h.once.run k hk bi ix x e)
    | _ => rw [e] at rk; exact rk.elim
/-- Where the word says so, it is all done. -/
theorem Glob.done (h : Glob P γ pos N w t) (hd : γ.c.d = 1) : Done P.p γ := by
  rcases h.once.idle fun k hk rk => by have := h.d_run hk rk; omega with e | e
  · rw [hd] at e; exact absurd e.1 (by omega)
  · exact e
theorem Glob.d01 (h : Glob P γ pos N w t) : γ.c.d = 0 ∨ γ.c.d = 1 := by
  by_cases hr : ∃ k, k < N ∧ runT (tagOf (pos k))
  · obtain ⟨k, hk, rk⟩ := hr
    exact .inl (h.d_run hk rk)
  · rcases h.once.idle fun k hk rk => hr ⟨k, hk, rk⟩ with e | e
    · exact .inl e.1
    · exact .inr e.1
theorem Glob.size (h : Glob P γ pos N w t) (O : P.Ok) : 1 ≤ N := by have := h.fits.ge; have := O.n0; omega
theorem Glob.small (h : Glob P γ pos N w t) (O : P.Ok) : N ≤ 300000 := by have := h.fits.size; have := O.small; omega
theorem Glob.mok (h : Glob P γ pos N w t) (O : P.Ok) : γ.c.m.Ok := h.lock.mok (h.small O)

theorem Wp_nsh (O : P.Ok) (G : ∀ k, k < N → ∀ b, b ∈ blkT (tagOf (pos k)) → P.w0.heap.size ≤ b) {k : Nat} {l : Loc} (h : Wp P γ pos N k l) : ¬ P.Sh l := by
  refine O.nsh l ?_
  rcases h with ⟨rfl, hN, ⟨ix, _, rfl⟩ | ⟨b, hb, hl⟩⟩ | ⟨_, kN, ⟨ix, _, rfl⟩ | ⟨bi, ix, s, b, e, hb, hl⟩⟩ | ⟨_, _, rfl | rfl, _⟩
  · exact .inr (.inr (.inl ⟨_, rfl, rfl⟩))
  · exact .inr (.inr (.inr (.inl ⟨b, G 0 hN b hb, hl⟩)))
  · exact .inr (.inr (.inl ⟨_, rfl, rfl⟩))
  · exact .inr (.inr (.inr (.inl ⟨b, G k kN b (by rw [e]; exact List.mem_cons_of_mem _ hb), hl⟩)))
  · exact .inr (.inr (.inr (.inr (.inr rfl))))
  · exact .inr (.inl ⟨_, rfl, rfl⟩)
end
end Go.Proofs.Ytdkbkocklnnmdaa.tgs
/-
  Together: the measure that falls with every step that is not a goroutine's own silent one. Conditions: those that the theorems name.
-/
set_option linter.unusedVariables false
set_option linter.unusedSectionVars false
namespace Go.Proofs.Ytdkbkocklnnmdaa.tgs
open Go Go.Conc Go.Proofs.Ytdkbkocklnnmdaa.mach Go.Proofs.Ytdkbkocklnnmdaa.tog Go.Proofs.Ytdkbkocklnnmdaa.lock
open Go.ConcN (upd upd_same upd_ne sumTo sumTo_upd sumTo_congr le_sumTo sumTo_le)
open Go.Proofs.Ytdkbkocklnnmdaa.crew (sumTo_mono)

/-- What one still owes in changes of the lock. -/
def bdL : Lk → Nat
  | .off | .ue => 0
  | .ld | .l0 | .r0 | .c1 _ _ _ => 7
  | .sq _ _ aw _ _ | .r1 _ aw _ _ | .c2 _ _ aw _ _ | .r3 _ aw _ _ => if aw then 6 else 7
  | .t1 _ | .s1 _ _ => 5
  | .t2 _ | .r2 _ _ | .a1 _ _ => 6
  | .le | .la | .cr | .ur | .ud | .u0 => 5
  | .uc _ | .ux => 4
  | .us _ => 3
def bdT : Option Stg → Nat
  | some (.tk _ _ .od) => 7
  | some (.tk _ _ s) => bdL (lkS s)
  | _ => 0
/-- Steps to go without such a change; a snapshot that is not the word costs one round. -/
def sLk (m : Mst) : Lk → Nat
  | .off => 0
  | .ld => 75
  | .l0 => 74
  | .r0 => 73
  | .sq o it _ _ _ => 8 + 10 * (4 - it) + (if o = m then 0 else 10)
  | .c1 _ it _ => 7 + 10 * (4 - it)
  | .r1 it _ _ _ => 6 + 10 * (4 - it)
  | .c2 o it _ _ _ => 5 + 10 * (4 - it) + (if o = m then 0 else 10)
  | .r3 it _ _ _ => 9 + 10 * (4 - it)
  | .t1 _ => 2
  | .s1 _ _ => 1
  | .t2 _ => 73
  | .r2 _ _ => 72
  | .a1 _ _ => 1
  | .le => 43
  | .la => 42
  | .cr => 0
  | .ur => 30
  | .ud => 29
  | .u0 => 28
  | .uc o => 5 + (if o = m then 0 else 10)
  | .ux => 8
  | .us _ => 4
  | .ue => 3
def sS (m : Mst) : WS → Nat
  | .od => 76
  | .lk x => sLk m x
  | .o2 => 41
  | .bx => 40
  | .ra _ => 39
  | .rl _ => 38
  | .rs _ _ => 37
  | .vs _ => 36
  | .cs _ => 35
  | .os _ => 34
  | .gv => 2
  | .ow _ => 1
def sT (m : Mst) : Option Stg → Nat
  | some (.tk _ _ s) => 20 + sS m s
  | some (.k0 _) => 7
  | some .k1 => 6
  | some .d1 => 5
  | some .d2 => 4
  | some .d3 => 3
  | some .d4 => 2
  | none => 1
  | _ => 0
def Par.A (P : Par) : Nat := 10 * (P.N0 + P.n) + 200
def rk (n Q v : Nat) : Option Stg → Nat
  | some (.al r) => 8 * n + 60 + Q * (r + 1) + 7
  | some (.st r _) => 8 * n + 60 + Q * (r + 1) + 6
  | some (.dis r _) => 8 * n + 60 + Q * (r + 1) + 5
  | some (.add r _) => 8 * n + 60 + Q * (r + 1) + 4
  | some (.read r _) => 8 * n + 60 + Q * (r + 1) + 3
  | some (.ena r _) => 8 * n + 60 + Q * (r + 1) + 2
  | some (.go r _) => 8 * n + 60 + Q * (r + 1) + 1
  | some .wdis => 8 * n + 59
  | some .wload => 8 * v + 25
  | some (.wcas vs) => 8 * vs + 24
  | some .wwr => 7
  | some .wsem => 6
  | some .wld2 => 5
  | some .wena => 3
  | some .wacq => 2
  | _ => 1
def Par.Q (P : Par) : Nat := 7 * P.A + 300
def phi (P : Par) (γ : Gam) (pos : Nat → Ps) (N : Nat) : Nat :=
  P.A * (sumTo N (fun k => bdT (tagOf (pos k))) + 2 * γ.c.s) + sumTo N (fun k => sT γ.c.m (tagOf (pos k))) + rk P.n P.Q (V pos N) (tagOf (pos 0))

section
variable {P : Par} {γ γ' : Gam} {pos pos' : Nat → Ps} {N k : Nat} {q : Ps}
theorem rk_mono (n Q : Nat) {v v' : Nat} (h : v' ≤ v) (o : Option Stg) : rk n Q v' o ≤ rk n Q v o := by
  cases o with
  | none => exact Nat.le_refl _
  | some s => cases s <;> simp only [rk] <;> omega
theorem sLk_le (m m' : Mst) (x : Lk) : sLk m' x ≤ sLk m x + 10 := by
  cases x <;> simp only [sLk] <;> first | omega | (split <;> split <;> omega)
theorem sT_le (m m' : Mst) (o : Option Stg) : sT m' o ≤ sT m o + 10 := by
  cases o with
  | none => simp [sT]
  | some s => cases s with
    | tk bi ix x => cases x with
      | lk x => have := sLk_le m m' x; simp only [sT, sS]; omega
      | _ => simp only [sT, sS]; omega
    | _ => simp only [sT]; omega
theorem sLk_max (m : Mst) (x : Lk) : sLk m x ≤ 80 := by
  cases x <;> simp only [sLk] <;> first | omega | (split <;> omega)
theorem sT_max (m : Mst) (o : Option Stg) : sT m o ≤ 100 := by
  cases o with
  | none => simp [sT]
  | some s => cases s with
    | tk bi ix x => cases x with
      | lk x => have := sLk_max m x; simp only [sT, sS]; omega
      | _ => simp only [sT, sS]; omega
    | _ => simp only [sT]; omega
theorem phi_same (ht : ∀ k, k < N → tagOf (pos' k) = tagOf (pos k)) (h1 : 1 ≤ N) : phi P γ pos' N = phi P γ pos N := by
  have hV : V pos' N = V pos N := V_congr fun k hk => wst_congr (ht k hk)
  unfold phi
  rw [hV, ht 0 (by omega)]
  rw [show sumTo N (fun k => bdT (tagOf (pos' k))) = sumTo N (fun k => bdT (tagOf (pos k))) from sumTo_congr fun k hk => by rw [ht k hk],
    show sumTo N (fun k => sT γ.c.m (tagOf (pos' k))) = sumTo N (fun k => sT γ.c.m (tagOf (pos k))) from sumTo_congr fun k hk => by rw [ht k hk]]
/-- A worker's step that changes nothing of the lock. -/
theorem phi_small (kN : k < N) (k1 : k ≠ 0) (hm : γ'.c.m = γ.c.m) (hs : γ'.c.s = γ.c.s) (hV : V (upd pos k q) N ≤ V pos N) (hb : bdT (tagOf q) ≤ bdT (tagOf (pos k))) (hl : sT γ.c.m (tagOf q) < sT γ.c.m (tagOf (pos k))) :
    phi P γ' (upd pos k q) N < phi P γ pos N := by
  have e0 : upd pos k q 0 = pos 0 := upd_ne _ _ (fun e => k1 e.symm)
  have h1 := rk_mono P.n P.Q hV (tagOf (pos 0))
  have h2 : sumTo N (fun a => bdT (tagOf (upd pos k q a))) + bdT (tagOf (pos k)) = sumTo N (fun a => bdT (tagOf (pos a))) + bdT (tagOf q) := sumTo_upd pos q (fun x => bdT (tagOf x)) kN
  have h3 : sumTo N (fun a => sT γ.c.m (tagOf (upd pos k q a))) + sT γ.c.m (tagOf (pos k)) = sumTo N (fun a => sT γ.c.m (tagOf (pos a))) + sT γ.c.m (tagOf q) := sumTo_upd pos q (fun x => sT γ.c.m (tagOf x)) kN
  have h4 : P.A * (sumTo N (fun a => bdT (tagOf (upd pos k q a))) + 2 * γ.c.s) ≤ P.A * (sumTo N (fun a => bdT (tagOf (pos a))) + 2 * γ.c.s) := Nat.mul_le_mul_left _ (by omega)
  unfold phi
  rw [hm, hs, e0]
  omega
/-- A worker's step by which less is owed. -/
theorem phi_big (kN : k < N) (k1 : k ≠ 0) (hN : N ≤ P.N0 + P.n) (hV : V (upd pos k q) N ≤ V pos N) (hb : bdT (tagOf q) + 2 * γ'.c.s < bdT (tagOf (pos k)) + 2 * γ.c.s) :
    phi P γ' (upd pos k q) N < phi P γ pos N := by
  have e0 : upd pos k q 0 = pos 0 := upd_ne _ _ (fun e => k1 e.symm)
  have h1 := rk_mono P.n P.Q hV (tagOf (pos 0))
  have h2 : sumTo N (fun a => bdT (tagOf (upd pos k q a))) + bdT (tagOf (pos k)) = sumTo N (fun a => bdT (tagOf (pos a))) + bdT (tagOf q) := sumTo_upd pos q (fun x => bdT (tagOf x)) kN
  have h3 : sumTo N (fun a => sT γ'.c.m (tagOf (upd pos k q a))) + sT γ'.c.m (tagOf (pos k)) = sumTo N (fun a => sT γ'.c.m (tagOf (pos a))) + sT γ'.c.m (tagOf q) := sumTo_upd pos q (fun x => sT γ'.c.m (tagOf x)) kN
  have h5 : ∀ n, sumTo n (fun a => sT γ'.c.m (tagOf (pos a))) ≤ sumTo n (fun a => sT γ.c.m (tagOf (pos a))) + 10 * n := by
    intro n
    induction n with
    | zero => simp [sumTo]
    | succ n ih => have := sT_le γ.c.m γ'.c.m (tagOf (pos n)); simp only [sumTo]; omega
  have h6 := h5 N
  have h7 := sT_max γ'.c.m (tagOf q)
  have h8 : P.A * (sumTo N (fun a => bdT (tagOf (upd pos k q a))) + 2 * γ'.c.s + 1) ≤ P.A * (sumTo N (fun a => bdT (tagOf (pos a))) + 2 * γ.c.s) := Nat.mul_le_mul_left _ (by omega)
  rw [Nat.mul_add, Nat.mul_one] at h8
  have h9 : P.A = 10 * (P.N0 + P.n) + 200 := rfl
  unfold phi
  rw [e0]
  omega
theorem bdT0 {p : Ps} (h : wst p = 0) : bdT (tagOf p) = 0 := by
  unfold wst at h
  revert h
  cases tagOf p with
  | none => intro h; rfl
  | some s => cases s <;> intro h <;> first | rfl | simp [wT] at h
theorem sT0 {m : Mst} {p : Ps} (h : wst p = 0) : sT m (tagOf p) = 0 := by
  unfold wst at h
  revert h
  cases tagOf p with
  | none => intro h; simp [wT] at h
  | some s => cases s <;> intro h <;> first | rfl | simp [wT] at h
theorem phi_main (h1 : 1 ≤ N) (hm : γ'.c.m = γ.c.m) (hs : γ'.c.s = γ.c.s) (h0 : wst (pos 0) = 0) (hq : wst q = 0) (hr : rk P.n P.Q (V pos N) (tagOf q) < rk P.n P.Q (V pos N) (tagOf (pos 0))) : phi P γ' (upd pos 0 q) N < phi P γ pos N := by
  have hv := V_main (N := N) q h0 hq
  have h2 : sumTo N (fun a => bdT (tagOf (upd pos 0 q a))) + bdT (tagOf (pos 0)) = sumTo N (fun a => bdT (tagOf (pos a))) + bdT (tagOf q) := sumTo_upd pos q (fun x => bdT (tagOf x)) h1
  have h3 : sumTo N (fun a => sT γ.c.m (tagOf (upd pos 0 q a))) + sT γ.c.m (tagOf (pos 0)) = sumTo N (fun a => sT γ.c.m (tagOf (pos a))) + sT γ.c.m (tagOf q) := sumTo_upd pos q (fun x => sT γ.c.m (tagOf x)) h1
  rw [bdT0 h0, bdT0 hq] at h2
  rw [sT0 h0, sT0 hq] at h3
  unfold phi
  rw [hm, hs, hv, upd_same, show sumTo N (fun a => bdT (tagOf (upd pos 0 q a))) = sumTo N (fun a => bdT (tagOf (pos a))) by omega, show sumTo N (fun a => sT γ.c.m (tagOf (upd pos 0 q a))) = sumTo N (fun a => sT γ.c.m (tagOf (pos a))) by omega]
  omega
end
end Go.Proofs.Ytdkbkocklnnmdaa.tgs
/-
  Together: what holds of the whole is kept by a worker's step and by main's. Conditions: those that the theorems name.
-/
set_option linter.unusedVariables false
set_option linter.unusedSectionVars false
namespace Go.Proofs.Ytdkbkocklnnmdaa.tgs
open Go Go.Conc Go.Proofs.Ytdkbkocklnnmdaa.mach Go.Proofs.Ytdkbkocklnnmdaa.wg Go.Proofs.Ytdkbkocklnnmdaa.tog Go.Proofs.Ytdkbkocklnnmdaa.lock
open Go.ConcN (upd upd_same upd_ne sumTo sumTo_upd sumTo_congr le_sumTo sumTo_upd_out sumTo_le RelBy WgLive RelBy.appOther RelBy.appOwn RelBy.new PermW PermW.app)
open Go.ConcR (KK WgAt stA smA rd wr mk DC0 g_of_ofEvents)
open Go.Proofs.Ytdkbkocklnnmdaa.crew (Handed Handed.app Handed.appOther Handed.appMute norel_all)

section
variable {P : Par} {γ γ' : Gam} {pos pos' : Nat → Ps} {N k : Nat} {q : Ps} {w w' : World} {t : Trace} {es : Array Event} {fn : FuncId} {place : String} {st sm : Int}

/-- What a worker may touch where it stands. -/
def Tch (P : Par) (pos : Nat → Ps) (N k : Nat) (x : Touch) : Prop :=
  (P.Sh x.loc ∧ x.kind = .atomic) ∨
  (x.kind = .plain ∧ ((x.write = false ∧ ((∃ b, P.p.Ro b ∧ inB b x.loc) ∨ x.loc = .cell (tog.cA P.p 3) ∨ (x.loc = .cell (tog.cA P.p 4) ∧ knT (tagOf (pos k))) ∨ ∃ b, b ∈ blkT (tagOf (pos k)) ∧ inB b x.loc)) ∨
    (∃ ix, k = P.N0 + ix ∧ x.loc = .cell (oA P.p ix)) ∨ (Dl P.p x.loc ∧ runT (tagOf (pos k)))))

theorem fine_app {u : Trace} (h : ∀ op ∈ t, P.Fine op) (hu : ∀ op ∈ u, P.Fine op) : ∀ op ∈ t ++ u, P.Fine op := fun op hop => (Array.mem_append.1 hop).elim (h op) (hu op)
theorem inB_cell {b : Nat} {a : Addr} (h : inB b (.cell a)) : a.block = b := by obtain ⟨a', e, h⟩ := h; cases e; exact h
theorem Tch.plain (O : P.Ok) (G : Glob P γ pos N w t) (kN : k < N) {x : Touch} (h : Tch P pos N k x) (hs : ¬ P.Sh x.loc) : P.Plain x.loc := by
  rcases h with ⟨h, _⟩ | ⟨_, ⟨_, h | h | ⟨h, _⟩ | ⟨b, hb, h⟩⟩ | ⟨ix, _, h⟩ | ⟨h | h, _⟩⟩
  · exact absurd h hs
  · exact .inl h
  · exact .inr (.inr (.inr (.inr (.inl h))))
  · exact .inr (.inr (.inr (.inr (.inr h))))
  · exact .inr (.inr (.inr (.inl ⟨b, (G.own k kN b hb).1, h⟩)))
  · exact .inr (.inr (.inl ⟨_, h, rfl⟩))
  · exact .inr (.inr (.inr (.inr (.inr h))))
  · exact .inr (.inl ⟨_, h, rfl⟩)

theorem Tch.mem (O : P.Ok) {x : Touch} (h : Tch P pos N k x) : x.loc.isMemory = true := by
  rcases h with ⟨h, _⟩ | ⟨_, ⟨_, ⟨b, _, a, h, _⟩ | h | ⟨h, _⟩ | ⟨b, _, a, h, _⟩⟩ | ⟨ix, _, h⟩ | ⟨h | h, _⟩⟩
  · exact O.shm _ h
  all_goals (rw [h]; rfl)
theorem blk_high (O : P.Ok) (G : Glob P γ pos N w t) (kN : k < N) {b : Nat} (hb : b ∈ blkT (tagOf (pos k))) : ¬ P.p.Ro b ∧ b ≠ P.p.C ∧ b ≠ P.p.Wg ∧ b ≠ P.p.Rn ∧ b ≠ P.p.Ot := by
  have h := (G.own k kN b hb).1
  refine ⟨fun e => ?_, fun e => ?_, fun e => ?_, fun e => ?_, fun e => ?_⟩
  · have := O.low b (.inl e); omega
  · have := O.low b (.inr (.inl e)); omega
  · have := O.low b (.inr (.inr (.inl e))); omega
  · have := O.low b (.inr (.inr (.inr (.inl e)))); omega
  · have := O.low b (.inr (.inr (.inr (.inr e)))); omega
/-- What is known of a place that somebody may write. -/
theorem Wp_where {j : Nat} {l : Loc} (h : Wp P γ pos N j l) : (∃ ix, l = .cell (oA P.p ix) ∧ (j = 0 ∧ N ≤ P.N0 + ix ∨ P.N0 ≤ j ∧ j = P.N0 + ix)) ∨ (∃ b, b ∈ blkT (tagOf (pos j)) ∧ j < N ∧ inB b l) ∨ (Dl P.p l ∧ γ.c.d = 0 ∧ ∀ i, i < N → runT (tagOf (pos i)) → i = j) := by
  rcases h with ⟨rfl, hN, ⟨ix, h1, rfl⟩ | ⟨b, hb, hl⟩⟩ | ⟨h0, kN, ⟨ix, h1, rfl⟩ | ⟨bi, ix, s, b, e, hb, hl⟩⟩ | ⟨_, _, hl, h1, h2⟩
  · exact .inl ⟨ix, rfl, .inl ⟨rfl, h1⟩⟩
  · exact .inr (.inl ⟨b, hb, hN, hl⟩)
  · exact .inl ⟨ix, rfl, .inr ⟨h0, h1⟩⟩
  · exact .inr (.inl ⟨b, by rw [e]; exact List.mem_cons_of_mem _ hb, kN, hl⟩)
  · exact .inr (.inr ⟨hl, h1, h2⟩)

/-- What a worker touches, nobody else may write; what it writes, nobody else may read. -/
theorem Tch.excl (O : P.Ok) (G : Glob P γ pos N w t) (k0 : P.N0 ≤ k) (kN : k < N) {x : Touch} (h : Tch P pos N k x) (hs : ¬ P.Sh x.loc) {j : Nat} (hj : j ≠ k) : ¬ Wp P γ pos N j x.loc ∧ (x.write = true → ¬ Rp P γ pos N j x.loc) := by
  rcases h with ⟨h, _⟩ | ⟨_, ⟨hw, h⟩ | ⟨ix, hk, h⟩ | ⟨h, hr⟩⟩
  · exact absurd h hs
  · refine ⟨fun hW => ?_, fun e => by rw [hw] at e; cases e⟩
    rcases Wp_where hW with ⟨ix, e, _⟩ | ⟨b, hb, hjN, hl⟩ | ⟨hl, hd, hall⟩
    · rw [e] at h
      rcases h with ⟨b, hb, hl⟩ | h | ⟨h, _⟩ | ⟨b, hb, hl⟩
      · have := inB_cell hl; exact O.oro (by rw [show P.p.Ot = b from this]; exact hb)
      · have := congrArg (fun l => match l with | Loc.cell a => a.block | _ => 0) h; exact O.co this.symm
      · have := congrArg (fun l => match l with | Loc.cell a => a.block | _ => 0) h; exact O.co this.symm
      · have := inB_cell hl; exact (blk_high O G kN hb).2.2.2.2 this.symm
    · have hh := blk_high O G hjN hb
      rcases h with ⟨b', hb', hl'⟩ | h | ⟨h, _⟩ | ⟨b', hb', hl'⟩
      · obtain ⟨a, e, ha⟩ := hl
        rw [e] at hl'
        have := inB_cell hl'
        exact hh.1 (by rw [← ha, this]; exact hb')
      · rw [h] at hl; exact hh.2.1 (inB_cell hl).symm
      · rw [h] at hl; exact hh.2.1 (inB_cell hl).symm
      · obtain ⟨a, e, ha⟩ := hl
        rw [e] at hl'
        have := inB_cell hl'
        exact G.sep j k hjN kN hj b hb (by rw [← ha, this]; exact hb')
    · rcases h with ⟨b, hb, hl'⟩ | h | ⟨h, hkn⟩ | ⟨b, hb, hl'⟩
      · rcases hl with e | e <;> rw [e] at hl' <;> have := inB_cell hl'
        · exact O.cro (by rw [show P.p.C = b from this]; exact hb)
        · exact O.rro (by rw [show P.p.Rn = b from this]; exact hb)
      · rcases hl with e | e <;> rw [e] at h
        · cases h
        · have := congrArg (fun l => match l with | Loc.cell a => a.block | _ => 0) h; exact O.cr this.symm
      · have := G.once.kn k k0 kN (.inl hkn); omega
      · have hh := blk_high O G kN hb
        rcases hl with e | e <;> rw [e] at hl' <;> have := inB_cell hl'
        · exact hh.2.1 this.symm
        · exact hh.2.2.2.1 this.symm
  · rw [h]
    refine ⟨fun hW => ?_, fun _ hR => ?_⟩
    · rcases Wp_where hW with ⟨ix', e, h1⟩ | ⟨b, hb, hjN, hl⟩ | ⟨hl, hd, hall⟩
      · have : ix = ix' := by injection e with e; injection e
        omega
      · exact (blk_high O G hjN hb).2.2.2.2 (inB_cell hl).symm
      · rcases hl with e | e
        · have := congrArg (fun l => match l with | Loc.cell a => a.block | _ => 0) e; exact O.co this.symm
        · have := congrArg (fun l => match l with | Loc.cell a => a.block | _ => 0) e; exact O.ro this.symm
    · obtain ⟨_, hjN, hR⟩ := hR
      rcases hR with ⟨b, hb, hl⟩ | e | ⟨_, b, hb, hl⟩ | ⟨_, e⟩
      · have := inB_cell hl; exact O.oro (by rw [show P.p.Ot = b from this]; exact hb)
      · have := congrArg (fun l => match l with | Loc.cell a => a.block | _ => 0) e; exact O.co this.symm
      · exact (blk_high O G hjN hb).2.2.2.2 (inB_cell hl).symm
      · have := congrArg (fun l => match l with | Loc.cell a => a.block | _ => 0) e; exact O.co this.symm
  · have hd0 := G.d_run kN hr
    refine ⟨fun hW => ?_, fun _ hR => ?_⟩
    · rcases Wp_where hW with ⟨ix', e, h1⟩ | ⟨b, hb, hjN, hl⟩ | ⟨hl, hd, hall⟩
      · rw [e] at h
        rcases h with h | h
        · have := congrArg (fun l => match l with | Loc.cell a => a.block | _ => 0) h; exact O.co this.symm
        · have := congrArg (fun l => match l with | Loc.cell a => a.block | _ => 0) h; exact O.ro this.symm
      · have hh := blk_high O G hjN hb
        rcases h with h | h <;> rw [h] at hl
        · exact hh.2.1 (inB_cell hl).symm
        · exact hh.2.2.2.1 (inB_cell hl).symm
      · exact hj (hall k kN hr).symm
    · obtain ⟨hj0, hjN, hR⟩ := hR
      rcases hR with ⟨b, hb, hl⟩ | e | ⟨_, b, hb, hl⟩ | ⟨hkn, e⟩
      · rcases h with h | h <;> rw [h] at hl <;> have := inB_cell hl
        · exact O.cro (by rw [show P.p.C = b from this]; exact hb)
        · exact O.rro (by rw [show P.p.Rn = b from this]; exact hb)
      · rcases h with h | h <;> rw [h] at e
        · cases e
        · have := congrArg (fun l => match l with | Loc.cell a => a.block | _ => 0) e; exact O.cr this.symm
      · have hh := blk_high O G hjN hb
        rcases h with h | h <;> rw [h] at hl
        · exact hh.2.1 (inB_cell hl).symm
        · exact hh.2.2.2.1 (inB_cell hl).symm
      · rcases hkn with hkn | ⟨hj1, hkn⟩
        · have := G.once.d0 hkn; omega
        · have := G.once.kn j (hj0.resolve_left hj1) hjN (.inl hkn); omega
theorem Tch.ok (O : P.Ok) (G : Glob P γ pos N w t) (k0 : P.N0 ≤ k) (kN : k < N) {op : MemOp} (hg : op.g = k) (h : ∀ x, op.act.touch? = some x → Tch P pos N k x) : OkOp P.Sh (Wp P γ pos N k) (Rp P γ pos N k) k op := by
  have n0 := O.n0
  have k1 : k ≠ 0 := by omega
  refine ⟨hg, fun x hx => ?_⟩
  by_cases hs : P.Sh x.loc
  · rcases h x hx with ⟨_, e⟩ | ⟨e, h2⟩
    · exact .inl ⟨hs, by rw [e]; simp, by rw [e]; simp⟩
    · exfalso
      refine O.nsh x.loc ?_ hs
      rcases h2 with ⟨_, h | h | ⟨h, _⟩ | ⟨b, hb, h⟩⟩ | ⟨ix, _, h⟩ | ⟨h | h, _⟩
      · exact .inl h
      · exact .inr (.inr (.inr (.inr (.inl h))))
      · exact .inr (.inr (.inr (.inr (.inr h))))
      · exact .inr (.inr (.inr (.inl ⟨b, (G.own k kN b hb).1, h⟩)))
      · exact .inr (.inr (.inl ⟨_, h, rfl⟩))
      · exact .inr (.inr (.inr (.inr (.inr h))))
      · exact .inr (.inl ⟨_, h, rfl⟩)
  · rcases h x hx with ⟨h, _⟩ | ⟨_, ⟨hw, h⟩ | ⟨ix, hk, h⟩ | ⟨h, hr⟩⟩
    · exact absurd h hs
    · refine .inr (.inr ⟨hs, ⟨.inr k0, kN, ?_⟩, hw⟩)
      rcases h with h | h | ⟨h, hkn⟩ | h
      · exact .inl h
      · exact .inr (.inl h)
      · exact .inr (.inr (.inr ⟨.inr ⟨k1, hkn⟩, h⟩))
      · exact .inr (.inr (.inl ⟨k1, h⟩))
    · exact .inr (.inl ⟨hs, .inr (.inl ⟨k0, kN, .inl ⟨ix, hk, h⟩⟩)⟩)
    · exact .inr (.inl ⟨hs, .inr (.inr ⟨.inr k0, kN, h, G.d_run kN hr, fun j hj rj => G.alone kN hj hr rj⟩)⟩)

/-- ████ A WORKER's STEP. -/
theorem Glob.work (O : P.Ok) (G : Glob P γ pos N w t) (k0 : P.N0 ≤ k) (kN : k < N)
    (hT : ∀ op ∈ MemOp.ofEvents k fn place es, ∀ x, op.act.touch? = some x → Tch P pos N k x ∧ ∀ a, x.loc = .cell a → a.block < w.heap.size)
    (hnr : ∀ e ∈ es, ∀ ar : Addr, e.loc ≠ .mark (.release ar)) (hdf : deafBehind (dfn (pos k)) es = dfn q)
    (h1 : wst (pos k) ≠ 1 ∨ ∀ op ∈ MemOp.ofEvents k fn place es, op.act.touch? = none)
    (hq1 : 1 ≤ wst q) (hqb : ∀ s, q = .blk s → ∃ bi ix sv ws, s = .tk bi ix (.lk (.s1 sv ws))) (hqi : ∀ bi ix s, tagOf q = some (.tk bi ix s) → k = P.N0 + ix)
    (hrel : wst q ≤ 6 → ∃ r, RelBy (stA P.p.Wg) (t ++ MemOp.ofEvents k fn place es) k r)
    (hw : TW P.p P.w0 w') (hsz : w.heap.size ≤ w'.heap.size) (hwg : WgAt 96 P.p.Wg w' st sm) (hm : Mode (upd pos k q) P.N0 N st sm) (hcs : AtCs P.p γ'.c w')
    (hlock : LockInv N (upd (fun j => lkOf (pos j)) k (lkOf q)) γ'.c.m γ'.c.s) (hsem : ∀ j, P.N0 ≤ j → j < N → ∀ s, upd pos k q j = .blk s → γ'.c.s = 0)
    (honce : Once P γ' (upd pos k q) N)
    (hpub : γ'.c.d = 1 → (γ.c.d = 1 ∧ ∀ op ∈ MemOp.ofEvents k fn place es, ∀ sync, op.act ≠ .access ⟨.cell (tog.cA P.p 0), true, sync⟩) ∨ ∃ r, Pub (t ++ MemOp.ofEvents k fn place es) (tog.cA P.p 0) (.cell (tog.cA P.p 4)) r)
    (hrn : w'.heap[P.p.Rn]? = some (.cells #[.int .i64 γ'.x] P.tyR))
    (hot : ∃ o : Array Value, w'.heap[P.p.Ot]? = some (.cells o P.tyO) ∧ o.size = P.n ∧ ∀ j, P.N0 ≤ j → j < N → wst (upd pos k q j) ≤ 7 → o[j - P.N0]? = some P.p.fin)
    (hown : ∀ b, b ∈ blkT (tagOf q) → b ∈ blkT (tagOf (pos k)) ∨ (b = w.heap.size ∧ w'.heap.size = w.heap.size + 1))
    (hso : ∀ bi ix s b, tagOf q = some (.tk bi ix s) → b ∈ s.own → (∃ bi' ix' s', tagOf (pos k) = some (.tk bi' ix' s') ∧ b ∈ s'.own) ∨ b = w.heap.size)
    (hd : γ'.c.d = 0 → γ.c.d = 0 ∧ (runT (tagOf (pos k)) → runT (tagOf q)))
    (hkn : knT (tagOf q) → ¬ knT (tagOf (pos k)) → ¬ P.d0 → PermW (t ++ MemOp.ofEvents k fn place es) k (.cell (tog.cA P.p 4))) :
    Glob P γ' (upd pos k q) N w' (t ++ MemOp.ofEvents k fn place es) := by
  have n0 := O.n0
  have k1 : k ≠ 0 := by omega
  have e0 : upd pos k q 0 = pos 0 := upd_ne _ _ (fun e => k1 e.symm)
  have ek : upd pos k q k = q := upd_same _ _ _
  have ej : ∀ j, j ≠ k → upd pos k q j = pos j := fun j hj => upd_ne _ _ hj
  have hg : ∀ op ∈ MemOp.ofEvents k fn place es, op.g = k := g_of_ofEvents
  have nofin : wst (pos k) ≠ 1 → tagOf (pos 0) ≠ some .fin := fun h e => by
    obtain ⟨st, sm, hwg, hm⟩ := G.wg
    exact h ((hm.finInv (by rw [e]; trivial)).1 k k0 kN)
  have hok := fun op hop => Tch.ok (op := op) O G k0 kN (hg op hop) fun x hx => (hT op hop x hx).1
  -- the places
  have stayW : ∀ j l, j ≠ k → Wp P γ pos N j l → Perm (t ++ MemOp.ofEvents k fn place es) j l := fun j l hj hl => perm_keep (G.pm.w j l hl) hg (.inr fun op hop x hx e => by
    have hns : ¬ P.Sh x.loc := by rw [e]; exact Wp_nsh O (fun k hk b hb => (G.own k hk b hb).1) hl
    exact (Tch.excl O G k0 kN (hT op hop x hx).1 hns hj).1 (by rw [e]; exact hl))
  have stayR : ∀ j l, j ≠ k → ¬ P.Sh l → Rp P γ pos N j l → PermW (t ++ MemOp.ofEvents k fn place es) j l := fun j l hj hns hl => permW_keep (G.pm.r j l hl) hg (.inr fun op hop x hx e => by
    cases hxw : x.write with
    | false => rfl
    | true => exact absurd (by rw [e]; exact hl) ((Tch.excl O G k0 kN (hT op hop x hx).1 (by rw [e]; exact hns) hj).2 hxw))
  have ownW : ∀ l, Perm t k l → Perm (t ++ MemOp.ofEvents k fn place es) k l := fun l h => perm_keep h hg (.inl rfl)
  have ownR : ∀ l, PermW t k l → PermW (t ++ MemOp.ofEvents k fn place es) k l := fun l h => permW_keep h hg (.inl rfl)
  have newP : ∀ l, inB w.heap.size l → Perm (t ++ MemOp.ofEvents k fn place es) k l := fun l hl => ownW l (perm_new fun op hop x hx e => by
    obtain ⟨a, ha, hb⟩ := hl
    have := G.bnd op hop x hx a (e.trans ha)
    omega)
  have Rp_nsh : ∀ j l, j < N → Rp P γ pos N j l → ¬ P.Sh l := fun j l hjN h => by
    refine O.nsh l ?_
    obtain ⟨_, _, h⟩ := h
    rcases h with h | h | ⟨_, b, hb, h⟩ | ⟨_, h⟩
    · exact .inl h
    · exact .inr (.inr (.inr (.inr (.inl h))))
    · exact .inr (.inr (.inr (.inl ⟨b, (G.own j hjN b hb).1, h⟩)))
    · exact .inr (.inr (.inr (.inr (.inr h))))
  have dlOf : ∀ j l, ((j = 0 ∨ P.N0 ≤ j) ∧ j < N ∧ Dl P.p l ∧ γ'.c.d = 0 ∧ ∀ i, i < N → runT (tagOf (upd pos k q i)) → i = j) → Wp P γ pos N j l := fun j l ⟨h1, h2, h3, h4, h5⟩ => by
    refine .inr (.inr ⟨h1, h2, h3, (hd h4).1, fun i hi ri => ?_⟩)
    by_cases e : i = k
    · subst e
      exact h5 i hi (by rw [upd_same]; exact (hd h4).2 ri)
    · exact h5 i hi (by rw [ej i e]; exact ri)
  have hpm : Pm P.Sh (Wp P γ' (upd pos k q) N) (Rp P γ' (upd pos k q) N) N (t ++ MemOp.ofEvents k fn place es) := by
    refine G.pm.app kN hok (fun j l hl => ?_) (fun j l hl => ?_)
    · by_cases hj : j = k
      · subst hj
        rcases hl with ⟨e, _⟩ | ⟨h0, h2, h3 | ⟨bi, ix, s, b, e, hb, hl⟩⟩ | h3
        · exact absurd e k1
        · exact ownW l (G.pm.w j l (.inr (.inl ⟨h0, h2, .inl h3⟩)))
        · rw [upd_same] at e
          rcases hso bi ix s b e hb with ⟨bi', ix', s', e', hb'⟩ | rfl
          · exact ownW l (G.pm.w j l (.inr (.inl ⟨h0, h2, .inr ⟨bi', ix', s', b, e', hb', hl⟩⟩)))
          · exact newP l hl
        · exact ownW l (G.pm.w j l (dlOf j l h3))
      · refine stayW j l hj ?_
        rcases hl with ⟨e, h2, h3⟩ | ⟨h0, h2, h3⟩ | h3
        · rw [e0] at h3; exact .inl ⟨e, h2, h3⟩
        · rw [ej j hj] at h3; exact .inr (.inl ⟨h0, h2, h3⟩)
        · exact dlOf j l h3
    · obtain ⟨h0, hjN, h⟩ := hl
      by_cases hj : j = k
      · subst hj
        rw [upd_same] at h
        rcases h with h | h | ⟨_, b, hb, h⟩ | ⟨h | ⟨_, hkn'⟩, rfl⟩
        · exact ownR l (G.pm.r j l ⟨h0, hjN, .inl h⟩)
        · exact ownR l (G.pm.r j l ⟨h0, hjN, .inr (.inl h)⟩)
        · rcases hown b hb with hb' | ⟨rfl, _⟩
          · exact ownR l (G.pm.r j l ⟨h0, hjN, .inr (.inr (.inl ⟨k1, b, hb', h⟩))⟩)
          · exact perm_W (newP l h)
        · exact ownR _ (G.pm.r j _ ⟨h0, hjN, .inr (.inr (.inr ⟨.inl h, rfl⟩))⟩)
        · by_cases ho : knT (tagOf (pos j))
          · exact ownR _ (G.pm.r j _ ⟨h0, hjN, .inr (.inr (.inr ⟨.inr ⟨k1, ho⟩, rfl⟩))⟩)
          · by_cases hd0 : P.d0
            · exact ownR _ (G.pm.r j _ ⟨h0, hjN, .inr (.inr (.inr ⟨.inl hd0, rfl⟩))⟩)
            · exact hkn hkn' ho hd0
      · rw [ej j hj] at h
        exact stayR j l hj (Rp_nsh j l hjN ⟨h0, hjN, h⟩) ⟨h0, hjN, h⟩
  refine ⟨⟨by rw [e0]; exact G.fits.main, by rw [e0]; exact G.fits.blk, by rw [e0]; exact G.fits.size, G.fits.ge, fun a a1 a2 => by rw [ej a (by omega)]; exact G.fits.old a a1 a2, fun a a1 a2 => ?_, fun a a1 a2 => ?_, fun a a1 a2 => ?_⟩, fun a ha => ?_, hpm,
    fun ar => (G.norel ar).app (norel_all hnr ar), fun a a1 a2 a3 => ?_, G.hand.appOther hg (.inr k0), fun e => ?_, hw, ⟨st, sm, hwg, hm⟩, hcs, ?_, hsem, honce, fun e => ?_, hrn, hot, fun j hj b hb => ?_, fun i j hi hj hij b hb => ?_, fun op hop x hx a ha => ?_, fine_app G.fine fun op hop x hx => ?_, fun l hl => perm_keep (G.nc l hl) hg (.inr fun op hop x hx e => by have := Tch.mem O (hT op hop x hx).1; rw [e, hl] at this; cases this)⟩
  · by_cases e : a = k
    · subst e; rw [ek]; exact hq1
    · rw [ej a e]; exact G.fits.wk a a1 a2
  · by_cases e : a = k
    · subst e; rw [ek]; exact hqb
    · rw [ej a e]; exact G.fits.wb a a1 a2
  · by_cases e : a = k
    · subst e; rw [ek]; exact hqi
    · rw [ej a e]; exact G.fits.ix a a1 a2
  · by_cases e : a = k
    · subst e; rw [ek, Deaf_own, G.df a ha]; exact hdf
    · rw [ej a e, Deaf_other t (fun x => e x.symm) _ g_of_ofEvents, G.df a ha]
  · by_cases e : a = k
    · subst e; rw [ek] at a3; exact hrel a3
    · rw [ej a e] at a3
      obtain ⟨r, hr⟩ := G.rel a a1 a2 a3
      exact ⟨r, hr.appOther g_of_ofEvents (fun x => e x.symm)⟩
  · rw [e0] at e
    rcases h1 with h1 | h1
    · exact absurd e (nofin h1)
    · exact (G.all e).appMute h1
  · have : (fun j => lkOf (upd pos k q j)) = upd (fun j => lkOf (pos j)) k (lkOf q) := by
      funext j
      by_cases e : j = k
      · subst e; rw [ek, upd_same]
      · rw [ej j e, upd_ne _ _ e]
    rw [this]; exact hlock
  · rcases hpub e with ⟨h1, h2⟩ | h
    · rcases G.pub h1 with h | ⟨r, hr⟩
      · exact .inl h
      · refine .inr ⟨r, hr.app h2 fun op hop x hx e => ?_⟩
        cases hxw : x.write with
        | false => rfl
        | true =>
          exfalso
          rcases (hT op hop x hx).1 with ⟨hs, _⟩ | ⟨_, ⟨hw, _⟩ | ⟨ix, _, h⟩ | ⟨h, hr⟩⟩
          · exact O.nsh _ (.inr (.inr (.inr (.inr (.inr rfl))))) (by rw [e] at hs; exact hs)
          · rw [hxw] at hw; cases hw
          · rw [e] at h
            have := congrArg (fun l => match l with | Loc.cell a => a.block | _ => 0) h; exact O.co this
          · have := G.d_run kN hr; omega
    · exact .inr h
  · by_cases e : j = k
    · subst e
      rw [ek] at hb
      rcases hown b hb with h | ⟨rfl, h⟩
      · have := G.own j hj b h; exact ⟨this.1, by omega⟩
      · exact ⟨G.world.size, by omega⟩
    · rw [ej j e] at hb
      have := G.own j hj b hb; exact ⟨this.1, by omega⟩
  · by_cases ei : i = k
    · subst ei
      rw [ek] at hb
      rw [ej j (fun x => hij x.symm)]
      intro hb'
      rcases hown b hb with h | ⟨rfl, _⟩
      · exact G.sep i j hi hj hij b h hb'
      · have := (G.own j hj _ hb').2; omega
    · rw [ej i ei] at hb
      by_cases e2 : j = k
      · subst e2
        rw [ek]
        intro hb'
        rcases hown b hb' with h | ⟨rfl, _⟩
        · exact G.sep i j hi hj hij b hb h
        · have := (G.own i hi _ hb).2; omega
      · rw [ej j e2]
        exact G.sep i j hi hj hij b hb
  · rcases Array.mem_append.1 hop with ho | ho
    · have := G.bnd op ho x hx a ha; omega
    · have := (hT op ho x hx).2 a ha; omega
  · by_cases hs : P.Sh x.loc
    · exact ⟨O.lwS _ hs, fun _ h => absurd hs h⟩
    · exact ⟨O.lwP _ (Tch.plain O G kN (hT op hop x hx).1 hs), fun _ _ => by
        rcases (hT op hop x hx).1 with ⟨h, _⟩ | ⟨h, _⟩
        · exact absurd h hs
        · rw [h]; simp⟩
end
end Go.Proofs.Ytdkbkocklnnmdaa.tgs
/-
  Together: what holds of the whole is kept where sleepers are woken, by main's steps and by the go statement. Conditions: those that the theorems name.
-/
set_option linter.unusedVariables false
set_option linter.unusedSectionVars false
namespace Go.Proofs.Ytdkbkocklnnmdaa.tgs
open Go Go.Conc Go.Proofs.Ytdkbkocklnnmdaa.mach Go.Proofs.Ytdkbkocklnnmdaa.wg Go.Proofs.Ytdkbkocklnnmdaa.tog Go.Proofs.Ytdkbkocklnnmdaa.lock
open Go.ConcN (upd upd_same upd_ne sumTo sumTo_upd sumTo_congr le_sumTo sumTo_upd_out sumTo_le RelBy WgLive RelBy.appOther RelBy.appOwn RelBy.new PermW PermW.app Deaf_absent)
open Go.ConcR (KK WgAt stA smA rd wr mk DC0 g_of_ofEvents)
open Go.Proofs.Ytdkbkocklnnmdaa.crew (Handed Handed.app Handed.appOther Handed.appMute norel_all Deaf_still counts_mute sumTo_mono)

section
variable {P : Par} {γ γ' : Gam} {pos pos' : Nat → Ps} {N k : Nat} {q : Ps} {w w' : World} {t : Trace} {es : Array Event} {fn : FuncId} {place : String} {st sm : Int}

theorem Wp_congr (ht : ∀ k, k < N → tagOf (pos' k) = tagOf (pos k)) {j : Nat} {l : Loc} (h : Wp P γ pos' N j l) : Wp P γ pos N j l := by
  rcases h with ⟨rfl, hN, h⟩ | ⟨h0, kN, h⟩ | ⟨h1, h2, h3, h4, h5⟩
  · rw [ht 0 hN] at h; exact .inl ⟨rfl, hN, h⟩
  · rw [ht j kN] at h; exact .inr (.inl ⟨h0, kN, h⟩)
  · exact .inr (.inr ⟨h1, h2, h3, h4, fun i hi ri => h5 i hi (by rw [ht i hi]; exact ri)⟩)
theorem Rp_congr (ht : ∀ k, k < N → tagOf (pos' k) = tagOf (pos k)) {j : Nat} {l : Loc} (h : Rp P γ pos' N j l) : Rp P γ pos N j l := by
  obtain ⟨h0, hj, h⟩ := h
  rw [ht j hj] at h
  exact ⟨h0, hj, h⟩
/-- Where everybody stands at the same stage. -/
theorem Glob.congr (O : P.Ok) (G : Glob P γ pos N w t) (ht : ∀ k, tagOf (pos' k) = tagOf (pos k)) (hdf : ∀ k, k < N → dfn (pos' k) = dfn (pos k)) (hb : ∀ k s, pos' k = .blk s → pos k = .blk s) (hu : Up (pos 0) → Up (pos' 0)) : Glob P γ pos' N w t := by
  obtain ⟨st, sm, hwg, hm⟩ := G.wg
  have hw : ∀ k, wst (pos' k) = wst (pos k) := fun k => wst_congr (ht k)
  refine ⟨⟨by rw [ht]; exact G.fits.main, fun s e => G.fits.blk s (hb 0 s e), by rw [ht]; exact G.fits.size, G.fits.ge, fun k a b => by rw [hw]; exact G.fits.old k a b, fun k a b => by rw [hw]; exact G.fits.wk k a b, fun k a b s e => G.fits.wb k a b s (hb k s e),
      fun k a b => by rw [ht]; exact G.fits.ix k a b⟩, fun k hk => by rw [hdf k hk]; exact G.df k hk,
    ⟨G.pm.quiet, fun j l h => G.pm.w j l (Wp_congr (fun k _ => ht k) h), fun j l h => G.pm.r j l (Rp_congr (fun k _ => ht k) h), G.pm.nr, G.pm.gs⟩, G.norel, fun k a b c => G.rel k a b (by rw [← hw]; exact c), G.hand, fun e => G.all (by rw [← ht]; exact e), G.world,
    ⟨st, sm, hwg, hm.congr (ht 0) hu fun k _ => hw k⟩, G.cs, ?_, fun k a b s e => G.sem k a b s (hb k s e), ⟨fun k hk => by rw [ht]; exact G.once.run k hk, fun h => G.once.idle fun k hk => by rw [← ht]; exact h k hk, fun k a b => by rw [ht, hw]; exact G.once.kn k a b, G.once.d0⟩,
    G.pub, G.rn, ?_, fun k hk b hb => G.own k hk b (by rw [← ht]; exact hb), fun i j hi hj hij b hb => by rw [ht] at hb ⊢; exact G.sep i j hi hj hij b hb, G.bnd, G.fine, G.nc⟩
  · have : (fun k => lkOf (pos' k)) = fun k => lkOf (pos k) := by funext k; unfold lkOf; rw [ht]
    rw [this]; exact G.lock
  · obtain ⟨o, h1, h2, h3⟩ := G.ot
    exact ⟨o, h1, h2, fun k a b c => h3 k a b (by rw [← hw]; exact c)⟩
theorem wakeIf_blk {b : Bool} {s : Stg} (h : wakeIf b pos k = .blk s) : b = false ∧ pos k = .blk s := by
  unfold wakeIf at h
  cases b with
  | false => exact ⟨rfl, h⟩
  | true =>
    simp only [if_true] at h
    cases e : pos k <;> rw [e] at h <;> cases h
theorem Glob.dfn_wake (O : P.Ok) (G : Glob P γ pos N w t) (b : Bool) (hk : k < N) : dfn (wakeIf b pos k) = dfn (pos k) := by
  unfold wakeIf
  split
  · cases e : pos k with
    | on s m => rfl
    | blk s =>
      by_cases h0 : k = 0
      · subst h0; rw [G.fits.blk s e]; rfl
      · rcases Nat.lt_or_ge k P.N0 with hlt | hge
        · have := G.fits.old k (by omega) hlt
          rw [e] at this
          revert this
          unfold wst tagOf wT
          cases s <;> simp
        · obtain ⟨bi, ix, sv, ws, rfl⟩ := G.fits.wb k hge hk s e
          rfl
    | quit q d => rfl
  · rfl
theorem Glob.wake (O : P.Ok) (b : Bool) (G : Glob P γ pos N w t) : Glob P γ (wakeIf b pos) N w t :=
  G.congr O (fun k => tag_wake b k) (fun k hk => G.dfn_wake O b hk) (fun k s e => (wakeIf_blk e).2) (up_wake b 0)
theorem Glob.at (G : Glob P γ pos N w t) (d : Nat) : Glob P γ pos N (w.at d) t :=
  ⟨G.fits, G.df, G.pm, G.norel, G.rel, G.hand, G.all, G.world.trans (TW.at _ w d), G.wg, G.cs, G.lock, G.sem, G.once, G.pub, G.rn, G.ot, G.own, G.sep, G.bnd, G.fine, G.nc⟩

/-- What main may touch. -/
def Tc0 (P : Par) (pos : Nat → Ps) (x : Touch) : Prop := (inB P.p.Wg x.loc ∧ x.kind ≠ .plain) ∨ (x.kind = .plain ∧ ∃ b, b ∈ blkT (tagOf (pos 0)) ∧ inB b x.loc)

theorem sh_wg (O : P.Ok) {l : Loc} (h : inB P.p.Wg l) : P.Sh l := by obtain ⟨a, rfl, e⟩ := h; exact O.shw a e
theorem main_noRun (G : openT (tagOf q) ∨ w3T (tagOf q) ∨ finT (tagOf q)) : ¬ runT (tagOf q) ∧ (∀ bi ix s, tagOf q ≠ some (.tk bi ix s)) ∧ lkOf q = .off ∧ wst q = 0 := by
  have key : ∀ o : Option Stg, (openT o ∨ w3T o ∨ finT o) → ¬ runT o ∧ (∀ bi ix s, o ≠ some (.tk bi ix s)) ∧ lkT o = .off ∧ wT o = 0 := by
    intro o h
    cases o with
    | none => rcases h with h | h | h <;> exact h.elim
    | some s => cases s <;> first | (rcases h with h | h | h <;> exact h.elim) | exact ⟨fun h => h, fun _ _ _ e => by simp at e, rfl, rfl⟩
  exact key _ G

theorem LockInv.same {N : Nat} {f : Nat → Lk} {m : Mst} {s : Nat} (h : LockInv N f m s) {k : Nat} {y : Lk} (hk : f k = y) : LockInv N (upd f k y) m s := by
  have : upd f k y = f := by
    funext j
    by_cases e : j = k
    · subst e; rw [upd_same, hk]
    · rw [upd_ne _ _ e]
  rw [this]; exact h

/-- ████ A STEP OF MAIN's THAT STARTS NOBODY. -/
theorem Glob.main (O : P.Ok) (G : Glob P γ pos N w t) (hq : openT (tagOf q) ∨ w3T (tagOf q) ∨ finT (tagOf q)) (hb : ∀ s, q = .blk s → s = .wsem) (hr : remT (tagOf q) = remT (tagOf (pos 0)))
    (hT : ∀ op ∈ MemOp.ofEvents 0 fn place es, ∀ x, op.act.touch? = some x → Tc0 P pos x ∧ ∀ a, x.loc = .cell a → a.block < w.heap.size)
    (hnr : ∀ e ∈ es, ∀ ar : Addr, e.loc ≠ .mark (.release ar)) (hdf : deafBehind (dfn (pos 0)) es = dfn q)
    (hw : TW P.p P.w0 w') (hsz : w.heap.size ≤ w'.heap.size) (hC : w'.heap[P.p.C]? = w.heap[P.p.C]?) (hRn : w'.heap[P.p.Rn]? = w.heap[P.p.Rn]?) (hOt : w'.heap[P.p.Ot]? = w.heap[P.p.Ot]?)
    (hwg : WgAt 96 P.p.Wg w' st sm) (hm : Mode (upd pos 0 q) P.N0 N st sm)
    (hown : ∀ b, b ∈ blkT (tagOf q) → b ∈ blkT (tagOf (pos 0)) ∨ (b = w.heap.size ∧ w'.heap.size = w.heap.size + 1))
    (hall : tagOf q = some .fin → Handed N (t ++ MemOp.ofEvents 0 fn place es)) :
    Glob P γ (upd pos 0 q) N w' (t ++ MemOp.ofEvents 0 fn place es) := by
  have n0 := O.n0
  have ge := G.fits.ge
  have hN : 0 < N := by omega
  have e0 : upd pos 0 q 0 = q := upd_same _ _ _
  have ej : ∀ j, j ≠ 0 → upd pos 0 q j = pos j := fun j hj => upd_ne _ _ hj
  have hg : ∀ op ∈ MemOp.ofEvents 0 fn place es, op.g = 0 := g_of_ofEvents
  obtain ⟨mr, mt, ml, mz⟩ := main_noRun hq
  obtain ⟨or, ot, ol, oz⟩ := main_noRun (q := pos 0) G.fits.main
  have hok : ∀ op ∈ MemOp.ofEvents 0 fn place es, OkOp P.Sh (Wp P γ pos N 0) (Rp P γ pos N 0) 0 op := fun op hop => ⟨hg op hop, fun x hx => by
    rcases (hT op hop x hx).1 with ⟨h1, h2⟩ | ⟨h1, b, hb, h2⟩
    · exact .inl ⟨sh_wg O h1, h2, fun _ => rfl⟩
    · exact .inr (.inl ⟨O.nsh _ (.inr (.inr (.inr (.inl ⟨b, (G.own 0 hN b hb).1, h2⟩)))), .inl ⟨rfl, hN, .inr ⟨b, hb, h2⟩⟩⟩)⟩
  have excl : ∀ op ∈ MemOp.ofEvents 0 fn place es, ∀ x, op.act.touch? = some x → ¬ P.Sh x.loc → ∀ j, j ≠ 0 → ¬ Wp P γ pos N j x.loc ∧ ¬ Rp P γ pos N j x.loc := by
    intro op hop x hx hs j hj
    rcases (hT op hop x hx).1 with ⟨h1, h2⟩ | ⟨h1, b, hb, a, ha, hab⟩
    · exact absurd (sh_wg O h1) hs
    · have hh := blk_high O G hN hb
      rw [ha]
      refine ⟨fun hW => ?_, fun hR => ?_⟩
      · rcases Wp_where hW with ⟨ix, e, _⟩ | ⟨b', hb', hjN, hl⟩ | ⟨hl, _⟩
        · have := congrArg (fun l => match l with | Loc.cell a => a.block | _ => 0) e
          exact hh.2.2.2.2 (by rw [← hab]; exact this)
        · have := inB_cell hl
          exact G.sep 0 j hN hjN (fun e => hj e.symm) b hb (by rw [← hab, this]; exact hb')
        · rcases hl with e | e
          · have := congrArg (fun l => match l with | Loc.cell a => a.block | _ => 0) e
            exact hh.2.1 (by rw [← hab]; exact this)
          · have := congrArg (fun l => match l with | Loc.cell a => a.block | _ => 0) e
            exact hh.2.2.2.1 (by rw [← hab]; exact this)
      · obtain ⟨_, hjN, hR⟩ := hR
        rcases hR with ⟨b', hb', hl⟩ | e | ⟨_, b', hb', hl⟩ | ⟨_, e⟩
        · have := inB_cell hl
          exact hh.1 (by rw [← hab, this]; exact hb')
        · have := congrArg (fun l => match l with | Loc.cell a => a.block | _ => 0) e
          exact hh.2.1 (by rw [← hab]; exact this)
        · have := inB_cell hl
          exact G.sep 0 j hN hjN (fun e => hj e.symm) b hb (by rw [← hab, this]; exact hb')
        · have := congrArg (fun l => match l with | Loc.cell a => a.block | _ => 0) e
          exact hh.2.1 (by rw [← hab]; exact this)
  have Rp_nsh : ∀ j l, j < N → Rp P γ pos N j l → ¬ P.Sh l := fun j l hjN h => by
    refine O.nsh l ?_
    obtain ⟨_, _, h⟩ := h
    rcases h with h | h | ⟨_, b, hb, h⟩ | ⟨_, h⟩
    · exact .inl h
    · exact .inr (.inr (.inr (.inr (.inl h))))
    · exact .inr (.inr (.inr (.inl ⟨b, (G.own j hjN b hb).1, h⟩)))
    · exact .inr (.inr (.inr (.inr (.inr h))))
  have keepW : ∀ j l, Wp P γ pos N j l → Perm (t ++ MemOp.ofEvents 0 fn place es) j l := fun j l hl => perm_keep (G.pm.w j l hl) hg (by
    by_cases hj : j = 0
    · exact .inl hj
    · exact .inr fun op hop x hx e => (excl op hop x hx (by rw [e]; exact Wp_nsh O (fun k hk b hb => (G.own k hk b hb).1) hl) j hj).1 (by rw [e]; exact hl))
  have keepR : ∀ j l, Rp P γ pos N j l → PermW (t ++ MemOp.ofEvents 0 fn place es) j l := fun j l hl => permW_keep (G.pm.r j l hl) hg (by
    by_cases hj : j = 0
    · exact .inl hj
    · exact .inr fun op hop x hx e => absurd (by rw [e]; exact hl) (excl op hop x hx (by rw [e]; exact Rp_nsh j l hl.2.1 hl) j hj).2)
  have dlOf : ∀ j l, ((j = 0 ∨ P.N0 ≤ j) ∧ j < N ∧ Dl P.p l ∧ γ.c.d = 0 ∧ ∀ i, i < N → runT (tagOf (upd pos 0 q i)) → i = j) → Wp P γ pos N j l := fun j l ⟨h1, h2, h3, h4, h5⟩ => .inr (.inr ⟨h1, h2, h3, h4, fun i hi ri => by
    by_cases e : i = 0
    · subst e; exact absurd ri or
    · exact h5 i hi (by rw [ej i e]; exact ri)⟩)
  have hpm : Pm P.Sh (Wp P γ (upd pos 0 q) N) (Rp P γ (upd pos 0 q) N) N (t ++ MemOp.ofEvents 0 fn place es) := by
    refine G.pm.app hN hok (fun j l hl => ?_) (fun j l hl => ?_)
    · rcases hl with ⟨rfl, h2, h3 | ⟨b, hb, h3⟩⟩ | ⟨h0, h2, h3⟩ | h3
      · exact keepW 0 l (.inl ⟨rfl, h2, .inl h3⟩)
      · rw [e0] at hb
        rcases hown b hb with h | ⟨rfl, _⟩
        · exact keepW 0 l (.inl ⟨rfl, h2, .inr ⟨b, h, h3⟩⟩)
        · exact perm_keep (perm_new fun op hop x hx e => by
            obtain ⟨a, ha, hb⟩ := h3
            have := G.bnd op hop x hx a (e.trans ha)
            omega) hg (.inl rfl)
      · rw [ej j (by omega)] at h3
        exact keepW j l (.inr (.inl ⟨h0, h2, h3⟩))
      · exact keepW j l (dlOf j l h3)
    · obtain ⟨h0, hjN, h⟩ := hl
      by_cases hj : j = 0
      · subst hj
        refine keepR 0 l ⟨h0, hjN, ?_⟩
        rcases h with h | h | ⟨h, _⟩ | ⟨h | ⟨h, _⟩, e⟩
        · exact .inl h
        · exact .inr (.inl h)
        · exact absurd rfl h
        · exact .inr (.inr (.inr ⟨.inl h, e⟩))
        · exact absurd rfl h
      · rw [ej j hj] at h
        exact keepR j l ⟨h0, hjN, h⟩
  refine ⟨⟨by rw [e0]; exact hq, by rw [e0]; exact hb, by rw [e0, hr]; exact G.fits.size, ge, fun a a1 a2 => by rw [ej a (by omega)]; exact G.fits.old a a1 a2, fun a a1 a2 => by rw [ej a (by omega)]; exact G.fits.wk a a1 a2, fun a a1 a2 => by rw [ej a (by omega)]; exact G.fits.wb a a1 a2,
      fun a a1 a2 => by rw [ej a (by omega)]; exact G.fits.ix a a1 a2⟩, fun a ha => ?_, hpm, fun ar => (G.norel ar).app (norel_all hnr ar), fun a a1 a2 a3 => ?_, G.hand.appOther hg (.inl rfl), fun e => hall (by rw [← e0]; exact e), hw, ⟨st, sm, hwg, hm⟩, hC.trans G.cs, ?_,
    fun a a1 a2 => by rw [ej a (by omega)]; exact G.sem a a1 a2, ⟨fun a ha => ?_, fun h => G.once.idle fun a ha ra => ?_, fun a a1 a2 => by rw [ej a (by omega)]; exact G.once.kn a a1 a2, G.once.d0⟩, fun e => ?_, hRn.trans G.rn, ?_, fun j hj b hb => ?_, fun i j hi hj hij b hb => ?_, fun op hop x hx a ha => ?_, fine_app G.fine fun op hop x hx => ⟨?_, fun h => absurd (hg op hop) h⟩, fun l hl => perm_keep (G.nc l hl) hg (.inl rfl)⟩
  · by_cases e : a = 0
    · subst e; rw [e0, Deaf_own, G.df 0 ha]; exact hdf
    · rw [ej a e, Deaf_other t (fun x => e x.symm) _ g_of_ofEvents, G.df a ha]
  · rw [ej a (by omega)] at a3
    obtain ⟨r, hr⟩ := G.rel a a1 a2 a3
    exact ⟨r, hr.appOther g_of_ofEvents (by omega)⟩
  · have : (fun j => lkOf (upd pos 0 q j)) = fun j => lkOf (pos j) := by
      funext j
      by_cases e : j = 0
      · subst e; rw [e0, ml, ol]
      · rw [ej j e]
    rw [this]; exact G.lock
  · by_cases e : a = 0
    · subst e; rw [e0]; exact fun bi ix s e => absurd e (mt bi ix s)
    · rw [ej a e]; exact G.once.run a ha
  · by_cases e : a = 0
    · subst e; exact or ra
    · exact h a ha (by rw [ej a e]; exact ra)
  · rcases G.pub e with h | ⟨r, hr⟩
    · exact .inl h
    · refine .inr ⟨r, hr.app (fun op hop sync e => ?_) fun op hop x hx e => ?_⟩
      · have hx : op.act.touch? = some ⟨.cell (tog.cA P.p 0), true, if sync then .atomic else .plain⟩ := by rw [e]; rfl
        rcases (hT op hop _ hx).1 with ⟨h1, _⟩ | ⟨_, b, hb, hl⟩
        · exact O.cw (inB_cell h1)
        · exact (blk_high O G hN hb).2.1 (inB_cell hl).symm
      · cases hxw : x.write with
        | false => rfl
        | true =>
          exfalso
          rcases (hT op hop x hx).1 with ⟨hs, _⟩ | ⟨_, b, hb, hl⟩
          · exact O.nsh _ (.inr (.inr (.inr (.inr (.inr rfl))))) (by rw [e] at hs; exact sh_wg O hs)
          · rw [e] at hl
            exact (blk_high O G hN hb).2.1 (inB_cell hl).symm
  · obtain ⟨o, h1, h2, h3⟩ := G.ot
    exact ⟨o, hOt.trans h1, h2, fun a a1 a2 a3 => h3 a a1 a2 (by rw [ej a (by omega)] at a3; exact a3)⟩
  · by_cases e : j = 0
    · subst e
      rw [e0] at hb
      rcases hown b hb with h | ⟨rfl, h⟩
      · have := G.own 0 hj b h; exact ⟨this.1, by omega⟩
      · exact ⟨G.world.size, by omega⟩
    · rw [ej j e] at hb
      have := G.own j hj b hb; exact ⟨this.1, by omega⟩
  · by_cases ei : i = 0
    · subst ei
      rw [e0] at hb
      rw [ej j (fun x => hij x.symm)]
      intro hb'
      rcases hown b hb with h | ⟨rfl, _⟩
      · exact G.sep 0 j hi hj hij b h hb'
      · have := (G.own j hj _ hb').2; omega
    · rw [ej i ei] at hb
      by_cases e2 : j = 0
      · subst e2
        rw [e0]
        intro hb'
        rcases hown b hb' with h | ⟨rfl, _⟩
        · exact G.sep i 0 hi hj hij b hb h
        · have := (G.own i hi _ hb).2; omega
      · rw [ej j e2]
        exact G.sep i j hi hj hij b hb
  · rcases Array.mem_append.1 hop with ho | ho
    · have := G.bnd op ho x hx a ha; omega
    · have := (hT op ho x hx).2 a ha; omega
  · rcases (hT op hop x hx).1 with ⟨h1, h2⟩ | ⟨h1, b, hb, h2⟩
    · exact O.lwS _ (sh_wg O h1)
    · exact O.lwP _ (.inr (.inr (.inr (.inl ⟨b, (G.own 0 hN b hb).1, h2⟩))))

theorem lock_grow {f : Nat → Lk} {m : Mst} {s : Nat} {x : Lk} (h : LockInv N f m s) (hx : x = .off) : LockInv (N + 1) (upd f N x) m s := by
  subst hx
  have same : ∀ r : Lk → Nat, r .off = 0 → sm r (upd f N .off) (N + 1) = sm r f N := fun r hr => by
    show sumTo N (fun k => r (upd f N .off k)) + r (upd f N .off N) = _
    rw [upd_same, hr, Nat.add_zero]
    exact sumTo_congr fun k hk => by rw [upd_ne _ _ (by omega)]
  refine ⟨h.ok, (same rH rfl).trans h.hold, fun e => ?_, fun e => ?_, fun a b c d => ?_, fun k hk => ?_⟩
  · rw [same rW rfl, same rV rfl, same rR rfl, same rQ rfl, same rA rfl, same rS rfl]; exact h.norm e
  · rw [same rW rfl, same rV rfl, same rR rfl, same rQ rfl, same rA rfl, same rS rfl]; exact h.starv e
  · rw [same rU rfl]; exact h.live a b c d
  · by_cases e : k = N
    · subst e; rw [upd_same]; trivial
    · rw [upd_ne _ _ e]; exact h.snap k (by omega)

/-- ████ THE go STATEMENT. -/
theorem Glob.born (O : P.Ok) {r bi ix : Nat} {m mc : Nat} {fn' : FuncId} {pl : String} (G : Glob P γ pos N w t) (h0 : pos 0 = .on (.go r bi) m) (hix : N = P.N0 + ix) (hp : openT (tagOf q)) (hpp : pendT (tagOf q) = 0) (hnc : ∀ vs, tagOf q ≠ some (.wcas vs)) (hd : dfn q = 0) (hrem : remT (tagOf q) = r)
    (hbl : blkT (tagOf q) = []) (hb : ∀ s, q ≠ .blk s) (hrk : rk P.n P.Q (V pos N + 1) (tagOf q) + (7 * P.A + 110) ≤ rk P.n P.Q (V pos N) (some (.go r bi))) :
    Glob P γ (upd (upd pos 0 q) N (.on (.tk bi ix .od) mc)) (N + 1) w ((t.push { g := 0, fn, pos := pl, act := .go N }).push { g := N, fn := fn', pos := pl, act := .start }) ∧
      phi P γ (upd (upd pos 0 q) N (.on (.tk bi ix .od) mc)) (N + 1) < phi P γ pos N := by
  have n0 := O.n0
  have ge := G.fits.ge
  have hN1 := G.size O
  have hp0 : tagOf (pos 0) = some (.go r bi) := by rw [h0]; rfl
  have hsz : N + (r + 1) = P.N0 + P.n := by have := G.fits.size; rw [hp0] at this; exact this
  generalize hc : (Pos.on (Stg.tk bi ix .od) mc : Ps) = pc
  have tc : tagOf pc = some (.tk bi ix .od) := by rw [← hc]; rfl
  have wc : wst pc = 8 := by unfold wst; rw [tc]; rfl
  have dc : dfn pc = 0 := by rw [← hc]; rfl
  have bc : ∀ s, pc ≠ .blk s := fun s e => by rw [← hc] at e; cases e
  obtain ⟨st, sm, hwg, hm⟩ := G.wg
  obtain ⟨hm', hV'⟩ := hm.born n0 ge h0 hp hpp hnc (pc := pc) (by omega)
  have e0 : upd (upd pos 0 q) N pc 0 = q := by rw [upd_ne _ _ (by omega), upd_same]
  have eN : upd (upd pos 0 q) N pc N = pc := upd_same _ _ _
  have ek : ∀ k, k ≠ 0 → k ≠ N → upd (upd pos 0 q) N pc k = pos k := fun k a b => by rw [upd_ne _ _ b, upd_ne _ _ a]
  have hz0 : wst (pos 0) = 0 := wst0_of_open (by rw [hp0]; trivial)
  have hzp : wst q = 0 := wst0_of_open hp
  obtain ⟨qr, qt, ql, _⟩ := main_noRun (q := q) (.inl hp)
  have et : (t.push { g := 0, fn, pos := pl, act := .go N }).push { g := N, fn := fn', pos := pl, act := .start } = t ++ #[({ g := 0, fn, pos := pl, act := .go N } : MemOp), { g := N, fn := fn', pos := pl, act := .start }] := by
    apply Array.ext'; simp
  rw [et]
  generalize hu : (#[({ g := 0, fn, pos := pl, act := .go N } : MemOp), { g := N, fn := fn', pos := pl, act := .start }] : Trace) = u
  have mute : ∀ op ∈ u, op.act.touch? = none := by
    intro op hop; rw [← hu] at hop; simp at hop; rcases hop with rfl | rfl <;> rfl
  have nomark : ∀ op ∈ u, ∀ mm, op.act ≠ .mark mm := by
    intro op hop mm; rw [← hu] at hop; simp at hop; rcases hop with rfl | rfl <;> simp
  have hdN : Deaf t N = 0 := Deaf_absent fun i op hi e => by have := G.pm.gs i op hi; omega
  have runOld : ∀ i, i < N + 1 → runT (tagOf (upd (upd pos 0 q) N pc i)) → i < N ∧ i ≠ 0 ∧ runT (tagOf (pos i)) := fun i hi ri => by
    by_cases x : i = N
    · subst x; rw [eN, tc] at ri; exact ri.elim
    · by_cases y : i = 0
      · subst y; rw [e0] at ri; exact absurd ri qr
      · rw [ek i y x] at ri; exact ⟨by omega, y, ri⟩
  have runNew : ∀ i, i < N → runT (tagOf (pos i)) → runT (tagOf (upd (upd pos 0 q) N pc i)) := fun i hi ri => by
    by_cases y : i = 0
    · subst y; rw [hp0] at ri; exact ri.elim
    · rw [ek i y (by omega)]; exact ri
  have hpm : Pm P.Sh (Wp P γ (upd (upd pos 0 q) N pc) (N + 1)) (Rp P γ (upd (upd pos 0 q) N pc) (N + 1)) (N + 1) (t ++ u) := by
    rw [← hu]
    refine G.pm.fork (by omega) ⟨rfl, rfl⟩ ⟨rfl, rfl⟩ (by rw [G.df 0 (by omega), h0]; rfl) (fun j l hl => ?_) (fun j l hl => ?_)
    · rcases hl with ⟨rfl, _, ⟨ix', h1, h2⟩ | ⟨b, hb', _⟩⟩ | ⟨h1, h2, h3⟩ | ⟨h1, h2, h3, h4, h5⟩
      · exact .inl (.inl ⟨rfl, by omega, .inl ⟨ix', by omega, h2⟩⟩)
      · rw [e0, hbl] at hb'; simp at hb'
      · by_cases x : j = N
        · subst x
          refine .inr ⟨rfl, .inl ⟨rfl, by omega, ?_⟩⟩
          rcases h3 with ⟨ix', h, h'⟩ | ⟨bi', ix', s, b, e, hb', _⟩
          · exact .inl ⟨ix', by omega, h'⟩
          · rw [eN, tc] at e; injection e with e; injection e with _ _ e; subst e; simp [WS.own] at hb'
        · rw [ek j (by omega) x] at h3
          exact .inl (.inr (.inl ⟨h1, by omega, h3⟩))
      · by_cases x : j = N
        · subst x
          exact .inr ⟨rfl, .inr (.inr ⟨.inl rfl, by omega, h3, h4, fun i hi ri => by have := h5 i (by omega) (runNew i hi ri); omega⟩)⟩
        · exact .inl (.inr (.inr ⟨h1, by omega, h3, h4, fun i hi ri => h5 i (by omega) (runNew i hi ri)⟩))
    · obtain ⟨h1, h2, h3⟩ := hl
      by_cases x : j = N
      · subst x
        refine .inr ⟨rfl, ?_⟩
        rw [eN, tc] at h3
        rcases h3 with h3 | h3 | ⟨_, b, hb', h3⟩ | ⟨h3 | ⟨_, h3⟩, h4⟩
        · exact .inl ⟨.inl rfl, by omega, .inl h3⟩
        · exact .inl ⟨.inl rfl, by omega, .inr (.inl h3)⟩
        · simp [blkT, WS.own] at hb'
          subst hb'
          exact .inr (.inl ⟨rfl, by omega, .inr ⟨b, by rw [hp0]; simp [blkT], h3⟩⟩)
        · exact .inl ⟨.inl rfl, by omega, .inr (.inr (.inr ⟨.inl h3, h4⟩))⟩
        · exact h3.elim
      · refine .inl (.inl ⟨h1, by omega, ?_⟩)
        by_cases y : j = 0
        · subst y
          rcases h3 with h3 | h3 | ⟨h3, _⟩ | ⟨h3 | ⟨h3, _⟩, h4⟩
          · exact .inl h3
          · exact .inr (.inl h3)
          · exact absurd rfl h3
          · exact .inr (.inr (.inr ⟨.inl h3, h4⟩))
          · exact absurd rfl h3
        · rw [ek j y x] at h3; exact h3
  have hlk : (fun k => lkOf (upd (upd pos 0 q) N pc k)) = upd (fun k => lkOf (pos k)) N (lkOf pc) := by
    funext k
    by_cases x : k = N
    · subst x; rw [eN, upd_same]
    · have e1 : upd (fun k => lkOf (pos k)) N (lkOf pc) k = lkOf (pos k) := upd_ne _ _ x
      rw [e1]
      by_cases y : k = 0
      · subst y; rw [e0, ql]; exact (main_noRun (q := pos 0) G.fits.main).2.2.1.symm
      · rw [ek k y x]
  have hbi := G.own 0 (by omega) bi (by rw [hp0]; simp [blkT])
  have bl : ∀ j, j < N + 1 → ∀ b, b ∈ blkT (tagOf (upd (upd pos 0 q) N pc j)) → (j = N ∧ b = bi) ∨ (j < N ∧ j ≠ 0 ∧ b ∈ blkT (tagOf (pos j))) := fun j hj b hb' => by
    by_cases x : j = N
    · subst x; rw [eN, tc] at hb'; simp [blkT, WS.own] at hb'; exact .inl ⟨rfl, hb'⟩
    · by_cases y : j = 0
      · subst y; rw [e0, hbl] at hb'; simp at hb'
      · rw [ek j y x] at hb'; exact .inr ⟨by omega, y, hb'⟩
  refine ⟨⟨⟨by rw [e0]; exact .inl hp, by rw [e0]; exact fun s e => absurd e (hb s), by rw [e0, hrem]; omega, by omega, fun k a b => by rw [ek k (by omega) (by omega)]; exact G.fits.old k a b, fun k a b => ?_, fun k a b => ?_, fun k a b => ?_⟩, fun k hk => ?_, hpm,
    fun ar => (G.norel ar).app (fun op hop => by have := nomark op hop; exact this _), fun k a b c => ?_, G.hand.appMute mute, fun e => ?_, G.world, ⟨st, sm, hwg, hm'⟩, G.cs, ?_, fun k a b s e => ?_, ⟨fun k hk => ?_, fun h => G.once.idle fun k hk rk => h k (by omega) (runNew k hk rk), fun k a b c => ?_, G.once.d0⟩, fun e => ?_,
    G.rn, ?_, fun j hj b hb' => ?_, fun i j hi hj hij b hb' hb2 => ?_, fun op hop x hx => ?_, fine_app G.fine (fun op hop x hx => by rw [mute op hop] at hx; cases hx), fun l hl => Perm.app (G.nc l hl) fun op hop b hb _ => by rw [mute op hop] at hb; cases hb⟩, ?_⟩
  · by_cases x : k = N
    · subst x; rw [eN, wc]; omega
    · rw [ek k (by omega) x]; exact G.fits.wk k a (by omega)
  · by_cases x : k = N
    · subst x; rw [eN]; exact fun s e => absurd e (bc s)
    · rw [ek k (by omega) x]; exact G.fits.wb k a (by omega)
  · by_cases x : k = N
    · subst x; rw [eN, tc]; intro bi' ix' s e; injection e with e; injection e with _ e _; omega
    · rw [ek k (by omega) x]; exact G.fits.ix k a (by omega)
  · rw [Deaf_still nomark]
    by_cases x : k = N
    · subst x; rw [eN, dc, hdN]
    · by_cases y : k = 0
      · subst y; rw [e0, hd, G.df 0 (by omega), h0]; rfl
      · rw [ek k y x]; exact G.df k (by omega)
  · by_cases x : k = N
    · subst x; rw [eN, wc] at c; omega
    · rw [ek k (by omega) x] at c
      obtain ⟨r', hr'⟩ := G.rel k a (by omega) c
      exact ⟨r', hr'.app fun i hi _ => counts_mute mute hi⟩
  · rw [e0] at e; rw [e] at hp; exact hp.elim
  · rw [hlk]; exact lock_grow G.lock (by unfold lkOf; rw [tc]; rfl)
  · by_cases x : k = N
    · subst x; rw [eN] at e; exact absurd e (bc s)
    · rw [ek k (by omega) x] at e; exact G.sem k a (by omega) s e
  · by_cases x : k = N
    · subst x; rw [eN, tc]; intro bi' ix' s e; injection e with e; injection e with _ _ e; subst e; trivial
    · by_cases y : k = 0
      · subst y; rw [e0]; exact fun bi ix s e => absurd e (qt bi ix s)
      · rw [ek k y x]; exact G.once.run k (by omega)
  · by_cases x : k = N
    · subst x; rw [eN, tc, wc] at c; rcases c with c | c
      · exact c.elim
      · omega
    · rw [ek k (by omega) x] at c; exact G.once.kn k a (by omega) c
  · rcases G.pub e with h | ⟨r', hr'⟩
    · exact .inl h
    · exact .inr ⟨r', hr'.app (fun op hop sync e => by have := mute op hop; rw [e] at this; cases this) fun op hop x hx => by rw [mute op hop] at hx; cases hx⟩
  · obtain ⟨o, h1, h2, h3⟩ := G.ot
    refine ⟨o, h1, h2, fun k a b c => ?_⟩
    by_cases x : k = N
    · subst x; rw [eN, wc] at c; omega
    · rw [ek k (by omega) x] at c; exact h3 k a (by omega) c
  · rcases bl j hj b hb' with ⟨_, rfl⟩ | ⟨h1, _, h2⟩
    · exact hbi
    · exact G.own j h1 b h2
  · rcases bl i hi b hb' with ⟨rfl, rfl⟩ | ⟨h1, h1', h2⟩ <;> rcases bl j hj b hb2 with ⟨e, e'⟩ | ⟨h3, h3', h4⟩
    · exact hij e.symm
    · exact G.sep 0 j (by omega) h3 (fun e => h3' e.symm) b (by rw [hp0]; simp [blkT]) h4
    · subst e'; exact G.sep 0 i (by omega) h1 (fun e => h1' e.symm) b (by rw [hp0]; simp [blkT]) h2
    · exact G.sep i j h1 h3 hij b h2 h4
  · rcases Array.mem_append.1 hop with ho | ho
    · exact G.bnd op ho x hx
    · rw [mute op ho] at hx; cases hx
  · unfold phi
    rw [hV', e0, hp0]
    have b1 : sumTo (N + 1) (fun k => bdT (tagOf (upd (upd pos 0 q) N pc k))) = sumTo N (fun k => bdT (tagOf (pos k))) + 7 := by
      show sumTo N (fun k => bdT (tagOf (upd (upd pos 0 q) N pc k))) + bdT (tagOf (upd (upd pos 0 q) N pc N)) = _
      rw [eN, tc, show (sumTo N fun k => bdT (tagOf (upd (upd pos 0 q) N pc k))) = sumTo N fun k => bdT (tagOf (pos k)) from sumTo_congr fun k hk => by
        by_cases y : k = 0
        · subst y; rw [e0, bdT0 hzp, bdT0 hz0]
        · rw [ek k y (by omega)]]
      rfl
    have b2 : sumTo (N + 1) (fun k => sT γ.c.m (tagOf (upd (upd pos 0 q) N pc k))) = sumTo N (fun k => sT γ.c.m (tagOf (pos k))) + 96 := by
      show sumTo N (fun k => sT γ.c.m (tagOf (upd (upd pos 0 q) N pc k))) + sT γ.c.m (tagOf (upd (upd pos 0 q) N pc N)) = _
      rw [eN, tc, show (sumTo N fun k => sT γ.c.m (tagOf (upd (upd pos 0 q) N pc k))) = sumTo N fun k => sT γ.c.m (tagOf (pos k)) from sumTo_congr fun k hk => by
        by_cases y : k = 0
        · subst y; rw [e0, sT0 hzp, sT0 hz0]
        · rw [ek k y (by omega)]]
      rfl
    rw [b1, b2]
    have : P.A * (sumTo N (fun k => bdT (tagOf (pos k))) + 7 + 2 * γ.c.s) = P.A * (sumTo N (fun k => bdT (tagOf (pos k))) + 2 * γ.c.s) + 7 * P.A := by
      rw [show sumTo N (fun k => bdT (tagOf (pos k))) + 7 + 2 * γ.c.s = sumTo N (fun k => bdT (tagOf (pos k))) + 2 * γ.c.s + 7 by omega, Nat.mul_add, Nat.mul_comm P.A 7]
    rw [this]
    omega
end
end Go.Proofs.Ytdkbkocklnnmdaa.tgs
/-
  Together: the system of stages; what an operation comes to; main's operations ahead of Wait. Conditions: those of the structure Ways.Ok.
-/
set_option linter.unusedVariables false
set_option linter.unusedSectionVars false
set_option linter.unusedSimpArgs false
namespace Go.Proofs.Ytdkbkocklnnmdaa.tgs
open Go Go.Conc Go.Proofs.Ytdkbkocklnnmdaa.mach Go.Proofs.Ytdkbkocklnnmdaa.wg Go.Proofs.Ytdkbkocklnnmdaa.tog Go.Proofs.Ytdkbkocklnnmdaa.lock
open Go.ConcN (upd upd_same upd_ne sumTo sumTo_upd sumTo_congr le_sumTo sumTo_upd_out sumTo_le RelBy WgLive RW PayAt AtR0 AtK1 AtD1 AtD2 AtD3 AtD4 RelBy.appOther RelBy.appOwn RelBy.new PermW PermW.app Deaf_absent)
open Go.ConcR (KK WgAt stA smA rd wr mk DC0 g_of_ofEvents)
open Go.Proofs.Ytdkbkocklnnmdaa.crew (Handed Handed.app Handed.appOther Handed.appMute norel_all mk_nr rw_nr rd_nr wr_nr sem_nr KK_inj)

/-- What a call's walks are about. -/
structure Ways where
  P : Par
  Anch : Goroutine → World → Prop
  St : Goroutine → World → Prop

section
variable (Y : Ways)
abbrev R0 : World → World → Prop := RT Y.P.p []
abbrev Rb (bi : Nat) : World → World → Prop := RT Y.P.p [bi]
def RK : World → World → Prop := RW 96 Y.P.p.Wg Y.P.p.Bd 1 0 0
def AtGo (bi ix : Nat) (Next : Goroutine → World → Prop) (g : Goroutine) (w : World) : Prop :=
  g.status = .running ∧ ∃ g' child, stepG Try.prog true g w = .spawn g' child w #[] ∧ (∃ m, Goes Try.prog false (Rb Y bi) (DT Y.P.p [bi]) (At Y.P.p bi ix .od) m child w) ∧ Next g' w
def AtSt (bi ix : Nat) (Next : Goroutine → World → Prop) (g : Goroutine) (w : World) : Prop :=
  g.status = .running ∧ ∃ g', stepG Try.prog true g w = .go g' (w.setCell ⟨bi, 0, none⟩ (.int .i64 ix)) #[⟨.cell ⟨bi, 0, none⟩, true, false⟩] ∧ g'.status = .running ∧ To true (Rb Y bi) Next g' (w.setCell ⟨bi, 0, none⟩ (.int .i64 ix))
def AtAl (Next : Nat → Goroutine → World → Prop) (g : Goroutine) (w : World) : Prop :=
  g.status = .running ∧ ∃ g', stepG Try.prog true g w = .go g' (w.alloc (.cells #[.int .i64 0] 3)) #[] ∧ g'.status = .running ∧ To true (Rb Y w.heap.size) (Next w.heap.size) g' (w.alloc (.cells #[.int .i64 0] 3))
/-- r workers are still to be started. -/
def Script : Nat → Goroutine → World → Prop
  | 0 => WDis (R0 Y) Y.Anch
  | r + 1 => AtAl Y fun bi => AtSt Y bi (Y.P.n - 1 - r) (IncDis (Rb Y bi) Y.P.p.Wg (AtGo Y bi (Y.P.n - 1 - r) (To true (R0 Y) (Script r))))
def goT (r bi : Nat) : Goroutine → World → Prop := AtGo Y bi (Y.P.n - 1 - r) (To true (R0 Y) (Script Y r))
def stops : Stg → Goroutine → World → Prop
  | .al r => Script Y (r + 1)
  | .st r bi => AtSt Y bi (Y.P.n - 1 - r) (IncDis (Rb Y bi) Y.P.p.Wg (goT Y r bi))
  | .dis r bi => IncDis (Rb Y bi) Y.P.p.Wg (goT Y r bi)
  | .add r bi => IncAdd (Rb Y bi) Y.P.p.Wg (goT Y r bi)
  | .read r bi => IncRead (Rb Y bi) Y.P.p.Wg (goT Y r bi)
  | .ena r bi => IncEna (Rb Y bi) (goT Y r bi)
  | .go r bi => goT Y r bi
  | .wdis => WDis (R0 Y) Y.Anch
  | .wload => WLoad (R0 Y) Y.P.p.Wg Y.Anch Y.St
  | .wcas vs => WCas (R0 Y) Y.P.p.Wg Y.Anch Y.St vs
  | .wwr => WWr (R0 Y) Y.P.p.Wg Y.St
  | .wsem => WSem (R0 Y) Y.P.p.Wg Y.St
  | .wld2 => WLd2 (R0 Y) Y.P.p.Wg Y.St
  | .wena => WEna (R0 Y) Y.P.p.Wg Y.St
  | .wacq => WAcq (R0 Y) Y.P.p.Wg Y.St
  | .fin => Y.St
  | .tk bi ix s => At Y.P.p bi ix s
  | .k0 _ => AtR0 Try.prog 96 Y.P.p.Wg Y.P.p.Bd 1 0 1 Y.P.p.vd
  | .k1 => AtK1 Try.prog 96 Y.P.p.Wg Y.P.p.Bd 1 0 1
  | .d1 => AtD1 Try.prog 96 Y.P.p.Wg Y.P.p.Bd 1 0 1
  | .d2 => AtD2 Try.prog 96 Y.P.p.Wg Y.P.p.Bd 1 0 1
  | .d3 => AtD3 Try.prog 96 Y.P.p.Wg Y.P.p.Bd 1 0 1
  | .d4 => AtD4 Try.prog 96 Y.P.p.Wg
def rely (s : Stg) : World → World → Prop :=
  match s with
  | .k1 | .d1 | .d2 | .d3 | .d4 => RK Y
  | s => RT Y.P.p (blkT (some s))
def guar : Stg → World → World → Array Event → Prop
  | .tk bi _ s => DT Y.P.p (bi :: s.own)
  | .k0 bi => DT Y.P.p [bi]
  | _ => DC0
end

noncomputable def sys (Y : Ways) : mach.Sys where
  P := Try.prog
  S := Stg
  Γ := Gam
  R := rely Y
  D := guar Y
  A := stops Y
  Glob := fun γ pos N w t => Glob Y.P γ pos N w t
  Φ := fun γ pos N => phi Y.P γ pos N
  fin := fun s => s = .fin

structure Ways.Ok (Y : Ways) : Prop where
  p : Y.P.Ok
  anch : ∀ g w, Y.Anch g w → Goes Try.prog true (R0 Y) DC0 (WLoad (R0 Y) Y.P.p.Wg Y.Anch Y.St) 30 g w
  st : ∀ g w, Y.St g w → g.status = .running

section
variable {Y : Ways} {γ γ' : Gam} {pos : Nat → Ps} {N k : Nat} {w w' : World} {t : Trace} {s : Stg} {m : Nat} {g g' : Goroutine} {es : Array Event} {q : Ps}

theorem rely_trans (s : Stg) (a b c : World) (h : rely Y s a b) (h' : rely Y s b c) : rely Y s a c := by
  cases s <;> first | exact Go.ConcN.RW.trans h h' | exact RT.trans h h'
theorem rely_at (s : Stg) (w : World) (d : Nat) : rely Y s w (w.at d) := by
  cases s <;> first | exact Go.ConcN.RW.at w d | exact RT.at w d
theorem rely_refl (s : Stg) (w : World) : rely Y s w w := by
  cases s <;> first | exact Go.ConcN.RW.refl w | exact RT.refl w
theorem rely_of (O : Y.Ok) (h : RT Y.P.p (blkT (some s)) w w') : rely Y s w w' := by
  have key : RK Y w w' := ⟨fun b hb => by omega, h.live, fun ⟨cs, a, b⟩ => ⟨cs, (h.ro _ (.inl O.p.bd)).trans a, b⟩, by simp only [World.cell?, h.ro _ (.inl O.p.bd)]⟩
  cases s <;> first | exact key | exact h
/-- What the others suffer of a step that leaves all blocks but one. -/
theorem suffers (O : Y.Ok) (G : Glob Y.P γ pos N w t) {j B : Nat} (hj : j < N) (hA : ∀ b, b ≠ B → b < w.heap.size → w'.heap[b]? = w.heap[b]?) (hB : ¬ Y.P.p.Ro B) (hBj : B ∉ blkT (tagOf (pos j)))
    (hl : WgLive 96 Y.P.p.Wg w → WgLive 96 Y.P.p.Wg w') (hc : CLive Y.P.p w → CLive Y.P.p w') : (sys Y).Suffers (pos j) w w' := by
  have key : RT Y.P.p (blkT (tagOf (pos j))) w w' := by
    refine ⟨fun b hb => hA b ?_ ?_, hl, hc⟩
    · rintro rfl
      exact hb.elim hB hBj
    · rcases hb with hb | hb
      · exact Nat.lt_of_lt_of_le (O.p.low b (.inl hb)) G.world.size
      · exact (G.own j hj b hb).2
  cases e : pos j with
  | on s m => rw [e] at key; exact rely_of O key
  | blk s => rw [e] at key; exact rely_of O key
  | quit q d => trivial
theorem suffers_same (O : Y.Ok) (x : Ps) : (sys Y).Suffers x w w := by
  cases x with
  | on s m => exact rely_refl s w
  | blk s => exact rely_refl s w
  | quit q d => trivial
theorem suffers_set (O : Y.Ok) (G : Glob Y.P γ pos N w t) {j : Nat} (hj : j < N) {a : Addr} {v : Value} (ha : ¬ Y.P.p.Ro a.block) (hBj : a.block ∉ blkT (tagOf (pos j)))
    (hl : WgLive 96 Y.P.p.Wg (w.setCell a v)) (hc : CLive Y.P.p (w.setCell a v)) : (sys Y).Suffers (pos j) w (w.setCell a v) :=
  suffers O G hj (fun b hb _ => (aside_setCell w a v).block b hb) ha hBj (fun _ => hl) (fun _ => hc)
theorem G_live (G : Glob Y.P γ pos N w t) : WgLive 96 Y.P.p.Wg w := by obtain ⟨st, sm, h, _⟩ := G.wg; exact ⟨st, sm, h⟩
theorem G_cl (G : Glob Y.P γ pos N w t) : CLive Y.P.p w := ⟨_, G.cs⟩

theorem wake_on {b : Bool} {k : Nat} (h : pos k = .on s m) : wakeIf b pos k = .on s m := by
  unfold wakeIf; split <;> rw [h]; rfl

/-- What main's operation comes to. -/
theorem outMain (O : Y.Ok) (G : Glob Y.P γ pos N w t) (h0 : pos 0 = .on s m) (hs : stepG Try.prog true g w = .go g' w' es) (hr : g'.status = .running) (hh : (sys Y).Holds 0 q g' w') (hw : ∀ j, j < N → j ≠ 0 → (sys Y).Suffers (pos j) w w')
    (hk : ∀ pos, Glob Y.P γ pos N w t → pos 0 = .on s m → ∀ fn place, Glob Y.P γ (upd pos 0 q) N w' (t ++ MemOp.ofEvents 0 fn place es) ∧ phi Y.P γ (upd pos 0 q) N < phi Y.P γ pos N) : Out (sys Y) γ pos N 0 s g w t := by
  have G1 := G.wake O.p (mayWake Try.prog g)
  obtain ⟨a, b⟩ := hk _ G1 (wake_on h0) g.frame.fn g.frame.place
  refine Out.go g' w' es q γ hs (by rw [hr]; simp) (by rw [hr]; simp) hh hw a ?_
  have := phi_same (P := Y.P) (γ := γ) (pos := pos) (pos' := wakeIf (mayWake Try.prog g) pos) (N := N) (fun k _ => tag_wake _ k) (G.size O.p)
  show phi Y.P γ _ N < phi Y.P γ pos N
  rw [← this]
  exact b
/-- What a worker's operation comes to. -/
theorem outWork (O : Y.Ok) (G : Glob Y.P γ pos N w t) {k : Nat} (k1 : k ≠ 0) (h0 : pos k = .on s m) (hs : stepG Try.prog false g w = .go g' w' es) (hr : g'.status = .running ∨ g'.status = .finished) (hh : (sys Y).Holds k q g' w') (hw : ∀ j, j < N → j ≠ k → (sys Y).Suffers (pos j) w w')
    (hk : ∀ pos', (∀ a, tagOf (pos' a) = tagOf (pos a)) → Glob Y.P γ pos' N w t → pos' k = .on s m → (mayWake Try.prog g = true → ∀ j s, pos' j ≠ .blk s) → ∀ fn place, Glob Y.P γ' (upd pos' k q) N w' (t ++ MemOp.ofEvents k fn place es) ∧ phi Y.P γ' (upd pos' k q) N < phi Y.P γ pos' N) : Out (sys Y) γ pos N k s g w t := by
  have G1 := G.wake O.p (mayWake Try.prog g)
  obtain ⟨a, b⟩ := hk _ (fun a => tag_wake _ a) G1 (wake_on h0) (fun e j s x => by have := (wakeIf_blk x).1; rw [e] at this; cases this) g.frame.fn g.frame.place
  have hk0 : (k == 0) = false := by simpa using k1
  refine Out.go g' w' es q γ' (by rw [hk0]; exact hs) (by rcases hr with e | e <;> rw [e] <;> simp) (by rcases hr with e | e <;> rw [e] <;> simp) hh hw a ?_
  have := phi_same (P := Y.P) (γ := γ) (pos := pos) (pos' := wakeIf (mayWake Try.prog g) pos) (N := N) (fun k _ => tag_wake _ k) (G.size O.p)
  show phi Y.P γ' _ N < phi Y.P γ pos N
  rw [← this]
  exact b

/-! ### main's events -/
/-- An entry that touches nothing, or the group's block not plainly. -/
def Ev0 (Wg : Nat) (e : Event) : Prop := ∀ x, (MemAct.ofEvent e).touch? = some x → inB Wg x.loc ∧ x.kind ≠ .plain
theorem tc0_of (O : Y.Ok) (G : Glob Y.P γ pos N w t) {fn : FuncId} {place : String} (h : ∀ e ∈ es, Ev0 Y.P.p.Wg e) : ∀ op ∈ MemOp.ofEvents 0 fn place es, ∀ x, op.act.touch? = some x → Tc0 Y.P pos x ∧ ∀ a, x.loc = .cell a → a.block < w.heap.size := by
  intro op hop x hx
  rw [ofEvents_eq] at hop
  obtain ⟨e, he, rfl⟩ := Array.mem_map.1 hop
  obtain ⟨h1, h2⟩ := h e he x hx
  refine ⟨.inl ⟨h1, h2⟩, fun a ha => ?_⟩
  rw [ha] at h1
  rw [inB_cell h1]
  exact Nat.lt_of_lt_of_le (O.p.low _ (.inr (.inr (.inl rfl)))) G.world.size
theorem ev0_mk {Wg : Nat} {m : Mark} (h : (MemAct.mark m).touch? = none) : Ev0 Wg (mk m) := fun x hx => by
  have : (MemAct.ofEvent (mk m)).touch? = none := h
  rw [this] at hx; cases hx
theorem ev0_said {Wg : Nat} {m : Mark} {a : Addr} (hS : a.block = Wg) (h : m = .read a ∨ m = .write a) : Ev0 Wg (mk m) := fun x hx => by
  rcases h with rfl | rfl
  · have : x = ⟨.cell a, false, .said⟩ := (Option.some.inj hx).symm
    subst this; exact ⟨⟨a, rfl, hS⟩, by simp⟩
  · have : x = ⟨.cell a, true, .said⟩ := (Option.some.inj hx).symm
    subst this; exact ⟨⟨a, rfl, hS⟩, by simp⟩
theorem ev0_cell {Wg : Nat} {a : Addr} {wr : Bool} (hS : a.block = Wg) : Ev0 Wg ⟨.cell a, wr, true⟩ := fun x hx => by
  have : x = ⟨.cell a, wr, .atomic⟩ := (Option.some.inj hx).symm
  subst this; exact ⟨⟨a, rfl, hS⟩, by simp⟩
theorem mk_ev {Wg : Nat} {mm : Mark} (h : Ev0 Wg (mk mm)) : ∀ e ∈ #[mk mm], Ev0 Wg e := by
  intro e he; simp at he; subst he; exact h
theorem rw_ev {Wg : Nat} {a : Addr} (h : a.block = Wg) : ∀ e ∈ #[rd a, wr a], Ev0 Wg e := by
  intro e he; simp at he; rcases he with rfl | rfl <;> exact ev0_cell h
theorem rd_ev {Wg : Nat} {a : Addr} (h : a.block = Wg) : ∀ e ∈ #[rd a], Ev0 Wg e := by
  intro e he; simp at he; subst he; exact ev0_cell h
theorem sem_ev {Wg : Nat} {a : Addr} (h : a.block = Wg) : ∀ e ∈ semEvents a, Ev0 Wg e := by
  intro e he; simp [semEvents] at he
  rcases he with rfl | rfl | rfl | rfl
  · exact ev0_mk (m := .disable) rfl
  · exact ev0_cell h
  · exact ev0_cell h
  · exact ev0_mk (m := .enable) rfl

/-- Main's step within the open stages, the world as it is. -/
theorem openStep (O : Y.Ok) (G : Glob Y.P γ pos N w t) (h0 : pos 0 = .on s m) (ho : openT (some s)) {s' : Stg} {m' : Nat} (ho' : openT (some s')) (hp : pendT (some s') = pendT (some s)) (hrem : remT (some s') = remT (some s))
    (hc : ∀ vs, s' = .wcas vs → V pos N ≤ vs ∧ 1 ≤ vs) (hev : ∀ e ∈ es, Ev0 Y.P.p.Wg e) (hnr : ∀ e ∈ es, ∀ ar : Addr, e.loc ≠ .mark (.release ar)) (hdf : deafBehind (dfn (.on s m)) es = dfn (.on s' m'))
    (hbl : ∀ b, b ∈ blkT (some s') → b ∈ blkT (some s)) (hrk : rk Y.P.n Y.P.Q (V pos N) (some s') < rk Y.P.n Y.P.Q (V pos N) (some s)) (fn : FuncId) (place : String) :
    Glob Y.P γ (upd pos 0 (.on s' m')) N w (t ++ MemOp.ofEvents 0 fn place es) ∧ phi Y.P γ (upd pos 0 (.on s' m')) N < phi Y.P γ pos N := by
  obtain ⟨st, sm, hwg, hm⟩ := G.wg
  have hp0 : tagOf (pos 0) = some s := by rw [h0]; rfl
  obtain ⟨hW, hv, rfl, rfl⟩ := hm.openInv (by rw [hp0]; exact ho)
  rw [hp0, ← hp] at hwg
  have hz : wst (pos 0) = 0 := wst0_of_open (by rw [hp0]; exact ho)
  have hz' : wst (.on s' m') = 0 := wst0_of_open (p := .on s' m') ho'
  refine ⟨G.main O.p (.inl ho') (fun x e => by cases e) (by rw [hp0]; exact hrem) (tc0_of O G hev) hnr (by rw [h0]; exact hdf) G.world (Nat.le_refl _) rfl rfl rfl hwg
    (Mode.openMk O.p.n0 hz (p := .on s' m') ho' hW (fun vs e => hc vs (by simpa [tagOf] using e))) (fun b hb => .inl (by rw [hp0]; exact hbl b hb)) (fun e => ?_), phi_main (G.size O.p) rfl rfl hz hz' (by rw [hp0]; exact hrk)⟩
  have : s' = .fin := by simpa [tagOf] using e
  subst this; exact ho'.elim

theorem V_le (h : Fits Y.P pos N) (O : Y.Ok) : V pos N ≤ N - Y.P.N0 := by
  have n0 := O.p.n0
  have key : ∀ M, M ≤ N → sumTo M (fun k => cn (pos k)) ≤ M - Y.P.N0 := by
    intro M
    induction M with
    | zero => intro _; simp [sumTo]
    | succ M ih =>
      intro hM
      have := ih (by omega)
      simp only [sumTo]
      rcases Nat.lt_or_ge M Y.P.N0 with hlt | hge
      · have hc : cn (pos M) = 0 := by
          unfold cn
          rw [if_neg]
          by_cases e : M = 0
          · subst e
            rcases h.main with a | a | a
            · rw [wst0_of_open a]; omega
            · rw [wst0_of_w3 a]; omega
            · rw [wst0_of_fin a]; omega
          · rw [h.old M (by omega) hlt]; omega
        omega
      · have := cn_le (pos M)
        omega
  exact key N (Nat.le_refl _)
theorem wg_open (G : Glob Y.P γ pos N w t) {s : Stg} {m : Nat} (h0 : pos 0 = .on s m) (ho : openT (some s)) : WgAt 96 Y.P.p.Wg w (((V pos N + pendT (some s) : Nat) : Int) * KK) 0 := by
  obtain ⟨st, sm, hwg, hm⟩ := G.wg
  have hp0 : tagOf (pos 0) = some s := by rw [h0]; rfl
  obtain ⟨hW, hv, rfl, rfl⟩ := hm.openInv (by rw [hp0]; exact ho)
  rw [hp0] at hwg
  exact hwg
theorem open_facts (G : Glob Y.P γ pos N w t) {s : Stg} {m : Nat} (h0 : pos 0 = .on s m) (ho : openT (some s)) : OpenW pos Y.P.N0 N ∧ (∀ vs, s = .wcas vs → V pos N ≤ vs ∧ 1 ≤ vs) ∧ wst (pos 0) = 0 := by
  obtain ⟨st, sm, hwg, hm⟩ := G.wg
  have hp0 : tagOf (pos 0) = some s := by rw [h0]; rfl
  obtain ⟨hW, hv, -, -⟩ := hm.openInv (by rw [hp0]; exact ho)
  exact ⟨hW, fun vs e => hv vs (by rw [hp0, e]), wst0_of_open (by rw [hp0]; exact ho)⟩

/-- Main's step sets a cell of the group's block. -/
theorem suf_wg (O : Y.Ok) (G : Glob Y.P γ pos N w t) {a : Addr} {v : Value} (ha : a.block = Y.P.p.Wg) (hl : WgLive 96 Y.P.p.Wg (w.setCell a v)) {j : Nat} (hj : j < N) : (sys Y).Suffers (pos j) w (w.setCell a v) :=
  suffers_set O G hj (by rw [ha]; exact O.p.wro) (fun h => (blk_high O.p G hj h).2.2.1 ha) hl ⟨γ.c, ((aside_setCell w a v).block _ (by rw [ha]; exact O.p.cw)).trans G.cs⟩
theorem heap_wg (O : Y.Ok) {a : Addr} {v : Value} (ha : a.block = Y.P.p.Wg) : (w.setCell a v).heap[Y.P.p.C]? = w.heap[Y.P.p.C]? ∧ (w.setCell a v).heap[Y.P.p.Rn]? = w.heap[Y.P.p.Rn]? ∧ (w.setCell a v).heap[Y.P.p.Ot]? = w.heap[Y.P.p.Ot]? :=
  ⟨(aside_setCell w a v).block _ (by rw [ha]; exact O.p.cw), (aside_setCell w a v).block _ (by rw [ha]; exact O.p.wr.symm), (aside_setCell w a v).block _ (by rw [ha]; exact O.p.wo.symm)⟩
theorem tw_wg (G : Glob Y.P γ pos N w t) {a : Addr} {v : Value} (ha : a.block = Y.P.p.Wg) : TW Y.P.p Y.P.w0 (w.setCell a v) :=
  G.world.trans (TW.aside (aside_setCell w a v) (.inr (.inl ha)))
theorem size_set (w : World) (a : Addr) (v : Value) : w.heap.size ≤ (w.setCell a v).heap.size := Nat.le_of_eq (aside_setCell w a v).size.symm

theorem op_al (O : Y.Ok) {r : Nat} (G : Glob Y.P γ pos N w t) (h0 : pos 0 = .on (.al r) m) (hA : stops Y (.al r) g w) : Out (sys Y) γ pos N 0 (.al r) g w t := by
  obtain ⟨hrun, g', hst, hr', m', hg⟩ := hA
  have old : ∀ b, b < w.heap.size → (w.alloc (.cells #[.int .i64 0] 3)).heap[b]? = w.heap[b]? := fun b hb => by
    show (w.heap.push _)[b]? = _
    rw [Array.getElem?_push_lt hb, Array.getElem?_eq_getElem hb]
  have lo : ∀ b, b = Y.P.p.C ∨ b = Y.P.p.Wg ∨ b = Y.P.p.Rn ∨ b = Y.P.p.Ot → b < w.heap.size := fun b hb => Nat.lt_of_lt_of_le (O.p.low b (.inr hb)) G.world.size
  have sz : (w.alloc (.cells #[.int .i64 0] 3)).heap.size = w.heap.size + 1 := by show (w.heap.push _).size = _; simp
  obtain ⟨st, sm, hwg, hm⟩ := G.wg
  have hwg' : WgAt 96 Y.P.p.Wg (w.alloc (.cells #[.int .i64 0] 3)) st sm := hwg.of_block (old _ (lo _ (.inr (.inl rfl))))
  refine outMain (q := .on (.st r w.heap.size) m') O G h0 hst hr' hg (fun j hj _ => suffers O G (B := w.heap.size) hj (fun b _ hb => old b hb) (fun h => by have := O.p.low _ (.inl h); have := G.world.size; omega) (fun h => by have := (G.own j hj _ h).2; omega)
    (fun _ => ⟨st, sm, hwg'⟩) (fun _ => ⟨γ.c, (old _ (lo _ (.inl rfl))).trans G.cs⟩)) fun pos G h0 fn place => ?_
  obtain ⟨st, sm, hwg, hm⟩ := G.wg
  have hp0 : tagOf (pos 0) = some (.al r) := by rw [h0]; rfl
  obtain ⟨hW, hv, rfl, rfl⟩ := hm.openInv (by rw [hp0]; trivial)
  rw [hp0] at hwg
  have hz : wst (pos 0) = 0 := wst0_of_open (by rw [hp0]; trivial)
  refine ⟨G.main O.p (.inl trivial) (fun x e => by cases e) (by rw [hp0]; rfl) (tc0_of O G (es := #[]) (by simp)) (by simp) (by rw [h0]; rfl) (G.world.trans (TW.alloc _ _ _)) (by omega) (old _ (lo _ (.inl rfl))) (old _ (lo _ (.inr (.inr (.inl rfl))))) (old _ (lo _ (.inr (.inr (.inr rfl)))))
    (hwg.of_block (old _ (lo _ (.inr (.inl rfl))))) (Mode.openMk O.p.n0 hz (p := .on (.st r w.heap.size) m') trivial hW (fun vs e => by simp [tagOf] at e)) (fun b hb => .inr ⟨by simpa [tagOf, blkT] using hb, sz⟩) (fun e => by simp [tagOf] at e),
    phi_main (G.size O.p) rfl rfl hz rfl (by rw [hp0]; simp [rk, tagOf])⟩
theorem op_st (O : Y.Ok) {r bi : Nat} (G : Glob Y.P γ pos N w t) (h0 : pos 0 = .on (.st r bi) m) (hA : stops Y (.st r bi) g w) : Out (sys Y) γ pos N 0 (.st r bi) g w t := by
  obtain ⟨hrun, g', hst, hr', m', hg⟩ := hA
  have hN := G.size O.p
  have hmem : bi ∈ blkT (tagOf (pos 0)) := by rw [h0]; simp [tagOf, blkT]
  have hh := blk_high O.p G hN hmem
  have hlo := G.own 0 hN bi hmem
  have hAs := aside_setCell w ⟨bi, 0, none⟩ (.int .i64 ((Y.P.n - 1 - r : Nat) : Int))
  obtain ⟨st, sm, hwg, hm⟩ := G.wg
  refine outMain (q := .on (.dis r bi) m') O G h0 hst hr' hg (fun j hj hj0 => suffers_set O G hj hh.1 (G.sep 0 j hN hj (fun e => hj0 e.symm) bi hmem) ⟨st, sm, hwg.of_block (hAs.block _ (fun e => hh.2.2.1 e.symm))⟩ ⟨γ.c, (hAs.block _ (fun e => hh.2.1 e.symm)).trans G.cs⟩) fun pos G h0 fn place => ?_
  obtain ⟨st, sm, hwg, hm⟩ := G.wg
  have hp0 : tagOf (pos 0) = some (.st r bi) := by rw [h0]; rfl
  obtain ⟨hW, hv, rfl, rfl⟩ := hm.openInv (by rw [hp0]; trivial)
  rw [hp0] at hwg
  have hz : wst (pos 0) = 0 := wst0_of_open (by rw [hp0]; trivial)
  refine ⟨G.main O.p (.inl trivial) (fun x e => by cases e) (by rw [hp0]; rfl) (fun op hop x hx => ?_) (by intro e he; simp at he; subst he; simp) (by rw [h0]; rfl) (TW.fresh G.world hAs hlo.1) (size_set _ _ _) (hAs.block _ (fun e => hh.2.1 e.symm)) (hAs.block _ (fun e => hh.2.2.2.1 e.symm)) (hAs.block _ (fun e => hh.2.2.2.2 e.symm))
    (hwg.of_block (hAs.block _ (fun e => hh.2.2.1 e.symm))) (Mode.openMk O.p.n0 hz (p := .on (.dis r bi) m') trivial hW (fun vs e => by simp [tagOf] at e)) (fun b hb => .inl (by rw [hp0]; exact hb)) (fun e => by simp [tagOf] at e),
    phi_main (G.size O.p) rfl rfl hz rfl (by rw [hp0]; simp [rk, tagOf])⟩
  rw [ofEvents_eq] at hop
  obtain ⟨e, he, rfl⟩ := Array.mem_map.1 hop
  simp at he; subst he
  have : x = ⟨.cell ⟨bi, 0, none⟩, true, .plain⟩ := (Option.some.inj hx).symm
  subst this
  exact ⟨.inr ⟨rfl, bi, by rw [hp0]; simp [blkT], ⟨bi, 0, none⟩, rfl, rfl⟩, fun a ha => by cases ha; exact hlo.2⟩
theorem op_dis (O : Y.Ok) {r bi : Nat} (G : Glob Y.P γ pos N w t) (h0 : pos 0 = .on (.dis r bi) m) (hA : stops Y (.dis r bi) g w) : Out (sys Y) γ pos N 0 (.dis r bi) g w t := by
  obtain ⟨hrun, g', hst, hr', m', hg⟩ := hA
  exact outMain (q := .on (.add r bi) m') O G h0 hst hr' hg (fun j _ _ => suffers_same O _) fun pos G h0 fn place =>
    openStep (s' := .add r bi) (m' := m') (es := #[mk Mark.disable]) O G h0 trivial trivial rfl rfl (fun vs e => by cases e) (mk_ev (ev0_mk rfl)) (mk_nr (by intro a h; cases h)) rfl (fun b hb => hb) (by simp [rk]) fn place
theorem op_read (O : Y.Ok) {r bi : Nat} (G : Glob Y.P γ pos N w t) (h0 : pos 0 = .on (.read r bi) m) (hA : stops Y (.read r bi) g w) : Out (sys Y) γ pos N 0 (.read r bi) g w t := by
  obtain ⟨hrun, g', hst, hr', m', hg⟩ := hA
  exact outMain (q := .on (.ena r bi) m') O G h0 hst hr' hg (fun j _ _ => suffers_same O _) fun pos G h0 fn place =>
    openStep (s' := .ena r bi) (m' := m') (es := #[mk (Mark.read (smA Y.P.p.Wg))]) O G h0 trivial trivial rfl rfl (fun vs e => by cases e) (mk_ev (ev0_said rfl (.inl rfl))) (mk_nr (by intro a h; cases h)) rfl (fun b hb => hb) (by simp [rk]) fn place
theorem op_ena (O : Y.Ok) {r bi : Nat} (G : Glob Y.P γ pos N w t) (h0 : pos 0 = .on (.ena r bi) m) (hA : stops Y (.ena r bi) g w) : Out (sys Y) γ pos N 0 (.ena r bi) g w t := by
  obtain ⟨hrun, g', hst, hr', m', hg⟩ := hA
  exact outMain (q := .on (.go r bi) m') O G h0 hst hr' hg (fun j _ _ => suffers_same O _) fun pos G h0 fn place =>
    openStep (s' := .go r bi) (m' := m') (es := #[mk Mark.enable]) O G h0 trivial trivial rfl rfl (fun vs e => by cases e) (mk_ev (ev0_mk rfl)) (mk_nr (by intro a h; cases h)) rfl (fun b hb => hb) (by simp [rk]) fn place
theorem op_wdis (O : Y.Ok) (G : Glob Y.P γ pos N w t) (h0 : pos 0 = .on .wdis m) (hA : stops Y .wdis g w) : Out (sys Y) γ pos N 0 .wdis g w t := by
  obtain ⟨hrun, g', hst, hr', m', hg⟩ := hA
  refine outMain (q := .on .wload (m' + 30)) O G h0 hst hr' (crew.Goes.after (fun w => RT.refl w) O.anch hg) (fun j _ _ => suffers_same O _) fun pos G h0 fn place =>
    openStep (s' := .wload) (m' := m' + 30) (es := #[mk Mark.disable]) O G h0 trivial trivial rfl rfl (fun vs e => by cases e) (mk_ev (ev0_mk rfl)) (mk_nr (by intro a h; cases h)) rfl (fun b hb => hb) ?_ fn place
  have hV := V_le G.fits O
  have hs := G.fits.size
  have hge := G.fits.ge
  simp only [rk]; omega
end
end Go.Proofs.Ytdkbkocklnnmdaa.tgs
/-
  Together: main's operations: the add, the go statement, Wait. Conditions: those of the structure Ways.Ok.
-/
set_option linter.unusedVariables false
set_option linter.unusedSectionVars false
set_option linter.unusedSimpArgs false
namespace Go.Proofs.Ytdkbkocklnnmdaa.tgs
open Go Go.Conc Go.Proofs.Ytdkbkocklnnmdaa.mach Go.Proofs.Ytdkbkocklnnmdaa.wg Go.Proofs.Ytdkbkocklnnmdaa.tog Go.Proofs.Ytdkbkocklnnmdaa.lock
open Go.ConcN (upd upd_same upd_ne sumTo sumTo_upd sumTo_congr le_sumTo sumTo_upd_out sumTo_le RelBy WgLive RW PayAt AtR0 AtK1 AtD1 AtD2 AtD3 AtD4 RelBy.appOther RelBy.appOwn RelBy.new PermW PermW.app Deaf_absent)
open Go.ConcR (KK WgAt stA smA rd wr mk DC0 g_of_ofEvents)
open Go.Proofs.Ytdkbkocklnnmdaa.crew (Handed Handed.app Handed.appOther Handed.appMute norel_all mk_nr rw_nr rd_nr wr_nr sem_nr KK_inj)

section
variable {Y : Ways} {γ γ' : Gam} {pos : Nat → Ps} {N k : Nat} {w w' : World} {t : Trace} {s : Stg} {m : Nat} {g g' : Goroutine} {es : Array Event} {q : Ps}

theorem op_add (O : Y.Ok) {r bi : Nat} (G : Glob Y.P γ pos N w t) (h0 : pos 0 = .on (.add r bi) m) (hA : stops Y (.add r bi) g w) : Out (sys Y) γ pos N 0 (.add r bi) g w t := by
  obtain ⟨hrun, hall⟩ := hA
  have hwg := wg_open G h0 (s := .add r bi) trivial
  have hV := V_le G.fits O
  have hs : N + (r + 1) = Y.P.N0 + Y.P.n := by have := G.fits.size; rw [h0] at this; exact this
  have hge := G.fits.ge
  have hsm := O.p.small
  have hwg' : WgAt 96 Y.P.p.Wg w (((V pos N : Nat) : Int) * KK) 0 := by simpa [pendT] using hwg
  obtain ⟨g', hst, hr', h1, h2⟩ := hall (V pos N) (by omega) hwg'
  have hw' := hwg'.setSt ((((V pos N : Nat) : Int) + 1) * KK)
  have key : ∀ (s' : Stg) (m' : Nat), (s' = .read r bi ∨ s' = .ena r bi) → ∀ pos', Glob Y.P γ pos' N w t → pos' 0 = .on (.add r bi) m → ∀ fn place,
      Glob Y.P γ (upd pos' 0 (.on s' m')) N (w.setCell (stA Y.P.p.Wg) (.int .u64 ((((V pos N : Nat) : Int) + 1) * KK))) (t ++ MemOp.ofEvents 0 fn place #[rd (stA Y.P.p.Wg), wr (stA Y.P.p.Wg)]) ∧ phi Y.P γ (upd pos' 0 (.on s' m')) N < phi Y.P γ pos' N := by
    intro s' m' hs' pos' G' h0' fn place
    have hwg1 := wg_open G' h0' (s := .add r bi) trivial
    have hVV : V pos' N = V pos N := KK_inj (by have := (hwg1.unique hwg').1; simpa [pendT] using this)
    obtain ⟨st, sm, hwgx, hm⟩ := G'.wg
    have hp0 : tagOf (pos' 0) = some (.add r bi) := by rw [h0']; rfl
    obtain ⟨hW, hv, -, -⟩ := hm.openInv (by rw [hp0]; trivial)
    have hz : wst (pos' 0) = 0 := wst0_of_open (by rw [hp0]; trivial)
    have ho' : openT (some s') := by rcases hs' with rfl | rfl <;> trivial
    have hp1 : pendT (some s') = 1 := by rcases hs' with rfl | rfl <;> rfl
    have hz' : wst (.on s' m') = 0 := wst0_of_open (p := .on s' m') ho'
    have hM := Mode.openMk (N := N) O.p.n0 hz (p := .on s' m') ho' hW (fun vs e => by rcases hs' with rfl | rfl <;> simp [tagOf] at e)
    rw [show tagOf (.on s' m') = some s' from rfl, hp1, hVV] at hM
    have hM' : Mode (upd pos' 0 (.on s' m')) Y.P.N0 N ((((V pos N : Nat) : Int) + 1) * KK) 0 := by simpa using hM
    obtain ⟨c1, c2, c3⟩ := heap_wg (w := w) (v := .int .u64 ((((V pos N : Nat) : Int) + 1) * KK)) O (a := stA Y.P.p.Wg) rfl
    refine ⟨G'.main O.p (.inl ho') (fun x e => by cases e) (by rw [hp0]; rcases hs' with rfl | rfl <;> rfl) (tc0_of O G' (rw_ev rfl)) rw_nr (by rw [h0']; rcases hs' with rfl | rfl <;> rfl) (tw_wg G' rfl) (size_set _ _ _) c1 c2 c3 hw' hM'
      (fun b hb => .inl (by rw [hp0]; rcases hs' with rfl | rfl <;> exact hb)) (fun e => by rcases hs' with rfl | rfl <;> simp [tagOf] at e),
      phi_main (G'.size O.p) rfl rfl hz hz' (by rw [hp0]; rcases hs' with rfl | rfl <;> simp [rk, tagOf])⟩
  rcases Nat.eq_zero_or_pos (V pos N) with hz | hz
  · obtain ⟨m', hg⟩ := h1 hz
    exact outMain (q := .on (.read r bi) m') O G h0 hst hr' hg (fun j hj _ => suf_wg O G rfl ⟨_, _, hw'⟩ hj) (key _ m' (.inl rfl))
  · obtain ⟨m', hg⟩ := h2 (by omega)
    exact outMain (q := .on (.ena r bi) m') O G h0 hst hr' hg (fun j hj _ => suf_wg O G rfl ⟨_, _, hw'⟩ hj) (key _ m' (.inr rfl))

/-- Main's step into one of the last stages, or within them: everybody else is only leaving. -/
theorem finStep (O : Y.Ok) (G : Glob Y.P γ pos N w t) (h0 : pos 0 = .on s m) (hz : wst (pos 0) = 0) {s' : Stg} {m' : Nat} (hf : finT (some s')) (hrem : remT (some s) = 0) (hQ : AllQ pos Y.P.N0 N) (hw : TW Y.P.p Y.P.w0 w') (hsz : w.heap.size ≤ w'.heap.size)
    (hcn : w'.heap[Y.P.p.C]? = w.heap[Y.P.p.C]? ∧ w'.heap[Y.P.p.Rn]? = w.heap[Y.P.p.Rn]? ∧ w'.heap[Y.P.p.Ot]? = w.heap[Y.P.p.Ot]?) (hwg : WgAt 96 Y.P.p.Wg w' 0 0)
    (hev : ∀ e ∈ es, Ev0 Y.P.p.Wg e) (hnr : ∀ e ∈ es, ∀ ar : Addr, e.loc ≠ .mark (.release ar)) (hdf : deafBehind (dfn (.on s m)) es = dfn (.on s' m'))
    (hall : s' = .fin → ∀ fn place, Handed N (t ++ MemOp.ofEvents 0 fn place es)) (hrk : rk Y.P.n Y.P.Q (V pos N) (some s') < rk Y.P.n Y.P.Q (V pos N) (some s)) (fn : FuncId) (place : String) :
    Glob Y.P γ (upd pos 0 (.on s' m')) N w' (t ++ MemOp.ofEvents 0 fn place es) ∧ phi Y.P γ (upd pos 0 (.on s' m')) N < phi Y.P γ pos N := by
  have hp0 : tagOf (pos 0) = some s := by rw [h0]; rfl
  have hz' : wst (.on s' m') = 0 := wst0_of_fin (p := .on s' m') hf
  refine ⟨G.main O.p (.inr (.inr hf)) (fun x e => by cases e) (by rw [hp0, hrem]; show remT (some s') = 0; cases s' <;> first | rfl | exact hf.elim) (tc0_of O G hev) hnr (by rw [h0]; exact hdf) hw hsz hcn.1 hcn.2.1 hcn.2.2 hwg
    (Mode.finMk O.p.n0 (p := .on s' m') hf hQ) (fun b hb => ?_) (fun e => hall (by simpa [tagOf] using e) fn place), phi_main (G.size O.p) rfl rfl hz hz' (by rw [hp0]; exact hrk)⟩
  have : blkT (some s') = [] := by cases s' <;> first | rfl | exact hf.elim
  rw [show tagOf (.on s' m') = some s' from rfl, this] at hb
  simp at hb

theorem op_wload (O : Y.Ok) (G : Glob Y.P γ pos N w t) (h0 : pos 0 = .on .wload m) (hA : stops Y .wload g w) : Out (sys Y) γ pos N 0 .wload g w t := by
  obtain ⟨hrun, hall⟩ := hA
  have hwg := wg_open G h0 (s := .wload) trivial
  have hV := V_le G.fits O
  have hsz := G.fits.size
  have hge := G.fits.ge
  have hsm := O.p.small
  have hwg' : WgAt 96 Y.P.p.Wg w (((V pos N : Nat) : Int) * KK) 0 := by simpa [pendT] using hwg
  obtain ⟨g', hst, hr', h1, h2⟩ := hall (V pos N) (by omega) hwg'
  have same : ∀ pos', Glob Y.P γ pos' N w t → pos' 0 = .on .wload m → V pos' N = V pos N := fun pos' G' h0' => by
    have hwg1 := wg_open G' h0' (s := .wload) trivial
    exact KK_inj (by have := (hwg1.unique hwg').1; simpa [pendT] using this)
  rcases Nat.eq_zero_or_pos (V pos N) with hz | hz
  · obtain ⟨m', hg⟩ := h1 hz
    refine outMain (q := .on .wena m') O G h0 hst hr' hg (fun j _ _ => suffers_same O _) fun pos' G' h0' fn place => ?_
    have hVz : V pos' N = 0 := (same pos' G' h0').trans hz
    obtain ⟨hW, -, hz0⟩ := open_facts G' h0' trivial
    exact finStep (s' := .wena) (m' := m') O G' h0' hz0 trivial rfl (allQ_of_zero hW hVz) G'.world (Nat.le_refl _) ⟨rfl, rfl, rfl⟩ (by rw [hz] at hwg'; simpa using hwg') (rd_ev rfl) rd_nr rfl (fun e => by cases e) (by simp only [rk]; omega) fn place
  · obtain ⟨m', hg⟩ := h2 (by omega)
    refine outMain (q := .on (.wcas (V pos N)) m') O G h0 hst hr' hg (fun j _ _ => suffers_same O _) fun pos' G' h0' fn place => ?_
    have hVz := same pos' G' h0'
    exact openStep (s' := .wcas (V pos N)) (m' := m') O G' h0' trivial trivial rfl rfl (fun vs e => by cases e; omega) (rd_ev rfl) rd_nr rfl (fun b hb => hb) (by simp only [rk]; omega) fn place

theorem op_wcas (O : Y.Ok) {vs : Nat} (G : Glob Y.P γ pos N w t) (h0 : pos 0 = .on (.wcas vs) m) (hA : stops Y (.wcas vs) g w) : Out (sys Y) γ pos N 0 (.wcas vs) g w t := by
  obtain ⟨hrun, hall⟩ := hA
  have hwg := wg_open G h0 (s := .wcas vs) trivial
  have hV := V_le G.fits O
  have hsz := G.fits.size
  have hge := G.fits.ge
  have hsm := O.p.small
  have hwg' : WgAt 96 Y.P.p.Wg w (((V pos N : Nat) : Int) * KK) 0 := by simpa [pendT] using hwg
  obtain ⟨h1, h2⟩ := hall (V pos N) (by omega) hwg'
  have same : ∀ pos', Glob Y.P γ pos' N w t → pos' 0 = .on (.wcas vs) m → V pos' N = V pos N := fun pos' G' h0' => by
    have hwg1 := wg_open G' h0' (s := .wcas vs) trivial
    exact KK_inj (by have := (hwg1.unique hwg').1; simpa [pendT] using this)
  by_cases hv : V pos N = vs
  · obtain ⟨g', hst, hr', m', hg⟩ := h1 hv
    have hw' := hwg'.setSt (((V pos N : Nat) : Int) * KK + 1)
    refine outMain (q := .on .wwr m') O G h0 hst hr' hg (fun j hj _ => suf_wg O G rfl ⟨_, _, hw'⟩ hj) fun pos' G' h0' fn place => ?_
    have hVV := same pos' G' h0'
    obtain ⟨hW, hc, hz0⟩ := open_facts G' h0' trivial
    have h1v := (hc vs rfl).2
    have hM := Mode.regMk (N := N) O.p.n0 hz0 (p := .on .wwr m') trivial hW (by omega)
    rw [hVV] at hM
    have hp0 : tagOf (pos' 0) = some (.wcas vs) := by rw [h0']; rfl
    obtain ⟨c1, c2, c3⟩ := heap_wg (w := w) (v := .int .u64 (((V pos N : Nat) : Int) * KK + 1)) O (a := stA Y.P.p.Wg) rfl
    exact ⟨G'.main O.p (.inr (.inl trivial)) (fun x e => by cases e) (by rw [hp0]; rfl) (tc0_of O G' (rw_ev rfl)) rw_nr (by rw [h0']; rfl) (tw_wg G' rfl) (size_set _ _ _) c1 c2 c3 hw' hM
      (fun b hb => by simp [tagOf, blkT] at hb) (fun e => by simp [tagOf] at e), phi_main (G'.size O.p) rfl rfl hz0 rfl (by rw [hp0]; simp only [rk, tagOf]; omega)⟩
  · obtain ⟨g', hst, hr', m', hg⟩ := h2 hv
    refine outMain (q := .on .wload (m' + 30)) O G h0 hst hr' (crew.Goes.after (fun w => RT.refl w) O.anch hg) (fun j _ _ => suffers_same O _) fun pos' G' h0' fn place => ?_
    have hVV := same pos' G' h0'
    obtain ⟨-, hc, -⟩ := open_facts G' h0' trivial
    have := (hc vs rfl).1
    exact openStep (s' := .wload) (m' := m' + 30) O G' h0' trivial trivial rfl rfl (fun vs e => by cases e) (rd_ev rfl) rd_nr rfl (fun b hb => hb) (by simp only [rk]; omega) fn place

theorem op_wwr (O : Y.Ok) (G : Glob Y.P γ pos N w t) (h0 : pos 0 = .on .wwr m) (hA : stops Y .wwr g w) : Out (sys Y) γ pos N 0 .wwr g w t := by
  obtain ⟨hrun, g', hst, hr', m', hg⟩ := hA
  refine outMain (q := .on .wsem m') O G h0 hst hr' hg (fun j _ _ => suffers_same O _) fun pos' G' h0' fn place => ?_
  obtain ⟨st, sm, hwg, hm⟩ := G'.wg
  have hp0 : tagOf (pos' 0) = some .wwr := by rw [h0']; rfl
  have h3 : w3T (tagOf (pos' 0)) := by rw [hp0]; trivial
  exact ⟨G'.main O.p (.inr (.inl trivial)) (fun x e => by cases e) (by rw [hp0]; rfl) (tc0_of O G' (mk_ev (ev0_said rfl (.inr rfl)))) (mk_nr (by intro a h; cases h)) (by rw [h0']; rfl) G'.world (Nat.le_refl _) rfl rfl rfl hwg
    (hm.w3Mk O.p.n0 h3 (p := .on .wsem m') trivial (fun _ s e => by cases e)) (fun b hb => by simp [tagOf, blkT] at hb) (fun e => by simp [tagOf] at e),
    phi_main (G'.size O.p) rfl rfl (wst0_of_w3 h3) rfl (by rw [hp0]; simp [rk, tagOf])⟩

theorem fin_facts (G : Glob Y.P γ pos N w t) {s : Stg} {m : Nat} (h0 : pos 0 = .on s m) (ho : finT (some s)) : AllQ pos Y.P.N0 N ∧ WgAt 96 Y.P.p.Wg w 0 0 ∧ wst (pos 0) = 0 := by
  obtain ⟨st, sm, hwg, hm⟩ := G.wg
  have hp0 : tagOf (pos 0) = some s := by rw [h0]; rfl
  obtain ⟨hQ, rfl, rfl⟩ := hm.finInv (by rw [hp0]; exact ho)
  exact ⟨hQ, hwg, wst0_of_fin (by rw [hp0]; exact ho)⟩

theorem op_wsem (O : Y.Ok) (G : Glob Y.P γ pos N w t) (h0 : pos 0 = .on .wsem m) (hA : ∀ w₁, R0 Y w w₁ → stops Y .wsem g w₁) : Out (sys Y) γ pos N 0 .wsem g w t := by
  obtain ⟨hrun, hoff, hblk, htake⟩ := hA w (RT.refl w)
  obtain ⟨st, sm, hwg, hm⟩ := G.wg
  have hp0 : tagOf (pos 0) = some .wsem := by rw [h0]; rfl
  have h3 : w3T (tagOf (pos 0)) := by rw [hp0]; trivial
  rcases hm.w3Inv h3 with rfl | ⟨rfl, rfl, hQ⟩
  · have e0 : t ++ MemOp.ofEvents 0 g.frame.fn g.frame.place #[] = t := by simp [MemOp.ofEvents]
    have hG : Glob Y.P γ (upd pos 0 (.blk .wsem)) N w (t ++ MemOp.ofEvents 0 g.frame.fn g.frame.place #[]) := G.main O.p (.inr (.inl trivial)) (fun x e => by cases e; rfl) (by rw [hp0]; rfl) (tc0_of O G (by simp)) (by simp) (by rw [h0]; rfl) G.world (Nat.le_refl _) rfl rfl rfl hwg
      (hm.w3Mk O.p.n0 h3 (p := .blk .wsem) trivial (fun e => by cases e)) (fun b hb => by simp [tagOf, blkT] at hb) (fun e => by simp [tagOf] at e)
    rw [e0] at hG
    have hP : phi Y.P γ (upd pos 0 (.blk .wsem)) N = phi Y.P γ pos N := phi_same (fun k _ => by
      by_cases e : k = 0
      · subst e; rw [upd_same, h0]; rfl
      · rw [upd_ne _ _ e]) (G.size O.p)
    exact Out.block (hblk ⟨st, hwg⟩) hoff hA hG (Nat.le_of_eq hP)
  · obtain ⟨g', hst, hr', m', hg⟩ := htake hwg
    have hw' := hwg.setSm 0
    refine outMain (q := .on .wld2 m') O G h0 hst hr' hg (fun j hj _ => suf_wg O G rfl ⟨_, _, hw'⟩ hj) fun pos' G' h0' fn place => ?_
    obtain ⟨st', sm', hwg', hm'⟩ := G'.wg
    obtain ⟨rfl, rfl⟩ := hwg'.unique hwg
    have h3' : w3T (tagOf (pos' 0)) := by rw [h0']; trivial
    have hQ' : AllQ pos' Y.P.N0 N := by
      rcases hm'.w3Inv h3' with x | ⟨-, -, x⟩
      · cases x
      · exact x
    exact finStep (s' := .wld2) (m' := m') O G' h0' (wst0_of_w3 h3') trivial rfl hQ' (tw_wg G' rfl) (size_set _ _ _) (heap_wg O rfl) hw' (sem_ev rfl) sem_nr rfl (fun e => by cases e) (by simp [rk]) fn place

theorem op_wld2 (O : Y.Ok) (G : Glob Y.P γ pos N w t) (h0 : pos 0 = .on .wld2 m) (hA : stops Y .wld2 g w) : Out (sys Y) γ pos N 0 .wld2 g w t := by
  obtain ⟨hrun, hall⟩ := hA
  obtain ⟨hQ, hwg, hz⟩ := fin_facts G h0 trivial
  obtain ⟨g', hst, hr', m', hg⟩ := hall hwg
  refine outMain (q := .on .wena m') O G h0 hst hr' hg (fun j _ _ => suffers_same O _) fun pos' G' h0' fn place => ?_
  obtain ⟨hQ', hwg', hz'⟩ := fin_facts G' h0' trivial
  exact finStep (s' := .wena) (m' := m') O G' h0' hz' trivial rfl hQ' G'.world (Nat.le_refl _) ⟨rfl, rfl, rfl⟩ hwg' (rd_ev rfl) rd_nr rfl (fun e => by cases e) (by simp [rk]) fn place
theorem op_wena (O : Y.Ok) (G : Glob Y.P γ pos N w t) (h0 : pos 0 = .on .wena m) (hA : stops Y .wena g w) : Out (sys Y) γ pos N 0 .wena g w t := by
  obtain ⟨hrun, g', hst, hr', m', hg⟩ := hA
  refine outMain (q := .on .wacq m') O G h0 hst hr' hg (fun j _ _ => suffers_same O _) fun pos' G' h0' fn place => ?_
  obtain ⟨hQ', hwg', hz'⟩ := fin_facts G' h0' trivial
  exact finStep (s' := .wacq) (m' := m') (es := #[mk Mark.enable]) O G' h0' hz' trivial rfl hQ' G'.world (Nat.le_refl _) ⟨rfl, rfl, rfl⟩ hwg' (mk_ev (ev0_mk rfl)) (mk_nr (by intro a h; cases h)) rfl (fun e => by cases e) (by simp [rk]) fn place

/-- Main has said 'acquire', hearing: all is handed over. -/
theorem handed_acq (O : Y.Ok) (G : Glob Y.P γ pos N w t) (h0 : pos 0 = .on .wacq m) (hQ : AllQ pos Y.P.N0 N) (fn : FuncId) (place : String) : Handed N (t ++ MemOp.ofEvents 0 fn place #[mk (.acquire (stA Y.P.p.Wg))]) := by
  have e1 : MemOp.ofEvents 0 fn place #[mk (.acquire (stA Y.P.p.Wg))] = #[{ g := 0, fn, pos := place, act := .mark (.acquire (stA Y.P.p.Wg)) }] := by rw [ofEvents_eq]; simp [Go.ConcR.ofEvent_mk]
  have hold := G.hand.appOther (u := MemOp.ofEvents 0 fn place #[mk (.acquire (stA Y.P.p.Wg))]) g_of_ofEvents (.inl rfl)
  have hd : Deaf t 0 = 0 := by rw [G.df 0 (by have := G.size O.p; omega), h0]; rfl
  rw [e1] at hold ⊢
  have hy : (t ++ #[({ g := 0, fn, pos := place, act := .mark (.acquire (stA Y.P.p.Wg)) } : MemOp)])[t.size]? = some { g := 0, fn, pos := place, act := .mark (.acquire (stA Y.P.p.Wg)) } := by simp
  have hh : (t ++ #[({ g := 0, fn, pos := place, act := .mark (.acquire (stA Y.P.p.Wg)) } : MemOp)]).heard t.size := ⟨0, by simp [Trace.g?], by rw [deaf_old (Nat.le_refl _)]; exact hd⟩
  have hn : NoRelease (stA Y.P.p.Wg) (t ++ #[({ g := 0, fn, pos := place, act := .mark (.acquire (stA Y.P.p.Wg)) } : MemOp)]) := (G.norel _).app fun op hop => by simp at hop; subst hop; simp
  intro i a hga ha0 haN hc
  rcases Nat.lt_or_ge a Y.P.N0 with hlt | hge
  · exact hold i a hga ha0 hlt hc
  · obtain ⟨r, hr0⟩ := G.rel a hge haN (by rw [hQ a hge haN]; omega)
    have hrt : r < t.size := lt_of_act? hr0.act
    have hr := hr0.appOther (u := #[({ g := 0, fn, pos := place, act := .mark (.acquire (stA Y.P.p.Wg)) } : MemOp)]) (g := 0) (fun op hop => by simp at hop; subst hop; rfl) (fun e => ha0 e.symm)
    have edge : HappensBefore (t ++ #[({ g := 0, fn, pos := place, act := .mark (.acquire (stA Y.P.p.Wg)) } : MemOp)]) r t.size := .single (.inr ⟨.marked hrt (.inr hr.act) (by rw [act?_of hy]) (fun k _ _ => hn k), hr.heard, hh⟩)
    have hle : i ≤ r := Nat.le_of_not_lt fun hlt => hr.after i hlt hga hc
    rcases Nat.lt_or_ge i r with hlt | hge'
    · exact ⟨t.size, by simp [Trace.g?], .trans (.single (.inl ⟨hlt, a, hga, hr.g⟩)) edge⟩
    · obtain rfl : i = r := by omega
      exact ⟨t.size, by simp [Trace.g?], edge⟩
theorem op_wacq (O : Y.Ok) (G : Glob Y.P γ pos N w t) (h0 : pos 0 = .on .wacq m) (hA : stops Y .wacq g w) : Out (sys Y) γ pos N 0 .wacq g w t := by
  obtain ⟨hrun, g', hst, hr', m', hg⟩ := hA
  refine outMain (q := .on .fin m') O G h0 hst hr' hg (fun j _ _ => suffers_same O _) fun pos' G' h0' fn place => ?_
  obtain ⟨hQ', hwg', hz'⟩ := fin_facts G' h0' trivial
  exact finStep (s' := .fin) (m' := m') (es := #[mk (Mark.acquire (stA Y.P.p.Wg))]) O G' h0' hz' trivial rfl hQ' G'.world (Nat.le_refl _) ⟨rfl, rfl, rfl⟩ hwg' (mk_ev (ev0_mk rfl)) (mk_nr (by intro a h; cases h)) rfl (fun _ fn place => handed_acq O G' h0' hQ' fn place) (by simp [rk]) fn place

theorem op_go (O : Y.Ok) {r bi : Nat} (G : Glob Y.P γ pos N w t) (h0 : pos 0 = .on (.go r bi) m) (hA : stops Y (.go r bi) g w) : Out (sys Y) γ pos N 0 (.go r bi) g w t := by
  obtain ⟨hrun, g', child, hst, ⟨mc, hkid⟩, m', hg⟩ := hA
  have hN1 := G.size O.p
  have hNk : (N == 0) = false := by simp; omega
  have hsz : N + (r + 1) = Y.P.N0 + Y.P.n := by have := G.fits.size; rw [h0] at this; exact this
  have hge := G.fits.ge
  have hix : N = Y.P.N0 + (Y.P.n - 1 - r) := by omega
  have hkid' : (sys Y).Holds N (.on (.tk bi (Y.P.n - 1 - r) .od) mc) child w := by
    show Goes Try.prog (N == 0) (RT Y.P.p [bi]) (DT Y.P.p [bi]) (At Y.P.p bi (Y.P.n - 1 - r) .od) mc child w
    rw [hNk]; exact hkid
  have e0 : t ++ MemOp.ofEvents 0 g.frame.fn g.frame.place #[] = t := by simp [MemOp.ofEvents]
  have hV := V_le G.fits O
  have hQ : Y.P.Q = 7 * Y.P.A + 300 := rfl
  cases r with
  | zero =>
    have key := fun fn fn' pl => G.born (q := .on .wdis m') (ix := Y.P.n - 1 - 0) (mc := mc) (fn := fn) (fn' := fn') (pl := pl) O.p h0 hix trivial rfl (fun vs e => by simp [tagOf] at e) rfl rfl rfl (fun s e => by cases e) (by simp only [tagOf, rk]; omega)
    refine Out.spawn g' child w #[] (.on .wdis m') (.on (.tk bi (Y.P.n - 1 - 0) .od) mc) γ hst hg hkid' (fun j _ _ => suffers_same O _) (fun place => ?_) (key 0 0 "").2
    rw [e0]; exact (key _ _ place).1
  | succ r =>
    have hmul : Y.P.Q * (r + 1 + 1) = Y.P.Q * (r + 1) + Y.P.Q := Nat.mul_succ _ _
    have key := fun fn fn' pl => G.born (q := .on (.al r) m') (ix := Y.P.n - 1 - (r + 1)) (mc := mc) (fn := fn) (fn' := fn') (pl := pl) O.p h0 hix trivial rfl (fun vs e => by simp [tagOf] at e) rfl rfl rfl (fun s e => by cases e) (by simp only [tagOf, rk]; omega)
    refine Out.spawn g' child w #[] (.on (.al r) m') (.on (.tk bi (Y.P.n - 1 - (r + 1)) .od) mc) γ hst hg hkid' (fun j _ _ => suffers_same O _) (fun place => ?_) (key 0 0 "").2
    rw [e0]; exact (key _ _ place).1
end
end Go.Proofs.Ytdkbkocklnnmdaa.tgs
/-
  Together: a worker's step about the lock: what it needs and what it comes to. Conditions: those of the structure Ways.Ok.
-/
set_option linter.unusedVariables false
set_option linter.unusedSectionVars false
set_option linter.unusedSimpArgs false
namespace Go.Proofs.Ytdkbkocklnnmdaa.tgs
open Go Go.Conc Go.Proofs.Ytdkbkocklnnmdaa.mach Go.Proofs.Ytdkbkocklnnmdaa.wg Go.Proofs.Ytdkbkocklnnmdaa.tog Go.Proofs.Ytdkbkocklnnmdaa.lock
open Go.ConcN (upd upd_same upd_ne sumTo sumTo_upd sumTo_congr le_sumTo sumTo_upd_out sumTo_le RelBy WgLive RW PayAt AtR0 AtK1 AtD1 AtD2 AtD3 AtD4 RelBy.appOther RelBy.appOwn RelBy.new PermW PermW.app Deaf_absent)
open Go.ConcR (KK WgAt stA smA rd wr mk DC0 g_of_ofEvents)
open Go.Proofs.Ytdkbkocklnnmdaa.crew (Handed Handed.app Handed.appOther Handed.appMute norel_all mk_nr rw_nr rd_nr wr_nr sem_nr KK_inj)

section
variable {Y : Ways} {γ γ' : Gam} {pos : Nat → Ps} {N k : Nat} {w w' : World} {t : Trace} {bi ix m m' : Nat} {s s' : WS} {g g' : Goroutine} {es : Array Event} {q : Ps} {fn : FuncId} {place : String}

/-- An entry that touches nothing, or one of the cell's atomic words by an atomic step. -/
def EvA (p : Tp) (e : Event) : Prop := ∀ x, (MemAct.ofEvent e).touch? = some x → x.kind = .atomic ∧ (x.loc = .cell (tog.cA p 0) ∨ x.loc = .cell (tog.cA p 1) ∨ x.loc = .cell (tog.cA p 2) ∨ x.loc = .cell (tog.cA p 5) ∨ x.loc = .cell (tog.cA p 6))
theorem eva_mk {p : Tp} {mm : Mark} (h : (MemAct.mark mm).touch? = none) : ∀ e ∈ #[mk mm], EvA p e := by
  intro e he; simp at he; subst he
  intro x hx
  have : (MemAct.ofEvent (mk mm)).touch? = none := h
  rw [this] at hx; cases hx
def isA (p : Tp) (a : Addr) : Prop := a = tog.cA p 0 ∨ a = tog.cA p 1 ∨ a = tog.cA p 2 ∨ a = tog.cA p 5 ∨ a = tog.cA p 6
theorem eva_cell {p : Tp} {a : Addr} {wr : Bool} (h : isA p a) : EvA p ⟨.cell a, wr, true⟩ := fun x hx => by
  have : x = ⟨.cell a, wr, .atomic⟩ := (Option.some.inj hx).symm
  subst this
  refine ⟨rfl, ?_⟩
  rcases h with rfl | rfl | rfl | rfl | rfl
  · exact .inl rfl
  · exact .inr (.inl rfl)
  · exact .inr (.inr (.inl rfl))
  · exact .inr (.inr (.inr (.inl rfl)))
  · exact .inr (.inr (.inr (.inr rfl)))
theorem eva_rd {p : Tp} {a : Addr} (h : isA p a) : ∀ e ∈ #[rd a], EvA p e := by
  intro e he; simp at he; subst he; exact eva_cell h
theorem eva_rw {p : Tp} {a : Addr} (h : isA p a) : ∀ e ∈ #[rd a, wr a], EvA p e := by
  intro e he; simp at he; rcases he with rfl | rfl <;> exact eva_cell h
theorem eva_wr {p : Tp} {a : Addr} (h : isA p a) : ∀ e ∈ #[wr a], EvA p e := by
  intro e he; simp at he; subst he; exact eva_cell h
theorem eva_sem {p : Tp} {a : Addr} (h : isA p a) : ∀ e ∈ semEvents a, EvA p e := by
  intro e he; simp [semEvents] at he
  rcases he with rfl | rfl | rfl | rfl
  · intro x hx; cases hx
  · exact eva_cell h
  · exact eva_cell h
  · intro x hx; cases hx
theorem eva_nil {p : Tp} : ∀ e ∈ (#[] : Array Event), EvA p e := by simp
theorem nil_nr : ∀ e ∈ (#[] : Array Event), ∀ ar : Addr, e.loc ≠ .mark (.release ar) := by simp
theorem tch_a (O : Y.Ok) (G : Glob Y.P γ pos N w t) (h : ∀ e ∈ es, EvA Y.P.p e) : ∀ op ∈ MemOp.ofEvents k fn place es, ∀ x, op.act.touch? = some x → Tch Y.P pos N k x ∧ ∀ a, x.loc = .cell a → a.block < w.heap.size := by
  intro op hop x hx
  rw [ofEvents_eq] at hop
  obtain ⟨e, he, rfl⟩ := Array.mem_map.1 hop
  obtain ⟨h1, h2⟩ := h e he x hx
  obtain ⟨s0, s1, s2, s5, s6⟩ := O.p.shc
  have hc : Y.P.p.C < w.heap.size := Nat.lt_of_lt_of_le (O.p.low _ (.inr (.inl rfl))) G.world.size
  refine ⟨.inl ⟨?_, h1⟩, fun a ha => ?_⟩
  · rcases h2 with h | h | h | h | h <;> rw [h] <;> assumption
  · rcases h2 with h | h | h | h | h <;> rw [h] at ha <;> cases ha <;> exact hc

/-- The same roles, another name. -/
theorem lock_role {f : Nat → Lk} {mm : Mst} {ss : Nat} {x : Lk} (h : LockInv N f mm ss) (hk : k < N) (hx : Snap x) (e : rH x = rH (f k) ∧ rQ x = rQ (f k) ∧ rV x = rV (f k) ∧ rA x = rA (f k) ∧ rR x = rR (f k) ∧ rS x = rS (f k) ∧ rU x = rU (f k) ∧ rW x = rW (f k)) : LockInv N (upd f k x) mm ss := by
  obtain ⟨e1, e2, e3, e4, e5, e6, e7, e8⟩ := e
  have same : ∀ r : Lk → Nat, r x = r (f k) → sm r (upd f k x) N = sm r f N := fun r hr => by have := sm_upd (f := f) r x hk; omega
  exact ⟨h.ok, (same _ e1).trans h.hold, fun a => by rw [same _ e8, same _ e3, same _ e5, same _ e2, same _ e4, same _ e6]; exact h.norm a, fun a => by rw [same _ e8, same _ e3, same _ e5, same _ e2, same _ e4, same _ e6]; exact h.starv a, fun a b c d => by rw [same _ e7]; exact h.live a b c d, snap_upd h.snap hx⟩

theorem tag_tk (h0 : pos k = .on (.tk bi ix s) m) : tagOf (pos k) = some (.tk bi ix s) := by rw [h0]; rfl

/-- A step about the lock, by what it touches. -/
theorem tkA0 (O : Y.Ok) (G : Glob Y.P γ pos N w t) (k0 : Y.P.N0 ≤ k) (kN : k < N) (h0 : pos k = .on (.tk bi ix s) m) {mm : Mst} {ss : Nat}
    (hq : tagOf q = some (.tk bi ix s')) (hqb : ∀ x, q = .blk x → ∃ sv ws, s' = .lk (.s1 sv ws)) (hqd : dfn q = dfS s')
    (hns : ¬ runS s) (hown : s'.own = []) (hph : PhS Y.P.p γ s') (hknd : knS s' → γ.c.d = 1)
    (hT : ∀ op ∈ MemOp.ofEvents k fn place es, ∀ x, op.act.touch? = some x → Tch Y.P pos N k x ∧ ∀ a, x.loc = .cell a → a.block < w.heap.size) (hnr : ∀ e ∈ es, ∀ ar : Addr, e.loc ≠ .mark (.release ar)) (hdf : deafBehind (dfS s) es = dfS s') (hn0 : ∀ op ∈ MemOp.ofEvents k fn place es, ∀ sync, op.act ≠ .access ⟨.cell (tog.cA Y.P.p 0), true, sync⟩)
    (hw : TW Y.P.p w w') (hsz : w.heap.size ≤ w'.heap.size) (hwg : w'.heap[Y.P.p.Wg]? = w.heap[Y.P.p.Wg]?) (hRn : w'.heap[Y.P.p.Rn]? = w.heap[Y.P.p.Rn]?) (hOt : w'.heap[Y.P.p.Ot]? = w.heap[Y.P.p.Ot]?)
    (hcs : AtCs Y.P.p { γ.c with m := mm, s := ss } w') (hlock : LockInv N (upd (fun j => lkOf (pos j)) k (lkS s')) mm ss)
    (hsem : ∀ j, Y.P.N0 ≤ j → j < N → ∀ x, upd pos k q j = .blk x → ss = 0)
    (hkn : knS s' → ¬ knS s → ¬ Y.P.d0 → PermW (t ++ MemOp.ofEvents k fn place es) k (.cell (tog.cA Y.P.p 4))) :
    Glob Y.P ⟨{ γ.c with m := mm, s := ss }, γ.x⟩ (upd pos k q) N w' (t ++ MemOp.ofEvents k fn place es) := by
  have n0 := O.p.n0
  have k1 : k ≠ 0 := by omega
  have tk := tag_tk h0
  have e8 : wst (pos k) = 8 := by unfold wst; rw [tk]; rfl
  have e8' : wst q = 8 := by unfold wst; rw [hq]; rfl
  obtain ⟨st, sm, hwg0, hm⟩ := G.wg
  have hix := G.fits.ix k k0 kN bi ix s tk
  have ph : ∀ x, PhS Y.P.p γ x → PhS Y.P.p ⟨{ γ.c with m := mm, s := ss }, γ.x⟩ x := fun x h => by
    cases x with
    | lk y => cases y <;> exact h
    | _ => exact h
  have noRunOther : runS s' → ∀ j, j < N → runT (tagOf (pos j)) → False := fun hr j hj rj => by
    have hl : lkS s' = .cr := by cases s' <;> first | exact hr.elim | rfl
    have hjk : j ≠ k := fun e => by subst e; rw [tk] at rj; exact hns rj
    rw [hl] at hlock
    have := hlock.alone kN (by rw [upd_same]; rfl) hj hjk
    rw [upd_ne _ _ hjk] at this
    have h2 : rH (lkOf (pos j)) = 1 := runT_cr rj
    omega
  refine G.work O.p k0 kN hT hnr (by rw [h0, hqd]; exact hdf) (.inl (by omega)) (by omega) (fun x e => ?_) (fun bi' ix' s2 e => ?_) (fun h => by omega) (G.world.trans hw) hsz (hwg0.of_block hwg) (hm.counted k0 kN k1 (by omega) (by omega)) hcs
    (by unfold lkOf at hlock ⊢; rw [hq]; exact hlock) hsem ⟨fun j hj bi' ix' s2 e => ?_, fun h => ?_, fun j j0 jN h => ?_, G.once.d0⟩ (fun e => .inl ⟨e, hn0⟩) (hRn.trans G.rn) ?_ (fun b hb => .inl ?_) (fun bi' ix' s2 b e hb => ?_) (fun e => ⟨e, fun hr => ?_⟩) (fun h h2 h3 => ?_)
  · obtain ⟨sv, ws, rfl⟩ := hqb x e
    rw [e] at hq
    exact ⟨bi, ix, sv, ws, by simpa [tagOf] using hq⟩
  · rw [hq] at e; injection e with e; injection e with _ e _; omega
  · by_cases x : j = k
    · subst x; rw [upd_same, hq] at e; injection e with e; injection e with _ _ e; subst e; exact ph _ hph
    · rw [upd_ne _ _ x] at e; exact ph _ (G.once.run j hj bi' ix' s2 e)
  · have hi : Idle Y.P.p γ := G.once.idle fun j hj rj => by
      by_cases x : j = k
      · subst x; rw [tk] at rj; exact hns rj
      · exact h j hj (by rw [upd_ne _ _ x]; exact rj)
    exact hi
  · by_cases x : j = k
    · subst x; rw [upd_same, hq, e8'] at h
      rcases h with h | h
      · exact hknd h
      · omega
    · rw [upd_ne _ _ x] at h; exact G.once.kn j j0 jN h
  · obtain ⟨o, o1, o2, o3⟩ := G.ot
    refine ⟨o, hOt.trans o1, o2, fun j j0 jN h => ?_⟩
    by_cases x : j = k
    · subst x; rw [upd_same, e8'] at h; omega
    · rw [upd_ne _ _ x] at h; exact o3 j j0 jN h
  · rw [hq] at hb; rw [tk]
    simp only [blkT, hown] at hb
    simp only [blkT]
    have : b = bi := by simpa using hb
    rw [this]; exact List.mem_cons_self ..
  · rw [hq] at e; injection e with e; injection e with _ _ e; subst e
    rw [hown] at hb; simp at hb
  · rw [tk] at hr; exact absurd hr hns
  · rw [hq] at h; rw [tk] at h2; exact hkn h h2 h3

theorem no_w0 (hev : ∀ e ∈ es, EvA Y.P.p e) (hn0 : ∀ e ∈ es, e ≠ wr (tog.cA Y.P.p 0)) : ∀ op ∈ MemOp.ofEvents k fn place es, ∀ sync, op.act ≠ .access ⟨.cell (tog.cA Y.P.p 0), true, sync⟩ := by
  intro op hop sync e
  rw [ofEvents_eq] at hop
  obtain ⟨e', he, rfl⟩ := Array.mem_map.1 hop
  obtain ⟨l, wr', sy⟩ := e'
  cases l with
  | mark mm => cases mm <;> cases e
  | cell a =>
    have hx : (MemAct.ofEvent ⟨.cell a, wr', sy⟩).touch? = some ⟨.cell a, wr', if sy then .atomic else .plain⟩ := rfl
    have hk := (hev _ he _ hx).1
    have : (MemAct.ofEvent ⟨.cell a, wr', sy⟩) = .access ⟨.cell a, wr', sy⟩ := rfl
    simp only at e
    rw [this] at e
    injection e with e; injection e with e1 e2 e3; injection e1 with e1
    subst e1 e2 e3
    cases sy with
    | true => exact hn0 _ he rfl
    | false => simp at hk
  | obj r => cases wr' <;> cases sy <;> cases e
  | _ => cases e
/-- ████ A STEP ABOUT THE LOCK. -/
theorem tkA (O : Y.Ok) (G : Glob Y.P γ pos N w t) (k0 : Y.P.N0 ≤ k) (kN : k < N) (h0 : pos k = .on (.tk bi ix s) m) {mm : Mst} {ss : Nat}
    (hq : tagOf q = some (.tk bi ix s')) (hqb : ∀ x, q = .blk x → ∃ sv ws, s' = .lk (.s1 sv ws)) (hqd : dfn q = dfS s')
    (hns : ¬ runS s) (hown : s'.own = []) (hph : PhS Y.P.p γ s') (hknd : knS s' → γ.c.d = 1)
    (hev : ∀ e ∈ es, EvA Y.P.p e) (hnr : ∀ e ∈ es, ∀ ar : Addr, e.loc ≠ .mark (.release ar)) (hdf : deafBehind (dfS s) es = dfS s') (hn0 : ∀ e ∈ es, e ≠ wr (tog.cA Y.P.p 0))
    (hw : TW Y.P.p w w') (hsz : w.heap.size ≤ w'.heap.size) (hwg : w'.heap[Y.P.p.Wg]? = w.heap[Y.P.p.Wg]?) (hRn : w'.heap[Y.P.p.Rn]? = w.heap[Y.P.p.Rn]?) (hOt : w'.heap[Y.P.p.Ot]? = w.heap[Y.P.p.Ot]?)
    (hcs : AtCs Y.P.p { γ.c with m := mm, s := ss } w') (hlock : LockInv N (upd (fun j => lkOf (pos j)) k (lkS s')) mm ss)
    (hsem : ∀ j, Y.P.N0 ≤ j → j < N → ∀ x, upd pos k q j = .blk x → ss = 0)
    (hkn : knS s' → ¬ knS s → ¬ Y.P.d0 → PermW (t ++ MemOp.ofEvents k fn place es) k (.cell (tog.cA Y.P.p 4))) :
    Glob Y.P ⟨{ γ.c with m := mm, s := ss }, γ.x⟩ (upd pos k q) N w' (t ++ MemOp.ofEvents k fn place es) :=
  tkA0 O G k0 kN h0 hq hqb hqd hns hown hph hknd (tch_a O G hev) hnr hdf (no_w0 hev hn0) hw hsz hwg hRn hOt hcs hlock hsem hkn

theorem on_tag {x : Stg} {n : Nat} : tagOf (Pos.on x n) = some x := rfl
theorem holds_tk (k1 : k ≠ 0) {n : Nat} (h : Goes Try.prog false (RT Y.P.p (bi :: s'.own)) (DT Y.P.p (bi :: s'.own)) (At Y.P.p bi ix s') n g w) : (sys Y).Holds k (.on (.tk bi ix s') n) g w := by
  show Goes Try.prog (k == 0) (rely Y (.tk bi ix s')) (guar Y (.tk bi ix s')) (stops Y (.tk bi ix s')) n g w
  rw [show (k == 0) = false by simpa using k1]
  exact h
/-- What a stop's step comes to. -/
theorem outTk (O : Y.Ok) (G : Glob Y.P γ pos N w t) (k0 : Y.P.N0 ≤ k) (h0 : pos k = .on (.tk bi ix s) m) (hA : At Y.P.p bi ix s g w) (hn : Nx Y.P.p w s w' es s') (hsuf : ∀ j, j < N → j ≠ k → (sys Y).Suffers (pos j) w w')
    (hk : ∀ pos', (∀ a, tagOf (pos' a) = tagOf (pos a)) → Glob Y.P γ pos' N w t → pos' k = .on (.tk bi ix s) m → (mayWake Try.prog g = true → ∀ j s, pos' j ≠ .blk s) → ∀ fn place, Glob Y.P γ' (upd pos' k (.on (.tk bi ix s') 400)) N w' (t ++ MemOp.ofEvents k fn place es) ∧ phi Y.P γ' (upd pos' k (.on (.tk bi ix s') 400)) N < phi Y.P γ pos' N) :
    Out (sys Y) γ pos N k (.tk bi ix s) g w t := by
  have k1 : k ≠ 0 := by have := O.p.n0; omega
  obtain ⟨g', hst, hr, hg⟩ := hA.law.go w' es s' hn
  exact outWork O G k1 h0 hst (.inl hr) (holds_tk k1 hg) hsuf hk

theorem suf_heap (O : Y.Ok) (G : Glob Y.P γ pos N w t) (h : w'.heap = w.heap) {j : Nat} (hj : j < N) : (sys Y).Suffers (pos j) w w' :=
  suffers O G (B := Y.P.p.C) hj (fun b _ _ => by rw [h]) O.p.cro (fun h => (blk_high O.p G hj h).2.1 rfl) (fun ⟨a, b, x⟩ => ⟨a, b, x.of_block (by rw [h])⟩) (fun ⟨c, x⟩ => ⟨c, (by rw [h] : w'.heap[Y.P.p.C]? = _).trans x⟩)
theorem suf_c (O : Y.Ok) (G : Glob Y.P γ pos N w t) {i : Nat} {v : Value} {c : Cs} (hc : AtCs Y.P.p c (w.setCell (tog.cA Y.P.p i) v)) {j : Nat} (hj : j < N) : (sys Y).Suffers (pos j) w (w.setCell (tog.cA Y.P.p i) v) := by
  obtain ⟨st, sm, hwg, _⟩ := G.wg
  exact suffers_set O G hj O.p.cro (fun h => (blk_high O.p G hj h).2.1 rfl) ⟨st, sm, hwg.of_block ((aside_setCell w _ v).block _ O.p.cw.symm)⟩ ⟨c, hc⟩
theorem heap_c (O : Y.Ok) (w : World) (i : Nat) (v : Value) : (w.setCell (tog.cA Y.P.p i) v).heap[Y.P.p.Wg]? = w.heap[Y.P.p.Wg]? ∧ (w.setCell (tog.cA Y.P.p i) v).heap[Y.P.p.Rn]? = w.heap[Y.P.p.Rn]? ∧ (w.setCell (tog.cA Y.P.p i) v).heap[Y.P.p.Ot]? = w.heap[Y.P.p.Ot]? :=
  ⟨(aside_setCell w _ v).block _ O.p.cw.symm, (aside_setCell w _ v).block _ O.p.cr.symm, (aside_setCell w _ v).block _ O.p.co.symm⟩
theorem tw_c (p : Tp) (w : World) (i : Nat) (v : Value) : TW p w (w.setCell (tog.cA p i) v) := TW.aside (aside_setCell w _ v) (.inl rfl)

theorem phi_tk_small (G : Glob Y.P γ pos N w t) (kN : k < N) (k1 : k ≠ 0) (h0 : pos k = .on (.tk bi ix s) m) (hq : tagOf q = some (.tk bi ix s')) (hm : γ'.c.m = γ.c.m) (hs : γ'.c.s = γ.c.s) (hb : bdT (some (.tk bi ix s')) ≤ bdT (some (.tk bi ix s))) (hl : sS γ.c.m s' < sS γ.c.m s) : phi Y.P γ' (upd pos k q) N < phi Y.P γ pos N := by
  have tk := tag_tk h0
  refine phi_small kN k1 hm hs ?_ (by rw [hq, tk]; exact hb) (by rw [hq, tk]; simp only [sT]; omega)
  have := V_upd (pos := pos) q kN
  have c1 : cn (pos k) = 1 := by unfold cn wst; rw [tk]; rfl
  have c2 : cn q = 1 := by unfold cn wst; rw [hq]; rfl
  omega
theorem phi_tk_big (O : Y.Ok) (G : Glob Y.P γ pos N w t) (kN : k < N) (k1 : k ≠ 0) (h0 : pos k = .on (.tk bi ix s) m) (hq : tagOf q = some (.tk bi ix s')) (hb : bdT (some (.tk bi ix s')) + 2 * γ'.c.s < bdT (some (.tk bi ix s)) + 2 * γ.c.s) : phi Y.P γ' (upd pos k q) N < phi Y.P γ pos N := by
  have tk := tag_tk h0
  refine phi_big kN k1 (by have := G.fits.size; omega) ?_ (by rw [hq, tk]; exact hb)
  have := V_upd (pos := pos) q kN
  have c1 : cn (pos k) = 1 := by unfold cn wst; rw [tk]; rfl
  have c2 : cn q = 1 := by unfold cn wst; rw [hq]; rfl
  omega
end
end Go.Proofs.Ytdkbkocklnnmdaa.tgs
/-
  Together: a worker's operations in Lock and Unlock. Conditions: those of the structure Ways.Ok.
-/
set_option linter.unusedVariables false
set_option linter.unusedSectionVars false
set_option linter.unusedSimpArgs false
namespace Go.Proofs.Ytdkbkocklnnmdaa.tgs
open Go Go.Conc Go.Proofs.Ytdkbkocklnnmdaa.mach Go.Proofs.Ytdkbkocklnnmdaa.wg Go.Proofs.Ytdkbkocklnnmdaa.tog Go.Proofs.Ytdkbkocklnnmdaa.lock
open Go.ConcN (upd upd_same upd_ne sumTo sumTo_upd sumTo_congr le_sumTo sumTo_upd_out sumTo_le RelBy WgLive RW PayAt AtR0 AtK1 AtD1 AtD2 AtD3 AtD4 RelBy.appOther RelBy.appOwn RelBy.new PermW PermW.app Deaf_absent)
open Go.ConcR (KK WgAt stA smA rd wr mk DC0 g_of_ofEvents)
open Go.Proofs.Ytdkbkocklnnmdaa.crew (Handed Handed.app Handed.appOther Handed.appMute norel_all mk_nr rw_nr rd_nr wr_nr sem_nr KK_inj)

section
variable {Y : Ways} {γ γ' : Gam} {pos : Nat → Ps} {N k : Nat} {w w' : World} {t : Trace} {bi ix m m' : Nat} {s s' : WS} {g g' : Goroutine} {es : Array Event} {q : Ps} {fn : FuncId} {place : String}

/-- A step's world, as far as the others and the law of the whole are concerned. -/
structure Wd (Y : Ways) (pos : Nat → Ps) (N k : Nat) (w w' : World) : Prop where
  tw : TW Y.P.p w w'
  sz : w.heap.size ≤ w'.heap.size
  wg : w'.heap[Y.P.p.Wg]? = w.heap[Y.P.p.Wg]?
  rn : w'.heap[Y.P.p.Rn]? = w.heap[Y.P.p.Rn]?
  ot : w'.heap[Y.P.p.Ot]? = w.heap[Y.P.p.Ot]?
  suf : ∀ j, j < N → j ≠ k → (sys Y).Suffers (pos j) w w'
theorem wd_heap (O : Y.Ok) (G : Glob Y.P γ pos N w t) (h : w'.heap = w.heap) (tw : TW Y.P.p w w') : Wd Y pos N k w w' :=
  ⟨tw, by rw [h]; exact Nat.le_refl _, by rw [h], by rw [h], by rw [h], fun j hj _ => suf_heap O G h hj⟩
theorem wd_c (O : Y.Ok) (G : Glob Y.P γ pos N w t) {i : Nat} {v : Value} {c : Cs} (hc : AtCs Y.P.p c (w.setCell (tog.cA Y.P.p i) v)) : Wd Y pos N k w (w.setCell (tog.cA Y.P.p i) v) :=
  ⟨tw_c _ _ _ _, size_set _ _ _, (heap_c O w i v).1, (heap_c O w i v).2.1, (heap_c O w i v).2.2, fun j hj _ => suf_c O G hc hj⟩

theorem n0_of (h : ∀ e ∈ es, e ≠ wr (tog.cA Y.P.p 0)) : ∀ e ∈ es, e ≠ wr (tog.cA Y.P.p 0) := h

/-- A STEP ABOUT THE LOCK, whole. -/
theorem outA (O : Y.Ok) (G : Glob Y.P γ pos N w t) (k0 : Y.P.N0 ≤ k) (kN : k < N) (h0 : pos k = .on (.tk bi ix s) m) (hA : At Y.P.p bi ix s g w) (hn : Nx Y.P.p w s w' es s') (mm : Mst) (ss : Nat)
    (hns : ¬ runS s) (hown : s'.own = []) (hph : PhS Y.P.p γ s') (hknd : knS s' → γ.c.d = 1)
    (hev : ∀ e ∈ es, EvA Y.P.p e) (hnr : ∀ e ∈ es, ∀ ar : Addr, e.loc ≠ .mark (.release ar)) (hdf : deafBehind (dfS s) es = dfS s') (hn0 : ∀ e ∈ es, e ≠ wr (tog.cA Y.P.p 0))
    (hwd : Wd Y pos N k w w') (hcs : AtCs Y.P.p { γ.c with m := mm, s := ss } w') (hlock : LockInv N (upd (fun j => lkOf (pos j)) k (lkS s')) mm ss)
    (hsem : (γ.c.s = 0 → ss = 0) ∨ mayWake Try.prog g = true)
    (hkn : knS s' → ¬ knS s → ¬ Y.P.d0 → ∀ fn place, PermW (t ++ MemOp.ofEvents k fn place es) k (.cell (tog.cA Y.P.p 4)))
    (hphi : (mm = γ.c.m ∧ ss = γ.c.s ∧ bdT (some (.tk bi ix s')) ≤ bdT (some (.tk bi ix s)) ∧ sS γ.c.m s' < sS γ.c.m s) ∨ bdT (some (.tk bi ix s')) + 2 * ss < bdT (some (.tk bi ix s)) + 2 * γ.c.s) :
    Out (sys Y) γ pos N k (.tk bi ix s) g w t := by
  have k1 : k ≠ 0 := by have := O.p.n0; omega
  refine outTk (γ' := ⟨{ γ.c with m := mm, s := ss }, γ.x⟩) O G k0 h0 hA hn hwd.suf fun pos' ht G' h0' hmw fn place => ⟨?_, ?_⟩
  · have hl : (fun j => lkOf (pos' j)) = fun j => lkOf (pos j) := by funext j; unfold lkOf; rw [ht]
    refine tkA O G' k0 kN h0' rfl (fun x e => by cases e) rfl hns hown hph hknd hev hnr hdf hn0 hwd.tw hwd.sz hwd.wg hwd.rn hwd.ot hcs (by rw [hl]; exact hlock) (fun j j0 jN x e => ?_) (fun a b c => hkn a b c fn place)
    by_cases e1 : j = k
    · subst e1; rw [upd_same] at e; cases e
    · rw [upd_ne _ _ e1] at e
      rcases hsem with h | h
      · exact h (G'.sem j j0 jN x e)
      · exact absurd e (hmw h j x)
  · rcases hphi with ⟨rfl, rfl, h1, h2⟩ | h
    · exact phi_tk_small G' kN k1 h0' rfl rfl rfl h1 h2
    · exact phi_tk_big O G' kN k1 h0' rfl h

theorem own_lk (x : Lk) : (WS.lk x).own = [] := rfl
theorem sLk_hd (mm : Mst) (it : Nat) (aw sv : Bool) (ws : Int) : sLk mm (hd mm it aw sv ws) ≤ 8 + 10 * (4 - it) := by unfold hd; split <;> simp [sLk]
theorem bdL_hd (o : Mst) (it : Nat) (aw sv : Bool) (ws : Int) : bdL (hd o it aw sv ws) = if aw then 6 else 7 := by unfold hd; split <;> rfl
theorem dfL_hd (o : Mst) (it : Nat) (aw sv : Bool) (ws : Int) : dfL (hd o it aw sv ws) = 1 := by unfold hd; split <;> rfl
theorem ph_hd (p : Tp) (γ : Gam) (o : Mst) (it : Nat) (aw sv : Bool) (ws : Int) : PhS p γ (.lk (hd o it aw sv ws)) := by unfold hd; split <;> trivial
theorem kn_hd (o : Mst) (it : Nat) (aw sv : Bool) (ws : Int) : ¬ knS (.lk (hd o it aw sv ws)) := by unfold hd; split <;> exact fun h => h
theorem nx_f (p : Tp) (γ : Gam) (o : Mst) (sv : Bool) (ws : Int) : bdL (nx o sv ws) = 5 ∧ dfL (nx o sv ws) = 1 ∧ PhS p γ (.lk (nx o sv ws)) ∧ ¬ knS (.lk (nx o sv ws)) := by
  unfold nx; split
  · exact ⟨rfl, rfl, trivial, fun h => h⟩
  · split <;> exact ⟨rfl, rfl, trivial, fun h => h⟩
theorem un_f (p : Tp) (γ : Gam) (o : Mst) : bdL (un o) ≤ 4 ∧ dfL (un o) = 1 ∧ PhS p γ (.lk (un o)) := by
  unfold un; split
  · exact ⟨Nat.le_refl _, rfl, trivial⟩
  · split
    · exact ⟨by simp [bdL], rfl, trivial⟩
    · exact ⟨by simp [bdL], rfl, trivial⟩
theorem ul_f (p : Tp) (γ : Gam) (o : Mst) : bdL (ul o) ≤ 4 ∧ dfL (ul o) = 1 ∧ PhS p γ (.lk (ul o)) ∧ sLk o (ul o) < 8 := by
  unfold ul; split
  · exact ⟨Nat.le_refl _, rfl, trivial, by simp [sLk]⟩
  · exact ⟨by simp [bdL], rfl, trivial, by simp [sLk]⟩
theorem bd_lk (x : Lk) : bdT (some (.tk bi ix (.lk x))) = bdL x := rfl
theorem rdA1 {p : Tp} : ∀ e ∈ #[rd (tog.cA p 1)], e ≠ wr (tog.cA p 0) := by intro e he; simp at he; subst he; simp [rd, wr, tog.cA]
theorem rwA1 {p : Tp} : ∀ e ∈ #[rd (tog.cA p 1), wr (tog.cA p 1)], e ≠ wr (tog.cA p 0) := by intro e he; simp at he; rcases he with rfl | rfl <;> simp [rd, wr, tog.cA]
theorem semA2 {p : Tp} : ∀ e ∈ semEvents (tog.cA p 2), e ≠ wr (tog.cA p 0) := by intro e he; simp [semEvents] at he; rcases he with rfl | rfl | rfl | rfl <;> simp [wr, tog.cA]
theorem mkA0 {p : Tp} {mm : Mark} : ∀ e ∈ #[mk mm], e ≠ wr (tog.cA p 0) := by intro e he; simp at he; subst he; simp [mk, wr]
theorem nilA0 {p : Tp} : ∀ e ∈ (#[] : Array Event), e ≠ wr (tog.cA p 0) := by simp
theorem lock_s (h : LockInv N (fun j => lkOf (pos j)) γ.c.m γ.c.s) : γ.c.s ≤ 1 := by
  have h1 := h.ok
  rcases Nat.eq_zero_or_pos γ.c.m.s with e | e
  · have := h.norm e; omega
  · have := h.starv (by omega); omega

theorem op_lk (O : Y.Ok) (G : Glob Y.P γ pos N w t) (k0 : Y.P.N0 ≤ k) (kN : k < N) {x : Lk} (h0 : pos k = .on (.tk bi ix (.lk x)) m) (hA : ∀ w₁, RT Y.P.p (bi :: (WS.lk x).own) w w₁ → At Y.P.p bi ix (.lk x) g w₁) : Out (sys Y) γ pos N k (.tk bi ix (.lk x)) g w t := by
  have hA0 := hA w (RT.refl w)
  have tk := tag_tk h0
  have hf : (fun j => lkOf (pos j)) k = x := by show lkOf (pos k) = x; unfold lkOf; rw [tk]; rfl
  have hs : Snap x := by have := G.lock.snap k kN; rw [show lkOf (pos k) = x from hf] at this; exact this
  have hN := G.small O.p
  have hmo := G.mok O.p
  have L := G.lock
  have hC : γ.c = { γ.c with m := γ.c.m, s := γ.c.s } := rfl
  have wsame : Wd Y pos N k w w := wd_heap O G rfl (TW.refl _ _)
  have hkd : knS (.lk x) → γ.c.d = 1 := fun h => G.once.kn k k0 kN (.inl (by rw [tk]; exact h))
  have run0 : ¬ runS (.lk x) := fun h => h
  cases x with
  | off => exact (G.once.run k kN bi ix _ tk).elim
  | cr => exact (G.once.run k kN bi ix _ tk).elim
  | ld => exact outA O G k0 kN h0 hA0 .ld γ.c.m γ.c.s run0 rfl trivial (fun h => h.elim) (eva_mk rfl) (mk_nr (by intro a h; cases h)) rfl mkA0 wsame G.cs (L.ld kN hf) (.inl id) (fun h => h.elim) (.inl ⟨rfl, rfl, Nat.le_refl _, by simp [sS, sLk]⟩)
  | l0 =>
    by_cases e : γ.c.m = ⟨0, 0, 0, 0⟩
    · have hs1 := set1 G.cs ⟨1, 0, 0, 0⟩
      exact outA O G k0 kN h0 hA0 (.l0hit γ.c G.cs e) ⟨1, 0, 0, 0⟩ γ.c.s run0 rfl trivial (fun h => h.elim) (eva_rw (.inr (.inl rfl))) rw_nr rfl rwA1 (wd_c O G hs1) hs1 (L.l0hit kN e hf) (.inl id) (fun h => h.elim) (.inr (by simp only [bd_lk, bdL]; omega))
    · exact outA O G k0 kN h0 hA0 (.l0miss γ.c G.cs hmo e) γ.c.m γ.c.s run0 rfl trivial (fun h => h.elim) (eva_rd (.inr (.inl rfl))) rd_nr rfl rdA1 wsame G.cs (L.l0miss kN hf) (.inl id) (fun h => h.elim) (.inl ⟨rfl, rfl, Nat.le_refl _, by simp [sS, sLk]⟩)
  | r0 =>
    have L' := L.r0 kN hN hf
    have sn := L'.snap k kN
    rw [upd_same] at sn
    have h1 := sLk_hd γ.c.m 0 false false 0
    exact outA O G k0 kN h0 hA0 (.r0 γ.c G.cs sn) γ.c.m γ.c.s run0 rfl (ph_hd _ _ _ _ _ _ _) (fun h => absurd h (kn_hd _ _ _ _ _)) eva_nil nil_nr (dfL_hd _ _ _ _ _).symm nilA0 wsame G.cs L' (.inl id) (fun h => absurd h (kn_hd _ _ _ _ _)) (.inl ⟨rfl, rfl, by rw [bd_lk, bd_lk, bdL_hd]; simp [bdL], by simp only [sS, sLk] at h1 ⊢; omega⟩)
  | sq o it aw sv ws =>
    have hi : it ≤ 4 := hs.2.1
    by_cases h4 : 4 ≤ it
    · exact outA O G k0 kN h0 hA0 (.sqno o it aw sv ws hs h4) γ.c.m γ.c.s run0 rfl trivial (fun h => h.elim) eva_nil nil_nr rfl nilA0 wsame G.cs (L.sqgo kN hf) (.inl id) (fun h => h.elim) (.inl ⟨rfl, rfl, Nat.le_refl _, by simp only [sS, sLk]; omega⟩)
    · have h4' : it < 4 := by omega
      have wask : Wd Y pos N k w w.asked := wd_heap O G rfl (TW.asked _ _)
      cases hsp : w.spins with
      | false => exact outA O G k0 kN h0 hA0 (.sqgo o it aw sv ws hs h4' hsp) γ.c.m γ.c.s run0 rfl trivial (fun h => h.elim) eva_nil nil_nr rfl nilA0 wask G.cs (L.sqgo kN hf) (.inl id) (fun h => h.elim) (.inl ⟨rfl, rfl, Nat.le_refl _, by simp only [sS, sLk]; omega⟩)
      | true =>
        by_cases hc : aw = false ∧ o.w = 0 ∧ 0 < o.c
        · obtain ⟨rfl, hw0, hc0⟩ := hc
          have hsv : sv = false := by cases sv with
            | false => rfl
            | true => exact absurd (hs.2.2.2.2.2 rfl) (by simp)
          subst hsv
          exact outA O G k0 kN h0 hA0 (.sqc1 o it ws hs h4' hsp hw0 hc0) γ.c.m γ.c.s run0 rfl trivial (fun h => h.elim) eva_nil nil_nr rfl nilA0 wask G.cs (L.sqc1 kN h4' hw0 hc0 hf) (.inl id) (fun h => h.elim) (.inl ⟨rfl, rfl, Nat.le_refl _, by simp only [sS, sLk]; omega⟩)
        · exact outA O G k0 kN h0 hA0 (.sqspin o it aw sv ws hs h4' hsp hc) γ.c.m γ.c.s run0 rfl trivial (fun h => h.elim) eva_nil nil_nr rfl nilA0 wask G.cs (L.sqspin kN h4' hf) (.inl id) (fun h => h.elim) (.inl ⟨rfl, rfl, Nat.le_refl _, by simp only [sS, sLk]; omega⟩)
  | c1 o it ws =>
    by_cases e : γ.c.m = o
    · have hs1 := set1 G.cs ⟨o.l, 1, o.s, o.c⟩
      have L' := L.c1hit kN e hf
      rw [e] at L'
      exact outA O G k0 kN h0 hA0 (.c1hit γ.c o it ws G.cs hs e) ⟨o.l, 1, o.s, o.c⟩ γ.c.s run0 rfl trivial (fun h => h.elim) (eva_rw (.inr (.inl rfl))) rw_nr rfl rwA1 (wd_c O G hs1) hs1 L' (.inl id) (fun h => h.elim) (.inr (by simp only [bd_lk, bdL]; simp))
    · exact outA O G k0 kN h0 hA0 (.c1miss γ.c o it ws G.cs hmo hs e) γ.c.m γ.c.s run0 rfl trivial (fun h => h.elim) (eva_rd (.inr (.inl rfl))) rd_nr rfl rdA1 wsame G.cs (L.c1miss kN hf) (.inl id) (fun h => h.elim) (.inl ⟨rfl, rfl, Nat.le_refl _, by simp only [sS, sLk]; omega⟩)
  | r1 it aw sv ws =>
    have L' := L.r1 kN hN hf
    have sn := L'.snap k kN
    rw [upd_same] at sn
    have hi : it < 4 := hs.1
    have h1 := sLk_hd γ.c.m (it + 1) aw sv ws
    exact outA O G k0 kN h0 hA0 (.r1 γ.c it aw sv ws G.cs hi sn) γ.c.m γ.c.s run0 rfl (ph_hd _ _ _ _ _ _ _) (fun h => absurd h (kn_hd _ _ _ _ _)) eva_nil nil_nr (dfL_hd _ _ _ _ _).symm nilA0 wsame G.cs L' (.inl id) (fun h => absurd h (kn_hd _ _ _ _ _)) (.inl ⟨rfl, rfl, by rw [bd_lk, bd_lk, bdL_hd]; exact Nat.le_refl _, by simp only [sS, sLk] at h1 ⊢; omega⟩)
  | c2 o it aw sv ws =>
    by_cases e : γ.c.m = o
    · have hs1 := set1 G.cs (nw o aw sv)
      obtain ⟨b1, b2, b3, b4⟩ := nx_f Y.P.p γ o sv ws
      exact outA O G k0 kN h0 hA0 (.c2hit γ.c o it aw sv ws G.cs hs e) (nw o aw sv) γ.c.s run0 rfl b3 (fun h => absurd h b4) (eva_rw (.inr (.inl rfl))) rw_nr b2.symm rwA1 (wd_c O G hs1) hs1 (L.c2hit kN e hf) (.inl id) (fun h => absurd h b4) (.inr (by rw [bd_lk, bd_lk, b1]; simp only [bdL]; split <;> omega))
    · exact outA O G k0 kN h0 hA0 (.c2miss γ.c o it aw sv ws G.cs hmo hs e) γ.c.m γ.c.s run0 rfl trivial (fun h => h.elim) (eva_rd (.inr (.inl rfl))) rd_nr rfl rdA1 wsame G.cs (L.c2miss kN hf) (.inl id) (fun h => h.elim) (.inl ⟨rfl, rfl, Nat.le_refl _, by simp only [sS, sLk]; rw [if_neg (fun h => e h.symm)]; omega⟩)
  | t1 sv => exact outA O G k0 kN h0 hA0 (.t1 sv) γ.c.m γ.c.s run0 rfl trivial (fun h => h.elim) eva_nil nil_nr rfl nilA0 (wd_heap O G rfl (TW.later _ _)) G.cs (L.t1 kN hf) (.inl id) (fun h => h.elim) (.inl ⟨rfl, rfl, Nat.le_refl _, by simp [sS, sLk]⟩)
  | s1 sv ws =>
    by_cases e : γ.c.s = 0
    · have k1 : k ≠ 0 := by have := O.p.n0; omega
      have hk0 : (k == 0) = false := by simpa using k1
      have lw := hA0.law
      have e0 : t ++ MemOp.ofEvents k g.frame.fn g.frame.place #[] = t := by simp [MemOp.ofEvents]
      have hG : Glob Y.P ⟨{ γ.c with m := γ.c.m, s := γ.c.s }, γ.x⟩ (upd pos k (.blk (.tk bi ix (.lk (.s1 sv ws))))) N w (t ++ MemOp.ofEvents k g.frame.fn g.frame.place #[]) :=
        tkA O G k0 kN h0 (s' := .lk (.s1 sv ws)) rfl (fun x h => ⟨sv, ws, rfl⟩) rfl run0 rfl trivial (fun h => h.elim) eva_nil nil_nr rfl nilA0 (TW.refl _ _) (Nat.le_refl _) rfl rfl rfl G.cs (LockInv.same L hf) (fun j j0 jN x h => e) (fun h => h.elim)
      rw [e0] at hG
      have hP : phi Y.P γ (upd pos k (.blk (.tk bi ix (.lk (.s1 sv ws))))) N = phi Y.P γ pos N := phi_same (fun j _ => by
        by_cases x : j = k
        · subst x; rw [upd_same, tk]; rfl
        · rw [upd_ne _ _ x]) (G.size O.p)
      exact Out.block (by rw [hk0]; exact lw.waits sv ws rfl γ.c G.cs e) lw.off (fun w₁ h₁ => hA w₁ h₁) hG (Nat.le_of_eq hP)
    · have hs2 := set2 G.cs (γ.c.s - 1)
      have ec : ((γ.c.s - 1 : Nat) : Int) = (γ.c.s : Int) - 1 := by omega
      rw [ec] at hs2
      have hn := Nx.s1 (p := Y.P.p) γ.c sv ws G.cs e
      have L' := L.s1 kN (by omega) hf
      cases sv with
      | true => exact outA O G k0 kN h0 hA0 hn γ.c.m (γ.c.s - 1) run0 rfl trivial (fun h => h.elim) (eva_sem (.inr (.inr (.inl rfl)))) sem_nr rfl semA2 (wd_c O G hs2) hs2 L' (.inl fun h => by omega) (fun h => h.elim) (.inr (by simp only [if_true, bd_lk, bdL]; omega))
      | false => exact outA O G k0 kN h0 hA0 hn γ.c.m (γ.c.s - 1) run0 rfl trivial (fun h => h.elim) (eva_sem (.inr (.inr (.inl rfl)))) sem_nr rfl semA2 (wd_c O G hs2) hs2 L' (.inl fun h => by omega) (fun h => h.elim) (.inr (by simp only [Bool.false_eq_true, if_false, bd_lk, bdL]; omega))
  | t2 ws => exact outA O G k0 kN h0 hA0 (.t2 ws) γ.c.m γ.c.s run0 rfl trivial (fun h => h.elim) eva_nil nil_nr rfl nilA0 (wd_heap O G rfl (TW.later _ _)) G.cs (L.t2 kN hf) (.inl id) (fun h => h.elim) (.inl ⟨rfl, rfl, Nat.le_refl _, by simp [sS, sLk]⟩)
  | r2 sv ws =>
    by_cases e : γ.c.m.s = 1
    · have L' := L.r2s kN hN e hf
      have sn := L'.snap k kN
      rw [upd_same] at sn
      exact outA O G k0 kN h0 hA0 (.r2s γ.c sv ws G.cs sn) γ.c.m γ.c.s run0 rfl trivial (fun h => h.elim) eva_nil nil_nr rfl nilA0 wsame G.cs L' (.inl id) (fun h => h.elim) (.inl ⟨rfl, rfl, Nat.le_refl _, by simp [sS, sLk]⟩)
    · have e' : γ.c.m.s = 0 := by have := L.ok; omega
      have L' := L.r2n kN hN e' hf
      have sn := L'.snap k kN
      rw [upd_same] at sn
      have h1 := sLk_hd γ.c.m 0 true sv ws
      exact outA O G k0 kN h0 hA0 (.r2n γ.c sv ws G.cs hmo e' sn) γ.c.m γ.c.s run0 rfl (ph_hd _ _ _ _ _ _ _) (fun h => absurd h (kn_hd _ _ _ _ _)) eva_nil nil_nr (dfL_hd _ _ _ _ _).symm nilA0 wsame G.cs L' (.inl id) (fun h => absurd h (kn_hd _ _ _ _ _)) (.inl ⟨rfl, rfl, by rw [bd_lk, bd_lk, bdL_hd]; simp [bdL], by simp only [sS, sLk] at h1 ⊢; omega⟩)
  | a1 o sv =>
    obtain ⟨a1, a2, a3⟩ := L.atA kN hf
    have hs1 := set1 G.cs (ad γ.c.m o sv)
    exact outA O G k0 kN h0 hA0 (.a1 γ.c o sv G.cs hmo a1 a2 a3 hs) (ad γ.c.m o sv) γ.c.s run0 rfl trivial (fun h => h.elim) (eva_rw (.inr (.inl rfl))) rw_nr rfl rwA1 (wd_c O G hs1) hs1 (L.a1 kN hf) (.inl id) (fun h => h.elim) (.inr (by simp only [bd_lk, bdL]; omega))
  | r3 it aw sv ws =>
    have L' := L.r3 kN hN hf
    have sn := L'.snap k kN
    rw [upd_same] at sn
    have h1 := sLk_hd γ.c.m it aw sv ws
    exact outA O G k0 kN h0 hA0 (.r3 γ.c it aw sv ws G.cs sn) γ.c.m γ.c.s run0 rfl (ph_hd _ _ _ _ _ _ _) (fun h => absurd h (kn_hd _ _ _ _ _)) eva_nil nil_nr (dfL_hd _ _ _ _ _).symm nilA0 wsame G.cs L' (.inl id) (fun h => absurd h (kn_hd _ _ _ _ _)) (.inl ⟨rfl, rfl, by rw [bd_lk, bd_lk, bdL_hd]; exact Nat.le_refl _, by simp only [sS, sLk] at h1 ⊢; omega⟩)
  | le => exact outA O G k0 kN h0 hA0 .le γ.c.m γ.c.s run0 rfl trivial (fun h => h.elim) (eva_mk rfl) (mk_nr (by intro a h; cases h)) rfl mkA0 wsame G.cs (L.le kN hf) (.inl id) (fun h => h.elim) (.inl ⟨rfl, rfl, Nat.le_refl _, by simp [sS, sLk]⟩)
  | la => exact outA O G k0 kN h0 hA0 .la γ.c.m γ.c.s run0 rfl trivial (fun h => h.elim) (eva_mk rfl) (mk_nr (by intro a h; cases h)) rfl mkA0 wsame G.cs (L.la kN hf) (.inl id) (fun h => h.elim) (.inl ⟨rfl, rfl, Nat.le_refl _, by simp [sS, sLk]⟩)
  | ur => exact outA O G k0 kN h0 hA0 .ur γ.c.m γ.c.s run0 rfl trivial (fun _ => hkd trivial) (eva_mk rfl) (mk_nr (by intro a h; cases h)) rfl mkA0 wsame G.cs (L.ur kN hf) (.inl id) (fun _ h => absurd trivial h) (.inl ⟨rfl, rfl, Nat.le_refl _, by simp [sS, sLk]⟩)
  | ud => exact outA O G k0 kN h0 hA0 .ud γ.c.m γ.c.s run0 rfl trivial (fun _ => hkd trivial) (eva_mk rfl) (mk_nr (by intro a h; cases h)) rfl mkA0 wsame G.cs (L.ud kN hf) (.inl id) (fun _ h => absurd trivial h) (.inl ⟨rfl, rfl, Nat.le_refl _, by simp [sS, sLk]⟩)
  | u0 =>
    have hl : γ.c.m.l = 1 := L.atH kN (by show rH (lkOf (pos k)) = 1; rw [show lkOf (pos k) = _ from hf]; rfl)
    have hs1 := set1 G.cs ⟨0, γ.c.m.w, γ.c.m.s, γ.c.m.c⟩
    obtain ⟨b1, b2, b3⟩ := un_f Y.P.p γ ⟨0, γ.c.m.w, γ.c.m.s, γ.c.m.c⟩
    exact outA O G k0 kN h0 hA0 (.u0 γ.c G.cs hmo hl) ⟨0, γ.c.m.w, γ.c.m.s, γ.c.m.c⟩ γ.c.s run0 rfl b3 (fun _ => hkd trivial) (eva_rw (.inr (.inl rfl))) rw_nr b2.symm rwA1 (wd_c O G hs1) hs1 (L.u0 kN hN hf) (.inl id) (fun _ h => absurd trivial h) (.inr (by rw [bd_lk, bd_lk, show bdL .u0 = 5 from rfl]; omega))
  | uc o =>
    by_cases e : γ.c.m = o
    · have hs1 := set1 G.cs ⟨0, 1, 0, o.c - 1⟩
      have L' := L.uchit kN e hf
      rw [e] at L'
      exact outA O G k0 kN h0 hA0 (.uchit γ.c o G.cs hs e) ⟨0, 1, 0, o.c - 1⟩ γ.c.s run0 rfl trivial (fun _ => hkd trivial) (eva_rw (.inr (.inl rfl))) rw_nr rfl rwA1 (wd_c O G hs1) hs1 L' (.inl id) (fun _ h => absurd trivial h) (.inr (by simp only [bd_lk, bdL]; omega))
    · exact outA O G k0 kN h0 hA0 (.ucmiss γ.c o G.cs hmo hs e) γ.c.m γ.c.s run0 rfl trivial (fun _ => hkd trivial) (eva_rd (.inr (.inl rfl))) rd_nr rfl rdA1 wsame G.cs (L.ucmiss kN hf) (.inl id) (fun _ h => absurd trivial h) (.inl ⟨rfl, rfl, Nat.le_refl _, by simp only [sS, sLk]; rw [if_neg (fun h => e h.symm)]; omega⟩)
  | ux =>
    obtain ⟨b1, b2, b3, b4⟩ := ul_f Y.P.p γ γ.c.m
    exact outA O G k0 kN h0 hA0 (.ux γ.c G.cs hmo) γ.c.m γ.c.s run0 rfl b3 (fun _ => hkd trivial) eva_nil nil_nr b2.symm nilA0 wsame G.cs (L.ux kN hN hf) (.inl id) (fun _ h => absurd trivial h) (.inl ⟨rfl, rfl, b1, b4⟩)
  | us st =>
    have hs2 := set2 G.cs (γ.c.s + 1)
    have ec : ((γ.c.s + 1 : Nat) : Int) = (γ.c.s : Int) + 1 := by omega
    rw [ec] at hs2
    have hlt := lock_s L
    exact outA O G k0 kN h0 hA0 (.us γ.c st G.cs (by omega)) γ.c.m (γ.c.s + 1) run0 rfl trivial (fun _ => hkd trivial) (eva_sem (.inr (.inr (.inl rfl)))) sem_nr rfl semA2 (wd_c O G hs2) hs2 (L.us kN hf) (.inr (hA0.law.wakes st rfl)) (fun _ h => absurd trivial h) (.inr (by simp only [bd_lk, bdL]; omega))
  | ue => exact outA O G k0 kN h0 hA0 .ue γ.c.m γ.c.s run0 rfl trivial (fun _ => hkd trivial) (eva_mk rfl) (mk_nr (by intro a h; cases h)) rfl mkA0 wsame G.cs (L.ue kN hf) (.inl id) (fun _ h => absurd trivial h) (.inl ⟨rfl, rfl, Nat.le_refl _, by simp [sS, sLk]⟩)
end
end Go.Proofs.Ytdkbkocklnnmdaa.tgs
/-
  Together: a worker's operations beside the lock's: the questions whether it has run, the run itself, the value, the answer. Conditions: those of the structure Ways.Ok.
-/
set_option linter.unusedVariables false
set_option linter.unusedSectionVars false
set_option linter.unusedSimpArgs false
namespace Go.Proofs.Ytdkbkocklnnmdaa.tgs
open Go Go.Conc Go.Proofs.Ytdkbkocklnnmdaa.mach Go.Proofs.Ytdkbkocklnnmdaa.wg Go.Proofs.Ytdkbkocklnnmdaa.tog Go.Proofs.Ytdkbkocklnnmdaa.lock
open Go.ConcN (upd upd_same upd_ne sumTo sumTo_upd sumTo_congr le_sumTo sumTo_upd_out sumTo_le RelBy WgLive RW PayAt AtR0 AtK1 AtD1 AtD2 AtD3 AtD4 RelBy.appOther RelBy.appOwn RelBy.new PermW PermW.app Deaf_absent)
open Go.ConcR (KK WgAt stA smA rd wr mk DC0 g_of_ofEvents)
open Go.Proofs.Ytdkbkocklnnmdaa.crew (Handed Handed.app Handed.appOther Handed.appMute norel_all mk_nr rw_nr rd_nr wr_nr sem_nr KK_inj)

section
variable {Y : Ways} {γ γ' : Gam} {pos : Nat → Ps} {N k : Nat} {w w' : World} {t : Trace} {bi ix m m' : Nat} {s s' : WS} {g g' : Goroutine} {es : Array Event} {q : Ps} {fn : FuncId} {place : String}

theorem run_cr (h : runS s) : lkS s = .cr ∧ dfS s = 0 ∧ ¬ knS s := by cases s <;> first | exact h.elim | exact ⟨rfl, rfl, fun h => h⟩
/-- What somebody else has come to hangs on nothing that the one who runs may change. -/
theorem ph_other (hr : ¬ runS s) (h : PhS Y.P.p γ s) : PhS Y.P.p γ' s := by
  cases s with
  | lk x => cases x <;> exact h
  | ow v => exact h
  | od | o2 | gv => trivial
  | _ => exact absurd trivial hr

/-- ████ A STEP OF THE ONE WHO RUNS. -/
theorem tkB (O : Y.Ok) (G : Glob Y.P γ pos N w t) (k0 : Y.P.N0 ≤ k) (kN : k < N) (h0 : pos k = .on (.tk bi ix s) m) {n : Nat} (hrs : runS s) (hgm : γ'.c.m = γ.c.m) (hgs : γ'.c.s = γ.c.s)
    (hown : ∀ b, b ∈ s'.own → b ∈ s.own ∨ (b = w.heap.size ∧ w'.heap.size = w.heap.size + 1)) (hph : PhS Y.P.p γ' s') (hk' : (runS s' ∧ γ'.c.d = 0) ∨ (s' = .lk .ur ∧ Done Y.P.p γ'))
    (hT : ∀ op ∈ MemOp.ofEvents k fn place es, ∀ x, op.act.touch? = some x → Tch Y.P pos N k x ∧ ∀ a, x.loc = .cell a → a.block < w.heap.size) (hnr : ∀ e ∈ es, ∀ ar : Addr, e.loc ≠ .mark (.release ar)) (hdf : deafBehind 0 es = 0)
    (hw : TW Y.P.p w w') (hsz : w.heap.size ≤ w'.heap.size) (hwg : w'.heap[Y.P.p.Wg]? = w.heap[Y.P.p.Wg]?) (hrn : w'.heap[Y.P.p.Rn]? = some (.cells #[.int .i64 γ'.x] Y.P.tyR)) (hOt : w'.heap[Y.P.p.Ot]? = w.heap[Y.P.p.Ot]?) (hcs : AtCs Y.P.p γ'.c w')
    (hpub : γ'.c.d = 1 → ∃ r, Pub (t ++ MemOp.ofEvents k fn place es) (tog.cA Y.P.p 0) (.cell (tog.cA Y.P.p 4)) r) :
    Glob Y.P γ' (upd pos k (.on (.tk bi ix s') n)) N w' (t ++ MemOp.ofEvents k fn place es) := by
  have n0 := O.p.n0
  have k1 : k ≠ 0 := by omega
  have tk := tag_tk h0
  generalize hqq : (Pos.on (Stg.tk bi ix s') n : Ps) = q
  have hq : tagOf q = some (.tk bi ix s') := by rw [← hqq]; rfl
  have qd : dfn q = 0 := by
    rw [← hqq]
    rcases hk' with ⟨h, _⟩ | ⟨rfl, _⟩
    · exact (run_cr h).2.1
    · rfl
  have qb : ∀ x, q ≠ .blk x := fun x e => by rw [← hqq] at e; cases e
  have hd0 : γ.c.d = 0 := G.d_run kN (by rw [tk]; exact hrs)
  have e8 : wst (pos k) = 8 := by unfold wst; rw [tk]; rfl
  have e8' : wst q = 8 := by unfold wst; rw [hq]; rfl
  obtain ⟨st, sm, hwg0, hm⟩ := G.wg
  have hix := G.fits.ix k k0 kN bi ix s tk
  have hf : (fun j => lkOf (pos j)) k = .cr := by show lkOf (pos k) = .cr; unfold lkOf; rw [tk]; exact (run_cr hrs).1
  have noOther : ∀ j, j < N → j ≠ k → ¬ runT (tagOf (pos j)) := fun j hj hjk rj => hjk (G.alone kN hj (by rw [tk]; exact hrs) rj)
  have hlock : LockInv N (upd (fun j => lkOf (pos j)) k (lkOf q)) γ'.c.m γ'.c.s := by
    rw [hgm, hgs]
    unfold lkOf; rw [hq]
    rcases hk' with ⟨h, _⟩ | ⟨rfl, _⟩
    · exact LockInv.same G.lock (by show lkOf (pos k) = lkS s'; rw [(run_cr h).1]; exact hf)
    · exact G.lock.cr kN hf
  refine G.work O.p k0 kN hT hnr (by rw [h0, qd]; show deafBehind (dfS s) es = 0; rw [(run_cr hrs).2.1]; exact hdf) (.inl (by omega)) (by omega) (fun x e => absurd e (qb x)) (fun bi' ix' s2 e => ?_) (fun h => by omega) (G.world.trans hw) hsz (hwg0.of_block hwg) (hm.counted k0 kN k1 (by omega) (by omega)) hcs hlock
    (fun j j0 jN x e => ?_) ⟨fun j hj bi' ix' s2 e => ?_, fun h => ?_, fun j j0 jN h => ?_, fun h => absurd (G.once.d0 h) (by omega)⟩ (fun e => .inr (hpub e)) hrn ?_ (fun b hb => ?_) (fun bi' ix' s2 b e hb => ?_) (fun e => ⟨hd0, fun _ => ?_⟩) (fun h h2 h3 => ?_)
  · rw [hq] at e; injection e with e; injection e with _ e _; omega
  · by_cases e1 : j = k
    · subst e1; rw [upd_same] at e; exact absurd e (qb x)
    · rw [upd_ne _ _ e1] at e; rw [hgs]; exact G.sem j j0 jN x e
  · by_cases x : j = k
    · subst x; rw [upd_same, hq] at e; injection e with e; injection e with _ _ e; subst e; exact hph
    · rw [upd_ne _ _ x] at e
      exact ph_other (fun hr => noOther j hj x (by rw [e]; exact hr)) (G.once.run j hj bi' ix' s2 e)
  · rcases hk' with ⟨hr, _⟩ | ⟨_, hd⟩
    · exact absurd (by rw [upd_same, hq]; exact hr) (h k kN)
    · exact .inr hd
  · by_cases x : j = k
    · subst x; rw [upd_same, hq, e8'] at h
      rcases h with h | h
      · rcases hk' with ⟨hr, _⟩ | ⟨_, hd⟩
        · exact absurd h (run_cr hr).2.2
        · exact hd.1
      · omega
    · rw [upd_ne _ _ x] at h; have := G.once.kn j j0 jN h; omega
  · obtain ⟨o, o1, o2, o3⟩ := G.ot
    refine ⟨o, hOt.trans o1, o2, fun j j0 jN h => ?_⟩
    by_cases x : j = k
    · subst x; rw [upd_same, e8'] at h; omega
    · rw [upd_ne _ _ x] at h; exact o3 j j0 jN h
  · rw [hq] at hb; rw [tk]
    simp only [blkT, List.mem_cons] at hb ⊢
    rcases hb with hb | hb
    · exact .inl (.inl hb)
    · rcases hown b hb with h | h
      · exact .inl (.inr h)
      · exact .inr h
  · rw [hq] at e; injection e with e; injection e with _ _ e; subst e
    rcases hown b hb with h | h
    · exact .inl ⟨bi, ix, s, tk, h⟩
    · exact .inr h.1
  · rw [hq]
    rcases hk' with ⟨hr, _⟩ | ⟨_, hd⟩
    · exact hr
    · exact absurd hd.1 (by omega)
  · refine perm_W (perm_keep (G.pm.w k _ (.inr (.inr ⟨.inr k0, kN, .inl rfl, hd0, fun j hj rj => ?_⟩))) g_of_ofEvents (.inl rfl))
    exact Classical.byContradiction fun e => noOther j hj e rj

/-- .. whole. -/
theorem outB (O : Y.Ok) (G : Glob Y.P γ pos N w t) (k0 : Y.P.N0 ≤ k) (kN : k < N) (h0 : pos k = .on (.tk bi ix s) m) (hA : At Y.P.p bi ix s g w) (hn : Nx Y.P.p w s w' es s') (hrs : runS s) (hgm : γ'.c.m = γ.c.m) (hgs : γ'.c.s = γ.c.s)
    (hown : ∀ b, b ∈ s'.own → b ∈ s.own ∨ (b = w.heap.size ∧ w'.heap.size = w.heap.size + 1)) (hph : PhS Y.P.p γ' s') (hk' : (runS s' ∧ γ'.c.d = 0) ∨ (s' = .lk .ur ∧ Done Y.P.p γ'))
    (hT : ∀ fn place, ∀ pos', (∀ a, tagOf (pos' a) = tagOf (pos a)) → ∀ op ∈ MemOp.ofEvents k fn place es, ∀ x, op.act.touch? = some x → Tch Y.P pos' N k x ∧ ∀ a, x.loc = .cell a → a.block < w.heap.size) (hnr : ∀ e ∈ es, ∀ ar : Addr, e.loc ≠ .mark (.release ar)) (hdf : deafBehind 0 es = 0)
    (hw : TW Y.P.p w w') (hsz : w.heap.size ≤ w'.heap.size) (hwg : w'.heap[Y.P.p.Wg]? = w.heap[Y.P.p.Wg]?) (hrn : w'.heap[Y.P.p.Rn]? = some (.cells #[.int .i64 γ'.x] Y.P.tyR)) (hOt : w'.heap[Y.P.p.Ot]? = w.heap[Y.P.p.Ot]?) (hcs : AtCs Y.P.p γ'.c w')
    (hsuf : ∀ j, j < N → j ≠ k → (sys Y).Suffers (pos j) w w')
    (hpub : γ'.c.d = 1 → ∀ fn place, ∃ r, Pub (t ++ MemOp.ofEvents k fn place es) (tog.cA Y.P.p 0) (.cell (tog.cA Y.P.p 4)) r)
    (hl : ∀ mm, sS mm s' < sS mm s) (hb : bdT (some (.tk bi ix s')) ≤ 5) :
    Out (sys Y) γ pos N k (.tk bi ix s) g w t := by
  have k1 : k ≠ 0 := by have := O.p.n0; omega
  have hb' : bdT (some (.tk bi ix s)) = 5 := by cases s <;> first | exact hrs.elim | rfl
  exact outTk (γ' := γ') O G k0 h0 hA hn hsuf fun pos' ht G' h0' hmw fn place => ⟨tkB O G' k0 kN h0' hrs hgm hgs hown hph hk' (hT fn place pos' ht) hnr hdf hw hsz hwg hrn hOt hcs (fun e => hpub e fn place), phi_tk_small G' kN k1 h0' rfl hgm hgs (by rw [hb']; exact hb) (hl _)⟩

/-- A plain touch of one place. -/
theorem tch_one {a : Addr} {wr' : Bool} (h : Tch Y.P pos N k ⟨.cell a, wr', .plain⟩) (hb : a.block < w.heap.size) : ∀ op ∈ MemOp.ofEvents k fn place #[⟨.cell a, wr', false⟩], ∀ x, op.act.touch? = some x → Tch Y.P pos N k x ∧ ∀ a, x.loc = .cell a → a.block < w.heap.size := by
  intro op hop x hx
  rw [ofEvents_eq] at hop
  obtain ⟨e, he, rfl⟩ := Array.mem_map.1 hop
  simp at he; subst he
  have : x = ⟨.cell a, wr', .plain⟩ := (Option.some.inj hx).symm
  subst this
  exact ⟨h, fun a' ha => by cases ha; exact hb⟩
theorem pl_nr {a : Addr} {wr' : Bool} : ∀ e ∈ #[(⟨.cell a, wr', false⟩ : Event)], ∀ ar : Addr, e.loc ≠ .mark (.release ar) := by intro e he; simp at he; subst he; simp
theorem low_c (O : Y.Ok) (G : Glob Y.P γ pos N w t) : Y.P.p.C < w.heap.size ∧ Y.P.p.Wg < w.heap.size ∧ Y.P.p.Rn < w.heap.size ∧ Y.P.p.Ot < w.heap.size :=
  ⟨Nat.lt_of_lt_of_le (O.p.low _ (.inr (.inl rfl))) G.world.size, Nat.lt_of_lt_of_le (O.p.low _ (.inr (.inr (.inl rfl)))) G.world.size, Nat.lt_of_lt_of_le (O.p.low _ (.inr (.inr (.inr (.inl rfl))))) G.world.size, Nat.lt_of_lt_of_le (O.p.low _ (.inr (.inr (.inr (.inr rfl))))) G.world.size⟩
theorem rn_cell (G : Glob Y.P γ pos N w t) : w.cell? (nA Y.P.p) = some (.int .i64 γ.x) ∧ w.frozen? (nA Y.P.p) = false := by
  have h := G.rn
  exact ⟨by simp [World.cell?, nA, h], by simp [World.frozen?, nA, h]⟩
theorem rn_set (G : Glob Y.P γ pos N w t) (y : Int) : (w.setCell (nA Y.P.p) (.int .i64 y)).heap[Y.P.p.Rn]? = some (.cells #[.int .i64 y] Y.P.tyR) := by
  have h := G.rn
  simp [World.setCell, nA, Array.getElem?_modify, h]

theorem op_run (O : Y.Ok) (G : Glob Y.P γ pos N w t) (k0 : Y.P.N0 ≤ k) (kN : k < N) (h0 : pos k = .on (.tk bi ix s) m) (hA0 : At Y.P.p bi ix s g w) (hrs : runS s) : Out (sys Y) γ pos N k (.tk bi ix s) g w t := by
  have tk := tag_tk h0
  have ph := G.once.run k kN bi ix s tk
  obtain ⟨lc, lw, lr, lo⟩ := low_c O G
  have evA : ∀ {es : Array Event}, (∀ e ∈ es, EvA Y.P.p e) → ∀ fn place, ∀ pos', (∀ a, tagOf (pos' a) = tagOf (pos a)) → ∀ op ∈ MemOp.ofEvents k fn place es, ∀ x, op.act.touch? = some x → Tch Y.P pos' N k x ∧ ∀ a, x.loc = .cell a → a.block < w.heap.size := fun h fn place pos' ht op hop x hx => by
    have := tch_a (k := k) O G h op hop x hx
    refine ⟨?_, this.2⟩
    have h1 := this.1
    unfold Tch at h1 ⊢
    rw [ht]; exact h1
  have plain : ∀ {a : Addr} {wr' : Bool}, (Tch Y.P pos N k ⟨.cell a, wr', .plain⟩) → a.block < w.heap.size → ∀ fn place, ∀ pos', (∀ a, tagOf (pos' a) = tagOf (pos a)) → ∀ op ∈ MemOp.ofEvents k fn place #[⟨.cell a, wr', false⟩], ∀ x, op.act.touch? = some x → Tch Y.P pos' N k x ∧ ∀ a, x.loc = .cell a → a.block < w.heap.size := fun h hb fn place pos' ht => tch_one (by unfold Tch at h ⊢; rw [ht]; exact h) hb
  have rT : runT (tagOf (pos k)) := by rw [tk]; exact hrs
  have hc : ∀ i v, (w.setCell (tog.cA Y.P.p i) v).heap[Y.P.p.Wg]? = w.heap[Y.P.p.Wg]? ∧ (w.setCell (tog.cA Y.P.p i) v).heap[Y.P.p.Rn]? = w.heap[Y.P.p.Rn]? ∧ (w.setCell (tog.cA Y.P.p i) v).heap[Y.P.p.Ot]? = w.heap[Y.P.p.Ot]? := fun i v => heap_c O w i v
  cases s with
  | bx =>
    have old : ∀ b, b < w.heap.size → (w.alloc (.cells #[.pointer (some ⟨Y.P.p.C, 0, none⟩)] Y.P.p.tb)).heap[b]? = w.heap[b]? := fun b hb => by
      show (w.heap.push _)[b]? = _
      rw [Array.getElem?_push_lt hb, Array.getElem?_eq_getElem hb]
    have sz : (w.alloc (.cells #[.pointer (some ⟨Y.P.p.C, 0, none⟩)] Y.P.p.tb)).heap.size = w.heap.size + 1 := by show (w.heap.push _).size = _; simp
    obtain ⟨st, sm, hwg, hm⟩ := G.wg
    have heb : Y.P.p.eb w = #[] := O.p.eb w
    have hn := Nx.bx (p := Y.P.p) (w := w)
    rw [heb] at hn
    exact outB (γ' := γ) O G k0 kN h0 hA0 hn hrs rfl rfl (fun b hb => .inr ⟨by simpa [WS.own] using hb, sz⟩) ph (.inl ⟨trivial, ph.1⟩) (fun fn place pos' ht op hop => by simp [MemOp.ofEvents] at hop) nil_nr rfl (TW.alloc _ _ _) (by omega) (old _ lw) ((old _ lr).trans G.rn) (old _ lo) ((old _ lc).trans G.cs)
      (fun j hj _ => suffers O G (B := w.heap.size) hj (fun b _ hb => old b hb) (fun h => by have := O.p.low _ (.inl h); have := G.world.size; omega) (fun h => by have := (G.own j hj _ h).2; omega) (fun _ => ⟨st, sm, hwg.of_block (old _ lw)⟩) (fun _ => ⟨γ.c, (old _ lc).trans G.cs⟩))
      (fun h => by have := ph.1; omega) (fun mm => by simp [sS]) (Nat.le_refl _)
  | ra ba =>
    have hs1 := set6 G.cs 1
    obtain ⟨p1, p2, p3, p4⟩ := ph
    exact outB (γ' := ⟨{ γ.c with r := 1 }, γ.x⟩) O G k0 kN h0 hA0 (.ra γ.c ba G.cs p3) hrs rfl rfl (fun b hb => .inl hb) ⟨p1, p2, rfl, p4⟩ (.inl ⟨trivial, p1⟩) (evA (eva_rw (.inr (.inr (.inr (.inr rfl)))))) rw_nr rfl (tw_c _ _ _ _) (size_set _ _ _) (hc 6 _).1 ((hc 6 _).2.1.trans G.rn) (hc 6 _).2.2 hs1 (fun j hj _ => suf_c O G hs1 hj) (fun h => by have : γ.c.d = 1 := h; omega) (fun mm => by simp [sS]) (Nat.le_refl _)
  | rl ba =>
    obtain ⟨p1, p2, p3, p4⟩ := ph
    exact outB (γ' := γ) O G k0 kN h0 hA0 (.rl ba γ.x (rn_cell G).1) hrs rfl rfl (fun b hb => .inl hb) ⟨p1, p2, p3, p4, by rw [p4]; decide⟩ (.inl ⟨trivial, p1⟩) (plain (.inr ⟨rfl, .inr (.inr ⟨.inr rfl, rT⟩)⟩) lr) pl_nr rfl (TW.refl _ _) (Nat.le_refl _) rfl G.rn rfl G.cs (fun j _ _ => suffers_same O _) (fun h => by omega) (fun mm => by simp [sS]) (Nat.le_refl _)
  | rs ba y =>
    obtain ⟨p1, p2, p3, p4, p5⟩ := ph
    subst p5
    have hAs := aside_setCell w (nA Y.P.p) (.int .i64 1)
    have hcs : AtCs Y.P.p γ.c (w.setCell (nA Y.P.p) (.int .i64 1)) := (hAs.block _ O.p.cr).trans G.cs
    obtain ⟨st, sm, hwg, hm⟩ := G.wg
    exact outB (γ' := ⟨γ.c, 1⟩) O G k0 kN h0 hA0 (.rs ba γ.x 1 (rn_cell G).1 (rn_cell G).2) hrs rfl rfl (fun b hb => .inl hb) ⟨p1, p2, p3, rfl⟩ (.inl ⟨trivial, p1⟩) (plain (.inr ⟨rfl, .inr (.inr ⟨.inr rfl, rT⟩)⟩) lr) pl_nr rfl (TW.aside hAs (.inr (.inr (.inl rfl)))) (size_set _ _ _) (hAs.block _ O.p.wr) (rn_set G 1) (hAs.block _ O.p.ro.symm) hcs
      (fun j hj _ => suffers_set O G hj O.p.rro (fun h => (blk_high O.p G hj h).2.2.2.1 rfl) ⟨st, sm, hwg.of_block (hAs.block _ O.p.wr)⟩ ⟨_, hcs⟩) (fun h => by have : γ.c.d = 1 := h; omega) (fun mm => by simp [sS]) (Nat.le_refl _)
  | vs ba =>
    have hs1 := set4 G.cs Y.P.p.fin
    obtain ⟨p1, p2, p3, p4⟩ := ph
    exact outB (γ' := ⟨{ γ.c with v := Y.P.p.fin }, γ.x⟩) O G k0 kN h0 hA0 (.vs γ.c ba G.cs) hrs rfl rfl (fun b hb => .inl hb) ⟨p1, p2, p3, p4, rfl⟩ (.inl ⟨trivial, p1⟩) (plain (.inr ⟨rfl, .inr (.inr ⟨.inl rfl, rT⟩)⟩) lc) pl_nr rfl (tw_c _ _ _ _) (size_set _ _ _) (hc 4 _).1 ((hc 4 _).2.1.trans G.rn) (hc 4 _).2.2 hs1 (fun j hj _ => suf_c O G hs1 hj) (fun h => by have : γ.c.d = 1 := h; omega) (fun mm => by simp [sS]) (Nat.le_refl _)
  | cs ba =>
    have hs1 := set5 G.cs 1
    obtain ⟨p1, p2, p3, p4, p5⟩ := ph
    exact outB (γ' := ⟨{ γ.c with cd := 1 }, γ.x⟩) O G k0 kN h0 hA0 (.cs γ.c ba G.cs) hrs rfl rfl (fun b hb => .inl hb) ⟨p1, rfl, p3, p4, p5⟩ (.inl ⟨trivial, p1⟩) (evA (eva_wr (.inr (.inr (.inr (.inl rfl)))))) wr_nr rfl (tw_c _ _ _ _) (size_set _ _ _) (hc 5 _).1 ((hc 5 _).2.1.trans G.rn) (hc 5 _).2.2 hs1 (fun j hj _ => suf_c O G hs1 hj) (fun h => by have : γ.c.d = 1 := h; omega) (fun mm => by simp [sS]) (Nat.le_refl _)
  | os ba =>
    have hs1 := set0 G.cs 1
    obtain ⟨p1, p2, p3, p4, p5⟩ := ph
    refine outB (γ' := ⟨{ γ.c with d := 1 }, γ.x⟩) O G k0 kN h0 hA0 (.os γ.c ba G.cs) hrs rfl rfl (fun b hb => by simp [WS.own] at hb) trivial (.inr ⟨rfl, rfl, p2, p3, p4, p5⟩) (evA (eva_wr (.inl rfl))) wr_nr rfl (tw_c _ _ _ _) (size_set _ _ _) (hc 0 _).1 ((hc 0 _).2.1.trans G.rn) (hc 0 _).2.2 hs1 (fun j hj _ => suf_c O G hs1 hj) (fun _ fn place => ⟨t.size, ?_⟩) (fun mm => by simp [sS, sLk]) (Nat.le_refl _)
    have e1 : MemOp.ofEvents k fn place #[wr (tog.cA Y.P.p 0)] = #[{ g := k, fn, pos := place, act := .access ⟨.cell (tog.cA Y.P.p 0), true, true⟩ }] := by rw [ofEvents_eq]; simp [wr, MemAct.ofEvent]
    rw [e1]
    exact Pub.new (y := { g := k, fn, pos := place, act := .access ⟨.cell (tog.cA Y.P.p 0), true, true⟩ }) rfl (by show Deaf t k = 0; rw [G.df k kN, h0]; rfl)
      (G.pm.w k _ (.inr (.inr ⟨.inr k0, kN, .inl rfl, p1, fun j hj rj => G.alone kN hj rT rj⟩))) (by simp [tog.cA])
  | _ => exact hrs.elim

/-- Whoever reads, hearing, that it has run knows the value's writes. -/
theorem know_rd (O : Y.Ok) (G : Glob Y.P γ pos N w t) (kN : k < N) (hd : γ.c.d = 1) (hdf : dfn (pos k) = 0) (h : ¬ Y.P.d0) (fn : FuncId) (place : String) : PermW (t ++ MemOp.ofEvents k fn place #[rd (tog.cA Y.P.p 0)]) k (.cell (tog.cA Y.P.p 4)) := by
  obtain ⟨r, hr⟩ := (G.pub hd).resolve_left h
  have e1 : MemOp.ofEvents k fn place #[rd (tog.cA Y.P.p 0)] = #[{ g := k, fn, pos := place, act := .access ⟨.cell (tog.cA Y.P.p 0), false, true⟩ }] := by rw [ofEvents_eq]; simp [rd, MemAct.ofEvent]
  rw [e1]
  exact hr.get (y := { g := k, fn, pos := place, act := .access ⟨.cell (tog.cA Y.P.p 0), false, true⟩ }) rfl (by show Deaf t k = 0; rw [G.df k kN]; exact hdf) (by simp [tog.cA])
theorem rdA0 {p : Tp} : ∀ e ∈ #[rd (tog.cA p 0)], e ≠ wr (tog.cA p 0) := by intro e he; simp at he; subst he; simp [rd, wr]

theorem op_od (O : Y.Ok) (G : Glob Y.P γ pos N w t) (k0 : Y.P.N0 ≤ k) (kN : k < N) (h0 : pos k = .on (.tk bi ix .od) m) (hA0 : At Y.P.p bi ix .od g w) : Out (sys Y) γ pos N k (.tk bi ix .od) g w t := by
  have tk := tag_tk h0
  have hf : (fun j => lkOf (pos j)) k = .off := by show lkOf (pos k) = .off; unfold lkOf; rw [tk]; rfl
  have wsame : Wd Y pos N k w w := wd_heap O G rfl (TW.refl _ _)
  have hn := Nx.od (p := Y.P.p) γ.c G.cs
  by_cases hd : γ.c.d = 0
  · rw [if_pos hd] at hn
    exact outA O G k0 kN h0 hA0 hn γ.c.m γ.c.s (fun h => h) rfl trivial (fun h => h.elim) (eva_rd (.inl rfl)) rd_nr rfl rdA0 wsame G.cs (lock_role G.lock kN trivial (by show _ = rH (lkOf (pos k)) ∧ _ = rQ (lkOf (pos k)) ∧ _ = rV (lkOf (pos k)) ∧ _ = rA (lkOf (pos k)) ∧ _ = rR (lkOf (pos k)) ∧ _ = rS (lkOf (pos k)) ∧ _ = rU (lkOf (pos k)) ∧ _ = rW (lkOf (pos k)); rw [show lkOf (pos k) = .off from hf]; exact ⟨rfl, rfl, rfl, rfl, rfl, rfl, rfl, rfl⟩)) (.inl id) (fun h => h.elim) (.inl ⟨rfl, rfl, Nat.le_refl _, by simp [sS, sLk]⟩)
  · rw [if_neg hd] at hn
    have hd1 : γ.c.d = 1 := G.d01.resolve_left hd
    exact outA O G k0 kN h0 hA0 hn γ.c.m γ.c.s (fun h => h) rfl trivial (fun _ => hd1) (eva_rd (.inl rfl)) rd_nr rfl rdA0 wsame G.cs (LockInv.same G.lock hf) (.inl id) (fun _ _ h fn place => know_rd O G kN hd1 (by rw [h0]; rfl) h fn place) (.inl ⟨rfl, rfl, Nat.zero_le _, by simp [sS]⟩)
theorem op_o2 (O : Y.Ok) (G : Glob Y.P γ pos N w t) (k0 : Y.P.N0 ≤ k) (kN : k < N) (h0 : pos k = .on (.tk bi ix .o2) m) (hA0 : At Y.P.p bi ix .o2 g w) : Out (sys Y) γ pos N k (.tk bi ix .o2) g w t := by
  have tk := tag_tk h0
  have hf : (fun j => lkOf (pos j)) k = .cr := by show lkOf (pos k) = .cr; unfold lkOf; rw [tk]; rfl
  have wsame : Wd Y pos N k w w := wd_heap O G rfl (TW.refl _ _)
  have hn := Nx.o2 (p := Y.P.p) γ.c G.cs
  by_cases hd : γ.c.d = 0
  · rw [if_pos hd] at hn
    have hi : Idle Y.P.p γ := G.once.idle fun j hj rj => by
      by_cases e : j = k
      · subst e; rw [tk] at rj; exact rj
      · have h1 : rH (lkOf (pos j)) = 0 := G.lock.alone kN (by show rH (lkOf (pos k)) = 1; rw [show lkOf (pos k) = _ from hf]; rfl) hj e
        have h2 : rH (lkOf (pos j)) = 1 := runT_cr rj
        omega
    have hi' : γ.c.d = 0 ∧ γ.c.cd = 0 ∧ γ.c.r = 0 ∧ γ.x = 0 := by
      rcases hi with h | h
      · exact h
      · have := h.1; omega
    exact outA O G k0 kN h0 hA0 hn γ.c.m γ.c.s (fun h => h) rfl hi' (fun h => h.elim) (eva_rd (.inl rfl)) rd_nr rfl rdA0 wsame G.cs (LockInv.same G.lock hf) (.inl id) (fun h => h.elim) (.inl ⟨rfl, rfl, Nat.le_refl _, by simp [sS]⟩)
  · rw [if_neg hd] at hn
    have hd1 : γ.c.d = 1 := G.d01.resolve_left hd
    exact outA O G k0 kN h0 hA0 hn γ.c.m γ.c.s (fun h => h) rfl trivial (fun _ => hd1) (eva_rd (.inl rfl)) rd_nr rfl rdA0 wsame G.cs (G.lock.cr kN hf) (.inl id) (fun _ _ h fn place => know_rd O G kN hd1 (by rw [h0]; rfl) h fn place) (.inl ⟨rfl, rfl, Nat.le_refl _, by simp [sS, sLk]⟩)
theorem op_gv (O : Y.Ok) (G : Glob Y.P γ pos N w t) (k0 : Y.P.N0 ≤ k) (kN : k < N) (h0 : pos k = .on (.tk bi ix .gv) m) (hA0 : At Y.P.p bi ix .gv g w) : Out (sys Y) γ pos N k (.tk bi ix .gv) g w t := by
  have k1 : k ≠ 0 := by have := O.p.n0; omega
  have tk := tag_tk h0
  have hf : (fun j => lkOf (pos j)) k = .off := by show lkOf (pos k) = .off; unfold lkOf; rw [tk]; rfl
  have hd := G.once.kn k k0 kN (.inl (by rw [tk]; trivial))
  have hv := (G.done hd).2.2.2.2
  have hn := Nx.gv (p := Y.P.p) γ.c G.cs
  refine outTk (γ' := ⟨{ γ.c with m := γ.c.m, s := γ.c.s }, γ.x⟩) O G k0 h0 hA0 hn (fun j _ _ => suffers_same O _) fun pos' ht G' h0' hmw fn place => ⟨?_, phi_tk_small G' kN k1 h0' rfl rfl rfl (Nat.le_refl _) (by simp [sS])⟩
  have tk' := tag_tk h0'
  refine tkA0 O G' k0 kN h0' (s' := .ow γ.c.v) rfl (fun x e => by cases e) rfl (fun h => h) rfl hv (fun _ => hd) (tch_one (.inr ⟨rfl, .inl ⟨rfl, .inr (.inr (.inl ⟨rfl, by rw [tk']; trivial⟩))⟩⟩) (low_c O G).1) pl_nr rfl (fun op hop sync e => ?_) (TW.refl _ _) (Nat.le_refl _) rfl rfl rfl G.cs
    (LockInv.same G'.lock (by show lkOf (pos' k) = _; unfold lkOf; rw [tk']; rfl)) (fun j j0 jN x e => ?_) (fun _ h => absurd trivial h)
  · rw [ofEvents_eq] at hop
    obtain ⟨e', he, rfl⟩ := Array.mem_map.1 hop
    simp at he; subst he
    simp [MemAct.ofEvent] at e
  · by_cases e1 : j = k
    · subst e1; rw [upd_same] at e; cases e
    · rw [upd_ne _ _ e1] at e; exact G'.sem j j0 jN x e

theorem op_ow (O : Y.Ok) {v : Value} (G : Glob Y.P γ pos N w t) (k0 : Y.P.N0 ≤ k) (kN : k < N) (h0 : pos k = .on (.tk bi ix (.ow v)) m) (hA0 : At Y.P.p bi ix (.ow v) g w) : Out (sys Y) γ pos N k (.tk bi ix (.ow v)) g w t := by
  have n0 := O.p.n0
  have k1 : k ≠ 0 := by omega
  have hk0 : (k == 0) = false := by simpa using k1
  have tk := tag_tk h0
  have hd := G.once.kn k k0 kN (.inl (by rw [tk]; trivial))
  have hv : v = Y.P.p.fin := G.once.run k kN bi ix _ tk
  subst hv
  have hix := G.fits.ix k k0 kN bi ix _ tk
  have hsz := G.fits.size
  obtain ⟨o, o1, o2, o3⟩ := G.ot
  have hlt : ix < o.size := by omega
  have hcell : w.cell? (oA Y.P.p ix) = some o[ix] := by simp [World.cell?, oA, o1, hlt]
  have hfz : w.frozen? (oA Y.P.p ix) = false := by simp [World.frozen?, oA, o1]
  obtain ⟨g', hst, hr, hg⟩ := hA0.law.out Y.P.p.fin rfl O.p.fin ⟨_, hcell⟩ hfz
  have hAs := aside_setCell w (oA Y.P.p ix) Y.P.p.fin
  have hcs : AtCs Y.P.p γ.c (w.setCell (oA Y.P.p ix) Y.P.p.fin) := (hAs.block _ O.p.co).trans G.cs
  obtain ⟨st, sm, hwg, hm⟩ := G.wg
  have hwg' := hwg.of_block (hAs.block Y.P.p.Wg O.p.wo)
  refine outWork (γ' := γ) (q := .on (.k0 bi) 400) O G k1 h0 hst (.inl hr) (by show Goes Try.prog (k == 0) (RT Y.P.p [bi]) (DT Y.P.p [bi]) _ 400 g' _; rw [hk0]; exact hg)
    (fun j hj _ => suffers_set O G hj O.p.oro (fun h => (blk_high O.p G hj h).2.2.2.2 rfl) ⟨st, sm, hwg'⟩ ⟨_, hcs⟩) fun pos' ht G' h0' _ fn place => ?_
  have tk' := tag_tk h0'
  obtain ⟨st, sm, hwg, hm⟩ := G'.wg
  have e8 : wst (pos' k) = 8 := by unfold wst; rw [tk']; rfl
  have hf : (fun j => lkOf (pos' j)) k = .off := by show lkOf (pos' k) = .off; unfold lkOf; rw [tk']; rfl
  refine ⟨G'.work O.p k0 kN (tch_one (.inr ⟨rfl, .inr (.inl ⟨ix, hix, rfl⟩)⟩) (low_c O G).2.2.2) pl_nr (by rw [h0']; rfl) (.inl (by omega)) (by simp [wst, wT, tagOf]) (fun x e => by cases e) (fun bi' ix' s2 e => by simp [tagOf] at e) (fun h => by simp [wst, wT, tagOf] at h) (G'.world.trans (TW.aside hAs (.inr (.inr (.inr rfl))))) (size_set _ _ _)
    (hwg.of_block (hAs.block Y.P.p.Wg O.p.wo)) (hm.counted k0 kN k1 (by omega) (by simp [wst, wT, tagOf])) hcs (LockInv.same G'.lock hf) (fun j j0 jN x e => ?_) ⟨fun j hj bi' ix' s2 e => ?_, fun h => G'.once.idle fun j hj rj => ?_, fun j j0 jN h => ?_, G'.once.d0⟩ (fun e => .inl ⟨e, fun op hop sync e => ?_⟩) ((hAs.block _ O.p.ro).trans G'.rn) ?_ (fun b hb => .inl ?_) (fun bi' ix' s2 b e => by simp [tagOf] at e) (fun e => ⟨e, fun h => by rw [tk'] at h; exact h.elim⟩) (fun h => h.elim), ?_⟩
  · by_cases e1 : j = k
    · subst e1; rw [upd_same] at e; cases e
    · rw [upd_ne _ _ e1] at e; exact G'.sem j j0 jN x e
  · by_cases x : j = k
    · subst x; rw [upd_same] at e; simp [tagOf] at e
    · rw [upd_ne _ _ x] at e; exact G'.once.run j hj bi' ix' s2 e
  · by_cases x : j = k
    · subst x; rw [tk'] at rj; exact rj
    · exact h j hj (by rw [upd_ne _ _ x]; exact rj)
  · by_cases x : j = k
    · exact hd
    · rw [upd_ne _ _ x] at h; exact G'.once.kn j j0 jN h
  · rw [ofEvents_eq] at hop
    obtain ⟨e', he, rfl⟩ := Array.mem_map.1 hop
    simp at he; subst he
    simp [MemAct.ofEvent] at e
    exact O.p.co (by have := congrArg Addr.block e.1; simp [oA, tog.cA] at this; exact this.symm)
  · refine ⟨o.set ix Y.P.p.fin, ?_, by simp [o2], fun j j0 jN h => ?_⟩
    · simp [World.setCell, oA, Array.getElem?_modify, o1, Array.setIfInBounds, hlt]
    · by_cases x : j = k
      · subst x
        have : j - Y.P.N0 = ix := by omega
        rw [this]; simp [hlt]
      · rw [upd_ne _ _ x] at h
        have h3 := o3 j j0 jN (by rw [← wst_congr (ht j)]; exact h)
        rw [Array.getElem?_set_ne (h := hlt)]
        · exact h3
        · omega
  · rw [tk']
    simp only [tagOf, blkT, List.mem_cons] at hb ⊢
    exact .inl (by simpa using hb)
  · refine phi_small kN k1 rfl rfl ?_ (Nat.zero_le _) (by rw [tk']; simp [sT, tagOf, sS])
    have := V_upd (pos := pos') (.on (.k0 bi) 400) kN
    have c1 : cn (pos' k) = 1 := by unfold cn; rw [if_pos (by omega)]
    have c2 : cn (.on (.k0 bi) 400) = 1 := rfl
    omega
end
end Go.Proofs.Ytdkbkocklnnmdaa.tgs
/-
  Together: a worker's Done; leaving; silent steps; the system is sound. Conditions: those of the structure Ways.Ok.
-/
set_option linter.unusedVariables false
set_option linter.unusedSectionVars false
set_option linter.unusedSimpArgs false
namespace Go.Proofs.Ytdkbkocklnnmdaa.tgs
open Go Go.Conc Go.Proofs.Ytdkbkocklnnmdaa.mach Go.Proofs.Ytdkbkocklnnmdaa.wg Go.Proofs.Ytdkbkocklnnmdaa.tog Go.Proofs.Ytdkbkocklnnmdaa.lock
open Go.ConcN (upd upd_same upd_ne sumTo sumTo_upd sumTo_congr le_sumTo sumTo_upd_out sumTo_le RelBy WgLive RW PayAt AtR0 AtK1 AtD1 AtD2 AtD3 AtD4 RelBy.appOther RelBy.appOwn RelBy.new PermW PermW.app Deaf_absent)
open Go.ConcR (KK WgAt stA smA rd wr mk DC0 g_of_ofEvents)
open Go.Proofs.Ytdkbkocklnnmdaa.crew (Handed Handed.app Handed.appOther Handed.appMute norel_all mk_nr rw_nr rd_nr wr_nr sem_nr KK_inj deaf_rw deaf_rd deaf_wr deaf_sem mute_none)

section
variable {Y : Ways} {γ γ' : Gam} {pos : Nat → Ps} {N k : Nat} {w w' : World} {t : Trace} {s : Stg} {m m' : Nat} {g g' : Goroutine} {es : Array Event} {q : Ps} {fn : FuncId} {place : String}

/-- An entry that touches nothing, or the group's block by an atomic step. -/
def EvG (Wg : Nat) (e : Event) : Prop := ∀ x, (MemAct.ofEvent e).touch? = some x → inB Wg x.loc ∧ x.kind = .atomic
theorem evg_mk {Wg : Nat} {mm : Mark} (h : (MemAct.mark mm).touch? = none) : ∀ e ∈ #[mk mm], EvG Wg e := by
  intro e he; simp at he; subst he
  intro x hx
  have : (MemAct.ofEvent (mk mm)).touch? = none := h
  rw [this] at hx; cases hx
theorem evg_cell {Wg : Nat} {a : Addr} {wr : Bool} (h : a.block = Wg) : EvG Wg ⟨.cell a, wr, true⟩ := fun x hx => by
  have : x = ⟨.cell a, wr, .atomic⟩ := (Option.some.inj hx).symm
  subst this; exact ⟨⟨a, rfl, h⟩, rfl⟩
theorem evg_rw {Wg : Nat} {a : Addr} (h : a.block = Wg) : ∀ e ∈ #[rd a, wr a], EvG Wg e := by
  intro e he; simp at he; rcases he with rfl | rfl <;> exact evg_cell h
theorem evg_rd {Wg : Nat} {a : Addr} (h : a.block = Wg) : ∀ e ∈ #[rd a], EvG Wg e := by
  intro e he; simp at he; subst he; exact evg_cell h
theorem evg_wr {Wg : Nat} {a : Addr} (h : a.block = Wg) : ∀ e ∈ #[wr a], EvG Wg e := by
  intro e he; simp at he; subst he; exact evg_cell h
theorem evg_sem {Wg : Nat} {a : Addr} (h : a.block = Wg) : ∀ e ∈ semEvents a, EvG Wg e := by
  intro e he; simp [semEvents] at he
  rcases he with rfl | rfl | rfl | rfl
  · intro x hx; cases hx
  · exact evg_cell h
  · exact evg_cell h
  · intro x hx; cases hx
theorem tch_g (O : Y.Ok) (G : Glob Y.P γ pos N w t) (h : ∀ e ∈ es, EvG Y.P.p.Wg e) : ∀ op ∈ MemOp.ofEvents k fn place es, ∀ x, op.act.touch? = some x → Tch Y.P pos N k x ∧ ∀ a, x.loc = .cell a → a.block < w.heap.size := by
  intro op hop x hx
  rw [ofEvents_eq] at hop
  obtain ⟨e, he, rfl⟩ := Array.mem_map.1 hop
  obtain ⟨h1, h2⟩ := h e he x hx
  refine ⟨.inl ⟨sh_wg O.p h1, h2⟩, fun a ha => ?_⟩
  rw [ha] at h1
  rw [inB_cell h1]
  exact (low_c O G).2.1

/-- A step of one that has its answer: to q, which is such a place, too. -/
theorem workStep (O : Y.Ok) (G : Glob Y.P γ pos N w t) (k0 : Y.P.N0 ≤ k) (kN : k < N) (h7 : wst (pos k) ≤ 7) (h1 : wst (pos k) ≠ 1 ∨ ∀ op ∈ MemOp.ofEvents k fn place es, op.act.touch? = none) (hq1 : 1 ≤ wst q) (hq7 : wst q ≤ 7) (hqb : ∀ x, q ≠ .blk x) (hbl : ∀ b, b ∈ blkT (tagOf q) → b ∈ blkT (tagOf (pos k)))
    (hT : ∀ op ∈ MemOp.ofEvents k fn place es, ∀ x, op.act.touch? = some x → Tch Y.P pos N k x ∧ ∀ a, x.loc = .cell a → a.block < w.heap.size) (hn0 : ∀ op ∈ MemOp.ofEvents k fn place es, ∀ sync, op.act ≠ .access ⟨.cell (tog.cA Y.P.p 0), true, sync⟩) (hnr : ∀ e ∈ es, ∀ ar : Addr, e.loc ≠ .mark (.release ar)) (hdf : deafBehind (dfn (pos k)) es = dfn q)
    (hrel : wst q ≤ 6 → ∃ r, RelBy (stA Y.P.p.Wg) (t ++ MemOp.ofEvents k fn place es) k r)
    (hw : TW Y.P.p w w') (hsz : w.heap.size ≤ w'.heap.size) (hC : w'.heap[Y.P.p.C]? = w.heap[Y.P.p.C]? ∧ w'.heap[Y.P.p.Rn]? = w.heap[Y.P.p.Rn]? ∧ w'.heap[Y.P.p.Ot]? = w.heap[Y.P.p.Ot]?) {st sm : Int} (hwg : WgAt 96 Y.P.p.Wg w' st sm) (hm : Mode (upd pos k q) Y.P.N0 N st sm) :
    Glob Y.P γ (upd pos k q) N w' (t ++ MemOp.ofEvents k fn place es) := by
  have ntk : ∀ {x : Ps}, wst x ≤ 7 → ∀ bi ix s, tagOf x ≠ some (.tk bi ix s) := fun {x} h bi ix s e => by unfold wst at h; rw [e] at h; simp [wT] at h
  have nrun : ∀ {x : Ps}, wst x ≤ 7 → ¬ runT (tagOf x) ∧ ¬ knT (tagOf x) ∧ lkOf x = .off := fun {x} h => by
    cases e : tagOf x with
    | none => exact ⟨fun h => h, fun h => h, by unfold lkOf; rw [e]; rfl⟩
    | some s => cases s with
      | tk bi ix s => exact absurd e (ntk h bi ix s)
      | _ => exact ⟨fun h => h, fun h => h, by unfold lkOf; rw [e]; rfl⟩
  have hd := G.once.kn k k0 kN (.inr h7)
  refine G.work O.p k0 kN hT hnr hdf h1 hq1 (fun x e => absurd e (hqb x)) (fun bi ix s e => absurd e (ntk hq7 bi ix s)) hrel (G.world.trans hw) hsz hwg hm (hC.1.trans G.cs) (by rw [(nrun hq7).2.2]; exact LockInv.same G.lock (nrun h7).2.2) (fun j j0 jN x e => ?_)
    ⟨fun j hj bi ix s e => ?_, fun h => G.once.idle fun j hj rj => ?_, fun j j0 jN h => ?_, G.once.d0⟩ (fun e => .inl ⟨e, hn0⟩) (hC.2.1.trans G.rn) ?_ (fun b hb => .inl (hbl b hb)) (fun bi ix s b e => absurd e (ntk hq7 bi ix s)) (fun e => ⟨e, fun h => absurd h (nrun h7).1⟩) (fun h => absurd h (nrun hq7).2.1)
  · by_cases e1 : j = k
    · subst e1; rw [upd_same] at e; exact absurd e (hqb x)
    · rw [upd_ne _ _ e1] at e; exact G.sem j j0 jN x e
  · by_cases x : j = k
    · subst x; rw [upd_same] at e; exact absurd e (ntk hq7 bi ix s)
    · rw [upd_ne _ _ x] at e; exact G.once.run j hj bi ix s e
  · by_cases x : j = k
    · subst x; exact (nrun h7).1 rj
    · exact h j hj (by rw [upd_ne _ _ x]; exact rj)
  · by_cases x : j = k
    · exact hd
    · rw [upd_ne _ _ x] at h; exact G.once.kn j j0 jN h
  · obtain ⟨o, o1, o2, o3⟩ := G.ot
    refine ⟨o, hC.2.2.trans o1, o2, fun j j0 jN h => ?_⟩
    by_cases x : j = k
    · subst x; exact o3 j j0 jN h7
    · rw [upd_ne _ _ x] at h; exact o3 j j0 jN h

theorem no_w0g (O : Y.Ok) (hev : ∀ e ∈ es, EvG Y.P.p.Wg e) : ∀ op ∈ MemOp.ofEvents k fn place es, ∀ sync, op.act ≠ .access ⟨.cell (tog.cA Y.P.p 0), true, sync⟩ := by
  intro op hop sync e
  rw [ofEvents_eq] at hop
  obtain ⟨e', he, rfl⟩ := Array.mem_map.1 hop
  have hx : (MemAct.ofEvent e').touch? = some ⟨.cell (tog.cA Y.P.p 0), true, if sync then .atomic else .plain⟩ := by simp only at e; rw [e]; rfl
  exact O.p.cw (inB_cell (hev e' he _ hx).1)
theorem rk_refl (w : World) : RK Y w w := Go.ConcN.RW.refl w
theorem runs_of {S : Goroutine → World → Prop} {R : World → World → Prop} {D : World → World → Array Event → Prop} (refl : ∀ w, R w w) (hS : ∀ g w, S g w → g.status = .running) {n : Nat} (h : Goes Try.prog false R D S n g w) : g.status = .running :=
  Goes.running hS w (refl w) h
theorem holds_w (k1 : k ≠ 0) {s : Stg} {n : Nat} (h : Goes Try.prog false (rely Y s) (guar Y s) (stops Y s) n g w) : (sys Y).Holds k (.on s n) g w := by
  show Goes Try.prog (k == 0) (rely Y s) (guar Y s) (stops Y s) n g w
  rw [show (k == 0) = false by simpa using k1]
  exact h
theorem rel_mute (G : Glob Y.P γ pos N w t) (k0 : Y.P.N0 ≤ k) (kN : k < N) (h6 : wst (pos k) ≤ 6) (fn : FuncId) (place : String) (hes : ∀ e ∈ es, (MemAct.ofEvent e).touch? = none) : ∃ r, RelBy (stA Y.P.p.Wg) (t ++ MemOp.ofEvents k fn place es) k r := by
  obtain ⟨r, hr⟩ := G.rel k k0 kN h6
  exact ⟨r, hr.appOwn fn place es fun j e he => .inl (hes e (Array.mem_of_getElem? he))⟩
theorem rel_deaf (G : Glob Y.P γ pos N w t) (k0 : Y.P.N0 ≤ k) (kN : k < N) (h6 : wst (pos k) ≤ 6) (hd : dfn (pos k) = 1) (fn : FuncId) (place : String)
    (hes : ∀ j e, es[j]? = some e → (MemAct.ofEvent e).touch? = none ∨ ((∃ ad wr, e = ⟨.cell ad, wr, true⟩) ∧ 0 < deafBehind 1 (es.extract 0 j))) : ∃ r, RelBy (stA Y.P.p.Wg) (t ++ MemOp.ofEvents k fn place es) k r := by
  obtain ⟨r, hr⟩ := G.rel k k0 kN h6
  exact ⟨r, hr.appOwn fn place es (by rw [G.df k kN, hd]; exact hes)⟩
theorem V_upd_le (hk : k < N) (h : cn q ≤ cn (pos k)) : V (upd pos k q) N ≤ V pos N := by have := V_upd (pos := pos) q hk; omega
theorem last_facts (G : Glob Y.P γ pos N w t) (k0 : Y.P.N0 ≤ k) (kN : k < N) (k1 : k ≠ 0) (h : wst (pos k) = 4 ∨ wst (pos k) = 3 ∨ wst (pos k) = 2) :
    w3T (tagOf (pos 0)) ∧ (∀ a, Y.P.N0 ≤ a → a < N → a ≠ k → wst (pos a) = 1) ∧ WgAt 96 Y.P.p.Wg w (if wst (pos k) = 2 then 0 else 1) 0 := by
  obtain ⟨st, sm, hwg, hm⟩ := G.wg
  obtain ⟨a, b, rfl, rfl⟩ := hm.isLast k0 kN k1 h
  exact ⟨a, b, hwg⟩

/-- One step of Done's, whole. -/
theorem outD (O : Y.Ok) (G : Glob Y.P γ pos N w t) (k0 : Y.P.N0 ≤ k) (kN : k < N) (h0 : pos k = .on s m) (hs : stepG Try.prog false g w = .go g' w' es) (hr : g'.status = .running ∨ g'.status = .finished) (hh : (sys Y).Holds k q g' w')
    (hb0 : blkT (tagOf q) = []) (h7 : wst (.on s m) ≤ 7) (h1 : wst (.on s m) ≠ 1) (hq1 : 1 ≤ wst q) (hq7 : wst q ≤ 7) (hqb : ∀ x, q ≠ .blk x) (hev : ∀ e ∈ es, EvG Y.P.p.Wg e) (hnr : ∀ e ∈ es, ∀ ar : Addr, e.loc ≠ .mark (.release ar)) (hdf : deafBehind (dfn (.on s m)) es = dfn q)
    (hcn : cn q ≤ cn (.on s m)) (hbd : bdT (tagOf q) = 0) (hsT : ∀ mm, sT mm (tagOf q) < sT mm (some s))
    (hwd : w' = w ∨ ∃ a v, a.block = Y.P.p.Wg ∧ w' = w.setCell a v ∧ WgLive 96 Y.P.p.Wg w')
    (key : ∀ pos', (∀ a, tagOf (pos' a) = tagOf (pos a)) → Glob Y.P γ pos' N w t → pos' k = .on s m → (mayWake Try.prog g = true → Up (pos' 0)) → ∃ st sm, WgAt 96 Y.P.p.Wg w' st sm ∧ Mode (upd pos' k q) Y.P.N0 N st sm)
    (hrel : ∀ pos', Glob Y.P γ pos' N w t → pos' k = .on s m → ∀ fn place, wst q ≤ 6 → ∃ r, RelBy (stA Y.P.p.Wg) (t ++ MemOp.ofEvents k fn place es) k r) :
    Out (sys Y) γ pos N k s g w t := by
  have k1 : k ≠ 0 := by have := O.p.n0; omega
  have facts : TW Y.P.p w w' ∧ w.heap.size ≤ w'.heap.size ∧ (w'.heap[Y.P.p.C]? = w.heap[Y.P.p.C]? ∧ w'.heap[Y.P.p.Rn]? = w.heap[Y.P.p.Rn]? ∧ w'.heap[Y.P.p.Ot]? = w.heap[Y.P.p.Ot]?) ∧ ∀ j, j < N → j ≠ k → (sys Y).Suffers (pos j) w w' := by
    rcases hwd with rfl | ⟨a, v, ha, rfl, hl⟩
    · exact ⟨TW.refl _ _, Nat.le_refl _, ⟨rfl, rfl, rfl⟩, fun j _ _ => suffers_same O _⟩
    · exact ⟨TW.aside (aside_setCell w a v) (.inr (.inl ha)), size_set _ _ _, heap_wg O ha, fun j hj _ => suf_wg O G ha hl hj⟩
  obtain ⟨f1, f2, f3, f4⟩ := facts
  refine outWork (γ' := γ) O G k1 h0 hs hr hh f4 fun pos' ht G' h0' hup fn place => ?_
  obtain ⟨st, sm, hwg, hm⟩ := key pos' ht G' h0' (fun e s x => hup e 0 s x)
  refine ⟨workStep O G' k0 kN (by rw [h0']; exact h7) (.inl (by rw [h0']; exact h1)) hq1 hq7 hqb (fun b hb => by rw [hb0] at hb; simp at hb) (tch_g O G' hev) (no_w0g O hev) hnr (by rw [h0']; exact hdf) (hrel pos' G' h0' fn place) f1 f2 f3 hwg hm, ?_⟩
  exact phi_small kN k1 rfl rfl (V_upd_le kN (by rw [h0']; exact hcn)) (by rw [hbd]; exact Nat.zero_le _) (by rw [h0']; exact hsT _)

theorem op_k0 (O : Y.Ok) {bi : Nat} (G : Glob Y.P γ pos N w t) (k0 : Y.P.N0 ≤ k) (kN : k < N) (h0 : pos k = .on (.k0 bi) m) (hA : stops Y (.k0 bi) g w) : Out (sys Y) γ pos N k (.k0 bi) g w t := by
  have k1 : k ≠ 0 := by have := O.p.n0; omega
  obtain ⟨hrun, hhas, g', hst, m', hg⟩ := hA
  refine outD (q := .on .k1 m') O G k0 kN h0 hst (.inl (runs_of rk_refl (fun _ _ h => h.1) hg)) (holds_w k1 hg) rfl (by simp [wst, wT, tagOf]) (by simp [wst, wT, tagOf]) (by simp [wst, wT, tagOf]) (by simp [wst, wT, tagOf]) (fun x e => by cases e) (evg_mk rfl) (mk_nr (by intro a h; cases h)) rfl (Nat.le_refl 1) rfl (by simp [sT, tagOf]) (.inl rfl)
    (fun pos' ht G' h0' _ => ?_) (fun pos' G' h0' fn place _ => ⟨t.size, RelBy.new (by rw [G'.df k kN, h0']; rfl) fn place⟩)
  obtain ⟨st, sm, hwg, hm⟩ := G'.wg
  exact ⟨st, sm, hwg, hm.counted k0 kN k1 (by rw [h0']; simp [wst, wT, tagOf]) (by simp [wst, wT, tagOf])⟩
theorem op_k1 (O : Y.Ok) (G : Glob Y.P γ pos N w t) (k0 : Y.P.N0 ≤ k) (kN : k < N) (h0 : pos k = .on .k1 m) (hA : stops Y .k1 g w) : Out (sys Y) γ pos N k .k1 g w t := by
  have k1 : k ≠ 0 := by have := O.p.n0; omega
  obtain ⟨hrun, g', hst, m', hg⟩ := hA
  refine outD (q := .on .d1 m') O G k0 kN h0 hst (.inl (runs_of rk_refl (fun _ _ h => h.1) hg)) (holds_w k1 hg) rfl (by simp [wst, wT, tagOf]) (by simp [wst, wT, tagOf]) (by simp [wst, wT, tagOf]) (by simp [wst, wT, tagOf]) (fun x e => by cases e) (evg_mk rfl) (mk_nr (by intro a h; cases h)) rfl (Nat.le_refl 1) rfl (by simp [sT, tagOf]) (.inl rfl)
    (fun pos' ht G' h0' _ => ?_) (fun pos' G' h0' fn place _ => rel_mute G' k0 kN (by rw [h0']; simp [wst, wT, tagOf]) fn place (by intro e he; simp at he; subst he; rfl))
  obtain ⟨st, sm, hwg, hm⟩ := G'.wg
  exact ⟨st, sm, hwg, hm.counted k0 kN k1 (by rw [h0']; simp [wst, wT, tagOf]) (by simp [wst, wT, tagOf])⟩
theorem op_d1 (O : Y.Ok) (G : Glob Y.P γ pos N w t) (k0 : Y.P.N0 ≤ k) (kN : k < N) (h0 : pos k = .on .d1 m) (hA : stops Y .d1 g w) : Out (sys Y) γ pos N k .d1 g w t := by
  have k1 : k ≠ 0 := by have := O.p.n0; omega
  have hNs : N < 2147483648 := by have := G.fits.size; have := O.p.small; omega
  obtain ⟨hrun, hall⟩ := hA
  obtain ⟨st, sm, hwg, hm⟩ := G.wg
  obtain ⟨v, wt, hwt, hv, rfl, rfl, -, -⟩ := hm.minus k0 kN k1 hNs (by rw [h0]; rfl)
  obtain ⟨g', hst, h4, h1⟩ := hall v wt hwt hv hwg
  have hw' := hwg.setSt ((v : Int) * KK + wt)
  have same : ∀ pos', Glob Y.P γ pos' N w t → pos' k = .on .d1 m → ((v = 0 ∧ wt = 1) → ∀ p, wst p = 4 → Mode (upd pos' k p) Y.P.N0 N ((v : Int) * KK + wt) 0) ∧ (¬ (v = 0 ∧ wt = 1) → ∀ p, wst p = 1 → Mode (upd pos' k p) Y.P.N0 N ((v : Int) * KK + wt) 0) := by
    intro pos' G' h0'
    obtain ⟨st', sm', hwg', hm'⟩ := G'.wg
    obtain ⟨v', wt', hwt', hv', rfl, rfl, a, b⟩ := hm'.minus k0 kN k1 hNs (by rw [h0']; rfl)
    have e := (hwg'.unique hwg).1
    have : v' = v ∧ wt' = wt := by simp only [KK] at e; omega
    obtain ⟨rfl, rfl⟩ := this
    exact ⟨a, b⟩
  by_cases hc : v = 0 ∧ wt = 1
  · obtain ⟨m', hg⟩ := h4 hc
    exact outD (q := .on .d2 m') O G k0 kN h0 hst (.inl (runs_of rk_refl (fun _ _ h => h.1) hg)) (holds_w k1 hg) rfl (by simp [wst, wT, tagOf]) (by simp [wst, wT, tagOf]) (by simp [wst, wT, tagOf]) (by simp [wst, wT, tagOf]) (fun x e => by cases e) (evg_rw rfl) rw_nr rfl (Nat.zero_le _) rfl (by simp [sT, tagOf]) (.inr ⟨_, _, rfl, rfl, _, _, hw'⟩)
      (fun pos' ht G' h0' _ => ⟨_, _, hw', (same pos' G' h0').1 hc _ rfl⟩) (fun pos' G' h0' fn place _ => rel_deaf G' k0 kN (by rw [h0']; simp [wst, wT, tagOf]) (by rw [h0']; rfl) fn place deaf_rw)
  · obtain ⟨qn, hq⟩ := h1 hc
    exact outD (q := .quit qn 1) O G k0 kN h0 hst hq.status ⟨k1, hq⟩ rfl (by simp [wst, wT, tagOf]) (by simp [wst, wT, tagOf]) (by simp [wst, wT, tagOf]) (by simp [wst, wT, tagOf]) (fun x e => by cases e) (evg_rw rfl) rw_nr rfl (Nat.zero_le _) rfl (by simp [sT, tagOf]) (.inr ⟨_, _, rfl, rfl, _, _, hw'⟩)
      (fun pos' ht G' h0' _ => ⟨_, _, hw', (same pos' G' h0').2 hc _ rfl⟩) (fun pos' G' h0' fn place _ => rel_deaf G' k0 kN (by rw [h0']; simp [wst, wT, tagOf]) (by rw [h0']; rfl) fn place deaf_rw)
theorem op_d2 (O : Y.Ok) (G : Glob Y.P γ pos N w t) (k0 : Y.P.N0 ≤ k) (kN : k < N) (h0 : pos k = .on .d2 m) (hA : stops Y .d2 g w) : Out (sys Y) γ pos N k .d2 g w t := by
  have k1 : k ≠ 0 := by have := O.p.n0; omega
  obtain ⟨hrun, hall⟩ := hA
  obtain ⟨-, -, hwg⟩ := last_facts G k0 kN k1 (by rw [h0]; exact .inl rfl)
  rw [h0] at hwg
  obtain ⟨g', hst, m', hg⟩ := hall hwg
  refine outD (q := .on .d3 m') O G k0 kN h0 hst (.inl (runs_of rk_refl (fun _ _ h => h.1) hg)) (holds_w k1 hg) rfl (by simp [wst, wT, tagOf]) (by simp [wst, wT, tagOf]) (by simp [wst, wT, tagOf]) (by simp [wst, wT, tagOf]) (fun x e => by cases e) (evg_rd rfl) rd_nr rfl (Nat.zero_le _) rfl (by simp [sT, tagOf]) (.inl rfl)
    (fun pos' ht G' h0' _ => ?_) (fun pos' G' h0' fn place _ => rel_deaf G' k0 kN (by rw [h0']; simp [wst, wT, tagOf]) (by rw [h0']; rfl) fn place deaf_rd)
  obtain ⟨a, b, -⟩ := last_facts G' k0 kN k1 (by rw [h0']; exact .inl rfl)
  exact ⟨_, _, hwg, Mode.lastOn k0 kN k1 a b (p := .on .d3 m') (.inl rfl)⟩
theorem op_d3 (O : Y.Ok) (G : Glob Y.P γ pos N w t) (k0 : Y.P.N0 ≤ k) (kN : k < N) (h0 : pos k = .on .d3 m) (hA : stops Y .d3 g w) : Out (sys Y) γ pos N k .d3 g w t := by
  have k1 : k ≠ 0 := by have := O.p.n0; omega
  obtain ⟨hrun, hall⟩ := hA
  obtain ⟨-, -, hwg⟩ := last_facts G k0 kN k1 (by rw [h0]; exact .inr (.inl rfl))
  rw [h0] at hwg
  obtain ⟨g', hst, m', hg⟩ := hall hwg
  have hw' := WgAt.setSt hwg 0
  refine outD (q := .on .d4 m') O G k0 kN h0 hst (.inl (runs_of rk_refl (fun _ _ h => h.1) hg)) (holds_w k1 hg) rfl (by simp [wst, wT, tagOf]) (by simp [wst, wT, tagOf]) (by simp [wst, wT, tagOf]) (by simp [wst, wT, tagOf]) (fun x e => by cases e) (evg_wr rfl) wr_nr rfl (Nat.zero_le _) rfl (by simp [sT, tagOf]) (.inr ⟨_, _, rfl, rfl, _, _, hw'⟩)
    (fun pos' ht G' h0' _ => ?_) (fun pos' G' h0' fn place _ => rel_deaf G' k0 kN (by rw [h0']; simp [wst, wT, tagOf]) (by rw [h0']; rfl) fn place deaf_wr)
  obtain ⟨a, b, -⟩ := last_facts G' k0 kN k1 (by rw [h0']; exact .inr (.inl rfl))
  exact ⟨_, _, hw', Mode.lastOn k0 kN k1 a b (p := .on .d4 m') (.inr rfl)⟩
theorem op_d4 (O : Y.Ok) (G : Glob Y.P γ pos N w t) (k0 : Y.P.N0 ≤ k) (kN : k < N) (h0 : pos k = .on .d4 m) (hA : stops Y .d4 g w) : Out (sys Y) γ pos N k .d4 g w t := by
  have k1 : k ≠ 0 := by have := O.p.n0; omega
  obtain ⟨hrun, hmay, hall⟩ := hA
  obtain ⟨-, -, hwg⟩ := last_facts G k0 kN k1 (by rw [h0]; exact .inr (.inr rfl))
  rw [h0] at hwg
  obtain ⟨g', hst, qn, hq⟩ := hall hwg
  have hw' := WgAt.setSm hwg 1
  refine outD (q := .quit qn 1) O G k0 kN h0 hst hq.status ⟨k1, hq⟩ rfl (by simp [wst, wT, tagOf]) (by simp [wst, wT, tagOf]) (by simp [wst, wT, tagOf]) (by simp [wst, wT, tagOf]) (fun x e => by cases e) (evg_sem rfl) sem_nr rfl (Nat.zero_le _) rfl (by simp [sT, tagOf]) (.inr ⟨_, _, rfl, rfl, _, _, hw'⟩)
    (fun pos' ht G' h0' hup => ?_) (fun pos' G' h0' fn place _ => rel_deaf G' k0 kN (by rw [h0']; simp [wst, wT, tagOf]) (by rw [h0']; rfl) fn place deaf_sem)
  obtain ⟨a, b, -⟩ := last_facts G' k0 kN k1 (by rw [h0']; exact .inr (.inr rfl))
  exact ⟨_, _, hw', Mode.lastOut k0 kN k1 a (hup hmay) b rfl⟩
end
end Go.Proofs.Ytdkbkocklnnmdaa.tgs
/-
  Together: the system is sound: every step of every stage keeps what holds of the whole, and the measure falls. Conditions: those of the structure Ways.Ok.
-/
set_option linter.unusedVariables false
set_option linter.unusedSectionVars false
set_option linter.unusedSimpArgs false
namespace Go.Proofs.Ytdkbkocklnnmdaa.tgs
open Go Go.Conc Go.Proofs.Ytdkbkocklnnmdaa.mach Go.Proofs.Ytdkbkocklnnmdaa.wg Go.Proofs.Ytdkbkocklnnmdaa.tog Go.Proofs.Ytdkbkocklnnmdaa.lock
open Go.ConcN (upd upd_same upd_ne sumTo sumTo_upd sumTo_congr le_sumTo sumTo_upd_out sumTo_le RelBy WgLive RW PayAt AtR0 AtK1 AtD1 AtD2 AtD3 AtD4 RelBy.appOther RelBy.appOwn RelBy.new PermW PermW.app Deaf_absent)
open Go.ConcR (KK WgAt stA smA rd wr mk DC0 g_of_ofEvents)
open Go.Proofs.Ytdkbkocklnnmdaa.crew (Handed Handed.app Handed.appOther Handed.appMute norel_all mk_nr rw_nr rd_nr wr_nr sem_nr KK_inj mute_none)

section
variable {Y : Ways} {γ γ' : Gam} {pos : Nat → Ps} {N k : Nat} {w w' : World} {t : Trace} {s : Stg} {m m' : Nat} {g g' : Goroutine} {es : Array Event} {q : Ps} {fn : FuncId} {place : String}

theorem tag_upd {q : Ps} (h : tagOf q = tagOf (pos k)) (a : Nat) : tagOf (upd pos k q a) = tagOf (pos a) := by
  by_cases x : a = k
  · subst x; rw [upd_same, h]
  · rw [upd_ne _ _ x]

theorem leave_one (O : Y.Ok) (G : Glob Y.P γ pos N w t) (kN : k < N) {n d : Nat} (h0 : pos k = .quit (n + 1) d) (hm : ∀ e ∈ es, Event.mute e = true) (fn : FuncId) (place : String) :
    Glob Y.P γ (upd pos k (.quit n (deafBehind d es))) N w (t ++ MemOp.ofEvents k fn place es) ∧ phi Y.P γ (upd pos k (.quit n (deafBehind d es))) N ≤ phi Y.P γ pos N := by
  have n0 := O.p.n0
  have k1 : k ≠ 0 := by
    intro e; subst e
    rcases G.fits.main with x | x | x <;> rw [h0] at x <;> exact x
  have e0 : upd pos k (.quit n (deafBehind d es)) 0 = pos 0 := upd_ne _ _ (fun e => k1 e.symm)
  have ht : ∀ a, tagOf (upd pos k (.quit n (deafBehind d es)) a) = tagOf (pos a) := fun a => tag_upd (by rw [h0]; rfl) a
  have nt : ∀ op ∈ MemOp.ofEvents k fn place es, op.act.touch? = none := by
    intro op hop
    rw [ofEvents_eq] at hop
    obtain ⟨e, he, rfl⟩ := Array.mem_map.1 hop
    exact (mute_none (hm e he)).1
  refine ⟨?_, Nat.le_of_eq (phi_same (fun a _ => ht a) (G.size O.p))⟩
  rcases Nat.lt_or_ge k Y.P.N0 with hlt | k0
  · -- one of those that were there before
    obtain ⟨st, sm, hwg, hmode⟩ := G.wg
    have hw : ∀ a, wst (upd pos k (.quit n (deafBehind d es)) a) = wst (pos a) := fun a => wst_congr (ht a)
    have ej : ∀ a, a ≠ k → upd pos k (.quit n (deafBehind d es)) a = pos a := fun a h => upd_ne _ _ h
    refine ⟨⟨by rw [e0]; exact G.fits.main, by rw [e0]; exact G.fits.blk, by rw [e0]; exact G.fits.size, G.fits.ge, fun a b c => by rw [hw]; exact G.fits.old a b c, fun a b c => by rw [hw]; exact G.fits.wk a b c, fun a b c => by rw [ej a (by omega)]; exact G.fits.wb a b c, fun a b c => by rw [ej a (by omega)]; exact G.fits.ix a b c⟩,
      fun a ha => ?_, G.pm.app kN (fun op hop => ⟨g_of_ofEvents op hop, fun x hx => by rw [nt op hop] at hx; cases hx⟩) (fun j l h => Perm.app (G.pm.w j l (Wp_congr (fun a _ => ht a) h)) fun op hop b hb _ => by rw [nt op hop] at hb; cases hb) (fun j l h => PermW.app (G.pm.r j l (Rp_congr (fun a _ => ht a) h)) fun op hop b hb _ _ => by rw [nt op hop] at hb; cases hb),
      fun ar => (G.norel ar).app (norel_all (fun e he => (mute_none (hm e he)).2) ar), fun a a0 aN a6 => ?_, G.hand.appMute nt, fun e => (G.all (by rw [← e0]; exact e)).appMute nt, G.world, ⟨st, sm, hwg, hmode.congr (by rw [e0]) (by rw [e0]; exact id) fun a ha => hw a⟩, G.cs, ?_, fun a b c => by rw [ej a (by omega)]; exact G.sem a b c,
      ⟨fun a ha => by rw [ht]; exact G.once.run a ha, fun h => G.once.idle fun a ha ra => h a ha (by rw [ht]; exact ra), fun a b c => by rw [ht, hw]; exact G.once.kn a b c, G.once.d0⟩, fun e => ?_, G.rn, ?_, fun a ha b hb => G.own a ha b (by rw [← ht]; exact hb), fun i j hi hj hij b hb => by rw [ht] at hb ⊢; exact G.sep i j hi hj hij b hb, fun op hop x hx a ha => ?_, fine_app G.fine (fun op hop x hx => by rw [nt op hop] at hx; cases hx), fun l hl => Perm.app (G.nc l hl) fun op hop b hb _ => by rw [nt op hop] at hb; cases hb⟩
    · by_cases x : a = k
      · subst x; rw [upd_same, Deaf_own, G.df a ha, h0]; rfl
      · rw [ej a x, Deaf_other t (fun y => x y.symm) _ g_of_ofEvents, G.df a ha]
    · obtain ⟨r, hr⟩ := G.rel a a0 aN (by rw [← hw]; exact a6)
      exact ⟨r, hr.appOther g_of_ofEvents (by omega)⟩
    · have : (fun a => lkOf (upd pos k (.quit n (deafBehind d es)) a)) = fun a => lkOf (pos a) := by funext a; unfold lkOf; rw [ht]
      rw [this]; exact G.lock
    · rcases G.pub e with h | ⟨r, hr⟩
      · exact .inl h
      · exact .inr ⟨r, hr.app (fun op hop sync e => by have := nt op hop; rw [e] at this; cases this) fun op hop x hx => by rw [nt op hop] at hx; cases hx⟩
    · obtain ⟨o, o1, o2, o3⟩ := G.ot
      exact ⟨o, o1, o2, fun a b c h => o3 a b c (by rw [← hw]; exact h)⟩
    · rcases Array.mem_append.1 hop with ho | ho
      · exact G.bnd op ho x hx a ha
      · rw [nt op ho] at hx; cases hx
  · obtain ⟨st, sm, hwg, hmode⟩ := G.wg
    have e1 : wst (pos k) = 1 := by rw [h0]; rfl
    refine workStep O G k0 kN (by omega) (.inr nt) (by simp [wst, wT, tagOf]) (by simp [wst, wT, tagOf]) (fun x e => by cases e) (fun b hb => by simp [tagOf, blkT] at hb) (fun op hop x hx => by rw [nt op hop] at hx; cases hx) (fun op hop sync e => by have := nt op hop; rw [e] at this; cases this)
      (fun e he => (mute_none (hm e he)).2) (by rw [h0]; rfl) (fun _ => rel_mute G k0 kN (by omega) fn place fun e he => (mute_none (hm e he)).1) (TW.refl _ _) (Nat.le_refl _) ⟨rfl, rfl, rfl⟩ hwg (hmode.congr (by rw [e0]) (by rw [e0]; exact id) fun a ha => wst_congr (ht a))

theorem dfn_on {s : Stg} {m m' : Nat} : dfn (.on s m) = dfn (.on s m') := by cases s <;> rfl
theorem no_fin (G : Glob Y.P γ pos N w t) (k0 : Y.P.N0 ≤ k) (kN : k < N) (h : wst (pos k) ≠ 1) : tagOf (pos 0) ≠ some .fin := by
  intro e
  obtain ⟨st, sm, hwg, hm⟩ := G.wg
  exact h ((hm.finInv (by rw [e]; trivial)).1 k k0 kN)

theorem local_one (O : Y.Ok) (G : Glob Y.P γ pos N w t) (kN : k < N) (h0 : pos k = .on s (m + 1)) (hD : guar Y s w w' es) (fn : FuncId) (place : String) :
    Glob Y.P γ (upd pos k (.on s m)) N w' (t ++ MemOp.ofEvents k fn place es) ∧ phi Y.P γ (upd pos k (.on s m)) N ≤ phi Y.P γ pos N ∧ ∃ d, w' = w.at d := by
  have n0 := O.p.n0
  have tk : tagOf (pos k) = some s := by rw [h0]; rfl
  have ht : ∀ a, tagOf (upd pos k (.on s m) a) = tagOf (pos a) := fun a => tag_upd (by rw [h0]; rfl) a
  have hphi : phi Y.P γ (upd pos k (.on s m)) N ≤ phi Y.P γ pos N := Nat.le_of_eq (phi_same (fun a _ => ht a) (G.size O.p))
  obtain ⟨st, sm, hwg, hmode⟩ := G.wg
  have hnil : ∀ e ∈ (#[] : Array Event), False := by simp
  by_cases hk : k = 0
  · subst hk
    have hes : w' = w ∧ es = #[] := by
      rcases G.fits.main with x | x | x <;> rw [h0] at x <;> cases s <;> first | exact hD | exact x.elim
    obtain ⟨rfl, rfl⟩ := hes
    have hm' : Mode (upd pos 0 (.on s m)) Y.P.N0 N st sm := hmode.congr (ht 0) (fun _ => by rw [upd_same]; intro s e; cases e) fun a ha => wst_congr (ht a)
    refine ⟨G.main O.p (by have := G.fits.main; rw [tk] at this; exact this) (fun s e => by cases e) (by rw [tk]; rfl) (tc0_of O G fun e he => (hnil e he).elim) (fun e he => (hnil e he).elim) (by rw [h0]; exact dfn_on) G.world (Nat.le_refl _) rfl rfl rfl hwg hm' (fun b hb => .inl (by rw [tk]; exact hb)) (fun e => ?_), hphi, w'.drawn, rfl⟩
    exact (G.all (by rw [tk]; exact e)).appMute (by intro op hop; rw [ofEvents_eq] at hop; simp at hop)
  · have ge : Y.P.N0 ≤ k := by
      rcases Nat.lt_or_ge k Y.P.N0 with hlt | hge
      · have := G.fits.old k (by omega) hlt
        unfold wst at this; rw [tk] at this
        cases s <;> simp [wT] at this
      · exact hge
    have h1 : wst (pos k) ≠ 1 := by unfold wst; rw [tk]; cases s <;> simp [wT]
    have hw1 := G.fits.wk k ge kN
    have hes : (∃ d, w' = w.at d) ∧ ∀ e ∈ es, ∃ a : Addr, e = ⟨.cell a, false, false⟩ ∧ (Y.P.p.Ro a.block ∨ a.block ∈ blkT (some s) ∨ a = tog.cA Y.P.p 3) := by
      cases s <;> first | exact hD | exact ⟨⟨w.drawn, hD.1⟩, by rw [hD.2]; exact fun e he => (hnil e he).elim⟩
    have hidle : wst (pos k) ≤ 6 → es = #[] := by
      intro h6
      unfold wst at h6; rw [tk] at h6
      cases s <;> first | exact hD.2 | (simp [wT] at h6) | (unfold wst at hw1; rw [tk] at hw1; simp [wT] at hw1)
    obtain ⟨⟨d, rfl⟩, hes⟩ := hes
    have e0 : upd pos k (.on s m) 0 = pos 0 := upd_ne _ _ (fun e => hk e.symm)
    have hm' : Mode (upd pos k (.on s m)) Y.P.N0 N st sm := hmode.congr (by rw [e0]) (by rw [e0]; exact id) fun a ha => wst_congr (ht a)
    have hlo := low_c O G
    have hlk : LockInv N (upd (fun j => lkOf (pos j)) k (lkOf (.on s m))) γ.c.m γ.c.s := LockInv.same G.lock (by show lkOf (pos k) = _; unfold lkOf; rw [tk]; rfl)
    refine ⟨G.work O.p ge kN (fun op hop x hx => ?_) (fun e he => ?_) ?_ (.inl h1) (by rw [show wst (.on s m) = wst (pos k) from (wst_congr (by rw [tk]; rfl))]; exact hw1) (fun x e => by cases e) (fun bi ix s2 e => G.fits.ix k ge kN bi ix s2 (by rw [tk]; exact e)) (fun h6 => ?_) (G.world.trans (TW.at _ _ _)) (Nat.le_refl _) hwg hm' G.cs hlk (fun j j0 jN x e => ?_)
      ⟨fun j hj bi ix s2 e => G.once.run j hj bi ix s2 (by rw [← ht]; exact e), fun h => G.once.idle fun j hj rj => h j hj (by rw [ht]; exact rj), fun j j0 jN h => G.once.kn j j0 jN (by rw [ht, wst_congr (ht j)] at h; exact h), G.once.d0⟩ (fun e => .inl ⟨e, fun op hop sync e => ?_⟩) G.rn ?_ (fun b hb => .inl (by rw [tk]; exact hb)) (fun bi ix s2 b e hb => .inl ⟨bi, ix, s2, by rw [tk]; exact e, hb⟩) (fun e => ⟨e, fun h => by rw [tk] at h; exact h⟩) (fun h h2 => absurd (by rw [tk]; exact h) h2), hphi, d, rfl⟩
    · rw [ofEvents_eq] at hop
      obtain ⟨e, he, rfl⟩ := Array.mem_map.1 hop
      obtain ⟨a, rfl, hb⟩ := hes e he
      have : x = ⟨.cell a, false, .plain⟩ := (Option.some.inj hx).symm
      subst this
      refine ⟨.inr ⟨rfl, .inl ⟨rfl, ?_⟩⟩, fun a' ha => ?_⟩
      · rcases hb with hb | hb | rfl
        · exact .inl ⟨_, hb, a, rfl, rfl⟩
        · exact .inr (.inr (.inr ⟨_, by rw [tk]; exact hb, a, rfl, rfl⟩))
        · exact .inr (.inl rfl)
      · cases ha
        rcases hb with hb | hb | rfl
        · exact Nat.lt_of_lt_of_le (O.p.low _ (.inl hb)) G.world.size
        · exact (G.own k kN _ (by rw [tk]; exact hb)).2
        · exact hlo.1
    · obtain ⟨a, rfl, _⟩ := hes e he; simp
    · rw [h0, deafBehind_still (fun e he => by obtain ⟨a, rfl, _⟩ := hes e he; simp)]; exact dfn_on
    · rw [show wst (.on s m) = wst (pos k) from (wst_congr (by rw [tk]; rfl))] at h6
      rw [hidle h6]
      exact rel_mute G ge kN h6 fn place (fun e he => (hnil e he).elim)
    · by_cases e1 : j = k
      · subst e1; rw [upd_same] at e; cases e
      · rw [upd_ne _ _ e1] at e; exact G.sem j j0 jN x e
    · rw [ofEvents_eq] at hop
      obtain ⟨e', he, rfl⟩ := Array.mem_map.1 hop
      obtain ⟨a, rfl, hb⟩ := hes e' he
      simp [MemAct.ofEvent] at e
    · obtain ⟨o, o1, o2, o3⟩ := G.ot
      exact ⟨o, o1, o2, fun j j0 jN h => o3 j j0 jN (by rw [← wst_congr (ht j)]; exact h)⟩

theorem live_one (O : Y.Ok) (G : Glob Y.P γ pos N w t) : ∃ k s m, k < N ∧ pos k = .on s m := by
  have n0 := O.p.n0
  have hN := G.size O.p
  -- a worker that has not left: itself, or another one about the lock, is to move
  have onOf : ∀ k, Y.P.N0 ≤ k → k < N → wst (pos k) ≠ 1 → ∃ k s m, k < N ∧ pos k = .on s m := fun k k0 kN h => by
    cases e : pos k with
    | on s m => exact ⟨k, s, m, kN, e⟩
    | quit q d => rw [e] at h; exact absurd rfl h
    | blk s =>
      have hs0 := G.sem k k0 kN s e
      obtain ⟨bi, ix, sv, ws, rfl⟩ := G.fits.wb k k0 kN s e
      have hq : 1 ≤ sm rQ (fun j => lkOf (pos j)) N := by
        have := sm_ge (f := fun j => lkOf (pos j)) rQ kN
        rw [show lkOf (pos k) = .s1 sv ws by rw [e]; rfl] at this
        exact this
      have hab := G.lock.about hs0 hq
      have pick : ∀ r : Lk → Nat, 1 ≤ sm r (fun j => lkOf (pos j)) N → ∃ j, j < N ∧ r (lkOf (pos j)) ≠ 0 := fun r h => Classical.byContradiction fun hn => by
        have h0 : sm r (fun j => lkOf (pos j)) N = sumTo N fun _ => 0 := sumTo_congr fun j hj => Classical.byContradiction fun e => hn ⟨j, hj, e⟩
        have := sumTo_le (f := fun _ : Nat => 0) (c := 0) (j := N) fun _ _ => Nat.le_refl 0
        omega
      have fin : ∀ r : Lk → Nat, r .off = 0 → (∀ sv ws, r (.s1 sv ws) = 0) → 1 ≤ sm r (fun j => lkOf (pos j)) N → ∃ k s m, k < N ∧ pos k = .on s m := fun r r1 r2 h => by
        obtain ⟨j, hj, hr⟩ := pick r h
        cases e2 : pos j with
        | on s m => exact ⟨j, s, m, hj, e2⟩
        | quit q d => rw [e2] at hr; exact absurd r1 hr
        | blk s2 =>
          by_cases j0 : j = 0
          · subst j0; have := G.fits.blk s2 e2; subst this; rw [e2] at hr; exact absurd r1 hr
          · rcases Nat.lt_or_ge j Y.P.N0 with hlt | hge
            · have := G.fits.old j (by omega) hlt
              rw [e2] at this
              cases s2 <;> simp [wst, wT, tagOf] at this
            · obtain ⟨b2, i2, sv2, ws2, rfl⟩ := G.fits.wb j hge hj s2 e2
              rw [e2] at hr; exact absurd (r2 sv2 ws2) hr
      have : 1 ≤ sm rH (fun j => lkOf (pos j)) N ∨ 1 ≤ sm rW (fun j => lkOf (pos j)) N ∨ 1 ≤ sm rV (fun j => lkOf (pos j)) N ∨ 1 ≤ sm rA (fun j => lkOf (pos j)) N ∨ 1 ≤ sm rR (fun j => lkOf (pos j)) N ∨ 1 ≤ sm rS (fun j => lkOf (pos j)) N ∨ 1 ≤ sm rU (fun j => lkOf (pos j)) N := by omega
      rcases this with h | h | h | h | h | h | h
      · exact fin rH rfl (fun _ _ => rfl) h
      · exact fin rW rfl (fun _ _ => rfl) h
      · exact fin rV rfl (fun _ _ => rfl) h
      · exact fin rA rfl (fun _ _ => rfl) h
      · exact fin rR rfl (fun _ _ => rfl) h
      · exact fin rS rfl (fun _ _ => rfl) h
      · exact fin rU rfl (fun _ _ => rfl) h
  cases e : pos 0 with
  | on s m => exact ⟨0, s, m, by omega, e⟩
  | quit q d =>
    rcases G.fits.main with x | x | x <;> rw [e] at x <;> exact x.elim
  | blk s =>
    obtain rfl := G.fits.blk s e
    obtain ⟨st, sm, hwg, hm⟩ := G.wg
    cases hm with
    | opn a b c => rw [e] at a; exact a.elim
    | reg a b c =>
      have : ∃ k, k < N ∧ 5 ≤ wst (pos k) := Classical.byContradiction fun hn => by
        have := V_zero (pos := pos) (N := N) fun k hk => Nat.lt_of_not_le fun h => hn ⟨k, hk, h⟩
        omega
      obtain ⟨k, kN, h5⟩ := this
      have k0 : Y.P.N0 ≤ k := by
        rcases Nat.lt_or_ge k Y.P.N0 with hlt | hge
        · by_cases x : k = 0
          · subst x; rw [e] at h5; simp [wst, wT, tagOf] at h5
          · have := G.fits.old k (by omega) hlt; omega
        · exact hge
      exact onOf k k0 kN (by omega)
    | last L a b c d f => exact onOf L b c (by omega)
    | sema a b c => exact absurd e (b _)
    | fin a b => rw [e] at a; exact a.elim

theorem sound (O : Y.Ok) : (sys Y).Sound where
  trans := rely_trans
  draw := rely_at
  run := fun s g w h => by
    cases s <;> first | exact h.1 | exact O.st g w h | exact h.law.run
  gdraw := fun γ pos N w t d h => h.at d
  live := fun γ pos N w t h => live_one O h
  local_ := fun γ pos N w t k s m w' es fn place b G kN h0 hD => by
    have G1 := G.wake O.p b
    obtain ⟨a, c, d, rfl⟩ := local_one O G1 kN (wake_on h0) hD fn place
    refine ⟨a, ?_, fun j _ _ => ?_⟩
    · have e : phi Y.P γ (wakeIf b pos) N = phi Y.P γ pos N := phi_same (fun k _ => tag_wake b k) (G.size O.p)
      show phi Y.P γ _ N ≤ phi Y.P γ pos N
      rw [← e]; exact c
    · cases pos j with
      | on s m => exact rely_at s w d
      | blk s => exact rely_at s w d
      | quit q d => trivial
  leave := fun γ pos N w t k q d es fn place b G kN h0 hm => by
    have G1 := G.wake O.p b
    have h1 : wakeIf b pos k = .quit (q + 1) d := by unfold wakeIf; split <;> rw [h0]; rfl
    obtain ⟨a, c⟩ := leave_one O G1 kN h1 hm fn place
    refine ⟨a, ?_⟩
    have e : phi Y.P γ (wakeIf b pos) N = phi Y.P γ pos N := phi_same (fun k _ => tag_wake b k) (G.size O.p)
    show phi Y.P γ _ N ≤ phi Y.P γ pos N
    rw [← e]; exact c
  op := fun γ pos N w t k s m g G kN h0 hnf hA => by
    have hA0 := hA w (rely_refl s w)
    by_cases hk : k = 0
    · subst hk
      have hmain := G.fits.main
      rw [h0] at hmain
      cases s with
      | al r => exact op_al O G h0 hA0
      | st r bi => exact op_st O G h0 hA0
      | dis r bi => exact op_dis O G h0 hA0
      | add r bi => exact op_add O G h0 hA0
      | read r bi => exact op_read O G h0 hA0
      | ena r bi => exact op_ena O G h0 hA0
      | go r bi => exact op_go O G h0 hA0
      | wdis => exact op_wdis O G h0 hA0
      | wload => exact op_wload O G h0 hA0
      | wcas vs => exact op_wcas O G h0 hA0
      | wwr => exact op_wwr O G h0 hA0
      | wsem => exact op_wsem O G h0 hA
      | wld2 => exact op_wld2 O G h0 hA0
      | wena => exact op_wena O G h0 hA0
      | wacq => exact op_wacq O G h0 hA0
      | fin => exact absurd ⟨rfl, rfl⟩ hnf
      | _ => rcases hmain with x | x | x <;> exact x.elim
    · have tk : tagOf (pos k) = some s := by rw [h0]; rfl
      have ge : Y.P.N0 ≤ k := by
        rcases Nat.lt_or_ge k Y.P.N0 with hlt | hge
        · have := G.fits.old k (by omega) hlt
          unfold wst at this; rw [tk] at this
          cases s <;> simp [wT] at this
        · exact hge
      have hw1 := G.fits.wk k ge kN
      unfold wst at hw1; rw [tk] at hw1
      cases s with
      | tk bi ix s =>
        cases s with
        | od => exact op_od O G ge kN h0 hA0
        | lk x => exact op_lk O G ge kN h0 hA
        | o2 => exact op_o2 O G ge kN h0 hA0
        | gv => exact op_gv O G ge kN h0 hA0
        | ow v => exact op_ow O G ge kN h0 hA0
        | _ => exact op_run O G ge kN h0 hA0 trivial
      | k0 bi => exact op_k0 O G ge kN h0 hA0
      | k1 => exact op_k1 O G ge kN h0 hA0
      | d1 => exact op_d1 O G ge kN h0 hA0
      | d2 => exact op_d2 O G ge kN h0 hA0
      | d3 => exact op_d3 O G ge kN h0 hA0
      | d4 => exact op_d4 O G ge kN h0 hA0
      | _ => simp [wT] at hw1
end
end Go.Proofs.Ytdkbkocklnnmdaa.tgs
/-
  Together's whole phase: from where main alone does not merely leave, over the starting of n goroutines and the wait for them, to where main alone does not merely leave. Conditions: those that the theorem names.
-/
set_option linter.unusedVariables false
set_option linter.unusedSectionVars false
namespace Go.Proofs.Ytdkbkocklnnmdaa.tgs
open Go Go.Conc Go.Proofs.Ytdkbkocklnnmdaa.mach Go.Proofs.Ytdkbkocklnnmdaa.wg Go.Proofs.Ytdkbkocklnnmdaa.tog Go.Proofs.Ytdkbkocklnnmdaa.lock
open Go.ConcN (upd upd_same upd_ne sumTo sumTo_upd sumTo_congr le_sumTo sumTo_upd_out sumTo_le Deaf_absent PermW)
open Go.ConcR (KK WgAt stA smA rd wr mk DC0 g_of_ofEvents)
open Go.Proofs.Ytdkbkocklnnmdaa.crew (Handed Stands stands_pos Reaches Fr)

def startStg : Nat → Stg
  | 0 => .wdis
  | n + 1 => .al n
theorem stops_start (Y : Ways) (n : Nat) : stops Y (startStg n) = Script Y n := by cases n <;> rfl
theorem start_rem (n : Nat) : remT (some (startStg n)) = n := by cases n <;> rfl
theorem start_open (n : Nat) : openT (some (startStg n)) := by cases n <;> trivial
theorem start_pend (n : Nat) : pendT (some (startStg n)) = 0 := by cases n <;> rfl
theorem start_dfn (n m : Nat) : dfn (.on (startStg n) m) = 0 := by cases n <;> rfl
theorem start_rely (Y : Ways) (n : Nat) : rely Y (startStg n) = RT Y.P.p [] := by cases n <;> rfl
theorem start_guar (Y : Ways) (n : Nat) : guar Y (startStg n) = DC0 := by cases n <;> rfl
theorem start_blk (n : Nat) : blkT (some (startStg n)) = [] := by cases n <;> rfl
theorem quit_of {x : Ps} (h : wst x = 1) : ∃ q d, x = .quit q d := by
  cases x with
  | on s m => cases s <;> simp [wst, wT, tagOf] at h
  | blk s => cases s <;> simp [wst, wT, tagOf] at h
  | quit q d => exact ⟨q, d, rfl⟩

section
variable {Y : Ways} {Shun Lw : Loc → Prop} {gs : Array Goroutine} {a : Goroutine} {w : World} {sl : Option (Nat × Nat)} {t : Trace} {γ : Gam}

/-- The lock at rest. -/
def Rest (m : Mst) (s : Nat) : Prop := ∀ N, LockInv N (fun _ => .off) m s
theorem rest_of {N : Nat} {f : Nat → Lk} {m : Mst} {s : Nat} (h : LockInv N f m s) (hf : ∀ k, k < N → f k = .off) : Rest m s := by
  have z : ∀ r : Lk → Nat, r .off = 0 → sm r f N = 0 := fun r hr => by
    have : sm r f N = sumTo N fun _ => 0 := sumTo_congr fun k hk => by rw [hf k hk, hr]
    rw [this]
    have := sumTo_le (f := fun _ : Nat => 0) (c := 0) (j := N) fun _ _ => Nat.le_refl 0
    omega
  intro M
  have z' : ∀ r : Lk → Nat, r .off = 0 → sm r (fun _ => .off) M = 0 := fun r hr => by
    have : sm r (fun _ => .off) M = sumTo M fun _ => 0 := sumTo_congr fun k hk => hr
    rw [this]
    have := sumTo_le (f := fun _ : Nat => 0) (c := 0) (j := M) fun _ _ => Nat.le_refl 0
    omega
  have h1 := h.hold
  have h2 := h.norm
  have h3 := h.starv
  have h4 := h.live
  rw [z rH rfl] at h1
  rw [z rW rfl, z rV rfl, z rR rfl, z rQ rfl, z rA rfl, z rS rfl] at h2 h3
  rw [z rU rfl] at h4
  refine ⟨h.ok, ?_, ?_, ?_, ?_, fun k hk => trivial⟩
  · rw [z' rH rfl]; exact h1
  · rw [z' rW rfl, z' rV rfl, z' rR rfl, z' rQ rfl, z' rA rfl, z' rS rfl]; exact h2
  · rw [z' rW rfl, z' rV rfl, z' rR rfl, z' rQ rfl, z' rA rfl, z' rS rfl]; exact h3
  · rw [z' rU rfl]; exact h4
theorem rest_zero : Rest ⟨0, 0, 0, 0⟩ 0 := fun N => LockInv.start _ fun _ _ => rfl

/-- What ties a phase to the frame in which it begins. -/
structure Begins (Y : Ways) (γ : Gam) (Shun Lw : Loc → Prop) (N : Nat) (w : World) : Prop where
  n0 : Y.P.N0 = N
  w0 : Y.P.w0 = w
  sh : ∀ l, Shun l → Y.P.Sh l
  fresh : ∀ l, Y.P.Sh l → Shun l ∨ ¬ Lw l
  lw : ∀ l, Lw l → Y.P.Lw l
  bnd : ∀ a, Lw (.cell a) → a.block < w.heap.size
  wg : WgAt 96 Y.P.p.Wg w 0 0
  cs : AtCs Y.P.p γ.c w
  rest : Rest γ.c.m γ.c.s
  idle : Idle Y.P.p γ
  d0 : Y.P.d0 ↔ γ.c.d = 1
  rn : w.heap[Y.P.p.Rn]? = some (.cells #[.int .i64 γ.x] Y.P.tyR)
  ot : ∃ o : Array Value, w.heap[Y.P.p.Ot]? = some (.cells o Y.P.tyO) ∧ o.size = Y.P.n

theorem glob_begin (O : Y.Ok) (hS : Stands Shun Lw gs a t) (hB : Begins Y γ Shun Lw gs.size w) (q : Nat → Nat) (m : Nat) :
    Glob Y.P γ (fun k => if k = 0 then .on (startStg Y.P.n) m else .quit (q k) (Deaf t k)) gs.size w t := by
  have hp := stands_pos hS
  obtain ⟨h0, ⟨_, hL⟩, hd, hF⟩ := hS
  generalize hpos : (fun k => if k = 0 then Pos.on (startStg Y.P.n) m else .quit (q k) (Deaf t k) : Nat → Ps) = pos
  have p0 : pos 0 = .on (startStg Y.P.n) m := by rw [← hpos]; rfl
  have pk : ∀ k, k ≠ 0 → pos k = .quit (q k) (Deaf t k) := fun k hk => by rw [← hpos]; simp [hk]
  have t0 : tagOf (pos 0) = some (startStg Y.P.n) := by rw [p0]; rfl
  have tk : ∀ k, k ≠ 0 → tagOf (pos k) = none := fun k hk => by rw [pk k hk]; rfl
  have w0 : wst (pos 0) = 0 := wst0_of_open (by rw [t0]; exact start_open _)
  have wk : ∀ k, k ≠ 0 → wst (pos k) = 1 := fun k hk => by rw [pk k hk]; rfl
  have norun : ∀ k, ¬ runT (tagOf (pos k)) := fun k => by
    by_cases e : k = 0
    · subst e; exact (main_noRun (q := pos 0) (.inl (by rw [t0]; exact start_open _))).1
    · rw [tk k e]; exact fun h => h
  have lkoff : ∀ k, lkOf (pos k) = .off := fun k => by
    by_cases e : k = 0
    · subst e; exact (main_noRun (q := pos 0) (.inl (by rw [t0]; exact start_open _))).2.2.1
    · unfold lkOf; rw [tk k e]; rfl
  have bl : ∀ k, blkT (tagOf (pos k)) = [] := fun k => by
    by_cases e : k = 0
    · subst e; rw [t0]; exact start_blk _
    · rw [tk k e]; rfl
  have hV : V pos gs.size = 0 := V_zero fun k _ => by
    by_cases e : k = 0
    · subst e; omega
    · rw [wk k e]; omega
  have hbl0 : ∀ k, k < gs.size → ∀ b, b ∈ blkT (tagOf (pos k)) → Y.P.w0.heap.size ≤ b := fun k _ b hb => by rw [bl] at hb; simp at hb
  have nstart : ∀ s, some (startStg Y.P.n) = some s → s = .wdis ∨ ∃ r, s = .al r := fun s e => by
    cases hn : Y.P.n with
    | zero => rw [hn] at e; cases e; exact .inl rfl
    | succ n => rw [hn] at e; cases e; exact .inr ⟨n, rfl⟩
  refine ⟨⟨.inl (by rw [t0]; exact start_open _), (fun s e => by rw [p0] at e; cases e), by rw [t0, start_rem, hB.n0], by rw [hB.n0]; exact Nat.le_refl _, fun k k1 kN => wk k (by omega), fun k k1 kN => by rw [hB.n0] at k1; omega, fun k k1 kN => by rw [hB.n0] at k1; omega, fun k k1 kN => by rw [hB.n0] at k1; omega⟩,
    fun k kN => ?_, ⟨fun i op x hi hx hs => ?_, fun k l hl => ?_, fun k l hl => ?_, hF.clean, hF.gs⟩, hF.norel, fun k k1 kN _ => by rw [hB.n0] at k1; omega, by rw [hB.n0]; exact hF.over, fun e => ?_, by rw [hB.w0]; exact TW.refl _ w, ⟨0, 0, hB.wg, ?_⟩, hB.cs, ?_, fun k k1 kN => by rw [hB.n0] at k1; omega,
    ⟨fun k kN bi ix s e => ?_, fun _ => hB.idle, fun k k1 kN => by rw [hB.n0] at k1; omega, hB.d0.1⟩, fun e => .inl (hB.d0.2 e), hB.rn, ?_, fun k kN b hb => by rw [bl] at hb; simp at hb, fun i j hi hj hij b hb => by rw [bl] at hb; simp at hb, fun op hop x hx a ha => ?_,
    fun op hop x hx => ⟨hB.lw _ (hF.fine op hop x hx).1, fun e hs => (hF.fine op hop x hx).2 e (fun y => hs (hB.sh _ y))⟩, fun l hl => hF.perm l fun h => by have := O.p.shm l (hB.sh l h); rw [hl] at this; cases this⟩
  · by_cases e : k = 0
    · subst e; rw [p0, hd, start_dfn]
    · rw [pk k e]; rfl
  · rcases hB.fresh _ hs with h | h
    · exact hF.quiet i op x hi hx h
    · exact absurd (hF.fine op (Array.mem_of_getElem? hi) x hx).1 h
  · have hk : k = 0 := by
      rcases hl with ⟨e, _⟩ | ⟨h1, h2, _⟩ | ⟨h1, h2, _⟩
      · exact e
      · rw [hB.n0] at h1; omega
      · rw [hB.n0] at h1; omega
    subst hk
    exact hF.perm l fun x => Wp_nsh O.p hbl0 hl (hB.sh l x)
  · obtain ⟨h1, h2, h3⟩ := hl
    have hk : k = 0 := by rw [hB.n0] at h1; omega
    subst hk
    refine perm_W (hF.perm l fun x => O.p.nsh l ?_ (hB.sh l x))
    rcases h3 with h | h | ⟨h, _⟩ | ⟨_, h⟩
    · exact .inl h
    · exact .inr (.inr (.inr (.inr (.inl h))))
    · exact absurd rfl h
    · exact .inr (.inr (.inr (.inr (.inr h))))
  · rw [t0] at e
    rcases nstart _ e with h | ⟨r, h⟩ <;> cases h
  · have := Mode.opn (pos := pos) (N0 := Y.P.N0) (N := gs.size) (by rw [t0]; exact start_open Y.P.n) (fun k k0 kN => by rw [hB.n0] at k0; omega) (fun vs e => by
      rw [t0] at e
      rcases nstart _ e with h | ⟨r, h⟩ <;> cases h)
    rw [hV, t0, start_pend] at this
    simpa using this
  · have : (fun k => lkOf (pos k)) = fun _ => .off := by funext k; exact lkoff k
    rw [this]; exact hB.rest _
  · by_cases x : k = 0
    · subst x; exact absurd e ((main_noRun (q := pos 0) (.inl (by rw [t0]; exact start_open _))).2.1 bi ix s)
    · rw [tk k x] at e; cases e
  · obtain ⟨o, o1, o2⟩ := hB.ot
    exact ⟨o, o1, o2, fun k k1 kN => by rw [hB.n0] at k1; omega⟩
  · exact hB.bnd a (by have := (hF.fine op hop x hx).1; rw [ha] at this; exact this)

/-- What the frame behind a phase is told. -/
structure Behind (Y : Ways) (N : Nat) (w : World) (gs' : Array Goroutine) (w' : World) (t' : Trace) (a' : Goroutine) (γ' : Gam) : Prop where
  stands : Stands Y.P.Sh Y.P.Lw gs' a' t'
  size : gs'.size = N + Y.P.n
  st : ∃ d, Y.St a' (w'.at d)
  world : TW Y.P.p w w'
  wg : WgAt 96 Y.P.p.Wg w' 0 0
  cs : AtCs Y.P.p γ'.c w'
  rest : Rest γ'.c.m γ'.c.s
  idle : Idle Y.P.p γ'
  done : 0 < Y.P.n ∨ Y.P.d0 → Done Y.P.p γ'
  rn : w'.heap[Y.P.p.Rn]? = some (.cells #[.int .i64 γ'.x] Y.P.tyR)
  ot : ∃ o : Array Value, w'.heap[Y.P.p.Ot]? = some (.cells o Y.P.tyO) ∧ o.size = Y.P.n ∧ ∀ i, i < Y.P.n → o[i]? = some Y.P.p.fin
  bnd : Bnd w' t'

/-- ████ A PHASE. -/
theorem phase (O : Y.Ok) (hS : Stands Shun Lw gs a t) (hB : Begins Y γ Shun Lw gs.size w) {m : Nat} (hG : Goes Try.prog true (R0 Y) DC0 (Script Y Y.P.n) m a w) :
    Reaches gs w sl t fun gs' w' _ t' => ∃ a' γ', Behind Y gs.size w gs' w' t' a' γ' := by
  have hp := stands_pos hS
  obtain ⟨h0, ⟨q, hL⟩, hd, hF⟩ := hS
  have hGl := glob_begin (w := w) O ⟨h0, ⟨q, hL⟩, hd, hF⟩ hB q m
  have hI : (sys Y).Inv γ (fun k => if k = 0 then .on (startStg Y.P.n) m else .quit (q k) (Deaf t k)) gs w t := by
    refine ⟨fun k hk => ?_, hp, hGl⟩
    by_cases e : k = 0
    · subst e
      refine ⟨a, h0, ?_⟩
      show Goes Try.prog true (rely Y (startStg Y.P.n)) (guar Y (startStg Y.P.n)) (stops Y (startStg Y.P.n)) m a w
      rw [start_rely, start_guar, stops_start]
      exact hG
    · refine ⟨gs[k], Array.getElem?_eq_getElem hk, ?_⟩
      have := hL.old k gs[k] (by omega) (Array.getElem?_eq_getElem hk)
      simp only [if_neg e]
      exact ⟨e, this⟩
  obtain ⟨K, γ', pos', gs', w', sl', t', hr, ⟨hh, h1, hG'⟩, ⟨d, sl2, s, m2, g, hg, hp0, hfin, hA, _⟩⟩ := runs_to_stop (sound O) _ γ _ gs w sl t rfl hI
  have hs : s = .fin := hfin
  subst hs
  have hG2 : Glob Y.P γ' pos' gs'.size w' t' := hG'
  have hp1 : pos' 0 = .on .fin m2 := hp0
  have htag : tagOf (pos' 0) = some .fin := by rw [hp1]; rfl
  obtain ⟨st, sm, hwg, hm⟩ := hG2.wg
  obtain ⟨hQ, rfl, rfl⟩ := hm.finInv (by rw [htag]; trivial)
  have n0 := O.p.n0
  have hsz : gs'.size = gs.size + Y.P.n := by
    have := hG2.fits.size
    rw [htag, hB.n0] at this
    exact this
  have hall := hG2.all htag
  have hq : ∀ k, 1 ≤ k → k < gs'.size → wst (pos' k) = 1 := fun k k1 kN => by
    rcases Nat.lt_or_ge k Y.P.N0 with h | h
    · exact hG2.fits.old k k1 h
    · exact hQ k h kN
  have hnone : ∀ k, 1 ≤ k → k < gs'.size → tagOf (pos' k) = none := fun k k1 kN => by
    obtain ⟨q', d', e⟩ := quit_of (hq k k1 kN)
    rw [e]; rfl
  have norun : ∀ k, k < gs'.size → ¬ runT (tagOf (pos' k)) := fun k kN => by
    by_cases e : k = 0
    · subst e; rw [htag]; exact fun h => h
    · rw [hnone k (by omega) kN]; exact fun h => h
  have hidle := hG2.once.idle norun
  have hgs := hG2.pm.gs
  refine ⟨K, gs', w', sl', t', hr, g, γ', ⟨⟨hg, ⟨fun k => (pos' k).fuel, fun k x hk hx => ?_, fun j hj => ?_⟩, ?_, ⟨hG2.pm.nr, hG2.pm.quiet, fun l hl => ?_, hall, hG2.norel, hG2.fine, hgs⟩⟩, hsz, ⟨d, hA⟩, by rw [← hB.w0]; exact hG2.world, hwg, hG2.cs, rest_of hG2.lock fun k kN => ?_, hidle, fun h => ?_, hG2.rn, ?_, hG2.bnd⟩⟩
  · have hlt : k < gs'.size := (Array.getElem?_eq_some_iff.1 hx).1
    obtain ⟨y, hy, hy'⟩ := hh k hlt
    rw [hx] at hy; cases hy
    obtain ⟨q', d', hq'⟩ := quit_of (hq k hk hlt)
    have hdf := hG2.df k hlt
    rw [hq'] at hdf
    have hdf' : Deaf t' k = d' := hdf
    have hpk : pos' k = .quit q' d' := hq'
    rw [hpk] at hy'
    show QuitsD Try.prog (pos' k).fuel (Deaf t' k) x
    rw [hpk, hdf']
    exact hy'.2
  · exact Deaf_absent fun i op hi e => by have := hgs i op hi; omega
  · have hdf := hG2.df 0 (by omega)
    rw [hp1] at hdf
    exact hdf
  · cases hmem : l.isMemory with
    | false => exact hG2.nc l hmem
    | true =>
      intro i x hx hxl
      obtain ⟨op, hop, hox⟩ := touch_of hx
      by_cases e : op.g = 0
      · have := knows_own hop
        rwa [e] at this
      · have hfi := (hG2.fine op (Array.mem_of_getElem? hop) x hox).2 e (by rw [hxl]; exact hl)
        obtain ⟨qq, h1', h2'⟩ := hall i op.g (by simp [Trace.g?, hop]) e (hgs i op hop) ⟨x, by simpa [touchAt] using hx, by rw [hxl]; exact hmem, .inl hfi⟩
        obtain ⟨z, hz, hzg⟩ := Option.map_eq_some_iff.1 h1'
        exact ⟨qq, z, hz, hzg, .inr h2'⟩
  · by_cases e : k = 0
    · subst e; unfold lkOf; rw [htag]; rfl
    · unfold lkOf; rw [hnone k (by omega) kN]; rfl
  · refine hG2.done ?_
    rcases h with h | h
    · exact hG2.once.kn Y.P.N0 (Nat.le_refl _) (by rw [hsz, hB.n0]; omega) (.inr (by rw [hq _ n0 (by rw [hsz, hB.n0]; omega)]; omega))
    · exact hG2.once.d0 h
  · obtain ⟨o, o1, o2, o3⟩ := hG2.ot
    refine ⟨o, o1, o2, fun i hi => ?_⟩
    have := o3 (Y.P.N0 + i) (by omega) (by rw [hsz, hB.n0]; omega) (by rw [hq _ (by omega) (by rw [hsz, hB.n0]; omega)]; omega)
    rwa [show Y.P.N0 + i - Y.P.N0 = i by omega] at this
end
end Go.Proofs.Ytdkbkocklnnmdaa.tgs
