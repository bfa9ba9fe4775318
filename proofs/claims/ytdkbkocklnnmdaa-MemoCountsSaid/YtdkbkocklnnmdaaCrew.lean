/-
  A main goroutine that adds and starts workers one by one and waits for them: the stages of all, and how the wait group's two cells hang on where everybody stands. No program here, and no condition.
-/
import Derived.Test.YtdkbkocklnnmdaaMach
import Derived.Conc.WgGenN3
set_option linter.unusedVariables false
set_option linter.unusedSectionVars false
namespace Go.Proofs.Ytdkbkocklnnmdaa.crew
open Go Go.Conc Go.Proofs.Ytdkbkocklnnmdaa.mach
open Go.ConcN (upd upd_same upd_ne sumTo sumTo_upd sumTo_congr le_sumTo sumTo_upd_out sumTo_le)
open Go.ConcR (KK)

/-- The stages. 'dis r' .. 'go r': r workers are to be started behind the one at hand. 'kc v u': the count was v as it was read, and u workers had not yet added. -/
inductive Stg where
  | dis (r : Nat) | add (r : Nat) | read (r : Nat) | ena (r : Nat) | go (r : Nat)
  | wdis | wload | wcas (vs : Nat) | wwr | wsem | wld2 | wena | wacq | fin
  | kl | kc (v : Int) (u : Nat) | k0 | k1 | d1 | d2 | d3 | d4

abbrev Ps := Pos Stg
def tagOf : Ps → Option Stg
  | .on s _ => some s
  | .blk s => some s
  | .quit _ _ => none
def wT : Option Stg → Nat
  | some .kl => 9
  | some (.kc _ _) => 8
  | some .k0 => 7
  | some .k1 => 6
  | some .d1 => 5
  | some .d2 => 4
  | some .d3 => 3
  | some .d4 => 2
  | none => 1
  | _ => 0
def wst (p : Ps) : Nat := wT (tagOf p)
def cn (p : Ps) : Nat := if 5 ≤ wst p then 1 else 0
def V (pos : Nat → Ps) (N : Nat) : Nat := sumTo N fun k => cn (pos k)
def pendT : Option Stg → Nat
  | some (.read _) => 1
  | some (.ena _) => 1
  | some (.go _) => 1
  | _ => 0
def openT : Option Stg → Prop
  | some (.dis _) | some (.add _) | some (.read _) | some (.ena _) | some (.go _) | some .wdis | some .wload | some (.wcas _) => True
  | _ => False
def w3T : Option Stg → Prop
  | some .wwr | some .wsem => True
  | _ => False
def finT : Option Stg → Prop
  | some .wld2 | some .wena | some .wacq | some .fin => True
  | _ => False

def OpenW (pos : Nat → Ps) (N0 N : Nat) : Prop := ∀ k, N0 ≤ k → k < N → 5 ≤ wst (pos k) ∨ wst (pos k) = 1
def AllQ (pos : Nat → Ps) (N0 N : Nat) : Prop := ∀ k, N0 ≤ k → k < N → wst (pos k) = 1
def Up (p : Ps) : Prop := ∀ s, p ≠ .blk s

inductive Mode (pos : Nat → Ps) (N0 N : Nat) : Int → Int → Prop
  | opn : openT (tagOf (pos 0)) → OpenW pos N0 N → (∀ vs, tagOf (pos 0) = some (.wcas vs) → V pos N ≤ vs ∧ 1 ≤ vs) → Mode pos N0 N (((V pos N + pendT (tagOf (pos 0)) : Nat) : Int) * KK) 0
  | reg : w3T (tagOf (pos 0)) → OpenW pos N0 N → 1 ≤ V pos N → Mode pos N0 N (((V pos N : Nat) : Int) * KK + 1) 0
  | last (L : Nat) : w3T (tagOf (pos 0)) → N0 ≤ L → L < N → (wst (pos L) = 4 ∨ wst (pos L) = 3 ∨ wst (pos L) = 2) → (∀ k, N0 ≤ k → k < N → k ≠ L → wst (pos k) = 1) → Mode pos N0 N (if wst (pos L) = 2 then 0 else 1) 0
  | sema : w3T (tagOf (pos 0)) → Up (pos 0) → AllQ pos N0 N → Mode pos N0 N 0 1
  | fin : finT (tagOf (pos 0)) → AllQ pos N0 N → Mode pos N0 N 0 0

section
variable {pos pos' : Nat → Ps} {N0 N : Nat} {st sm : Int}

theorem wst_congr {p p' : Ps} (h : tagOf p' = tagOf p) : wst p' = wst p := by unfold wst; rw [h]
theorem V_congr (h : ∀ k, k < N → wst (pos' k) = wst (pos k)) : V pos' N = V pos N := sumTo_congr fun k hk => by simp only [cn, h k hk]

/-- Where everybody stands at the same stage, and main is not put to sleep. -/
theorem Mode.congr (h0 : tagOf (pos' 0) = tagOf (pos 0)) (hu : Up (pos 0) → Up (pos' 0)) (h : ∀ k, k < N → wst (pos' k) = wst (pos k)) (hm : Mode pos N0 N st sm) : Mode pos' N0 N st sm := by
  have hv : V pos' N = V pos N := V_congr h
  cases hm with
  | opn a b c => rw [← hv, ← h0]; exact .opn (by rw [h0]; exact a) (fun k k1 k2 => by rw [h k k2]; exact b k k1 k2) (fun vs e => by rw [hv]; exact c vs (by rw [← h0]; exact e))
  | reg a b c => rw [← hv]; exact .reg (by rw [h0]; exact a) (fun k k1 k2 => by rw [h k k2]; exact b k k1 k2) (by rw [hv]; exact c)
  | last L a b c d e => rw [← h L c]; exact .last L (by rw [h0]; exact a) b c (by rw [h L c]; exact d) (fun k k1 k2 k3 => by rw [h k k2]; exact e k k1 k2 k3)
  | sema a b c => exact .sema (by rw [h0]; exact a) (hu b) (fun k k1 k2 => by rw [h k k2]; exact c k k1 k2)
  | fin a b => exact .fin (by rw [h0]; exact a) (fun k k1 k2 => by rw [h k k2]; exact b k k1 k2)

theorem tag_wake (b : Bool) (k : Nat) : tagOf (wakeIf b pos k) = tagOf (pos k) := by
  unfold wakeIf
  split
  · cases pos k <;> rfl
  · rfl
theorem up_wake (b : Bool) (k : Nat) (h : Up (pos k)) : Up (wakeIf b pos k) := by
  unfold wakeIf
  split
  · revert h
    cases pos k <;> intro h s e
    · cases e
    · cases e
    · cases e
  · exact h
theorem up_woken (k : Nat) : Up (wakeIf true pos k) := by
  unfold wakeIf
  simp only [if_true]
  cases pos k <;> intro s e <;> cases e
theorem Mode.wake (b : Bool) (hm : Mode pos N0 N st sm) : Mode (wakeIf b pos) N0 N st sm :=
  hm.congr (tag_wake b 0) (up_wake b 0) fun k _ => wst_congr (tag_wake b k)

theorem V_upd {k : Nat} (p : Ps) (hk : k < N) : V (upd pos k p) N + cn (pos k) = V pos N + cn p := sumTo_upd pos p cn hk
theorem V_main (p : Ps) (h0 : wst (pos 0) = 0) (hp : wst p = 0) : V (upd pos 0 p) N = V pos N := by
  refine V_congr fun k _ => ?_
  by_cases e : k = 0
  · subst e; rw [upd_same, hp, h0]
  · rw [upd_ne _ _ e]
theorem cn_le (p : Ps) : cn p ≤ 1 := by unfold cn; split <;> omega
theorem V_pos {k : Nat} (hk : k < N) (h : 5 ≤ wst (pos k)) : 1 ≤ V pos N := by
  have := le_sumTo (f := fun k => cn (pos k)) hk
  have hc : cn (pos k) = 1 := by unfold cn; rw [if_pos h]
  simp only [V]; omega
theorem V_zero (hq : ∀ k, k < N → wst (pos k) < 5) : V pos N = 0 := by
  have : sumTo N (fun k => cn (pos k)) = sumTo N (fun _ => 0) := sumTo_congr fun k hk => by unfold cn; rw [if_neg (by have := hq k hk; omega)]
  rw [V, this]
  have := sumTo_le (f := fun _ : Nat => 0) (c := 0) (j := N) fun _ _ => Nat.le_refl 0
  omega
theorem of_V_zero (h : V pos N = 0) {k : Nat} (hk : k < N) : wst (pos k) < 5 := by
  rcases Nat.lt_or_ge (wst (pos k)) 5 with h5 | h5
  · exact h5
  · have := V_pos hk h5; omega
/-- If one alone is counted, the others are not. -/
theorem others_uncounted {k : Nat} (hk : k < N) (h1 : V pos N = 1) (hc : 5 ≤ wst (pos k)) : ∀ a, a < N → a ≠ k → wst (pos a) < 5 := by
  intro a ha e
  have h0 := V_upd (pos := pos) (.quit 0 0) hk
  have c0 : cn (.quit 0 0) = 0 := rfl
  have c1 : cn (pos k) = 1 := by unfold cn; rw [if_pos hc]
  have hz : V (upd pos k (.quit 0 0)) N = 0 := by omega
  have := of_V_zero hz ha
  rwa [upd_ne _ _ e] at this

/-! ### a worker's steps -/
section
variable {k : Nat} (k0 : N0 ≤ k) (kN : k < N) (k1 : k ≠ 0)
include k0 kN k1

theorem Mode.counted (hm : Mode pos N0 N st sm) {p : Ps} (h5 : 5 ≤ wst (pos k)) (hp : 5 ≤ wst p) : Mode (upd pos k p) N0 N st sm := by
  have e0 : upd pos k p 0 = pos 0 := upd_ne _ _ (fun e => k1 e.symm)
  have hv : V (upd pos k p) N = V pos N := by
    have := V_upd (pos := pos) p kN
    have c1 : cn (pos k) = 1 := by unfold cn; rw [if_pos h5]
    have c2 : cn p = 1 := by unfold cn; rw [if_pos hp]
    omega
  have ho : OpenW pos N0 N → OpenW (upd pos k p) N0 N := fun h a a1 a2 => by
    by_cases e : a = k
    · subst e; rw [upd_same]; exact .inl hp
    · rw [upd_ne _ _ e]; exact h a a1 a2
  cases hm with
  | opn a b c => rw [← hv, ← e0]; exact .opn (by rw [e0]; exact a) (ho b) (fun vs e => by rw [hv]; exact c vs (by rw [← e0]; exact e))
  | reg a b c => rw [← hv]; exact .reg (by rw [e0]; exact a) (ho b) (by rw [hv]; exact c)
  | last L a b c d e =>
    by_cases x : k = L
    · subst x; omega
    · have := e k k0 kN x; omega
  | sema a b c => have := c k k0 kN; omega
  | fin a b => have := b k k0 kN; omega

/-- THE ADD OF -1. -/
theorem Mode.minus (hm : Mode pos N0 N st sm) (hN : N < 2147483648) (h5 : wst (pos k) = 5) :
    ∃ v wt : Nat, wt ≤ 1 ∧ v < 2147483647 ∧ st = ((v : Int) + 1) * KK + wt ∧ sm = 0 ∧ ((v = 0 ∧ wt = 1) → ∀ p, wst p = 4 → Mode (upd pos k p) N0 N ((v : Int) * KK + wt) 0) ∧
      (¬ (v = 0 ∧ wt = 1) → ∀ p, wst p = 1 → Mode (upd pos k p) N0 N ((v : Int) * KK + wt) 0) := by
  have h5' : 5 ≤ wst (pos k) := by omega
  have c1 : cn (pos k) = 1 := by unfold cn; rw [if_pos h5']
  have hV1 := V_pos kN h5'
  have hVN : V pos N ≤ N := by
    have := sumTo_le (f := fun k => cn (pos k)) (c := 1) (j := N) fun i _ => cn_le _
    simp only [V]; omega
  have ho : ∀ p, wst p = 1 → OpenW pos N0 N → OpenW (upd pos k p) N0 N := fun p hp h a a1 a2 => by
    by_cases e : a = k
    · subst e; rw [upd_same]; exact .inr hp
    · rw [upd_ne _ _ e]; exact h a a1 a2
  have e0 : ∀ p, upd pos k p 0 = pos 0 := fun p => upd_ne _ _ (fun e => k1 e.symm)
  have hv : ∀ p, wst p < 5 → V (upd pos k p) N + 1 = V pos N := fun p hp => by
    have := V_upd (pos := pos) p kN
    have c2 : cn p = 0 := by unfold cn; rw [if_neg (by omega)]
    omega
  cases hm with
  | opn a b c =>
    have hp1 : pendT (tagOf (pos 0)) ≤ 1 := by unfold pendT; split <;> omega
    refine ⟨V pos N + pendT (tagOf (pos 0)) - 1, 0, by omega, ?_, ?_, rfl, fun h => by omega, fun _ p hp => ?_⟩
    · -- main itself is not counted
      have hk0 : V pos N ≤ N - 1 := by
        have h0 : cn (pos 0) = 0 := by
          unfold cn wst
          revert a
          cases tagOf (pos 0) with
          | none => intro a; exact a.elim
          | some s => cases s <;> intro a <;> first | rfl | exact a.elim
        have := V_upd (pos := pos) (.on .d1 0) (show 0 < N by omega)
        have c2 : cn (.on .d1 0) = 1 := rfl
        have h3 := sumTo_le (f := fun i => cn (upd pos 0 (.on .d1 0) i)) (c := 1) (j := N) fun i _ => cn_le _
        simp only [V] at *
        omega
      omega
    · have : ((V pos N + pendT (tagOf (pos 0)) - 1 : Nat) : Int) + 1 = ((V pos N + pendT (tagOf (pos 0)) : Nat) : Int) := by omega
      rw [this]; simp
    · have hv' := hv p (by omega)
      have e : ((V pos N + pendT (tagOf (pos 0)) - 1 : Nat) : Int) * KK + ((0 : Nat) : Int) = (((V (upd pos k p) N + pendT (tagOf (upd pos k p 0)) : Nat) : Int)) * KK := by
        rw [e0]
        have : V pos N + pendT (tagOf (pos 0)) - 1 = V (upd pos k p) N + pendT (tagOf (pos 0)) := by omega
        rw [this]; simp
      rw [e]
      exact .opn (by rw [e0]; exact a) (ho p hp b) (fun vs x => by have := c vs (by rw [← e0 p]; exact x); omega)
  | reg a b c =>
    refine ⟨V pos N - 1, 1, by omega, by omega, ?_, rfl, fun h p hp => ?_, fun h p hp => ?_⟩
    · have : ((V pos N - 1 : Nat) : Int) + 1 = ((V pos N : Nat) : Int) := by omega
      rw [this]; simp
    · have hV : V pos N = 1 := by omega
      have ou := others_uncounted kN hV h5'
      have := Mode.last (pos := upd pos k p) (N0 := N0) (N := N) k (by rw [e0]; exact a) k0 kN (by rw [upd_same]; exact .inl hp) (fun x x0 xN xk => by
        rw [upd_ne _ _ xk]
        rcases b x x0 xN with h' | h'
        · have := ou x xN xk; omega
        · exact h')
      rw [upd_same, hp] at this
      rw [h.1]
      simpa using this
    · have hv' := hv p (by omega)
      have e : ((V pos N - 1 : Nat) : Int) * KK + ((1 : Nat) : Int) = ((V (upd pos k p) N : Nat) : Int) * KK + 1 := by
        have : V pos N - 1 = V (upd pos k p) N := by omega
        rw [this]; simp
      rw [e]
      exact .reg (by rw [e0]; exact a) (ho p hp b) (by omega)
  | last L a b c d e =>
    by_cases x : k = L
    · subst x; omega
    · have := e k k0 kN x; omega
  | sema a b c => have := c k k0 kN; omega
  | fin a b => have := b k k0 kN; omega

/-- Whoever stands at stage 4, 3 or 2 is the last one. -/
theorem Mode.isLast (hm : Mode pos N0 N st sm) (h : wst (pos k) = 4 ∨ wst (pos k) = 3 ∨ wst (pos k) = 2) :
    w3T (tagOf (pos 0)) ∧ (∀ a, N0 ≤ a → a < N → a ≠ k → wst (pos a) = 1) ∧ st = (if wst (pos k) = 2 then 0 else 1) ∧ sm = 0 := by
  cases hm with
  | opn a b c => have := b k k0 kN; omega
  | reg a b c => have := b k k0 kN; omega
  | last L a b c d e =>
    by_cases x : k = L
    · subst x; exact ⟨a, e, rfl, rfl⟩
    · have := e k k0 kN x; omega
  | sema a b c => have := c k k0 kN; omega
  | fin a b => have := b k k0 kN; omega
theorem Mode.lastOn (ha : w3T (tagOf (pos 0))) (hq : ∀ a, N0 ≤ a → a < N → a ≠ k → wst (pos a) = 1) {p : Ps} (hp : wst p = 3 ∨ wst p = 2) : Mode (upd pos k p) N0 N (if wst p = 2 then 0 else 1) 0 := by
  have := Mode.last (pos := upd pos k p) (N0 := N0) (N := N) k (by rw [upd_ne _ _ (fun e => k1 e.symm)]; exact ha) k0 kN (by rw [upd_same]; omega) (fun a a0 aN ak => by rw [upd_ne _ _ ak]; exact hq a a0 aN ak)
  rwa [upd_same] at this
theorem Mode.lastOut (ha : w3T (tagOf (pos 0))) (hu : Up (pos 0)) (hq : ∀ a, N0 ≤ a → a < N → a ≠ k → wst (pos a) = 1) {p : Ps} (hp : wst p = 1) : Mode (upd pos k p) N0 N 0 1 :=
  .sema (by rw [upd_ne _ _ (fun e => k1 e.symm)]; exact ha) (by rw [upd_ne _ _ (fun e => k1 e.symm)]; exact hu) (fun a a0 aN => by
    by_cases e : a = k
    · subst e; rw [upd_same]; exact hp
    · rw [upd_ne _ _ e]; exact hq a a0 aN e)
end
end
end Go.Proofs.Ytdkbkocklnnmdaa.crew
