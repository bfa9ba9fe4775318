/-
  A main goroutine that starts workers and waits for them: main's own steps keep the law that ties the wait group's cells to where everybody stands. No program here, and no condition.
-/
import Derived.Test.YtdkbkocklnnmdaaCrew
set_option linter.unusedVariables false
set_option linter.unusedSectionVars false
namespace Go.Proofs.Ytdkbkocklnnmdaa.crew
open Go Go.Conc Go.Proofs.Ytdkbkocklnnmdaa.mach
open Go.ConcN (upd upd_same upd_ne sumTo sumTo_upd sumTo_congr le_sumTo sumTo_upd_out sumTo_le)
open Go.ConcR (KK)

section
variable {pos : Nat → Ps} {N0 N : Nat} {st sm : Int}
theorem Mode.openInv (hm : Mode pos N0 N st sm) (ho : openT (tagOf (pos 0))) :
    OpenW pos N0 N ∧ (∀ vs, tagOf (pos 0) = some (.wcas vs) → V pos N ≤ vs ∧ 1 ≤ vs) ∧ st = ((V pos N + pendT (tagOf (pos 0)) : Nat) : Int) * KK ∧ sm = 0 := by
  have no3 : ¬ w3T (tagOf (pos 0)) := by
    revert ho
    cases tagOf (pos 0) with
    | none => exact fun h => h.elim
    | some s => cases s <;> intro h <;> first | exact fun x => x | exact h.elim
  have noF : ¬ finT (tagOf (pos 0)) := by
    revert ho
    cases tagOf (pos 0) with
    | none => exact fun h => h.elim
    | some s => cases s <;> intro h <;> first | exact fun x => x | exact h.elim
  cases hm with
  | opn a b c => exact ⟨b, c, rfl, rfl⟩
  | reg a b c => exact absurd a no3
  | last L a b c d e => exact absurd a no3
  | sema a b c => exact absurd a no3
  | fin a b => exact absurd a noF
theorem Mode.finInv (hm : Mode pos N0 N st sm) (ho : finT (tagOf (pos 0))) : AllQ pos N0 N ∧ st = 0 ∧ sm = 0 := by
  have no3 : ¬ w3T (tagOf (pos 0)) := by
    revert ho
    cases tagOf (pos 0) with
    | none => exact fun h => h.elim
    | some s => cases s <;> intro h <;> first | exact fun x => x | exact h.elim
  have noO : ¬ openT (tagOf (pos 0)) := by
    revert ho
    cases tagOf (pos 0) with
    | none => exact fun h => h.elim
    | some s => cases s <;> intro h <;> first | exact fun x => x | exact h.elim
  cases hm with
  | opn a b c => exact absurd a noO
  | reg a b c => exact absurd a no3
  | last L a b c d e => exact absurd a no3
  | sema a b c => exact absurd a no3
  | fin a b => exact ⟨b, rfl, rfl⟩
theorem Mode.w3Inv (hm : Mode pos N0 N st sm) (ho : w3T (tagOf (pos 0))) :
    (sm = 0) ∨ (sm = 1 ∧ st = 0 ∧ AllQ pos N0 N) := by
  cases hm with
  | opn a b c => exact .inl rfl
  | reg a b c => exact .inl rfl
  | last L a b c d e => exact .inl rfl
  | sema a b c => exact .inr ⟨rfl, rfl, c⟩
  | fin a b => exact .inl rfl

theorem openW_main (p : Ps) (h0 : 1 ≤ N0) (h : OpenW pos N0 N) : OpenW (upd pos 0 p) N0 N := fun k a b => by rw [upd_ne _ _ (by omega)]; exact h k a b
theorem allQ_main (p : Ps) (h0 : 1 ≤ N0) (h : AllQ pos N0 N) : AllQ (upd pos 0 p) N0 N := fun k a b => by rw [upd_ne _ _ (by omega)]; exact h k a b

theorem wst0_of_open {p : Ps} (h : openT (tagOf p)) : wst p = 0 := by
  unfold wst; revert h
  cases tagOf p with
  | none => exact fun h => h.elim
  | some s => cases s <;> intro h <;> first | rfl | exact h.elim
theorem wst0_of_w3 {p : Ps} (h : w3T (tagOf p)) : wst p = 0 := by
  unfold wst; revert h
  cases tagOf p with
  | none => exact fun h => h.elim
  | some s => cases s <;> intro h <;> first | rfl | exact h.elim
theorem wst0_of_fin {p : Ps} (h : finT (tagOf p)) : wst p = 0 := by
  unfold wst; revert h
  cases tagOf p with
  | none => exact fun h => h.elim
  | some s => cases s <;> intro h <;> first | rfl | exact h.elim

theorem Mode.openMk (h0 : 1 ≤ N0) (hz : wst (pos 0) = 0) {p : Ps} (ho : openT (tagOf p)) (hW : OpenW pos N0 N) (hc : ∀ vs, tagOf p = some (.wcas vs) → V pos N ≤ vs ∧ 1 ≤ vs) :
    Mode (upd pos 0 p) N0 N (((V pos N + pendT (tagOf p) : Nat) : Int) * KK) 0 := by
  have hv := V_main (N := N) p hz (wst0_of_open ho)
  have := Mode.opn (pos := upd pos 0 p) (N0 := N0) (N := N) (by rw [upd_same]; exact ho) (openW_main p h0 hW) (fun vs e => by rw [hv]; rw [upd_same] at e; exact hc vs e)
  rwa [hv, upd_same] at this
theorem Mode.regMk (h0 : 1 ≤ N0) (hz : wst (pos 0) = 0) {p : Ps} (ho : w3T (tagOf p)) (hW : OpenW pos N0 N) (hc : 1 ≤ V pos N) : Mode (upd pos 0 p) N0 N (((V pos N : Nat) : Int) * KK + 1) 0 := by
  have hv := V_main (N := N) p hz (wst0_of_w3 ho)
  have := Mode.reg (pos := upd pos 0 p) (N0 := N0) (N := N) (by rw [upd_same]; exact ho) (openW_main p h0 hW) (by rw [hv]; exact hc)
  rwa [hv] at this
theorem Mode.finMk (h0 : 1 ≤ N0) {p : Ps} (ho : finT (tagOf p)) (hQ : AllQ pos N0 N) : Mode (upd pos 0 p) N0 N 0 0 := .fin (by rw [upd_same]; exact ho) (allQ_main p h0 hQ)
theorem Mode.w3Mk (h0 : 1 ≤ N0) (hm : Mode pos N0 N st sm) (h3 : w3T (tagOf (pos 0))) {p : Ps} (ho : w3T (tagOf p)) (hu : sm = 1 → Up p) : Mode (upd pos 0 p) N0 N st sm := by
  have hv := V_main (N := N) p (wst0_of_w3 h3) (wst0_of_w3 ho)
  have e : ∀ k, k < N → wst (upd pos 0 p k) = wst (pos k) := fun k _ => by
    by_cases x : k = 0
    · subst x; rw [upd_same, wst0_of_w3 h3, wst0_of_w3 ho]
    · rw [upd_ne _ _ x]
  have same : tagOf (upd pos 0 p 0) = tagOf p := by rw [upd_same]
  cases hm with
  | opn a b c => revert a h3; cases tagOf (pos 0) with
    | none => exact fun h => h.elim
    | some s => cases s <;> intro h3 a <;> first | exact a.elim | exact h3.elim
  | reg a b c => exact .regMk h0 (wst0_of_w3 h3) ho b c
  | last L a b c d f =>
    have hL : wst (upd pos 0 p L) = wst (pos L) := e L c
    rw [← hL]
    exact .last L (by rw [same]; exact ho) b c (by rw [hL]; exact d) (fun k k0 kN kL => by rw [e k kN]; exact f k k0 kN kL)
  | sema a b c => exact .sema (by rw [same]; exact ho) (by rw [upd_same]; exact hu rfl) (allQ_main p h0 c)
  | fin a b => revert a h3; cases tagOf (pos 0) with
    | none => exact fun h => h.elim
    | some s => cases s <;> intro h3 a <;> first | exact a.elim | exact h3.elim

theorem allQ_of_zero (hW : OpenW pos N0 N) (hV : V pos N = 0) : AllQ pos N0 N := fun k a b => by
  rcases hW k a b with h | h
  · have := of_V_zero hV b; omega
  · exact h

theorem sumTo_succ (f : Nat → Nat) (n : Nat) : sumTo (n + 1) f = sumTo n f + f n := rfl
/-- A worker is started. -/
theorem Mode.born (h0 : 1 ≤ N0) (hN : N0 ≤ N) (hm : Mode pos N0 N st sm) {r : Nat} {f : Nat} (hg : pos 0 = .on (.go r) f) {p pc : Ps} (hp : openT (tagOf p)) (hpp : pendT (tagOf p) = 0) (hnc : ∀ vs, tagOf p ≠ some (.wcas vs))
    (hc : 5 ≤ wst pc) : Mode (upd (upd pos 0 p) N pc) N0 (N + 1) st sm ∧ V (upd (upd pos 0 p) N pc) (N + 1) = V pos N + 1 := by
  have ho : openT (tagOf (pos 0)) := by rw [hg]; trivial
  obtain ⟨a, b, rfl, rfl⟩ := hm.openInv ho
  have hpend : pendT (tagOf (pos 0)) = 1 := by rw [hg]; rfl
  have hv : V (upd (upd pos 0 p) N pc) (N + 1) = V pos N + 1 := by
    have e1 : V (upd (upd pos 0 p) N pc) N = V (upd pos 0 p) N := V_congr fun k hk => by rw [upd_ne _ _ (by omega)]
    have e2 := V_main (pos := pos) (N := N) p (wst0_of_open ho) (wst0_of_open hp)
    have e3 : cn (upd (upd pos 0 p) N pc N) = 1 := by rw [upd_same]; unfold cn; rw [if_pos hc]
    have e4 : V (upd (upd pos 0 p) N pc) (N + 1) = V (upd (upd pos 0 p) N pc) N + cn (upd (upd pos 0 p) N pc N) := rfl
    omega
  refine ⟨?_, hv⟩
  have e0 : upd (upd pos 0 p) N pc 0 = p := by rw [upd_ne _ _ (by omega), upd_same]
  have := Mode.opn (pos := upd (upd pos 0 p) N pc) (N0 := N0) (N := N + 1) (by rw [e0]; exact hp) (fun k k0 kN => by
      by_cases x : k = N
      · subst x; rw [upd_same]; exact .inl hc
      · rw [upd_ne _ _ x, upd_ne _ _ (by omega)]; exact a k k0 (by omega)) (fun vs e => by rw [e0] at e; exact absurd e (hnc vs))
  rw [hv, e0, hpp] at this
  rw [hpend]
  exact this
end
end Go.Proofs.Ytdkbkocklnnmdaa.crew
