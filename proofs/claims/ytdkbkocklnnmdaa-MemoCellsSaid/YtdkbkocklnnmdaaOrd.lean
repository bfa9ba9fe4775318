/-
  A region that draws its order: every order that the tape can give lies in a list that is reckoned. No condition.
-/
import Derived.Conc.CompanyDraw
import Derived.Test.YtdkbkocklnnmdaaProg
import Derived.KernelRfl
namespace Go.Proofs.Ytdkbkocklnnmdaa.free
open Go Go.Conc

def orders (ops : Array Oper) : Nat → Array Bool → List (List Nat)
  | 0, _ => [[]]
  | n + 1, l => if (Region.ready .any ops l).isEmpty then [[]] else (Region.ready .any ops l).flatMap fun i => (orders ops n (l.setIfInBounds i true)).map (i :: ·)

theorem go_orders (ops : Array Oper) : ∀ (fuel t : Nat) (l : Array Bool), Region.linearise.go .any ops fuel t l [] ∈ orders ops fuel l := by
  intro fuel
  induction fuel with
  | zero => intro t l; simp [Region.linearise.go, orders]
  | succ fuel ih =>
    intro t l
    simp only [Region.linearise.go, orders]
    change (match (Region.ready .any ops l)[t % (Region.ready .any ops l).length]? with
      | some i => Region.linearise.go .any ops fuel (t / (Region.ready .any ops l).length) (l.setIfInBounds i true) [i]
      | none => [].reverse) ∈ _
    cases hi : (Region.ready .any ops l)[t % (Region.ready .any ops l).length]? with
    | none =>
      have hnil : Region.ready .any ops l = [] := by
        cases hr : Region.ready .any ops l with
        | nil => rfl
        | cons x xs =>
          rw [hr] at hi
          have hlt : t % (x :: xs).length < (x :: xs).length := Nat.mod_lt _ (by simp)
          simp at hi
          simp at hlt
          omega
      simp [hnil]
    | some i =>
      have hm := List.mem_of_getElem? hi
      have hne : (Region.ready .any ops l).isEmpty = false := by
        cases hr : Region.ready .any ops l with
        | nil => rw [hr] at hm; simp at hm
        | cons x xs => rfl
      simp only [hne]
      rw [linearise_go_acc]
      simp only [List.reverse_singleton, List.singleton_append, Bool.false_eq_true, if_false, List.mem_flatMap, List.mem_map]
      exact ⟨i, hm, _, ih _ _, rfl⟩

theorem schedule_orders (ops : Array Oper) (t : Nat) : Region.schedule (Try.prog.follows .mixedOrders) ops t ∈ orders ops ops.size (Array.replicate ops.size false) := by
  have hm : Try.prog.follows .mixedOrders = true := by kernel_rfl
  rw [hm]
  simp only [Region.schedule, Bool.true_or, if_true]
  exact go_orders ops _ _ _
noncomputable def ops57 : Array Oper := match Try.f57.body.getD .skip with
  | .region _ ops _ => ops
  | _ => #[]
theorem ord57 : orders ops57 6 (Array.replicate 6 false) = [[0, 1, 2, 3, 4, 5], [0, 1, 3, 2, 4, 5], [0, 1, 3, 4, 2, 5], [0, 3, 1, 2, 4, 5], [0, 3, 1, 4, 2, 5], [0, 3, 4, 1, 2, 5], [3, 0, 1, 2, 4, 5], [3, 0, 1, 4, 2, 5], [3, 0, 4, 1, 2, 5], [3, 4, 0, 1, 2, 5]] := by kernel_rfl
end Go.Proofs.Ytdkbkocklnnmdaa.free
