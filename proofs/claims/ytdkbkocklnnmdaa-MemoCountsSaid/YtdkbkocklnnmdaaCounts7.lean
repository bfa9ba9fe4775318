/-
  MemoCounts on the machine, on whatever tape: round by round to the return of true. Condition: the argument leads to a row of Sums.
-/
import Derived.Test.YtdkbkocklnnmdaaCounts6
set_option linter.unusedSimpArgs false
set_option linter.unusedVariables false
namespace Go.Proofs.Ytdkbkocklnnmdaa.counts
open Go Go.Conc Go.RowKit Go.Proofs.Ytdkbkocklnnmdaa.crew Go.Proofs.Ytdkbkocklnnmdaa.kid Go.Proofs.Ytdkbkocklnnmdaa.wg Go.Proofs.Ytdkbkocklnnmdaa.free

/-- The next step is the return of true. -/
def End7 (W0 : World) (gs : Array Goroutine) (w : World) (_ : Option (Nat × Nat)) (t : Trace) : Prop :=
  ∃ (Shun : Loc → Prop) (a : Goroutine), Stands Shun (fun _ => True) gs a t ∧ ∃ d, AtTrue W0 Shun a (w.at d)

section
variable {W0 : World} {a0 : Option Addr} {b off len cap : Nat}
theorem next_run {v : Int} {i sz : Nat} : ∀ g w, NextHead W0 a0 len cap v i sz g w → g.status = .running := fun g w h => by
  obtain ⟨⟨_, _, _, _, rfl⟩, _⟩ := h; rfl
theorem stopC_run {w : World} {v bv : Int} {i N : Nat} {Shun : Loc → Prop} : ∀ g w', StopC W0 w b off len cap v bv i N Shun g w' → g.status = .running := fun g w' h => by
  obtain ⟨_, _, _, _, cs, n, bv, v, Wg, Bc, Bb, Cn, x4, x8, x9, x16, x17, x18, rfl, _⟩ := h; rfl
theorem H7.un {w : World} {v : Int} {d : Nat} (h : H7 W0 v (w.at d)) : H7 W0 v w := ⟨⟨h.only.os, h.only.tape, h.only.output, h.only.size, h.only.block⟩, h.cnt, h.dnt, h.size, h.i64⟩

theorem rounds (hlen : len ≤ maxLen) (hR : IsSums W0 a0 len) : ∀ (k i : Nat), k + i = 30 → ∀ (Shun Lw : Loc → Prop) (gs : Array Goroutine) (a : Goroutine) (w : World) (sl : Option (Nat × Nat)) (t : Trace) (v : Int),
    Stands Shun Lw gs a t → AtHead7 a0 len cap W0.heap.size v i a → H7 W0 v w → S7 W0 w Shun Lw → gs.size ≤ 1 + 100 * i → Reaches gs w sl t (End7 W0) := by
  have stop : ∀ (i : Nat), i ≤ 30 → (len ≤ i ∨ i = 30) → ∀ (Shun Lw : Loc → Prop) (gs : Array Goroutine) (a : Goroutine) (w : World) (sl : Option (Nat × Nat)) (t : Trace) (v : Int),
      Stands Shun Lw gs a t → AtHead7 a0 len cap W0.heap.size v i a → H7 W0 v w → S7 W0 w Shun Lw → Reaches gs w sl t (End7 W0) := fun i hi hend Shun Lw gs a w sl t v hS hh hH h7 => by
    obtain ⟨x7, x45, x46, J, rfl⟩ := hh
    refine (free_walk (Stop := AtTrue W0 Shun) (n := 2) (fun g w h => (h 0).1) (Stands.mono hS (fun _ _ => trivial)) (exitWalk hi hend hlen hH h7 w (atRel_refl w))).bind fun gs w sl t hq => ?_
    obtain ⟨a, hS, _, d, hA⟩ := hq
    exact Reaches.refl ⟨Shun, a, hS, d, hA⟩
  intro k
  induction k with
  | zero => exact fun i hi Shun Lw gs a w sl t v hS hh hH h7 _ => stop i (by omega) (.inr (by omega)) Shun Lw gs a w sl t v hS hh hH h7
  | succ k ih =>
    intro i hki Shun Lw gs a w sl t v hS hh hH h7 hsz
    rcases Nat.lt_or_ge i len with hl | hl
    · have hi : i < 30 := by omega
      rcases hR with h0 | ⟨b, off, rfl, hb, hmax, hcells⟩
      · omega
      obtain ⟨n, bv, cN0, cY0, hn64, hbv⟩ := hcells i hl
      have cN := cell_old hH.only cN0
      have cY := cell_old hH.only cY0
      obtain ⟨x7, x45, x46, J, rfl⟩ := hh
      rcases Int.lt_or_le n 1 with hn | hn
      · refine (free_walk (Stop := NextHead W0 (some ⟨b, off, none⟩) len cap (sat v bv) (i + 1) w.heap.size) (n := 0) next_run (Stands.mono hS fun l hl' => h7.lw l hl') (roundAdd hi hl hmax hb cN cY hbv hn hH h7 w (atRel_refl w))).bind fun gs' w' sl' t' hq => ?_
        obtain ⟨a', hS', hsz', d, hh', hH', hws⟩ := hq
        have hws' : w'.heap.size = w.heap.size := hws
        exact ih (i + 1) (by omega) Shun _ gs' a' w' sl' t' _ hS' hh' hH'.un ⟨h7.own, fun l hl' => by
          rw [hws']; exact h7.shun l hl', fun l hl' => by rw [hws']; exact hl'⟩ (by omega)
      · obtain ⟨N, hN⟩ : ∃ N : Nat, (N : Int) = if 100 < n then 100 else n := by
          split
          · exact ⟨100, rfl⟩
          · exact ⟨n.toNat, by omega⟩
        have hN100 : N ≤ 100 := by split at hN <;> omega
        refine (free_walk (Stop := StopC W0 w b off len cap v bv i N Shun) (n := 0) stopC_run (Stands.mono hS fun l hl' => by
          obtain ⟨a, e, ha⟩ := h7.lw l hl'; exact ⟨a, e, by omega⟩) (roundCrowd hi hl hmax hb cN cY hbv hn hN hH h7 w (atRel_refl w))).bind fun gs1 w1 sl1 t1 hq => ?_
        obtain ⟨a1, hS1, hsz1, hA⟩ := hq
        refine (crowd_driveC (N := N) (k := 0) (Stop := NextHead W0 (some ⟨b, off, none⟩) len cap (satn v bv N) (i + 1) (w.heap.size + 3)) hS1 (by omega) hA).bind fun gs2 w2 sl2 t2 hq => ?_
        obtain ⟨a2, hS2, hsz2, m, hG⟩ := hq
        refine (free_walk next_run hS2 hG).bind fun gs3 w3 sl3 t3 hq => ?_
        obtain ⟨a3, hS3, hsz3, d, hh', hH', hws⟩ := hq
        have hws' : w3.heap.size = w.heap.size + 3 := hws
        have hsm := hH.size
        exact ih (i + 1) (by omega) _ _ gs3 a3 w3 sl3 t3 _ hS3 hh' hH'.un ⟨fun a ha => .inl (h7.own a ha), fun l hl' => by
          rcases hl' with h | ⟨a, e, ha⟩
          · obtain ⟨a, e, ha⟩ := h7.shun l h
            exact ⟨a, e, by omega⟩
          · exact ⟨a, e, by omega⟩, fun l hl' => by rw [hws']; exact hl'⟩ (by omega)
    · exact stop i (by omega) (.inl hl) Shun Lw gs a w sl t v hS hh hH h7
end

theorem run_of_ending {Post : Value → World → Prop} {g : Goroutine} {W : World}
    (h : Reaches #[g] W none #[] fun gs' w' _ t' => ∃ (Shun : Loc → Prop) (a' : Goroutine), Stands Shun (fun _ => True) gs' a' t' ∧ ∃ d, crew.Returns Shun Post a' (w'.at d)) :
    ∃ M last o w' t', runNT Try.prog (M + 1) (solo g W) #[] = (.ended o w', t') ∧ runN Try.prog M (solo g W) = .next last ∧ step Try.prog last = .ended o w' ∧ Conc.Good Try.prog Post last o w' t' := by
  obtain ⟨K, gs, w, sl, t, hr, Shun, a, hS, d, hA⟩ := h
  exact run_of_reaches (Shun := Shun) (Lw := fun _ => True) ⟨K, gs, w, sl, t, hr, a, hS, d, hA⟩

set_option maxRecDepth 100000 in
theorem enter_eq (a0 : Option Addr) (len cap : Nat) : Frame.enter Try.prog 7 #[.slice a0 len cap] .normal = (base 7).at { tmps := #[.slice a0 len cap] ++ Array.replicate 75 undef, defers := [] } [.code body7] := by
  simp [Frame.enter, Frame.at, Try.func7, base, Try.f7, body7]

theorem the_run (W : World) (a0 : Option Addr) (len cap : Nat) (hR : IsSums W a0 len) :
    ∃ M last o w' t', runNT Try.prog (M + 1) (solo (G (Frame.enter Try.prog 7 #[.slice a0 len cap] .normal) []) W) #[] = (.ended o w', t') ∧ runN Try.prog M (solo (G (Frame.enter Try.prog 7 #[.slice a0 len cap] .normal) []) W) = .next last ∧ step Try.prog last = .ended o w' ∧
      Conc.Good Try.prog (fun v w => v = .bool true ∧ Only (fun _ => False) W w) last o w' t' := by
  rw [enter_eq]
  have hlen : len ≤ maxLen := by
    rcases hR with h | ⟨_, _, _, _, h, _⟩
    · unfold maxLen; omega
    · exact h
  have hw := enterWalk (W := W) (a0 := a0) (len := len) (cap := cap) W (atRel_refl W)
  refine run_of_ending ?_
  generalize G ((base 7).at { tmps := #[.slice a0 len cap] ++ Array.replicate 75 undef, defers := [] } [.code body7]) [] = g at hw ⊢
  have hS0 : Stands (Of W.heap.size) (Low (W.heap.size + 2)) #[g] g #[] := ⟨rfl, ⟨_, leavers_one _ _⟩, rfl, fr_start⟩
  refine (free_walk (Stop := NextHead W a0 len cap 0 0 (W.heap.size + 2)) (n := 0) next_run hS0 hw).bind fun gs w sl t hq => ?_
  obtain ⟨a, hS, hsz, d, hh, hH, hws⟩ := hq
  have hws' : w.heap.size = W.heap.size + 2 := hws
  exact rounds hlen hR 30 0 rfl _ _ gs a w sl t 0 hS hh hH.un ⟨fun a ha => ⟨a, rfl, ha⟩, fun l hl => by
    obtain ⟨a, e, ha⟩ := hl
    exact ⟨a, e, .inl ha⟩, fun l hl => by rw [hws']; exact hl⟩ (by rw [hsz]; simp)
end Go.Proofs.Ytdkbkocklnnmdaa.counts
