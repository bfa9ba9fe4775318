/-
  MemoMany returns true at every input, on every schedule, and each argument reads behind the call as it read before. No condition beside the row's own.
-/
import Derived.Test.YtdkbkocklnnmdaaRows
import Derived.Test.YtdkbkocklnnmdaaMany3
import Derived.Test.YtdkbkocklnnmdaaEnding
import Derived.Conc.HoldsTime
import Derived.Conc.LeavingOf
import Derived.Below
import Derived.ProofKit
import Derived.OpenShut
import Derived.ChangeMaps5
import Derived.ChangeOld
set_option linter.unusedVariables false
set_option linter.unusedSimpArgs false
namespace Go.Proofs.Ytdkbkocklnnmdaa.manyp
open Go Go.ChangeShapes Go.WideShapes Go.ChangeAt Go.RowKit Go.Conc Go.Proofs.Ytdkbkocklnnmdaa.crew Go.Proofs.Ytdkbkocklnnmdaa.free Go.Proofs.Ytdkbkocklnnmdaa.wg Go.Proofs.Ytdkbkocklnnmdaa.tgm
open Go.ChangeMaps (open_string shut_string)
open Go.Proofs.Ytdkbkocklnnmdaa.many hiding runN

theorem own : ownKnob Try.prog.godebug = none := by kernel_rfl
theorem laidOut : laidOutB Try.prog = true := by kernel_rfl
theorem below_of_onlyT {W W' : World} (h : OnlyT W W') : Below W.heap.size W { W' with os := W.os } := ⟨rfl, h.tape, h.output, h.size, h.block⟩

theorem attog_run {Shun Lw Shun2 Lw2 : Loc → Prop} {N k : Nat} {Stop : Goroutine → World → Prop} : ∀ g w, AtTog Shun Lw Shun2 Lw2 N Stop k g w → g.status = .running := fun g w h => by
  obtain ⟨cs, p, γ, Bv, Bc, Bo, tyO, tyR, J, rfl, _⟩ := h.ex; rfl

set_option maxRecDepth 100000 in
theorem enter_eq (n : Int) (v : ByteArray) : Frame.enter Try.prog 6 #[.int .i64 n, .string v] .normal = (base 6).at { tmps := #[.int .i64 n, .string v] ++ Array.replicate 53 undef, defers := [] } [.code (Try.f6.body.getD .skip)] := by
  simp [Frame.enter, Frame.at, Try.func6, base, Try.f6]

set_option maxRecDepth 100000 in
theorem the_run (W : World) (n : Int) (v : ByteArray) :
    ∃ M last o w' t', runNT Try.prog (M + 1) (solo (G (Frame.enter Try.prog 6 #[.int .i64 n, .string v] .normal) []) W) #[] = (.ended o w', t') ∧ runN Try.prog M (solo (G (Frame.enter Try.prog 6 #[.int .i64 n, .string v] .normal) []) W) = .next last ∧ step Try.prog last = .ended o w' ∧
      Conc.Good Try.prog (fun v w => v = .bool true ∧ OnlyT W w) last o w' t' := by
  rw [enter_eq]
  generalize hg : G ((base 6).at { tmps := #[.int .i64 n, .string v] ++ Array.replicate 53 undef, defers := [] } [.code (Try.f6.body.getD .skip)]) [] = g
  have h3 : (if (3000 : Int) < n then (3000 : Int) else n) ≤ 3000 := by split <;> omega
  generalize hn0 : (if (3000 : Int) < n then (3000 : Int) else n) = n' at h3
  by_cases hn : 1 ≤ n'
  · obtain ⟨N, eN⟩ : ∃ N : Nat, (if (1024 : Int) < n' then (1024 : Int) else n') = (N : Int) := ⟨(if (1024 : Int) < n' then (1024 : Int) else n').toNat, by split <;> omega⟩
    have hN : N ≤ 1024 := by
      have : (N : Int) ≤ 1024 := by rw [← eN]; split <;> omega
      omega
    have hw := walkA (W0 := W) (n := n) (v := v) hn0 hn eN W (atRel_refl W)
    rw [hg] at hw
    refine run_of_reaches (Shun := Sh2 W.heap.size) (Lw := fun _ => True) ?_
    have hS0 : Stands (fun _ => False) (Lw1 W.heap.size) #[g] g #[] := ⟨rfl, ⟨_, leavers_one _ _⟩, rfl, fr_nil⟩
    refine (free_walk attog_run hS0 hw).bind fun gs w sl t hq => ?_
    obtain ⟨a, hS, hsz, hA⟩ := hq
    refine (tog_drive (N := N) (k := 2) (Stop := AtTrue W (Sh2 W.heap.size)) hS (by rw [hsz]; simp; omega) hA).bind fun gs w sl t hq => ?_
    obtain ⟨a, hS, hsz2, m, hG⟩ := hq
    refine (free_walk (fun g w h => (h 0).1) hS hG).bind fun gs w sl t hq => ?_
    obtain ⟨a, hS, hsz5, d, hA⟩ := hq
    exact Reaches.refl ⟨a, hS, d, hA⟩
  · have hw := walkB (W0 := W) (n := n) (v := v) hn0 hn W (atRel_refl W)
    rw [hg] at hw
    refine run_of_reaches (Shun := NoS) (Lw := AllL) ?_
    have hS0 : Stands NoS AllL #[g] g #[] := ⟨rfl, ⟨_, leavers_one _ _⟩, rfl, fr_nil⟩
    refine (free_walk (fun g w h => (h 0).1) hS0 hw).bind fun gs w sl t hq => ?_
    obtain ⟨a, hS, hsz5, d, hA⟩ := hq
    exact Reaches.refl ⟨a, hS, d, hA⟩

set_option maxRecDepth 100000 in
theorem lifted (os : Os) (started : os.Started) (H : Type) (enc : TypeId × Value → H) (F : Stop.Interp) :
    ReturnsInLeavingWide Rows.memoManyRow.assume Try.checked os 6 .any (Rows.memoManySpec.pre6 enc Try.prog Try.f6 Rows.memoManyRow.domain false) ((OpenSpec.ofChange Rows.memoManySpec).postWith enc Try.prog Try.f6 F (outsideKept [.timePasses]) false true false) := by
  refine returnsInLeavingWide_of_change_time (C := Try.checked) own started Try.func6
    (ChangeSpec.witness6c (enc := enc) (C := Try.checked) ⟨#[], #[.int .i64 0, .string { data := #[] }], []⟩ 8 (by kernel_rfl) (by kernel_rfl) (by kernel_rfl) (by kernel_rfl)) ?_
  intro W base args ds gs before hval0 hW _ _ _
  have hval : ∀ (j : Nat) t v, Try.f6.params[j]? = some t → args[j]? = some v → Value.okWide Try.prog W .any base t v := hval0
  have hW' := hW
  obtain ⟨p, q, hA0, hV, rfl, hfz, hnd⟩ := hW
  have hA : DataW.TrodAll enc Try.prog W 0 (fun _ => true) true Try.f6.params.toList args.toList ds p := hA0
  rw [Try.params6] at hA hval
  obtain ⟨v0, v1, d0, d1, p0, p1, rfl, rfl, rfl, h0, h1⟩ := trodAll_two hA
  obtain ⟨rfl, rfl⟩ := trodVars_none hV
  obtain ⟨x0, rfl, rfl, rfl, wx0⟩ := open_int Try.underlying3 (hval 0 3 v0 rfl rfl) h0
  have k1 := h1
  have lt1 : ∀ x ∈ p1, x.block < W.heap.size := by obtain ⟨m, hm⟩ := k1; exact DataW.trod_lt m _ _ _ hm
  obtain ⟨s1, rfl, rfl, rfl, ws1⟩ := open_string Try.underlying9 (hval 1 9 v1 rfl rfl) h1
  clear hA0 hval0
  obtain ⟨M, last, o, w', t', r1, r2, r3, v, e, ⟨rfl, ho⟩, r5, r6, r7, r8⟩ := the_run W x0 s1
  refine ⟨M, last, o, w', t', r1, r2, r3, _, e, ⟨?_, ?_⟩, r5, r6, r7, r8⟩
  · have bel := below_of_onlyT ho
    exact ⟨_, _, _, [], _, [], hW', trodAll_mk1 (shut_bool Try.underlying4 _), trodAll_mk2 (shut_int Try.underlying3 wx0) (Below.trod laidOut (by kernel_rfl) (of_decide_eq_true (by kernel_rfl)) k1 bel lt1), rfl, bel.frame _, fun h => by cases h⟩
  · exact ho.os

theorem proved : Rows.MemoManySaid :=
  OpenClaim.holds_of_wide_leaving_time 6 Try.f6 rfl rfl rfl rfl rfl rfl rfl ⟨rfl, rfl, rfl, rfl, rfl⟩ rfl rfl rfl rfl rfl (by kernel_rfl) Try.func6 (by kernel_rfl)
    (of_decide_eq_true (by kernel_rfl)) (by unfold Func.isWrapper; first | (rw [if_pos (by decide +kernel)]; kernel_rfl) | (rw [if_neg (by decide +kernel)]; exact ⟨rfl, rfl⟩))
    (fun os started H enc _ F => lifted os started H enc F)
#print axioms proved
end Go.Proofs.Ytdkbkocklnnmdaa.manyp
