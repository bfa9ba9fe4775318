/-
  MemoNone returns true at every input, on every schedule, and each argument reads behind the call as it read before. No condition beside the row's own.
-/
import Derived.Test.YtdkbkocklnnmdaaRows
import Derived.Test.YtdkbkocklnnmdaaNone
import Derived.Test.YtdkbkocklnnmdaaEnding
import Derived.Conc.HoldsTime
import Derived.Conc.LeavingOf
import Derived.Below
import Derived.ProofKit
import Derived.OpenShut
import Derived.ChangeOld
set_option linter.unusedVariables false
set_option linter.unusedSimpArgs false
namespace Go.Proofs.Ytdkbkocklnnmdaa.none
open Go Go.ChangeShapes Go.WideShapes Go.ChangeAt Go.RowKit Go.Conc Go.Proofs.Ytdkbkocklnnmdaa.crew Go.Proofs.Ytdkbkocklnnmdaa.free Go.Proofs.Ytdkbkocklnnmdaa.wg

theorem own : ownKnob Try.prog.godebug = none := by kernel_rfl
theorem laidOut : laidOutB Try.prog = true := by kernel_rfl
theorem below_of_only {W W' : World} (h : Only (fun _ => False) W W') : Below W.heap.size W W' := ⟨h.os, h.tape, h.output, h.size, fun k hk => h.block k hk (fun x => x)⟩

theorem stop1_run {W : World} {n50 : Int} : ∀ g w, Stop1 W n50 g w → g.status = .running := fun g w h => by
  obtain ⟨_, _, _, _, cs, cv, n, bv, Wg, Bc, Bb, x4, x8, x9, x16, x17, x18, rfl, _⟩ := h; rfl
theorem stop2_run {W : World} {n50 : Int} : ∀ g w, Stop2 W n50 g w → g.status = .running := fun g w h => by
  obtain ⟨_, _, _, _, cs, cv, n, bv, Wg, Bc, Bb, x4, x8, x9, x16, x17, x18, rfl, _⟩ := h; rfl

set_option maxRecDepth 100000 in
theorem enter_eq (n bv v : Int) : Frame.enter Try.prog 8 #[.int .i64 n, .int .i64 bv, .int .i64 v] .normal = (base 8).at { tmps := #[.int .i64 n, .int .i64 bv, .int .i64 v] ++ Array.replicate 120 undef, defers := [] } [.code (Try.f8.body.getD .skip)] := by
  simp [Frame.enter, Frame.at, Try.func8, base, Try.f8]

set_option maxRecDepth 100000 in
theorem the_run (W : World) (n bv v : Int) :
    ∃ M last o w' t', runNT Try.prog (M + 1) (solo (G (Frame.enter Try.prog 8 #[.int .i64 n, .int .i64 bv, .int .i64 v] .normal) []) W) #[] = (.ended o w', t') ∧ runN Try.prog M (solo (G (Frame.enter Try.prog 8 #[.int .i64 n, .int .i64 bv, .int .i64 v] .normal) []) W) = .next last ∧ step Try.prog last = .ended o w' ∧
      Conc.Good Try.prog (fun v w => v = .bool true ∧ Only (fun _ => False) W w) last o w' t' := by
  rw [enter_eq]
  generalize hg : G ((base 8).at { tmps := #[.int .i64 n, .int .i64 bv, .int .i64 v] ++ Array.replicate 120 undef, defers := [] } [.code (Try.f8.body.getD .skip)]) [] = g
  have hw := walk1 (W := W) (n := n) (bv := bv) (v := v) (n1 := if (0 : Int) < n then (0 : Int) else n) (n50 := if (50 : Int) < n then (50 : Int) else n) (by split <;> omega) rfl rfl (by split <;> omega) W (atRel_refl W)
  rw [hg] at hw
  have h50 : (if (50 : Int) < n then (50 : Int) else n) ≤ 50 := by split <;> omega
  generalize (if (50 : Int) < n then (50 : Int) else n) = n50 at hw h50
  refine run_of_reaches (Shun := Of2 (W.heap.size + 5) (W.heap.size + 11)) (Lw := fun _ => True) ?_
  have hS0 : Stands (fun _ => False) (Low (W.heap.size + 5)) #[g] g #[] := ⟨rfl, ⟨_, leavers_one _ _⟩, rfl, fr_nil⟩
  refine (free_walk stop1_run hS0 hw).bind fun gs w sl t hq => ?_
  obtain ⟨a, hS, hsz, hA⟩ := hq
  refine (crowd_drive (N := 0) (k := 0) (Stop := Stop2 W n50) hS (by rw [hsz]; simp) hA).bind fun gs w sl t hq => ?_
  obtain ⟨a, hS, hsz2, m, hG⟩ := hq
  refine (free_walk stop2_run hS hG).bind fun gs w sl t hq => ?_
  obtain ⟨a, hS, hsz3, hA⟩ := hq
  refine (crowd_drive (N := n50.toNat) (k := 2) (Stop := AtTrue W (Of2 (W.heap.size + 5) (W.heap.size + 11))) hS (by rw [hsz3, hsz2, hsz]; simp; omega) hA).bind fun gs w sl t hq => ?_
  obtain ⟨a, hS, hsz4, m, hG⟩ := hq
  refine (free_walk (fun g w h => (h 0).1) hS hG).bind fun gs w sl t hq => ?_
  obtain ⟨a, hS, hsz5, d, hA⟩ := hq
  exact Reaches.refl ⟨a, hS, d, hA⟩

set_option maxRecDepth 100000 in
theorem lifted (os : Os) (started : os.Started) (H : Type) (enc : TypeId × Value → H) (F : Stop.Interp) :
    ReturnsInLeavingWide Rows.memoNoneRow.assume Try.checked os 8 .any (Rows.memoNoneSpec.pre6 enc Try.prog Try.f8 Rows.memoNoneRow.domain false) ((OpenSpec.ofChange Rows.memoNoneSpec).postWith enc Try.prog Try.f8 F (outsideKept [.timePasses]) false true false) := by
  refine returnsInLeavingWide_of_change_time (C := Try.checked) own started Try.func8
    (ChangeSpec.witness6c (enc := enc) (C := Try.checked) ⟨#[], #[.int .i64 0, .int .i64 0, .int .i64 0], []⟩ 8 (by kernel_rfl) (by kernel_rfl) (by kernel_rfl) (by kernel_rfl)) ?_
  intro W base args ds gs before hval0 hW _ _ _
  have hval : ∀ (j : Nat) t v, Try.f8.params[j]? = some t → args[j]? = some v → Value.okWide Try.prog W .any base t v := hval0
  have hW' := hW
  obtain ⟨p, q, hA0, hV, rfl, hfz, hnd⟩ := hW
  have hA : DataW.TrodAll enc Try.prog W 0 (fun _ => true) true Try.f8.params.toList args.toList ds p := hA0
  rw [Try.params8] at hA hval
  obtain ⟨v0, v1, v2, d0, d1, d2, p0, p1, p2, rfl, rfl, rfl, h0, h1, h2⟩ := trodAll_three hA
  obtain ⟨rfl, rfl⟩ := trodVars_none hV
  obtain ⟨x0, rfl, rfl, rfl, wx0⟩ := open_int Try.underlying3 (hval 0 3 v0 rfl rfl) h0
  obtain ⟨x1, rfl, rfl, rfl, wx1⟩ := open_int Try.underlying2 (hval 1 2 v1 rfl rfl) h1
  obtain ⟨x2, rfl, rfl, rfl, wx2⟩ := open_int Try.underlying3 (hval 2 3 v2 rfl rfl) h2
  clear hA0 hval0
  obtain ⟨M, last, o, w', t', r1, r2, r3, v, e, ⟨rfl, ho⟩, r5, r6, r7, r8⟩ := the_run W x0 x1 x2
  refine ⟨M, last, o, w', t', r1, r2, r3, _, e, ⟨?_, ?_⟩, r5, r6, r7, r8⟩
  · have : ({ w' with os := W.os } : World) = w' := by rw [← ho.os]
    rw [this]
    have bel := below_of_only ho
    exact ⟨_, _, _, [], _, [], hW', trodAll_mk1 (shut_bool Try.underlying4 _), trodAll_mk3 (shut_int Try.underlying3 wx0) (shut_int Try.underlying2 wx1) (shut_int Try.underlying3 wx2), rfl, bel.frame _, fun h => by cases h⟩
  · rw [ho.os]; exact ⟨0, by simp⟩

theorem proved : Rows.MemoNoneSaid :=
  OpenClaim.holds_of_wide_leaving_time 8 Try.f8 rfl rfl rfl rfl rfl rfl rfl ⟨rfl, rfl, rfl, rfl, rfl⟩ rfl rfl rfl rfl rfl (by kernel_rfl) Try.func8 (by kernel_rfl)
    (of_decide_eq_true (by kernel_rfl)) (by unfold Func.isWrapper; first | (rw [if_pos (by decide +kernel)]; kernel_rfl) | (rw [if_neg (by decide +kernel)]; exact ⟨rfl, rfl⟩))
    (fun os started H enc _ F => lifted os started H enc F)
#print axioms proved
end Go.Proofs.Ytdkbkocklnnmdaa.none
