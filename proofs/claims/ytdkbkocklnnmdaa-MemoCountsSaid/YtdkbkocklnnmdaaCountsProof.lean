/-
  MemoCounts returns true at every input, on every schedule, and each argument reads behind the call as it read before. No condition beside the row's own.
-/
import Derived.Test.YtdkbkocklnnmdaaRows
import Derived.Test.YtdkbkocklnnmdaaCounts7
import Derived.Conc.HoldsTime
import Derived.Conc.LeavingOf
import Derived.Below
import Derived.ProofKit
import Derived.OpenShut
import Derived.ChangeOld
import Derived.Deep.SlicePairs
set_option linter.unusedVariables false
set_option linter.unusedSimpArgs false
namespace Go.Proofs.Ytdkbkocklnnmdaa.counts
open Go Go.ChangeShapes Go.WideShapes Go.ChangeAt Go.RowKit Go.Deep Go.Conc Go.Proofs.Ytdkbkocklnnmdaa.crew Go.Proofs.Ytdkbkocklnnmdaa.free Go.Proofs.Ytdkbkocklnnmdaa.wg

theorem own : ownKnob Try.prog.godebug = none := by kernel_rfl
theorem laidOut : laidOutB Try.prog = true := by kernel_rfl
theorem addr_add (b off n : Nat) : (⟨b, off, none⟩ : Addr).add n = ⟨b, off + n, none⟩ := by
  unfold Addr.add
  split <;> simp_all
theorem below_of_only {W W' : World} (h : Only (fun _ => False) W W') : Below W.heap.size W W' := ⟨h.os, h.tape, h.output, h.size, fun k hk => h.block k hk (fun x => x)⟩

set_option maxRecDepth 100000 in
theorem lifted (os : Os) (started : os.Started) (H : Type) (enc : TypeId × Value → H) (F : Stop.Interp) :
    ReturnsInLeavingWide Rows.memoCountsRow.assume Try.checked os 7 .any (Rows.memoCountsSpec.pre6 enc Try.prog Try.f7 Rows.memoCountsRow.domain false) ((OpenSpec.ofChange Rows.memoCountsSpec).postWith enc Try.prog Try.f7 F (outsideKept [.timePasses]) false true false) := by
  refine returnsInLeavingWide_of_change_time (C := Try.checked) own started Try.func7
    (ChangeSpec.witness6c (enc := enc) (C := Try.checked) ⟨#[], #[.slice none 0 0], []⟩ 8 (by kernel_rfl) (by kernel_rfl) (by kernel_rfl) (by kernel_rfl)) ?_
  intro W base args ds gs before hval0 hW _ _ _
  have hval : ∀ (j : Nat) t v, Try.f7.params[j]? = some t → args[j]? = some v → Value.okWide Try.prog W .any base t v := hval0
  have hW' := hW
  obtain ⟨p, q, hA0, hV, rfl, hfz, hnd⟩ := hW
  have hA : DataW.TrodAll enc Try.prog W 0 (fun _ => true) true Try.f7.params.toList args.toList ds p := hA0
  rw [Try.params7] at hA hval
  obtain ⟨v0, d0, rfl, rfl, h0⟩ := trodAll_one hA
  obtain ⟨rfl, rfl⟩ := trodVars_none hV
  obtain ⟨a0, len0, cap0, rfl⟩ := okWide_slice Try.underlying56 (hval 0 56 v0 rfl rfl)
  have k0 := h0
  have lt0 : ∀ x ∈ p, x.block < W.heap.size := by obtain ⟨m, hm⟩ := k0; exact DataW.trod_lt m _ _ _ hm
  have w0 : IsSums W a0 len0 := by
    obtain ⟨fuel, hf⟩ := h0
    rcases open_slice_pairs Try.underlying56 Try.underlying64 (by kernel_rfl) rfl rfl (by kernel_rfl) (by kernel_rfl) hf with ⟨hcs, _⟩ | ⟨x, l, c, m, n, V0, V1, D0, D1, P0, P1, hcs, _, hl, hm, hmm, _, hi⟩
    · simp [Value.cells] at hcs
      obtain ⟨rfl, rfl, rfl⟩ := hcs
      exact .inl rfl
    · simp [Value.cells] at hcs
      obtain ⟨rfl, rfl, rfl⟩ := hcs
      have hmc : m = cap0 := by simpa using hmm
      by_cases hz : len0 = 0
      · exact .inl hz
      · obtain ⟨b, off, spot⟩ := x
        have hc := (hi 0 (by omega)).1
        have hspot : spot = none := by simpa [Addr.add] using World.cell?_spot hc
        subst hspot
        have hlt : b < W.heap.size := by
          obtain ⟨e, n', hsh, _, _⟩ := World.shape?_of_cell? hc
          unfold World.shape? at hsh
          split at hsh
          · rename_i c e fr hb; exact lt_of_block hb
          · cases hsh
        refine .inr ⟨b, off, rfl, hlt, by omega, fun i hil => ?_⟩
        obtain ⟨h1, h2, h3, h4⟩ := hi i (by omega)
        obtain ⟨k1, e1, _, b1⟩ := DataW.trod_int Try.underlying3 h3
        obtain ⟨k2, e2, _, b2⟩ := DataW.trod_int Try.underlying2 h4
        simp only [List.cons.injEq, and_true] at e1 e2
        rw [e1] at h1
        rw [e2] at h2
        rw [addr_add] at h1 h2
        exact ⟨k1, k2, h1, h2, bounds_i64 b1, bounds_i64 b2⟩
  clear hA0 hval0
  obtain ⟨M, last, o, w', t', r1, r2, r3, v, e, ⟨rfl, ho⟩, r5, r6, r7, r8⟩ := the_run W a0 len0 cap0 w0
  refine ⟨M, last, o, w', t', r1, r2, r3, _, e, ⟨?_, ?_⟩, r5, r6, r7, r8⟩
  · have : ({ w' with os := W.os } : World) = w' := by rw [← ho.os]
    rw [this]
    have bel := below_of_only ho
    exact ⟨_, _, _, [], _, [], hW', trodAll_mk1 (shut_bool Try.underlying4 _), trodAll_mk1 (Below.trod laidOut (by kernel_rfl) (of_decide_eq_true (by kernel_rfl)) k0 bel lt0), rfl, bel.frame _, fun h => by cases h⟩
  · rw [ho.os]; exact ⟨0, by simp⟩

theorem proved : Rows.MemoCountsSaid :=
  OpenClaim.holds_of_wide_leaving_time 7 Try.f7 rfl rfl rfl rfl rfl rfl rfl ⟨rfl, rfl, rfl, rfl, rfl⟩ rfl rfl rfl rfl rfl (by kernel_rfl) Try.func7 (by kernel_rfl)
    (of_decide_eq_true (by kernel_rfl)) (by unfold Func.isWrapper; first | (rw [if_pos (by decide +kernel)]; kernel_rfl) | (rw [if_neg (by decide +kernel)]; exact ⟨rfl, rfl⟩))
    (fun os started H enc _ F => lifted os started H enc F)
#print axioms proved
end Go.Proofs.Ytdkbkocklnnmdaa.counts
