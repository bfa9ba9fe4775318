/-
  MemoCells returns true at every input, on every schedule, and each argument reads behind the call as it read before. No condition beside the row's own.
-/
import Derived.Test.YtdkbkocklnnmdaaRows
import Derived.Test.YtdkbkocklnnmdaaCells4
import Derived.Conc.HoldsTime
import Derived.Conc.LeavingOf
import Derived.Below
import Derived.ProofKit
import Derived.OpenShut
import Derived.ChangeOld
set_option linter.unusedVariables false
set_option linter.unusedSimpArgs false
namespace Go.Proofs.Ytdkbkocklnnmdaa.cellsp
open Go Go.ChangeShapes Go.WideShapes Go.ChangeAt Go.RowKit Go.Conc Go.Proofs.Ytdkbkocklnnmdaa.crew Go.Proofs.Ytdkbkocklnnmdaa.free Go.Proofs.Ytdkbkocklnnmdaa.wg
open Go.Proofs.Ytdkbkocklnnmdaa.cells (OnlyT IsOps the_run)

theorem own : ownKnob Try.prog.godebug = none := by kernel_rfl
theorem laidOut : laidOutB Try.prog = true := by kernel_rfl
theorem addr_add (b off n : Nat) : (⟨b, off, none⟩ : Addr).add n = ⟨b, off + n, none⟩ := by
  unfold Addr.add
  split <;> simp_all
theorem below_of_onlyT {W W' : World} (h : OnlyT W W') : Below W.heap.size W { W' with os := W.os } := ⟨rfl, h.tape, h.output, h.size, h.block⟩

set_option maxRecDepth 100000 in
theorem lifted (os : Os) (started : os.Started) (H : Type) (enc : TypeId × Value → H) (F : Stop.Interp) :
    ReturnsInLeavingWide Rows.memoCellsRow.assume Try.checked os 5 .any (Rows.memoCellsSpec.pre6 enc Try.prog Try.f5 Rows.memoCellsRow.domain false) ((OpenSpec.ofChange Rows.memoCellsSpec).postWith enc Try.prog Try.f5 F (outsideKept [.timePasses]) false true false) := by
  refine returnsInLeavingWide_of_change_time (C := Try.checked) own started Try.func5
    (ChangeSpec.witness6c (enc := enc) (C := Try.checked) ⟨#[], #[.int .i64 0, .bool false, .slice none 0 0], []⟩ 8 (by kernel_rfl) (by kernel_rfl) (by kernel_rfl) (by kernel_rfl)) ?_
  intro W base args ds gs before hval0 hW _ _ _
  have hval : ∀ (j : Nat) t v, Try.f5.params[j]? = some t → args[j]? = some v → Value.okWide Try.prog W .any base t v := hval0
  have hW' := hW
  obtain ⟨p, q, hA0, hV, rfl, hfz, hnd⟩ := hW
  have hA : DataW.TrodAll enc Try.prog W 0 (fun _ => true) true Try.f5.params.toList args.toList ds p := hA0
  rw [Try.params5] at hA hval
  obtain ⟨v0, v1, v2, d0, d1, d2, p0, p1, p2, rfl, rfl, rfl, h0, h1, h2⟩ := trodAll_three hA
  obtain ⟨rfl, rfl⟩ := trodVars_none hV
  obtain ⟨x0, rfl, rfl, rfl, wx0⟩ := open_int Try.underlying3 (hval 0 3 v0 rfl rfl) h0
  obtain ⟨x1, rfl, rfl, rfl⟩ := open_bool Try.underlying4 (hval 1 4 v1 rfl rfl) h1
  obtain ⟨a1, len1, cap1, rfl⟩ := okWide_slice Try.underlying22 (hval 2 22 v2 rfl rfl)
  have k2 := h2
  have lt2 : ∀ x ∈ p2, x.block < W.heap.size := by obtain ⟨m, hm⟩ := k2; exact DataW.trod_lt m _ _ _ hm
  have w2 : IsOps W a1 len1 := by
    obtain ⟨fuel, hf⟩ := h2
    rcases open_ints Try.underlying22 Try.underlying3 (by kernel_rfl) hf with ⟨hcs, _⟩ | ⟨x, l, c, zs, hcs, _, hl, hm, hz, _, hcell, hwz⟩
    · simp [Value.cells] at hcs
      obtain ⟨rfl, rfl, rfl⟩ := hcs
      exact .inl rfl
    · simp [Value.cells] at hcs
      obtain ⟨rfl, rfl, rfl⟩ := hcs
      have hz' : zs.length = cap1 := by simpa using hz
      by_cases hz0 : len1 = 0
      · exact .inl hz0
      · obtain ⟨b, off, spot⟩ := x
        have hc := hcell 0 (by omega)
        have hspot : spot = none := by simpa [Addr.add] using World.cell?_spot hc
        subst hspot
        have hlt : b < W.heap.size := by
          obtain ⟨e, n', hsh, _, _⟩ := World.shape?_of_cell? hc
          unfold World.shape? at hsh
          split at hsh
          · rename_i c e fr hb; exact lt_of_block hb
          · cases hsh
        refine .inr ⟨b, off, rfl, hlt, by omega, fun i hil => ⟨zs.getD i 0, ?_⟩⟩
        have := hcell i (by omega)
        rwa [addr_add] at this
  clear hA0 hval0
  obtain ⟨M, last, o, w', t', r1, r2, r3, v, e, ⟨rfl, ho⟩, r5, r6, r7, r8⟩ := the_run W x0 x1 a1 len1 cap1 w2
  refine ⟨M, last, o, w', t', r1, r2, r3, _, e, ⟨?_, ?_⟩, r5, r6, r7, r8⟩
  · have bel := below_of_onlyT ho
    exact ⟨_, _, _, [], _, [], hW', trodAll_mk1 (shut_bool Try.underlying4 _), trodAll_mk3 (shut_int Try.underlying3 wx0) (shut_bool Try.underlying4 _) (Below.trod laidOut (by kernel_rfl) (of_decide_eq_true (by kernel_rfl)) k2 bel lt2), rfl, bel.frame _, fun h => by cases h⟩
  · exact ho.os

theorem proved : Rows.MemoCellsSaid :=
  OpenClaim.holds_of_wide_leaving_time 5 Try.f5 rfl rfl rfl rfl rfl rfl rfl ⟨rfl, rfl, rfl, rfl, rfl⟩ rfl rfl rfl rfl rfl (by kernel_rfl) Try.func5 (by kernel_rfl)
    (of_decide_eq_true (by kernel_rfl)) (by unfold Func.isWrapper; first | (rw [if_pos (by decide +kernel)]; kernel_rfl) | (rw [if_neg (by decide +kernel)]; exact ⟨rfl, rfl⟩))
    (fun os started H enc _ F => lifted os started H enc F)
#print axioms proved
end Go.Proofs.Ytdkbkocklnnmdaa.cellsp
