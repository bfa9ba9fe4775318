/-
  MemoChain returns true at every input, on every schedule, and each argument reads behind the call as it read before. No condition beside the row's own.
-/
import Derived.Test.YtdkbkocklnnmdaaRows
import Derived.Test.YtdkbkocklnnmdaaChainWalk
import Derived.Test.YtdkbkocklnnmdaaLone
import Derived.ProofKit
import Derived.OpenShut
import Derived.ChangeOld
set_option linter.unusedVariables false
set_option linter.unusedSimpArgs false
namespace Go.Proofs.Ytdkbkocklnnmdaa.chain
open Go Go.ChangeShapes Go.WideShapes Go.ChangeAt Go.RowKit

theorem own : ownKnob Try.prog.godebug = none := by kernel_rfl
theorem laidOut : laidOutB Try.prog = true := by kernel_rfl
theorem addr_add (b off n : Nat) : (⟨b, off, none⟩ : Addr).add n = ⟨b, off + n, none⟩ := by
  unfold Addr.add
  split <;> simp_all
theorem below_of_only {W W' : World} (h : Only (fun _ => False) W W') : Below W.heap.size W W' := ⟨h.os, h.tape, h.output, h.size, fun k hk => h.block k hk (fun x => x)⟩

set_option maxRecDepth 100000 in
theorem lifted (os : Os) (started : os.Started) (H : Type) (enc : TypeId × Value → H) (F : Stop.Interp) :
    ReturnsInLeavingWide Rows.memoChainRow.assume Try.checked os 3 .any (Rows.memoChainSpec.pre6 enc Try.prog Try.f3 Rows.memoChainRow.domain false) ((OpenSpec.ofChange Rows.memoChainSpec).postWith enc Try.prog Try.f3 F (outsideKept [.timePasses]) false true false) := by
  refine lone.leaving_of_calls (C := Try.checked) own started (by kernel_rfl) Try.func3
    (ChangeSpec.witness6c (enc := enc) (C := Try.checked) ⟨#[], #[.int .i64 0, .slice none 0 0], []⟩ 8 (by kernel_rfl) (by kernel_rfl) (by kernel_rfl) (by kernel_rfl)) ?_
  intro W base args ds gs before hval0 hW
  have hval : ∀ (j : Nat) t v, Try.f3.params[j]? = some t → args[j]? = some v → Value.okWide Try.prog W .any base t v := hval0
  have hW' := hW
  obtain ⟨p, q, hA0, hV, rfl, hfz, hnd⟩ := hW
  have hA : DataW.TrodAll enc Try.prog W 0 (fun _ => true) true Try.f3.params.toList args.toList ds p := hA0
  rw [Try.params3] at hA hval
  obtain ⟨v0, v1, d0, d1, p0, p1, rfl, rfl, rfl, h0, h1⟩ := trodAll_two hA
  obtain ⟨rfl, rfl⟩ := trodVars_none hV
  obtain ⟨x, rfl, rfl, rfl, wx⟩ := open_int Try.underlying3 (hval 0 3 v0 rfl rfl) h0
  obtain ⟨a1, len1, cap1, rfl⟩ := okWide_slice Try.underlying22 (hval 1 22 v1 rfl rfl)
  have k1 := h1
  have lt1 : ∀ x ∈ p1, x.block < W.heap.size := by obtain ⟨m, hm⟩ := k1; exact DataW.trod_lt m _ _ _ hm
  have w1 : IsInts W a1 len1 := by
    obtain ⟨fuel, hf⟩ := h1
    rcases open_ints Try.underlying22 Try.underlying3 (by kernel_rfl) hf with ⟨hcs, _⟩ | ⟨x, l, c, zs, hcs, _, hl, hm, hz, _, hcell, hwz⟩
    · simp [Value.cells] at hcs
      obtain ⟨rfl, rfl, rfl⟩ := hcs
      exact .inl rfl
    · simp [Value.cells] at hcs
      obtain ⟨rfl, rfl, rfl⟩ := hcs
      have hz' : zs.length = cap1 := by simpa using hz
      by_cases hz0 : len1 = 0
      · exact .inl hz0
      · obtain ⟨b, off, spot⟩ := x
        have hc := hcell 0 (by omega)
        have hspot : spot = none := by simpa [Addr.add] using World.cell?_spot hc
        subst hspot
        have hlt : b < W.heap.size := by
          obtain ⟨e, n', hsh, _, _⟩ := World.shape?_of_cell? hc
          unfold World.shape? at hsh
          split at hsh
          · rename_i c e fr hb; exact lt_of_block hb
          · cases hsh
        refine .inr ⟨b, off, rfl, hlt, by omega, fun i hil => ⟨zs.getD i 0, ?_, ?_⟩⟩
        · have := hcell i (by omega)
          rwa [addr_add] at this
        · have := hwz (zs.getD i 0) (by
            have hil' : i < zs.length := by omega
            simp [List.getD, List.getElem?_eq_getElem hil'])
          exact bounds_i64 this
  have bx := bounds_i64 wx
  clear hA0 hval0
  refine (chain_walk x a1 len1 cap1 W bx.1 bx.2 w1).mono fun e W' ⟨he, ho⟩ => ?_
  subst he
  have bel := below_of_only ho
  exact ⟨_, rfl, ⟨_, _, _, [], _, [], hW', trodAll_mk1 (shut_bool Try.underlying4 _), trodAll_mk2 (shut_int Try.underlying3 wx) (Below.trod laidOut (by kernel_rfl) (of_decide_eq_true (by kernel_rfl)) k1 bel lt1), rfl, bel.frame _, fun h => by cases h⟩, ho.os⟩

theorem proved : Rows.MemoChainSaid :=
  OpenClaim.holds_of_wide_leaving_time 3 Try.f3 rfl rfl rfl rfl rfl rfl rfl ⟨rfl, rfl, rfl, rfl, rfl⟩ rfl rfl rfl rfl rfl (by kernel_rfl) Try.func3 (by kernel_rfl)
    (of_decide_eq_true (by kernel_rfl)) (by unfold Func.isWrapper; first | (rw [if_pos (by decide +kernel)]; kernel_rfl) | (rw [if_neg (by decide +kernel)]; exact ⟨rfl, rfl⟩))
    (fun os started H enc _ F => lifted os started H enc F)
#print axioms proved
end Go.Proofs.Ytdkbkocklnnmdaa.chain
