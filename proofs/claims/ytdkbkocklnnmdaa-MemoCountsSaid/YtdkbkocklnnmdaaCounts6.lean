/-
  MemoCounts beside goroutines that only leave: from its entry to the loop's head. No condition.
-/
import Derived.Test.YtdkbkocklnnmdaaCounts5
set_option linter.unusedSimpArgs false
set_option linter.unusedVariables false
namespace Go.Proofs.Ytdkbkocklnnmdaa.counts
open Go Go.Conc Go.RowKit Go.ConcR.Gen Go.ConcN.Gen Go.Proofs.Ytdkbkocklnnmdaa.crew Go.Proofs.Ytdkbkocklnnmdaa.kid Go.Proofs.Ytdkbkocklnnmdaa.wg Go.Proofs.Ytdkbkocklnnmdaa.free
open Go.ConcX.Gen (setCell_at alloc_at)
open Go.ConcR (WgAt)

/-- A cell of block s. -/
def Of (s : Nat) : Loc → Prop := fun l => ∃ a : Addr, l = .cell a ∧ a.block = s
theorem fr_start {Shun Lw : Loc → Prop} : Fr Shun Lw 1 #[] :=
  ⟨fun said => by rintro ⟨i, j, _, ⟨a, b, ha, _⟩, _⟩; simp [Trace.act?] at ha, fun i op x hi => by simp at hi, fun l _ i a ha => by simp [touchAt, Trace.act?] at ha, fun i g hg => by simp [Trace.g?] at hg,
    fun ar i => by simp [Trace.act?], by simp, fun i op hi => by simp at hi⟩

section
variable {W : World} {a0 : Option Addr} {len cap : Nat}
theorem cnt_start : H7 W 0 ((W.alloc (.cells #[.int .i64 0] 62)).alloc (.cells #[.int .i64 0] 62)) := by
  refine ⟨((Only.refl _ W).alloc _).alloc _, ?_, ?_, by simp, by unfold I64; omega⟩
  · unfold CntAt
    exact box_old (box_new W _)
  · unfold CntAt
    have := box_new (W.alloc (.cells #[.int .i64 0] 62)) (.cells #[.int .i64 0] 62)
    simpa using this

set_option maxRecDepth 100000 in
set_option maxHeartbeats 16000000 in
theorem enterWalk :
    ∀ y, Conc.AtRel W y → Goes Try.prog true Conc.AtRel (DF (Of W.heap.size) (Low (W.heap.size + 2))) (NextHead W a0 len cap 0 0 (W.heap.size + 2)) 100
      (G ((base 7).at { tmps := #[.slice a0 len cap] ++ Array.replicate 75 undef, defers := [] } [.code body7]) []) y := by
  intro y hF
  have hH := Lib.hid (cnt_start (W := W))
  simp only [body7, Try.f7, Option.getD_some]
  walk_nrm
  u_c stepG_seq at_rely hF
  u_reg at_rely hF
  u_op at_rely hF
  u_c stepG_region_end at_rely hF
  u_c stepG_seq at_rely hF
  u_reg at_rely hF
  u_in at_rely hF
  refine goes_oper_k rfl rfl (by k_ne) (fun K hK => ?_)
  have hcl := free.at_cell hF
  have hfz := free.at_frozen hF
  have hsz := free.at_size hF
  go_simp
  refine hK _ _ ⟨fun e he => ?_, ?_⟩
  · (have hm := mem_listed he; simp [go_sem, storedEv, *] at hm; try (subst hm; refine free.evS_may ?_ (Eq.refl _); assumption))
  clear hK K hcl hfz hsz
  refine free.next_alloc hF (fun _ hF => ?_)
  u_op at_rely hF
  u_c stepG_region_end at_rely hF
  u_c stepG_seq at_rely hF
  u_reg at_rely hF
  u_in at_rely hF
  refine goes_oper_k rfl rfl (by k_ne) (fun K hK => ?_)
  have hcl := free.at_cell hF
  have hfz := free.at_frozen hF
  have hsz := free.at_size hF
  go_simp
  refine hK _ _ ⟨fun e he => ?_, ?_⟩
  · (have hm := mem_listed he; simp [go_sem, storedEv, *] at hm; try (subst hm; refine free.evS_may ?_ (Eq.refl _); assumption))
  clear hK K hcl hfz hsz
  refine free.next_alloc hF (fun _ hF => ?_)
  u_op at_rely hF
  u_c stepG_region_end at_rely hF
  u_c stepG_seq at_rely hF
  u_reg at_rely hF
  u_op at_rely hF
  u_c stepG_region_end at_rely hF
  u_c stepG_seq at_rely hF
  u_c stepG_seq at_rely hF
  u_reg at_rely hF
  u_op at_rely hF
  u_c stepG_region_end at_rely hF
  u_c stepG_block at_rely hF
  u_c stepG_loop at_rely hF
  refine Goes.stop fun w3 h3 => ?_
  replace hF := at_rely hF h3
  clear h3
  obtain ⟨d, rfl⟩ := hF
  refine ⟨?_, hH.out.at d, by show ((W.alloc _).alloc _).heap.size = _; simp⟩
  refine head_lit ?_
  simp only [T7, loop7, tail7, body7, cL, cR, cB, Try.f7, Option.getD_some]
  rfl
end
end Go.Proofs.Ytdkbkocklnnmdaa.counts
