/-
  Beside goroutines that only leave: main's walk through Count.Value, and out of Count.Crowd from behind its Wait. Conditions: the cells named hold what is said and may be touched.
-/
import Derived.Test.YtdkbkocklnnmdaaFreeEnter
import Derived.Test.YtdkbkocklnnmdaaFreeAwake
set_option linter.unusedSimpArgs false
set_option linter.unusedVariables false
namespace Go.Proofs.Ytdkbkocklnnmdaa.free
open Go Go.Conc Go.RowKit Go.ConcR.Gen Go.ConcN.Gen Go.Proofs.Ytdkbkocklnnmdaa.crew Go.Proofs.Ytdkbkocklnnmdaa.kid Go.Proofs.Ytdkbkocklnnmdaa.wg
open Go.ConcX.Gen (setCell_at alloc_at)

theorem x27 : (Try.f27.name == "runtime.NumGoroutine") = false := by kernel_rfl
/-- What Value tells of a count. -/
def Tells (Lw : Loc → Prop) (cv : Value) (v : Int) (W : World) : Prop := (cv = .pointer none ∧ v = 0) ∨ ∃ b, cv = .pointer (some ⟨b, 0, none⟩) ∧ W.cell? ⟨b, 0, none⟩ = some (.int .i64 v) ∧ Lw (.cell ⟨b, 0, none⟩)

section
variable {Shun Lw : Loc → Prop} {St : Goroutine → World → Prop} {b₀ : Frame} {a₀ : Act} {ops₀ : Array Oper} {i₀ : Nat} {rest₀ : List Nat} {k₀ : List Item} {cs : List Frame} {mT : Nat}
set_option maxRecDepth 100000 in
set_option maxHeartbeats 16000000 in
theorem valueC {cv : Value} {v : Int} {W : World} (hv : Tells Lw cv v W)
    (hT : ∀ y, Conc.AtRel W y → Goes Try.prog true Conc.AtRel (DF Shun Lw) St mT (G (b₀.at (a₀.put ((ops₀[i₀]?).bind (·.dst)) (.int .i64 v)) (.inRegion ops₀ rest₀ :: k₀)) cs) y) :
    ∀ y, Conc.AtRel W y → Goes Try.prog true Conc.AtRel (DF Shun Lw) St (mT + 80) (G ((base 27).at { tmps := #[cv] ++ Array.replicate 8 undef, defers := [] } [.code (Try.f27.body.getD .skip)]) (b₀.at a₀ (.inRegion ops₀ (i₀ :: rest₀) :: k₀) :: cs)) y := by
  intro y hF
  have hev := ev_eql_nil p57
  simp only [Try.f27, Option.getD_some]
  walk_nrm
  rcases hv with ⟨rfl, rfl⟩ | ⟨b, rfl, c0, hL⟩
  · u_c stepG_seq at_rely hF
    u_reg at_rely hF
    u_op at_rely hF
    u_c stepG_region_end at_rely hF
    u_c stepG_seq at_rely hF
    u_c stepG_seq at_rely hF
    u_reg at_rely hF
    u_op at_rely hF
    u_op at_rely hF
    u_c stepG_region_end at_rely hF
    u_cond true at_rely hF
    u_c stepG_seq at_rely hF
    u_reg at_rely hF
    u_op at_rely hF
    u_c stepG_region_end at_rely hF
    u_c stepG_ret' at_rely hF
    u_leave1 Try.func27 at_rely hF
    exact Goes.mono (hT _ hF) (by omega)
  · u_c stepG_seq at_rely hF
    u_reg at_rely hF
    u_op at_rely hF
    u_c stepG_region_end at_rely hF
    u_c stepG_seq at_rely hF
    u_c stepG_seq at_rely hF
    u_reg at_rely hF
    u_op at_rely hF
    u_op at_rely hF
    u_c stepG_region_end at_rely hF
    u_cond false at_rely hF
    u_c stepG_skip at_rely hF
    u_c stepG_seq at_rely hF
    u_reg at_rely hF
    u_op at_rely hF
    u_op at_rely hF
    u_op at_rely hF
    u_in at_rely hF
    refine goes_call rfl rfl (by k_ne) rfl Try.func41 x41 rfl ⟨by u_nil, ?_⟩
    have hA := @int64Load Shun Lw
    simp only [Try.f41, Option.getD_some, Array.replicate_succ, Array.replicate_zero, List.push_toArray, List.append_toArray, List.nil_append, List.cons_append] at hA
    walk_nrmf Try.f41
    refine Goes.mono (hA (mT := mT + 20) c0 hL (fun y hF => ?_) _ hF) (by omega)
    clear hA
    walk_nrm
    u_op at_rely hF
    u_c stepG_region_end at_rely hF
    u_c stepG_ret' at_rely hF
    u_leave1 Try.func27 at_rely hF
    exact Goes.mono (hT _ hF) (by omega)

set_option maxRecDepth 100000 in
set_option maxHeartbeats 16000000 in
theorem crowdTail {cv : Value} {n bv v : Int} {Wg Bc Bb N : Nat} {x4 x8 x9 x12 x13 x14 x15 x16 x17 x18 : Value} {W : World} (hc : W.cell? ⟨Bc, 0, none⟩ = some cv) (hM : May Shun Lw Bc) (hv : Tells Lw cv v W)
    (hT : ∀ y, Conc.AtRel W y → Goes Try.prog true Conc.AtRel (DF Shun Lw) St mT (G (b₀.at (a₀.put ((ops₀[i₀]?).bind (·.dst)) (.int .i64 v)) (.inRegion ops₀ rest₀ :: k₀)) cs) y) :
    ∀ y, Conc.AtRel W y → Goes Try.prog true Conc.AtRel (DF Shun Lw) St (mT + 120) (G ((base 26).at ⟨T26 cv n bv Wg Bc Bb x4 x8 x9 N N x12 x13 x14 x15 x16 x17 x18, []⟩ [.inRegion (opsOf (cL tail26)) [], .code (cR tail26)]) (b₀.at a₀ (.inRegion ops₀ (i₀ :: rest₀) :: k₀) :: cs)) y := by
  intro y hF
  simp only [T26, tail26, body26, cL, cR, cB, opsOf, Try.f26, Option.getD_some]
  have hv2 := hv
  rcases hv2 with ⟨rfl, rfl⟩ | ⟨b, rfl, c0, hL⟩
  · u_c stepG_region_end at_rely hF
    u_c stepG_seq at_rely hF
    u_reg at_rely hF
    u_in at_rely hF
    refine goes_oper_k rfl rfl (by k_ne) (fun K hK => ?_)
    have hcl := free.at_cell hF
    have hfz := free.at_frozen hF
    have hsz := free.at_size hF
    go_simp
    refine hK _ _ ⟨fun e he => ?_, ?_⟩
    · (have hm := mem_listed he; simp [go_sem, storedEv, *] at hm; try (subst hm; refine free.evS_may ?_ (Eq.refl _); assumption))
    clear hK K hcl hfz hsz
    u_in at_rely hF
    refine goes_call rfl rfl (by k_ne) rfl Try.func27 x27 rfl ⟨by u_nil, ?_⟩
    have hA := @valueC Shun Lw
    simp only [Try.f27, Option.getD_some, Array.replicate_succ, Array.replicate_zero, List.push_toArray, List.append_toArray, List.nil_append, List.cons_append] at hA
    walk_nrmf Try.f27
    refine Goes.mono (hA (mT := mT + 20) hv (fun y hF => ?_) _ hF) (by omega)
    clear hA
    walk_nrm
    u_op at_rely hF
    u_c stepG_region_end at_rely hF
    u_c stepG_ret' at_rely hF
    u_leave1 Try.func26 at_rely hF
    exact Goes.mono (hT _ hF) (by omega)
  · u_c stepG_region_end at_rely hF
    u_c stepG_seq at_rely hF
    u_reg at_rely hF
    u_in at_rely hF
    refine goes_oper_k rfl rfl (by k_ne) (fun K hK => ?_)
    have hcl := free.at_cell hF
    have hfz := free.at_frozen hF
    have hsz := free.at_size hF
    go_simp
    refine hK _ _ ⟨fun e he => ?_, ?_⟩
    · (have hm := mem_listed he; simp [go_sem, storedEv, *] at hm; try (subst hm; refine free.evS_may ?_ (Eq.refl _); assumption))
    clear hK K hcl hfz hsz
    u_in at_rely hF
    refine goes_call rfl rfl (by k_ne) rfl Try.func27 x27 rfl ⟨by u_nil, ?_⟩
    have hA := @valueC Shun Lw
    simp only [Try.f27, Option.getD_some, Array.replicate_succ, Array.replicate_zero, List.push_toArray, List.append_toArray, List.nil_append, List.cons_append] at hA
    walk_nrmf Try.f27
    refine Goes.mono (hA (mT := mT + 20) hv (fun y hF => ?_) _ hF) (by omega)
    clear hA
    walk_nrm
    u_op at_rely hF
    u_c stepG_region_end at_rely hF
    u_c stepG_ret' at_rely hF
    u_leave1 Try.func26 at_rely hF
    exact Goes.mono (hT _ hF) (by omega)
end
end Go.Proofs.Ytdkbkocklnnmdaa.free
