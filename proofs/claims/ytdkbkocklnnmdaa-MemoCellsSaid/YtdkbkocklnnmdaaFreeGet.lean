/-
  Beside goroutines that only leave: main's walk through memo.Cell[int].Get, asked first: what the cell's run does is given; with what is behind it as it goes on. Conditions: the cell holds what is said and may be touched.
-/
import Derived.Test.YtdkbkocklnnmdaaFreeRun1
set_option linter.unusedSimpArgs false
set_option linter.unusedVariables false
namespace Go.Proofs.Ytdkbkocklnnmdaa.free
open Go Go.Conc Go.RowKit Go.ConcR.Gen Go.ConcN.Gen Go.Proofs.Ytdkbkocklnnmdaa.crew Go.Proofs.Ytdkbkocklnnmdaa.kid Go.Proofs.Ytdkbkocklnnmdaa.wg
open Go.ConcX.Gen (setCell_at alloc_at)

theorem x33 : (Try.f33.name == "runtime.NumGoroutine") = false := by kernel_rfl
theorem x55 : (Try.f55.name == "runtime.NumGoroutine") = false := by kernel_rfl
theorem x84 : (Try.f84.name == "runtime.NumGoroutine") = false := by kernel_rfl
theorem x85 : (Try.f85.name == "runtime.NumGoroutine") = false := by kernel_rfl
theorem p24 : Try.prog.underlying 24 = some (.pointer (Try.prog.pointee 24)) := by kernel_rfl
theorem hnot2 (x : Bool) (w : World) : (Op.unary .not (.bool x)).run Try.prog w = .ok (.bool !x) w := rfl
theorem hnot3 (x : Bool) (w : World) (es : Array Event) : (Op.unary .not (.bool x)).events Try.prog w es = es := rfl

/-- What run does from world W: it leaves X, whoever has called it. -/
def Runs (Shun Lw : Loc → Prop) (b : Nat) (W X : World) : Prop := ∀ (St : Goroutine → World → Prop) (b₀ : Frame) (a₀ : Act) (ops₀ : Array Oper) (i₀ : Nat) (rest₀ : List Nat) (k₀ : List Item) (cs : List Frame) (mT : Nat),
  (∀ y, Conc.AtRel X y → Goes Try.prog true Conc.AtRel (DF Shun Lw) St mT (G (b₀.at (a₀.put ((ops₀[i₀]?).bind (·.dst)) (.tuple #[])) (.inRegion ops₀ rest₀ :: k₀)) cs) y) →
  ∀ y, Conc.AtRel W y → Goes Try.prog true Conc.AtRel (DF Shun Lw) St (mT + 200) (G ((base 34).at { tmps := #[.pointer (some ⟨b, 0, none⟩)] ++ Array.replicate 19 undef, defers := [] } [.code (Try.f34.body.getD .skip)]) (b₀.at a₀ (.inRegion ops₀ (i₀ :: rest₀) :: k₀) :: cs)) y

section
variable {Shun Lw : Loc → Prop} {Stop : Goroutine → World → Prop} {m : Nat} {b₀ : Frame} {a₀ : Act} {ops₀ : Array Oper} {i₀ : Nat} {rest₀ : List Nat} {k₀ : List Item} {cs : List Frame} {mT : Nat}

set_option maxRecDepth 100000 in
set_option maxHeartbeats 16000000 in
theorem getC {b : Nat} {fv : Value} {v dn rn : Int} {W X : World} (h : W.heap[b]? = some (blk 0 0 fv 0 0 0)) (hX : X.heap[b]? = some (blk 0 1 fv v dn rn)) (hM : May Shun Lw b) (hrun : Runs Shun Lw b (W.setCell ⟨b, 1, none⟩ (.int .i32 1)) X)
    (hT : ∀ y, Conc.AtRel ((X.setCell ⟨b, 0, none⟩ (.int .u32 1)).setCell ⟨b, 1, none⟩ (.int .i32 0)) y → Goes Try.prog true Conc.AtRel (DF Shun Lw) (Fz Shun Lw Stop m) mT (G (b₀.at (a₀.put ((ops₀[i₀]?).bind (·.dst)) (.int .i64 v)) (.inRegion ops₀ rest₀ :: k₀)) cs) y) :
    ∀ y, Conc.AtRel W y → Goes Try.prog true Conc.AtRel (DF Shun Lw) (Fz Shun Lw Stop (m + 2)) 200 (G ((base 11).at { tmps := #[.pointer (some ⟨b, 0, none⟩)] ++ Array.replicate 16 undef, defers := [] } [.code (Try.f11.body.getD .skip)]) (b₀.at a₀ (.inRegion ops₀ (i₀ :: rest₀) :: k₀) :: cs)) y := by
  intro y hF
  have hnr := hnot2
  have hne := hnot3
  have hev := ev_eql_nil p24
  have c0 := blk0 h
  have c1 := blk1 h
  have z1 := blkz h 1
  have e1 := blkset h 1 (.int .i32 1) (blk 0 1 fv 0 0 0) rfl
  have hmf := hmf2
  have hme := hmf3
  simp only [Try.f11, Option.getD_some]
  walk_nrm
  u_c stepG_seq at_rely hF
  u_reg at_rely hF
  u_op at_rely hF
  u_c stepG_region_end at_rely hF
  u_c stepG_seq at_rely hF
  u_c stepG_seq at_rely hF
  u_reg at_rely hF
  u_op at_rely hF
  u_op at_rely hF
  u_c stepG_region_end at_rely hF
  u_cond false at_rely hF
  u_c stepG_skip at_rely hF
  u_c stepG_seq at_rely hF
  u_reg at_rely hF
  u_op at_rely hF
  u_op at_rely hF
  u_op at_rely hF
  u_op at_rely hF
  u_op at_rely hF
  u_call Try.func33 x33 Try.f33 at_rely hF
  u_c stepG_seq at_rely hF
  u_reg at_rely hF
  u_op at_rely hF
  u_op at_rely hF
  u_op at_rely hF
  u_in at_rely hF
  refine goes_call rfl rfl (by k_ne) rfl Try.func35 x35 rfl ⟨by u_nil, ?_⟩
  have hA := @boolLoad Shun Lw
  simp only [Try.f35, Option.getD_some, Array.replicate_succ, Array.replicate_zero, List.push_toArray, List.append_toArray, List.nil_append, List.cons_append] at hA
  walk_nrmf Try.f35
  refine Goes.mono (hA (mT := 120) c0 (hM _ rfl).2 (fun y hF => ?_) _ hF) (by omega)
  clear hA
  walk_nrm
  u_op at_rely hF
  u_c stepG_region_end at_rely hF
  u_cond true at_rely hF
  u_reg at_rely hF
  u_op at_rely hF
  u_op at_rely hF
  u_call Try.func55 x55 Try.f55 at_rely hF
  u_c stepG_seq at_rely hF
  u_reg at_rely hF
  u_op at_rely hF
  u_op at_rely hF
  u_op at_rely hF
  u_in at_rely hF
  refine goes_call rfl rfl (by k_ne) rfl Try.func84 x84 rfl ⟨by u_nil, ?_⟩
  have hA := @lockC Shun Lw Stop (m + 1)
  simp only [Try.f84, Option.getD_some, Array.replicate_succ, Array.replicate_zero, List.push_toArray, List.append_toArray, List.nil_append, List.cons_append] at hA
  walk_nrmf Try.f84
  refine Goes.mono (hA (mT := 600) c1 z1 (blk1 e1) (hM _ rfl).2 (fun y hF => ?_) _ hF) (by omega)
  clear hA c0 c1 z1
  generalize hW1 : W.setCell ⟨b, 1, none⟩ (.int .i32 1) = W1 at hF e1 hrun
  have c0 := blk0 e1
  walk_nrm
  u_c stepG_region_end at_rely hF
  u_c stepG_seq at_rely hF
  u_reg at_rely hF
  u_op at_rely hF
  u_op at_rely hF
  u_op at_rely hF
  u_defer at_rely hF
  u_c stepG_region_end at_rely hF
  u_c stepG_seq at_rely hF
  u_reg at_rely hF
  u_op at_rely hF
  u_op at_rely hF
  u_op at_rely hF
  u_in at_rely hF
  refine goes_call rfl rfl (by k_ne) rfl Try.func35 x35 rfl ⟨by u_nil, ?_⟩
  have hA := @boolLoad Shun Lw
  simp only [Try.f35, Option.getD_some, Array.replicate_succ, Array.replicate_zero, List.push_toArray, List.append_toArray, List.nil_append, List.cons_append] at hA
  walk_nrmf Try.f35
  refine Goes.mono (hA (mT := 500) c0 (hM _ rfl).2 (fun y hF => ?_) _ hF) (by omega)
  clear hA
  walk_nrm
  u_op at_rely hF
  u_c stepG_region_end at_rely hF
  u_cond true at_rely hF
  u_c stepG_seq at_rely hF
  u_reg at_rely hF
  u_op at_rely hF
  u_op at_rely hF
  u_op at_rely hF
  u_defer at_rely hF
  u_c stepG_region_end at_rely hF
  u_reg at_rely hF
  u_op at_rely hF
  u_in at_rely hF
  refine goes_callv rfl rfl (by k_ne) rfl rfl Try.func34 x34 rfl ⟨by u_nil, ?_⟩
  have hA := hrun
  simp only [Runs, Try.f34, Option.getD_some, Array.replicate_succ, Array.replicate_zero, List.push_toArray, List.append_toArray, List.nil_append, List.cons_append] at hA
  walk_nrmf Try.f34
  refine Goes.mono (hA _ _ _ _ _ _ _ _ 200 (fun y hF => ?_) _ hF) (by omega)
  clear hA c0 e1 hrun
  walk_nrm
  u_c stepG_region_end at_rely hF
  u_c stepG_end at_rely hF
  have c0 := blk0 hX
  have z0 := blkz hX 0
  have e2 := blkset hX 0 (.int .u32 1) (blk 1 1 fv v dn rn) rfl
  u_in at_rely hF
  rw [stepG_unwind_enter rfl Try.func57 x57 rfl]
  simp only [goes_go]
  refine ⟨by u_nil, ?_⟩
  have hA := @storeD Shun Lw
  simp only [Try.f57, Option.getD_some, Array.replicate_succ, Array.replicate_zero, List.push_toArray, List.append_toArray, List.nil_append, List.cons_append] at hA
  walk_nrmf Try.f57
  refine Goes.mono (hA (mT := 100) rfl c0 z0 (hM _ rfl).2 (fun y hF => ?_) _ hF) (by omega)
  clear hA c0 z0
  generalize hW2 : X.setCell ⟨b, 0, none⟩ (.int .u32 1) = W2 at hF e2 hT
  have c1 := blk1 e2
  have z1 := blkz e2 1
  have e3 := blkset e2 1 (.int .i32 0) (blk 1 0 fv v dn rn) rfl
  u_in at_rely hF
  rw [stepG_unwind_enter rfl Try.func85 x85 rfl]
  simp only [goes_go]
  refine ⟨by u_nil, ?_⟩
  have hA := @unlockD Shun Lw Stop m
  simp only [Try.f85, Option.getD_some, Array.replicate_succ, Array.replicate_zero, List.push_toArray, List.append_toArray, List.nil_append, List.cons_append] at hA
  walk_nrmf Try.f85
  refine Goes.mono (hA (mT := mT + 60) rfl c1 z1 hM (fun y hF => ?_) _ hF) (by omega)
  clear hA c1 z1
  generalize hW3 : W2.setCell ⟨b, 1, none⟩ (.int .i32 0) = W3 at hF e3 hT
  have c4 := blk4 e3
  u_leave0 Try.func55 at_rely hF
  u_c stepG_region_end at_rely hF
  u_c stepG_end at_rely hF
  u_leave0 Try.func33 at_rely hF
  u_c stepG_region_end at_rely hF
  u_c stepG_seq at_rely hF
  u_reg at_rely hF
  u_op at_rely hF
  u_op at_rely hF
  u_op at_rely hF
  u_in at_rely hF
  refine goes_oper_k rfl rfl (by k_ne) (fun K hK => ?_)
  have hcl := free.at_cell hF
  have hfz := free.at_frozen hF
  have hsz := free.at_size hF
  go_simp
  refine hK _ _ ⟨fun e he => ?_, ?_⟩
  · (have hm := mem_listed he; simp [go_sem, storedEv, *] at hm; try (subst hm; refine free.evS_may ?_ (Eq.refl _); assumption))
  clear hK K hcl hfz hsz
  u_op at_rely hF
  u_c stepG_region_end at_rely hF
  u_c stepG_ret' at_rely hF
  u_leave1 Try.func11 at_rely hF
  exact Goes.mono (hT _ hF) (by omega)
end
end Go.Proofs.Ytdkbkocklnnmdaa.free
