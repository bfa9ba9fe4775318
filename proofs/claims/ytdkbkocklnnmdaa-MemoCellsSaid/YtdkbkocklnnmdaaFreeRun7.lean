/-
  Beside goroutines that only leave: main's walk through memo.Cell[int].run over the law's own function (it tells 7), with what is behind it as it goes on. Conditions: the cell holds what is said and may be touched.
-/
import Derived.Test.YtdkbkocklnnmdaaFreeRun1
import Derived.Test.YtdkbkocklnnmdaaAwake
set_option linter.unusedSimpArgs false
set_option linter.unusedVariables false
namespace Go.Proofs.Ytdkbkocklnnmdaa.free
open Go Go.Conc Go.RowKit Go.ConcR.Gen Go.ConcN.Gen Go.Proofs.Ytdkbkocklnnmdaa.crew Go.Proofs.Ytdkbkocklnnmdaa.kid Go.Proofs.Ytdkbkocklnnmdaa.wg
open Go.ConcX.Gen (setCell_at alloc_at)

noncomputable def ops34 : Array Oper := opsOf (cR (cR (cR (cR (Try.f34.body.getD .skip)))))
theorem ord34 : orders ops34 9 (Array.replicate 9 false) = [[0, 1, 2, 3, 4, 5, 6, 7, 8], [1, 0, 2, 3, 4, 5, 6, 7, 8], [1, 2, 0, 3, 4, 5, 6, 7, 8], [1, 2, 3, 0, 4, 5, 6, 7, 8], [1, 2, 3, 4, 0, 5, 6, 7, 8], [1, 2, 3, 4, 5, 0, 6, 7, 8]] := by kernel_rfl
theorem x36 : (Try.f36.name == "runtime.NumGoroutine") = false := by kernel_rfl
theorem x58 : (Try.f58.name == "runtime.NumGoroutine") = false := by kernel_rfl
theorem x88 : (Try.f88.name == "runtime.NumGoroutine") = false ∧ Try.f88.body.isNone = true ∧ Extern.findNext Try.f88 = none := ⟨by kernel_rfl, by kernel_rfl, by kernel_rfl⟩
theorem e88 : Extern.find Try.f88 = some (Extern.Atomic.update (Op.intArith .add) .i64 true) := by kernel_rfl
theorem ev_feq (fn : Fn) (first cap : Array Value) (w : World) (es : Array Event) : (binOp .eql 26 (.func fn first cap) .nilFunc).events Try.prog w es = es := by
  unfold binOp Op.equal Op.maxDepth
  unfold Op.equalIn
  simp [go_sem, run_underlying Try.underlying26, Result.evThen]
theorem set_old {w : World} {b : Nat} {o : Obj} {a : Addr} {v : Value} (h : w.heap[b]? = some o) (hne : a.block ≠ b) : (w.setCell a v).heap[b]? = some o := by
  show (w.heap.modify a.block _)[b]? = _
  rw [Array.getElem?_modify]
  simp [hne, h]

section
variable {Shun Lw : Loc → Prop} {St : Goroutine → World → Prop} {b₀ : Frame} {a₀ : Act} {ops₀ : Array Oper} {i₀ : Nat} {rest₀ : List Nat} {k₀ : List Item} {cs : List Frame} {mT : Nat}
set_option maxRecDepth 100000 in
set_option maxHeartbeats 16000000 in
theorem runSeven {b : Nat} {W : World} (h : W.heap[b]? = some (blk 0 1 f36 0 0 0)) (hM : May Shun Lw b) (hMx : May Shun Lw W.heap.size)
    (hT : ∀ y, Conc.AtRel ((((W.alloc (.cells #[.pointer (some ⟨b, 0, none⟩)] 24)).setCell ⟨b, 6, none⟩ (.int .i64 1)).setCell ⟨b, 4, none⟩ (.int .i64 7)).setCell ⟨b, 5, none⟩ (.int .u32 1)) y → Goes Try.prog true Conc.AtRel (DF Shun Lw) St mT (G (b₀.at (a₀.put ((ops₀[i₀]?).bind (·.dst)) (.tuple #[])) (.inRegion ops₀ rest₀ :: k₀)) cs) y) :
    ∀ y, Conc.AtRel W y → Goes Try.prog true Conc.AtRel (DF Shun Lw) St (mT + 200) (G ((base 34).at { tmps := #[.pointer (some ⟨b, 0, none⟩)] ++ Array.replicate 19 undef, defers := [] } [.code (Try.f34.body.getD .skip)]) (b₀.at a₀ (.inRegion ops₀ (i₀ :: rest₀) :: k₀) :: cs)) y := by
  intro y hF
  have hbl := lt_of_block h
  have hne : b ≠ W.heap.size := by omega
  have e0 := box_old (x := .cells #[.pointer (some ⟨b, 0, none⟩)] 24) h
  have ebx := box_new W (.cells #[.pointer (some ⟨b, 0, none⟩)] 24)
  have eb := cell_of_one ebx
  have c3 := blk3 e0
  have c6 := blk6 e0
  have z6 := blkz e0 6
  have hmf := hmf2
  have hme := hmf3
  have hfr := hfeq
  have hfe := ev_feq
  have ho := fun t => schedule_orders ops34 t
  simp only [show ops34.size = 9 from by kernel_rfl, ord34] at ho
  simp only [ops34, opsOf, cR, Try.f34, Option.getD_some] at ho ⊢
  have HO := Lib.hid ho
  clear ho
  walk_nrm
  u_c stepG_seq at_rely hF
  u_reg at_rely hF
  u_in at_rely hF
  refine goes_oper_k rfl rfl (by k_ne) (fun K hK => ?_)
  have hcl := free.at_cell hF
  have hfz := free.at_frozen hF
  have hsz := free.at_size hF
  go_simp
  refine hK _ _ ⟨fun e he => ?_, ?_⟩
  · (have hm := mem_listed he; simp [go_sem, storedEv, *] at hm; try (subst hm; refine free.evS_may ?_ (Eq.refl _); assumption))
  clear hK K hcl hfz hsz
  refine free.next_alloc hF (fun _ hF => ?_)
  u_c stepG_region_end at_rely hF
  u_c stepG_seq at_rely hF
  u_reg at_rely hF
  u_op at_rely hF
  u_in at_rely hF
  rw [stepG_defer_clo rfl rfl (by k_ne) rfl rfl]
  simp only [goes_go]
  refine ⟨by u_nil, ?_⟩
  walk_nrm
  u_c stepG_region_end at_rely hF
  u_c stepG_seq at_rely hF
  u_c stepG_seq at_rely hF
  u_reg at_rely hF
  u_in at_rely hF
  refine goes_oper_k rfl rfl (by k_ne) (fun K hK => ?_)
  have hcl := free.at_cell hF
  have hfz := free.at_frozen hF
  have hsz := free.at_size hF
  go_simp
  refine hK _ _ ⟨fun e he => ?_, ?_⟩
  · (have hm := mem_listed he; simp [go_sem, storedEv, *] at hm; try (subst hm; refine free.evS_may ?_ (Eq.refl _); assumption))
  clear hK K hcl hfz hsz
  u_op at_rely hF
  u_op at_rely hF
  u_in at_rely hF
  refine goes_oper_k rfl rfl (by k_ne) (fun K hK => ?_)
  have hcl := free.at_cell hF
  have hfz := free.at_frozen hF
  have hsz := free.at_size hF
  go_simp
  refine hK _ _ ⟨fun e he => ?_, ?_⟩
  · (have hm := mem_listed he; simp [go_sem, storedEv, *] at hm; try (subst hm; refine free.evS_may ?_ (Eq.refl _); assumption))
  clear hK K hcl hfz hsz
  u_op at_rely hF
  u_c stepG_region_end at_rely hF
  u_cond false at_rely hF
  u_c stepG_skip at_rely hF
  u_c stepG_seq at_rely hF
  u_reg at_rely hF
  u_in at_rely hF
  refine goes_oper_k rfl rfl (by k_ne) (fun K hK => ?_)
  have hcl := free.at_cell hF
  have hfz := free.at_frozen hF
  have hsz := free.at_size hF
  go_simp
  refine hK _ _ ⟨fun e he => ?_, ?_⟩
  · (have hm := mem_listed he; simp [go_sem, storedEv, *] at hm; try (subst hm; refine free.evS_may ?_ (Eq.refl _); assumption))
  clear hK K hcl hfz hsz
  u_op at_rely hF
  u_op at_rely hF
  u_call Try.func58 x58 Try.f58 at_rely hF
  u_c stepG_seq at_rely hF
  u_reg at_rely hF
  u_op at_rely hF
  u_c stepG_region_end at_rely hF
  u_c stepG_seq at_rely hF
  u_reg at_rely hF
  u_op at_rely hF
  u_op at_rely hF
  u_op at_rely hF
  u_op at_rely hF
  u_in at_rely hF
  have c6 := (at_cell hF _).trans c6
  have z6 := (at_frozen hF _).trans z6
  rw [stepG_add_atomic (v := 0) (d := 1) rfl rfl (by k_ne) rfl Try.func88 x88.1 x88.2.1 x88.2.2 .i64 e88 rfl rfl c6 z6]
  simp only [goes_go, show IntKind.i64.wrap (0 + 1) = 1 from by decide]
  refine ⟨ev2 (hM _ rfl).2, ?_⟩
  walk_nrm
  clear c6 z6
  refine next_set hF fun _ hF => ?_
  have e1 := blkset e0 6 (.int .i64 1) (blk 0 1 f36 0 0 1) rfl
  have ebx1 := set_old (a := ⟨b, 6, none⟩) (v := .int .i64 1) ebx hne
  clear eb c3 e0
  generalize hW1 : (W.alloc (.cells #[.pointer (some ⟨b, 0, none⟩)] 24)).setCell ⟨b, 6, none⟩ (.int .i64 1) = W1 at hF e1 ebx1 hT
  have eb := cell_of_one ebx1
  have c3 := blk3 e1
  have c4 := blk4 e1
  have z4 := blkz e1 4
  clear hW1
  u_op at_rely hF
  u_c stepG_region_end at_rely hF
  u_c stepG_ret' at_rely hF
  u_leave1 Try.func58 at_rely hF
  u_c stepG_region_end at_rely hF
  u_in at_rely hF
  rw [stepG_region_draw]
  simp only [goes_go]
  refine ⟨fun e he => by simp at he, ?_⟩
  replace hF := at_draw hF
  generalize hs : Region.schedule _ _ _ = sched
  obtain ⟨t, ht⟩ := Exists.intro (p := fun t => Region.schedule _ _ t = sched) _ hs
  have ho := HO.out t
  rw [ht] at ho
  clear ht hs HO
  simp only [List.mem_cons, List.not_mem_nil, or_false] at ho
  rcases ho with rfl | rfl | rfl | rfl | rfl | rfl
  · u_in at_rely hF
    refine goes_oper_k rfl rfl (by k_ne) (fun K hK => ?_)
    have hcl := free.at_cell hF
    have hfz := free.at_frozen hF
    have hsz := free.at_size hF
    go_simp
    refine hK _ _ ⟨fun e he => ?_, ?_⟩
    · (have hm := mem_listed he; simp [go_sem, storedEv, *] at hm; try (subst hm; refine free.evS_may ?_ (Eq.refl _); assumption))
    clear hK K hcl hfz hsz
    u_in at_rely hF
    refine goes_oper_k rfl rfl (by k_ne) (fun K hK => ?_)
    have hcl := free.at_cell hF
    have hfz := free.at_frozen hF
    have hsz := free.at_size hF
    go_simp
    refine hK _ _ ⟨fun e he => ?_, ?_⟩
    · (have hm := mem_listed he; simp [go_sem, storedEv, *] at hm; try (subst hm; refine free.evS_may ?_ (Eq.refl _); assumption))
    clear hK K hcl hfz hsz
    u_op at_rely hF
    u_op at_rely hF
    u_in at_rely hF
    refine goes_oper_k rfl rfl (by k_ne) (fun K hK => ?_)
    have hcl := free.at_cell hF
    have hfz := free.at_frozen hF
    have hsz := free.at_size hF
    go_simp
    refine hK _ _ ⟨fun e he => ?_, ?_⟩
    · (have hm := mem_listed he; simp [go_sem, storedEv, *] at hm; try (subst hm; refine free.evS_may ?_ (Eq.refl _); assumption))
    clear hK K hcl hfz hsz
    u_in at_rely hF
    refine goes_callv rfl rfl (by k_ne) rfl rfl Try.func36 x36 rfl ⟨by u_nil, ?_⟩
    walk_nrmf Try.f36
    u_c stepG_seq at_rely hF
    u_reg at_rely hF
    u_op at_rely hF
    u_c stepG_region_end at_rely hF
    u_c stepG_seq at_rely hF
    u_reg at_rely hF
    u_op at_rely hF
    u_c stepG_region_end at_rely hF
    u_c stepG_ret' at_rely hF
    u_leave1 Try.func36 at_rely hF
    u_op at_rely hF
    u_op at_rely hF
    u_in at_rely hF
    refine goes_oper_k rfl rfl (by k_ne) (fun K hK => ?_)
    have hcl := free.at_cell hF
    have hfz := free.at_frozen hF
    have hsz := free.at_size hF
    go_simp
    refine hK _ _ ⟨fun e he => ?_, ?_⟩
    · (have hm := mem_listed he; simp [go_sem, storedEv, *] at hm; try (subst hm; refine free.evS_may ?_ (Eq.refl _); assumption))
    clear hK K hcl hfz hsz
    refine free.next_set hF (fun _ hF => ?_)
    u_c stepG_region_end at_rely hF
    u_c stepG_end at_rely hF
    have e2 := blkset e1 4 (.int .i64 7) (blk 0 1 f36 7 0 1) rfl
    have ebx2 := set_old (a := ⟨b, 4, none⟩) (v := .int .i64 7) ebx1 hne
    u_in at_rely hF
    rw [stepG_unwind_clo rfl Try.func56 x56 rfl]
    simp only [goes_go]
    refine ⟨by u_nil, ?_⟩
    have hA := @catchD Shun Lw St
    simp only [Try.f56, Option.getD_some, Array.replicate_succ, Array.replicate_zero, List.push_toArray, List.append_toArray, List.nil_append, List.cons_append] at hA
    walk_nrmf Try.f56
    refine Goes.mono (hA (mT := mT + 5) rfl (cell_of_one ebx2) (blk5 e2) (blkz e2 5) hM hMx (fun y hF => ?_) _ hF) (by omega)
    clear hA
    u_leave0 Try.func34 at_rely hF
    exact Goes.mono (hT _ hF) (by omega)
  · u_in at_rely hF
    refine goes_oper_k rfl rfl (by k_ne) (fun K hK => ?_)
    have hcl := free.at_cell hF
    have hfz := free.at_frozen hF
    have hsz := free.at_size hF
    go_simp
    refine hK _ _ ⟨fun e he => ?_, ?_⟩
    · (have hm := mem_listed he; simp [go_sem, storedEv, *] at hm; try (subst hm; refine free.evS_may ?_ (Eq.refl _); assumption))
    clear hK K hcl hfz hsz
    u_in at_rely hF
    refine goes_oper_k rfl rfl (by k_ne) (fun K hK => ?_)
    have hcl := free.at_cell hF
    have hfz := free.at_frozen hF
    have hsz := free.at_size hF
    go_simp
    refine hK _ _ ⟨fun e he => ?_, ?_⟩
    · (have hm := mem_listed he; simp [go_sem, storedEv, *] at hm; try (subst hm; refine free.evS_may ?_ (Eq.refl _); assumption))
    clear hK K hcl hfz hsz
    u_op at_rely hF
    u_op at_rely hF
    u_in at_rely hF
    refine goes_oper_k rfl rfl (by k_ne) (fun K hK => ?_)
    have hcl := free.at_cell hF
    have hfz := free.at_frozen hF
    have hsz := free.at_size hF
    go_simp
    refine hK _ _ ⟨fun e he => ?_, ?_⟩
    · (have hm := mem_listed he; simp [go_sem, storedEv, *] at hm; try (subst hm; refine free.evS_may ?_ (Eq.refl _); assumption))
    clear hK K hcl hfz hsz
    u_in at_rely hF
    refine goes_callv rfl rfl (by k_ne) rfl rfl Try.func36 x36 rfl ⟨by u_nil, ?_⟩
    walk_nrmf Try.f36
    u_c stepG_seq at_rely hF
    u_reg at_rely hF
    u_op at_rely hF
    u_c stepG_region_end at_rely hF
    u_c stepG_seq at_rely hF
    u_reg at_rely hF
    u_op at_rely hF
    u_c stepG_region_end at_rely hF
    u_c stepG_ret' at_rely hF
    u_leave1 Try.func36 at_rely hF
    u_op at_rely hF
    u_op at_rely hF
    u_in at_rely hF
    refine goes_oper_k rfl rfl (by k_ne) (fun K hK => ?_)
    have hcl := free.at_cell hF
    have hfz := free.at_frozen hF
    have hsz := free.at_size hF
    go_simp
    refine hK _ _ ⟨fun e he => ?_, ?_⟩
    · (have hm := mem_listed he; simp [go_sem, storedEv, *] at hm; try (subst hm; refine free.evS_may ?_ (Eq.refl _); assumption))
    clear hK K hcl hfz hsz
    refine free.next_set hF (fun _ hF => ?_)
    u_c stepG_region_end at_rely hF
    u_c stepG_end at_rely hF
    have e2 := blkset e1 4 (.int .i64 7) (blk 0 1 f36 7 0 1) rfl
    have ebx2 := set_old (a := ⟨b, 4, none⟩) (v := .int .i64 7) ebx1 hne
    u_in at_rely hF
    rw [stepG_unwind_clo rfl Try.func56 x56 rfl]
    simp only [goes_go]
    refine ⟨by u_nil, ?_⟩
    have hA := @catchD Shun Lw St
    simp only [Try.f56, Option.getD_some, Array.replicate_succ, Array.replicate_zero, List.push_toArray, List.append_toArray, List.nil_append, List.cons_append] at hA
    walk_nrmf Try.f56
    refine Goes.mono (hA (mT := mT + 5) rfl (cell_of_one ebx2) (blk5 e2) (blkz e2 5) hM hMx (fun y hF => ?_) _ hF) (by omega)
    clear hA
    u_leave0 Try.func34 at_rely hF
    exact Goes.mono (hT _ hF) (by omega)
  · u_in at_rely hF
    refine goes_oper_k rfl rfl (by k_ne) (fun K hK => ?_)
    have hcl := free.at_cell hF
    have hfz := free.at_frozen hF
    have hsz := free.at_size hF
    go_simp
    refine hK _ _ ⟨fun e he => ?_, ?_⟩
    · (have hm := mem_listed he; simp [go_sem, storedEv, *] at hm; try (subst hm; refine free.evS_may ?_ (Eq.refl _); assumption))
    clear hK K hcl hfz hsz
    u_op at_rely hF
    u_in at_rely hF
    refine goes_oper_k rfl rfl (by k_ne) (fun K hK => ?_)
    have hcl := free.at_cell hF
    have hfz := free.at_frozen hF
    have hsz := free.at_size hF
    go_simp
    refine hK _ _ ⟨fun e he => ?_, ?_⟩
    · (have hm := mem_listed he; simp [go_sem, storedEv, *] at hm; try (subst hm; refine free.evS_may ?_ (Eq.refl _); assumption))
    clear hK K hcl hfz hsz
    u_op at_rely hF
    u_in at_rely hF
    refine goes_oper_k rfl rfl (by k_ne) (fun K hK => ?_)
    have hcl := free.at_cell hF
    have hfz := free.at_frozen hF
    have hsz := free.at_size hF
    go_simp
    refine hK _ _ ⟨fun e he => ?_, ?_⟩
    · (have hm := mem_listed he; simp [go_sem, storedEv, *] at hm; try (subst hm; refine free.evS_may ?_ (Eq.refl _); assumption))
    clear hK K hcl hfz hsz
    u_in at_rely hF
    refine goes_callv rfl rfl (by k_ne) rfl rfl Try.func36 x36 rfl ⟨by u_nil, ?_⟩
    walk_nrmf Try.f36
    u_c stepG_seq at_rely hF
    u_reg at_rely hF
    u_op at_rely hF
    u_c stepG_region_end at_rely hF
    u_c stepG_seq at_rely hF
    u_reg at_rely hF
    u_op at_rely hF
    u_c stepG_region_end at_rely hF
    u_c stepG_ret' at_rely hF
    u_leave1 Try.func36 at_rely hF
    u_op at_rely hF
    u_op at_rely hF
    u_in at_rely hF
    refine goes_oper_k rfl rfl (by k_ne) (fun K hK => ?_)
    have hcl := free.at_cell hF
    have hfz := free.at_frozen hF
    have hsz := free.at_size hF
    go_simp
    refine hK _ _ ⟨fun e he => ?_, ?_⟩
    · (have hm := mem_listed he; simp [go_sem, storedEv, *] at hm; try (subst hm; refine free.evS_may ?_ (Eq.refl _); assumption))
    clear hK K hcl hfz hsz
    refine free.next_set hF (fun _ hF => ?_)
    u_c stepG_region_end at_rely hF
    u_c stepG_end at_rely hF
    have e2 := blkset e1 4 (.int .i64 7) (blk 0 1 f36 7 0 1) rfl
    have ebx2 := set_old (a := ⟨b, 4, none⟩) (v := .int .i64 7) ebx1 hne
    u_in at_rely hF
    rw [stepG_unwind_clo rfl Try.func56 x56 rfl]
    simp only [goes_go]
    refine ⟨by u_nil, ?_⟩
    have hA := @catchD Shun Lw St
    simp only [Try.f56, Option.getD_some, Array.replicate_succ, Array.replicate_zero, List.push_toArray, List.append_toArray, List.nil_append, List.cons_append] at hA
    walk_nrmf Try.f56
    refine Goes.mono (hA (mT := mT + 5) rfl (cell_of_one ebx2) (blk5 e2) (blkz e2 5) hM hMx (fun y hF => ?_) _ hF) (by omega)
    clear hA
    u_leave0 Try.func34 at_rely hF
    exact Goes.mono (hT _ hF) (by omega)
  · u_in at_rely hF
    refine goes_oper_k rfl rfl (by k_ne) (fun K hK => ?_)
    have hcl := free.at_cell hF
    have hfz := free.at_frozen hF
    have hsz := free.at_size hF
    go_simp
    refine hK _ _ ⟨fun e he => ?_, ?_⟩
    · (have hm := mem_listed he; simp [go_sem, storedEv, *] at hm; try (subst hm; refine free.evS_may ?_ (Eq.refl _); assumption))
    clear hK K hcl hfz hsz
    u_op at_rely hF
    u_op at_rely hF
    u_in at_rely hF
    refine goes_oper_k rfl rfl (by k_ne) (fun K hK => ?_)
    have hcl := free.at_cell hF
    have hfz := free.at_frozen hF
    have hsz := free.at_size hF
    go_simp
    refine hK _ _ ⟨fun e he => ?_, ?_⟩
    · (have hm := mem_listed he; simp [go_sem, storedEv, *] at hm; try (subst hm; refine free.evS_may ?_ (Eq.refl _); assumption))
    clear hK K hcl hfz hsz
    u_in at_rely hF
    refine goes_oper_k rfl rfl (by k_ne) (fun K hK => ?_)
    have hcl := free.at_cell hF
    have hfz := free.at_frozen hF
    have hsz := free.at_size hF
    go_simp
    refine hK _ _ ⟨fun e he => ?_, ?_⟩
    · (have hm := mem_listed he; simp [go_sem, storedEv, *] at hm; try (subst hm; refine free.evS_may ?_ (Eq.refl _); assumption))
    clear hK K hcl hfz hsz
    u_in at_rely hF
    refine goes_callv rfl rfl (by k_ne) rfl rfl Try.func36 x36 rfl ⟨by u_nil, ?_⟩
    walk_nrmf Try.f36
    u_c stepG_seq at_rely hF
    u_reg at_rely hF
    u_op at_rely hF
    u_c stepG_region_end at_rely hF
    u_c stepG_seq at_rely hF
    u_reg at_rely hF
    u_op at_rely hF
    u_c stepG_region_end at_rely hF
    u_c stepG_ret' at_rely hF
    u_leave1 Try.func36 at_rely hF
    u_op at_rely hF
    u_op at_rely hF
    u_in at_rely hF
    refine goes_oper_k rfl rfl (by k_ne) (fun K hK => ?_)
    have hcl := free.at_cell hF
    have hfz := free.at_frozen hF
    have hsz := free.at_size hF
    go_simp
    refine hK _ _ ⟨fun e he => ?_, ?_⟩
    · (have hm := mem_listed he; simp [go_sem, storedEv, *] at hm; try (subst hm; refine free.evS_may ?_ (Eq.refl _); assumption))
    clear hK K hcl hfz hsz
    refine free.next_set hF (fun _ hF => ?_)
    u_c stepG_region_end at_rely hF
    u_c stepG_end at_rely hF
    have e2 := blkset e1 4 (.int .i64 7) (blk 0 1 f36 7 0 1) rfl
    have ebx2 := set_old (a := ⟨b, 4, none⟩) (v := .int .i64 7) ebx1 hne
    u_in at_rely hF
    rw [stepG_unwind_clo rfl Try.func56 x56 rfl]
    simp only [goes_go]
    refine ⟨by u_nil, ?_⟩
    have hA := @catchD Shun Lw St
    simp only [Try.f56, Option.getD_some, Array.replicate_succ, Array.replicate_zero, List.push_toArray, List.append_toArray, List.nil_append, List.cons_append] at hA
    walk_nrmf Try.f56
    refine Goes.mono (hA (mT := mT + 5) rfl (cell_of_one ebx2) (blk5 e2) (blkz e2 5) hM hMx (fun y hF => ?_) _ hF) (by omega)
    clear hA
    u_leave0 Try.func34 at_rely hF
    exact Goes.mono (hT _ hF) (by omega)
  · u_in at_rely hF
    refine goes_oper_k rfl rfl (by k_ne) (fun K hK => ?_)
    have hcl := free.at_cell hF
    have hfz := free.at_frozen hF
    have hsz := free.at_size hF
    go_simp
    refine hK _ _ ⟨fun e he => ?_, ?_⟩
    · (have hm := mem_listed he; simp [go_sem, storedEv, *] at hm; try (subst hm; refine free.evS_may ?_ (Eq.refl _); assumption))
    clear hK K hcl hfz hsz
    u_op at_rely hF
    u_op at_rely hF
    u_in at_rely hF
    refine goes_oper_k rfl rfl (by k_ne) (fun K hK => ?_)
    have hcl := free.at_cell hF
    have hfz := free.at_frozen hF
    have hsz := free.at_size hF
    go_simp
    refine hK _ _ ⟨fun e he => ?_, ?_⟩
    · (have hm := mem_listed he; simp [go_sem, storedEv, *] at hm; try (subst hm; refine free.evS_may ?_ (Eq.refl _); assumption))
    clear hK K hcl hfz hsz
    u_in at_rely hF
    refine goes_oper_k rfl rfl (by k_ne) (fun K hK => ?_)
    have hcl := free.at_cell hF
    have hfz := free.at_frozen hF
    have hsz := free.at_size hF
    go_simp
    refine hK _ _ ⟨fun e he => ?_, ?_⟩
    · (have hm := mem_listed he; simp [go_sem, storedEv, *] at hm; try (subst hm; refine free.evS_may ?_ (Eq.refl _); assumption))
    clear hK K hcl hfz hsz
    u_in at_rely hF
    refine goes_callv rfl rfl (by k_ne) rfl rfl Try.func36 x36 rfl ⟨by u_nil, ?_⟩
    walk_nrmf Try.f36
    u_c stepG_seq at_rely hF
    u_reg at_rely hF
    u_op at_rely hF
    u_c stepG_region_end at_rely hF
    u_c stepG_seq at_rely hF
    u_reg at_rely hF
    u_op at_rely hF
    u_c stepG_region_end at_rely hF
    u_c stepG_ret' at_rely hF
    u_leave1 Try.func36 at_rely hF
    u_op at_rely hF
    u_op at_rely hF
    u_in at_rely hF
    refine goes_oper_k rfl rfl (by k_ne) (fun K hK => ?_)
    have hcl := free.at_cell hF
    have hfz := free.at_frozen hF
    have hsz := free.at_size hF
    go_simp
    refine hK _ _ ⟨fun e he => ?_, ?_⟩
    · (have hm := mem_listed he; simp [go_sem, storedEv, *] at hm; try (subst hm; refine free.evS_may ?_ (Eq.refl _); assumption))
    clear hK K hcl hfz hsz
    refine free.next_set hF (fun _ hF => ?_)
    u_c stepG_region_end at_rely hF
    u_c stepG_end at_rely hF
    have e2 := blkset e1 4 (.int .i64 7) (blk 0 1 f36 7 0 1) rfl
    have ebx2 := set_old (a := ⟨b, 4, none⟩) (v := .int .i64 7) ebx1 hne
    u_in at_rely hF
    rw [stepG_unwind_clo rfl Try.func56 x56 rfl]
    simp only [goes_go]
    refine ⟨by u_nil, ?_⟩
    have hA := @catchD Shun Lw St
    simp only [Try.f56, Option.getD_some, Array.replicate_succ, Array.replicate_zero, List.push_toArray, List.append_toArray, List.nil_append, List.cons_append] at hA
    walk_nrmf Try.f56
    refine Goes.mono (hA (mT := mT + 5) rfl (cell_of_one ebx2) (blk5 e2) (blkz e2 5) hM hMx (fun y hF => ?_) _ hF) (by omega)
    clear hA
    u_leave0 Try.func34 at_rely hF
    exact Goes.mono (hT _ hF) (by omega)
  · u_in at_rely hF
    refine goes_oper_k rfl rfl (by k_ne) (fun K hK => ?_)
    have hcl := free.at_cell hF
    have hfz := free.at_frozen hF
    have hsz := free.at_size hF
    go_simp
    refine hK _ _ ⟨fun e he => ?_, ?_⟩
    · (have hm := mem_listed he; simp [go_sem, storedEv, *] at hm; try (subst hm; refine free.evS_may ?_ (Eq.refl _); assumption))
    clear hK K hcl hfz hsz
    u_op at_rely hF
    u_op at_rely hF
    u_in at_rely hF
    refine goes_oper_k rfl rfl (by k_ne) (fun K hK => ?_)
    have hcl := free.at_cell hF
    have hfz := free.at_frozen hF
    have hsz := free.at_size hF
    go_simp
    refine hK _ _ ⟨fun e he => ?_, ?_⟩
    · (have hm := mem_listed he; simp [go_sem, storedEv, *] at hm; try (subst hm; refine free.evS_may ?_ (Eq.refl _); assumption))
    clear hK K hcl hfz hsz
    u_in at_rely hF
    refine goes_callv rfl rfl (by k_ne) rfl rfl Try.func36 x36 rfl ⟨by u_nil, ?_⟩
    walk_nrmf Try.f36
    u_c stepG_seq at_rely hF
    u_reg at_rely hF
    u_op at_rely hF
    u_c stepG_region_end at_rely hF
    u_c stepG_seq at_rely hF
    u_reg at_rely hF
    u_op at_rely hF
    u_c stepG_region_end at_rely hF
    u_c stepG_ret' at_rely hF
    u_leave1 Try.func36 at_rely hF
    u_in at_rely hF
    refine goes_oper_k rfl rfl (by k_ne) (fun K hK => ?_)
    have hcl := free.at_cell hF
    have hfz := free.at_frozen hF
    have hsz := free.at_size hF
    go_simp
    refine hK _ _ ⟨fun e he => ?_, ?_⟩
    · (have hm := mem_listed he; simp [go_sem, storedEv, *] at hm; try (subst hm; refine free.evS_may ?_ (Eq.refl _); assumption))
    clear hK K hcl hfz hsz
    u_op at_rely hF
    u_op at_rely hF
    u_in at_rely hF
    refine goes_oper_k rfl rfl (by k_ne) (fun K hK => ?_)
    have hcl := free.at_cell hF
    have hfz := free.at_frozen hF
    have hsz := free.at_size hF
    go_simp
    refine hK _ _ ⟨fun e he => ?_, ?_⟩
    · (have hm := mem_listed he; simp [go_sem, storedEv, *] at hm; try (subst hm; refine free.evS_may ?_ (Eq.refl _); assumption))
    clear hK K hcl hfz hsz
    refine free.next_set hF (fun _ hF => ?_)
    u_c stepG_region_end at_rely hF
    u_c stepG_end at_rely hF
    have e2 := blkset e1 4 (.int .i64 7) (blk 0 1 f36 7 0 1) rfl
    have ebx2 := set_old (a := ⟨b, 4, none⟩) (v := .int .i64 7) ebx1 hne
    u_in at_rely hF
    rw [stepG_unwind_clo rfl Try.func56 x56 rfl]
    simp only [goes_go]
    refine ⟨by u_nil, ?_⟩
    have hA := @catchD Shun Lw St
    simp only [Try.f56, Option.getD_some, Array.replicate_succ, Array.replicate_zero, List.push_toArray, List.append_toArray, List.nil_append, List.cons_append] at hA
    walk_nrmf Try.f56
    refine Goes.mono (hA (mT := mT + 5) rfl (cell_of_one ebx2) (blk5 e2) (blkz e2 5) hM hMx (fun y hF => ?_) _ hF) (by omega)
    clear hA
    u_leave0 Try.func34 at_rely hF
    exact Goes.mono (hT _ hF) (by omega)
end
end Go.Proofs.Ytdkbkocklnnmdaa.free
