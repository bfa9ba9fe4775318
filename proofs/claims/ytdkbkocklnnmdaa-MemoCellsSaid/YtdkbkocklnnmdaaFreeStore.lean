/-
  Beside goroutines that only leave: main's walk through Bool.Store(true), whose region draws its order, as a call and as a deferred call, with what is behind it as it goes on. Conditions: the cell holds something, is not frozen, and may be touched.
-/
import Derived.Test.YtdkbkocklnnmdaaFreeSync
import Derived.Test.YtdkbkocklnnmdaaOrd
set_option linter.unusedSimpArgs false
set_option linter.unusedVariables false
namespace Go.Proofs.Ytdkbkocklnnmdaa.free
open Go Go.Conc Go.RowKit Go.ConcR.Gen Go.ConcN.Gen Go.Proofs.Ytdkbkocklnnmdaa.crew Go.Proofs.Ytdkbkocklnnmdaa.kid Go.Proofs.Ytdkbkocklnnmdaa.wg
open Go.ConcX.Gen (setCell_at alloc_at)

theorem x87 : (Try.f87.name == "runtime.NumGoroutine") = false := by kernel_rfl
theorem x86 : (Try.f86.name == "runtime.NumGoroutine") = false ∧ Try.f86.body.isNone = true ∧ Extern.findNext Try.f86 = none := ⟨by kernel_rfl, by kernel_rfl, by kernel_rfl⟩
theorem e86 : Extern.find Try.f86 = some Extern.Atomic.storeT := by kernel_rfl
theorem at_draw {W x : World} (h : Conc.AtRel W x) : Conc.AtRel W { x with drawn := x.drawn + 1 } := at_rely h ⟨_, rfl⟩

section
variable {Shun Lw : Loc → Prop} {St : Goroutine → World → Prop} {b₀ : Frame} {a₀ : Act} {ops₀ : Array Oper} {i₀ : Nat} {rest₀ : List Nat} {k₀ : List Item} {cs : List Frame} {mT : Nat}

set_option maxRecDepth 100000 in
set_option maxHeartbeats 16000000 in
theorem storeC {a : Addr} {u : Value} {W : World} (c0 : W.cell? a = some u) (z0 : W.frozen? a = false) (hL : Lw (.cell a))
    (hT : ∀ y, Conc.AtRel (W.setCell a (.int .u32 1)) y → Goes Try.prog true Conc.AtRel (DF Shun Lw) St mT (G (b₀.at (a₀.put ((ops₀[i₀]?).bind (·.dst)) (.tuple #[])) (.inRegion ops₀ rest₀ :: k₀)) cs) y) :
    ∀ y, Conc.AtRel W y → Goes Try.prog true Conc.AtRel (DF Shun Lw) St (mT + 40) (G ((base 57).at { tmps := #[.pointer (some a), .bool true] ++ Array.replicate 8 undef, defers := [] } [.code (Try.f57.body.getD .skip)]) (b₀.at a₀ (.inRegion ops₀ (i₀ :: rest₀) :: k₀) :: cs)) y := by
  intro y hF
  have ho := fun t => schedule_orders ops57 t
  simp only [show ops57.size = 6 from by kernel_rfl, ord57] at ho
  simp only [ops57, Try.f57, Option.getD_some] at ho ⊢
  walk_nrm
  u_in at_rely hF
  rw [stepG_region_draw]
  simp only [goes_go]
  refine ⟨fun e he => by simp at he, ?_⟩
  replace hF := at_draw hF
  generalize hs : Region.schedule _ _ _ = sched
  obtain ⟨t, ht⟩ := Exists.intro (p := fun t => Region.schedule _ _ t = sched) _ hs
  have ho := ho t
  rw [ht] at ho
  clear ht hs
  simp only [List.mem_cons, List.not_mem_nil, or_false] at ho
  rcases ho with rfl | rfl | rfl | rfl | rfl | rfl | rfl | rfl | rfl | rfl
  · u_op at_rely hF
    u_op at_rely hF
    u_op at_rely hF
    u_op at_rely hF
    u_call Try.func87 x87 Try.f87 at_rely hF
    u_c stepG_seq at_rely hF
    u_reg at_rely hF
    u_op at_rely hF
    u_c stepG_region_end at_rely hF
    u_c stepG_seq at_rely hF
    u_c stepG_seq at_rely hF
    u_reg at_rely hF
    u_op at_rely hF
    u_c stepG_region_end at_rely hF
    u_cond true at_rely hF
    u_c stepG_seq at_rely hF
    u_reg at_rely hF
    u_op at_rely hF
    u_c stepG_region_end at_rely hF
    u_c stepG_ret' at_rely hF
    u_leave1 Try.func87 at_rely hF
    u_in at_rely hF
    have c0 := (at_cell hF _).trans c0
    have z0 := (at_frozen hF _).trans z0
    rw [stepG_store_atomic (k := .u32) (v := 1) rfl rfl (by k_ne) rfl Try.func86 x86.1 x86.2.1 x86.2.2 e86 rfl rfl c0 z0]
    simp only [goes_go]
    refine ⟨evw hL, ?_⟩
    walk_nrm
    clear c0 z0
    refine next_set hF fun _ hF => ?_
    u_c stepG_region_end at_rely hF
    u_c stepG_end at_rely hF
    u_leave0 Try.func57 at_rely hF
    exact Goes.mono (hT _ hF) (by omega)
  · u_op at_rely hF
    u_op at_rely hF
    u_op at_rely hF
    u_op at_rely hF
    u_call Try.func87 x87 Try.f87 at_rely hF
    u_c stepG_seq at_rely hF
    u_reg at_rely hF
    u_op at_rely hF
    u_c stepG_region_end at_rely hF
    u_c stepG_seq at_rely hF
    u_c stepG_seq at_rely hF
    u_reg at_rely hF
    u_op at_rely hF
    u_c stepG_region_end at_rely hF
    u_cond true at_rely hF
    u_c stepG_seq at_rely hF
    u_reg at_rely hF
    u_op at_rely hF
    u_c stepG_region_end at_rely hF
    u_c stepG_ret' at_rely hF
    u_leave1 Try.func87 at_rely hF
    u_in at_rely hF
    have c0 := (at_cell hF _).trans c0
    have z0 := (at_frozen hF _).trans z0
    rw [stepG_store_atomic (k := .u32) (v := 1) rfl rfl (by k_ne) rfl Try.func86 x86.1 x86.2.1 x86.2.2 e86 rfl rfl c0 z0]
    simp only [goes_go]
    refine ⟨evw hL, ?_⟩
    walk_nrm
    clear c0 z0
    refine next_set hF fun _ hF => ?_
    u_c stepG_region_end at_rely hF
    u_c stepG_end at_rely hF
    u_leave0 Try.func57 at_rely hF
    exact Goes.mono (hT _ hF) (by omega)
  · u_op at_rely hF
    u_op at_rely hF
    u_op at_rely hF
    u_call Try.func87 x87 Try.f87 at_rely hF
    u_c stepG_seq at_rely hF
    u_reg at_rely hF
    u_op at_rely hF
    u_c stepG_region_end at_rely hF
    u_c stepG_seq at_rely hF
    u_c stepG_seq at_rely hF
    u_reg at_rely hF
    u_op at_rely hF
    u_c stepG_region_end at_rely hF
    u_cond true at_rely hF
    u_c stepG_seq at_rely hF
    u_reg at_rely hF
    u_op at_rely hF
    u_c stepG_region_end at_rely hF
    u_c stepG_ret' at_rely hF
    u_leave1 Try.func87 at_rely hF
    u_op at_rely hF
    u_in at_rely hF
    have c0 := (at_cell hF _).trans c0
    have z0 := (at_frozen hF _).trans z0
    rw [stepG_store_atomic (k := .u32) (v := 1) rfl rfl (by k_ne) rfl Try.func86 x86.1 x86.2.1 x86.2.2 e86 rfl rfl c0 z0]
    simp only [goes_go]
    refine ⟨evw hL, ?_⟩
    walk_nrm
    clear c0 z0
    refine next_set hF fun _ hF => ?_
    u_c stepG_region_end at_rely hF
    u_c stepG_end at_rely hF
    u_leave0 Try.func57 at_rely hF
    exact Goes.mono (hT _ hF) (by omega)
  · u_op at_rely hF
    u_op at_rely hF
    u_op at_rely hF
    u_op at_rely hF
    u_call Try.func87 x87 Try.f87 at_rely hF
    u_c stepG_seq at_rely hF
    u_reg at_rely hF
    u_op at_rely hF
    u_c stepG_region_end at_rely hF
    u_c stepG_seq at_rely hF
    u_c stepG_seq at_rely hF
    u_reg at_rely hF
    u_op at_rely hF
    u_c stepG_region_end at_rely hF
    u_cond true at_rely hF
    u_c stepG_seq at_rely hF
    u_reg at_rely hF
    u_op at_rely hF
    u_c stepG_region_end at_rely hF
    u_c stepG_ret' at_rely hF
    u_leave1 Try.func87 at_rely hF
    u_in at_rely hF
    have c0 := (at_cell hF _).trans c0
    have z0 := (at_frozen hF _).trans z0
    rw [stepG_store_atomic (k := .u32) (v := 1) rfl rfl (by k_ne) rfl Try.func86 x86.1 x86.2.1 x86.2.2 e86 rfl rfl c0 z0]
    simp only [goes_go]
    refine ⟨evw hL, ?_⟩
    walk_nrm
    clear c0 z0
    refine next_set hF fun _ hF => ?_
    u_c stepG_region_end at_rely hF
    u_c stepG_end at_rely hF
    u_leave0 Try.func57 at_rely hF
    exact Goes.mono (hT _ hF) (by omega)
  · u_op at_rely hF
    u_op at_rely hF
    u_op at_rely hF
    u_call Try.func87 x87 Try.f87 at_rely hF
    u_c stepG_seq at_rely hF
    u_reg at_rely hF
    u_op at_rely hF
    u_c stepG_region_end at_rely hF
    u_c stepG_seq at_rely hF
    u_c stepG_seq at_rely hF
    u_reg at_rely hF
    u_op at_rely hF
    u_c stepG_region_end at_rely hF
    u_cond true at_rely hF
    u_c stepG_seq at_rely hF
    u_reg at_rely hF
    u_op at_rely hF
    u_c stepG_region_end at_rely hF
    u_c stepG_ret' at_rely hF
    u_leave1 Try.func87 at_rely hF
    u_op at_rely hF
    u_in at_rely hF
    have c0 := (at_cell hF _).trans c0
    have z0 := (at_frozen hF _).trans z0
    rw [stepG_store_atomic (k := .u32) (v := 1) rfl rfl (by k_ne) rfl Try.func86 x86.1 x86.2.1 x86.2.2 e86 rfl rfl c0 z0]
    simp only [goes_go]
    refine ⟨evw hL, ?_⟩
    walk_nrm
    clear c0 z0
    refine next_set hF fun _ hF => ?_
    u_c stepG_region_end at_rely hF
    u_c stepG_end at_rely hF
    u_leave0 Try.func57 at_rely hF
    exact Goes.mono (hT _ hF) (by omega)
  · u_op at_rely hF
    u_op at_rely hF
    u_call Try.func87 x87 Try.f87 at_rely hF
    u_c stepG_seq at_rely hF
    u_reg at_rely hF
    u_op at_rely hF
    u_c stepG_region_end at_rely hF
    u_c stepG_seq at_rely hF
    u_c stepG_seq at_rely hF
    u_reg at_rely hF
    u_op at_rely hF
    u_c stepG_region_end at_rely hF
    u_cond true at_rely hF
    u_c stepG_seq at_rely hF
    u_reg at_rely hF
    u_op at_rely hF
    u_c stepG_region_end at_rely hF
    u_c stepG_ret' at_rely hF
    u_leave1 Try.func87 at_rely hF
    u_op at_rely hF
    u_op at_rely hF
    u_in at_rely hF
    have c0 := (at_cell hF _).trans c0
    have z0 := (at_frozen hF _).trans z0
    rw [stepG_store_atomic (k := .u32) (v := 1) rfl rfl (by k_ne) rfl Try.func86 x86.1 x86.2.1 x86.2.2 e86 rfl rfl c0 z0]
    simp only [goes_go]
    refine ⟨evw hL, ?_⟩
    walk_nrm
    clear c0 z0
    refine next_set hF fun _ hF => ?_
    u_c stepG_region_end at_rely hF
    u_c stepG_end at_rely hF
    u_leave0 Try.func57 at_rely hF
    exact Goes.mono (hT _ hF) (by omega)
  · u_op at_rely hF
    u_op at_rely hF
    u_op at_rely hF
    u_op at_rely hF
    u_call Try.func87 x87 Try.f87 at_rely hF
    u_c stepG_seq at_rely hF
    u_reg at_rely hF
    u_op at_rely hF
    u_c stepG_region_end at_rely hF
    u_c stepG_seq at_rely hF
    u_c stepG_seq at_rely hF
    u_reg at_rely hF
    u_op at_rely hF
    u_c stepG_region_end at_rely hF
    u_cond true at_rely hF
    u_c stepG_seq at_rely hF
    u_reg at_rely hF
    u_op at_rely hF
    u_c stepG_region_end at_rely hF
    u_c stepG_ret' at_rely hF
    u_leave1 Try.func87 at_rely hF
    u_in at_rely hF
    have c0 := (at_cell hF _).trans c0
    have z0 := (at_frozen hF _).trans z0
    rw [stepG_store_atomic (k := .u32) (v := 1) rfl rfl (by k_ne) rfl Try.func86 x86.1 x86.2.1 x86.2.2 e86 rfl rfl c0 z0]
    simp only [goes_go]
    refine ⟨evw hL, ?_⟩
    walk_nrm
    clear c0 z0
    refine next_set hF fun _ hF => ?_
    u_c stepG_region_end at_rely hF
    u_c stepG_end at_rely hF
    u_leave0 Try.func57 at_rely hF
    exact Goes.mono (hT _ hF) (by omega)
  · u_op at_rely hF
    u_op at_rely hF
    u_op at_rely hF
    u_call Try.func87 x87 Try.f87 at_rely hF
    u_c stepG_seq at_rely hF
    u_reg at_rely hF
    u_op at_rely hF
    u_c stepG_region_end at_rely hF
    u_c stepG_seq at_rely hF
    u_c stepG_seq at_rely hF
    u_reg at_rely hF
    u_op at_rely hF
    u_c stepG_region_end at_rely hF
    u_cond true at_rely hF
    u_c stepG_seq at_rely hF
    u_reg at_rely hF
    u_op at_rely hF
    u_c stepG_region_end at_rely hF
    u_c stepG_ret' at_rely hF
    u_leave1 Try.func87 at_rely hF
    u_op at_rely hF
    u_in at_rely hF
    have c0 := (at_cell hF _).trans c0
    have z0 := (at_frozen hF _).trans z0
    rw [stepG_store_atomic (k := .u32) (v := 1) rfl rfl (by k_ne) rfl Try.func86 x86.1 x86.2.1 x86.2.2 e86 rfl rfl c0 z0]
    simp only [goes_go]
    refine ⟨evw hL, ?_⟩
    walk_nrm
    clear c0 z0
    refine next_set hF fun _ hF => ?_
    u_c stepG_region_end at_rely hF
    u_c stepG_end at_rely hF
    u_leave0 Try.func57 at_rely hF
    exact Goes.mono (hT _ hF) (by omega)
  · u_op at_rely hF
    u_op at_rely hF
    u_call Try.func87 x87 Try.f87 at_rely hF
    u_c stepG_seq at_rely hF
    u_reg at_rely hF
    u_op at_rely hF
    u_c stepG_region_end at_rely hF
    u_c stepG_seq at_rely hF
    u_c stepG_seq at_rely hF
    u_reg at_rely hF
    u_op at_rely hF
    u_c stepG_region_end at_rely hF
    u_cond true at_rely hF
    u_c stepG_seq at_rely hF
    u_reg at_rely hF
    u_op at_rely hF
    u_c stepG_region_end at_rely hF
    u_c stepG_ret' at_rely hF
    u_leave1 Try.func87 at_rely hF
    u_op at_rely hF
    u_op at_rely hF
    u_in at_rely hF
    have c0 := (at_cell hF _).trans c0
    have z0 := (at_frozen hF _).trans z0
    rw [stepG_store_atomic (k := .u32) (v := 1) rfl rfl (by k_ne) rfl Try.func86 x86.1 x86.2.1 x86.2.2 e86 rfl rfl c0 z0]
    simp only [goes_go]
    refine ⟨evw hL, ?_⟩
    walk_nrm
    clear c0 z0
    refine next_set hF fun _ hF => ?_
    u_c stepG_region_end at_rely hF
    u_c stepG_end at_rely hF
    u_leave0 Try.func57 at_rely hF
    exact Goes.mono (hT _ hF) (by omega)
  · u_op at_rely hF
    u_call Try.func87 x87 Try.f87 at_rely hF
    u_c stepG_seq at_rely hF
    u_reg at_rely hF
    u_op at_rely hF
    u_c stepG_region_end at_rely hF
    u_c stepG_seq at_rely hF
    u_c stepG_seq at_rely hF
    u_reg at_rely hF
    u_op at_rely hF
    u_c stepG_region_end at_rely hF
    u_cond true at_rely hF
    u_c stepG_seq at_rely hF
    u_reg at_rely hF
    u_op at_rely hF
    u_c stepG_region_end at_rely hF
    u_c stepG_ret' at_rely hF
    u_leave1 Try.func87 at_rely hF
    u_op at_rely hF
    u_op at_rely hF
    u_op at_rely hF
    u_in at_rely hF
    have c0 := (at_cell hF _).trans c0
    have z0 := (at_frozen hF _).trans z0
    rw [stepG_store_atomic (k := .u32) (v := 1) rfl rfl (by k_ne) rfl Try.func86 x86.1 x86.2.1 x86.2.2 e86 rfl rfl c0 z0]
    simp only [goes_go]
    refine ⟨evw hL, ?_⟩
    walk_nrm
    clear c0 z0
    refine next_set hF fun _ hF => ?_
    u_c stepG_region_end at_rely hF
    u_c stepG_end at_rely hF
    u_leave0 Try.func57 at_rely hF
    exact Goes.mono (hT _ hF) (by omega)

set_option maxRecDepth 100000 in
set_option maxHeartbeats 16000000 in
theorem storeD {a : Addr} {u : Value} {c₀ : Frame} {W : World} (hcm : c₀.mode = .returning) (c0 : W.cell? a = some u) (z0 : W.frozen? a = false) (hL : Lw (.cell a))
    (hT : ∀ y, Conc.AtRel (W.setCell a (.int .u32 1)) y → Goes Try.prog true Conc.AtRel (DF Shun Lw) St mT (G c₀ cs) y) :
    ∀ y, Conc.AtRel W y → Goes Try.prog true Conc.AtRel (DF Shun Lw) St (mT + 40) (G ((baseD 57).at { tmps := #[.pointer (some a), .bool true] ++ Array.replicate 8 undef, defers := [] } [.code (Try.f57.body.getD .skip)]) (c₀ :: cs)) y := by
  intro y hF
  have ho := fun t => schedule_orders ops57 t
  simp only [show ops57.size = 6 from by kernel_rfl, ord57] at ho
  simp only [ops57, Try.f57, Option.getD_some] at ho ⊢
  walk_nrm
  u_in at_rely hF
  rw [stepG_region_draw]
  simp only [goes_go]
  refine ⟨fun e he => by simp at he, ?_⟩
  replace hF := at_draw hF
  generalize hs : Region.schedule _ _ _ = sched
  obtain ⟨t, ht⟩ := Exists.intro (p := fun t => Region.schedule _ _ t = sched) _ hs
  have ho := ho t
  rw [ht] at ho
  clear ht hs
  simp only [List.mem_cons, List.not_mem_nil, or_false] at ho
  rcases ho with rfl | rfl | rfl | rfl | rfl | rfl | rfl | rfl | rfl | rfl
  · u_op at_rely hF
    u_op at_rely hF
    u_op at_rely hF
    u_op at_rely hF
    u_call Try.func87 x87 Try.f87 at_rely hF
    u_c stepG_seq at_rely hF
    u_reg at_rely hF
    u_op at_rely hF
    u_c stepG_region_end at_rely hF
    u_c stepG_seq at_rely hF
    u_c stepG_seq at_rely hF
    u_reg at_rely hF
    u_op at_rely hF
    u_c stepG_region_end at_rely hF
    u_cond true at_rely hF
    u_c stepG_seq at_rely hF
    u_reg at_rely hF
    u_op at_rely hF
    u_c stepG_region_end at_rely hF
    u_c stepG_ret' at_rely hF
    u_leave1 Try.func87 at_rely hF
    u_in at_rely hF
    have c0 := (at_cell hF _).trans c0
    have z0 := (at_frozen hF _).trans z0
    rw [stepG_store_atomic (k := .u32) (v := 1) rfl rfl (by k_ne) rfl Try.func86 x86.1 x86.2.1 x86.2.2 e86 rfl rfl c0 z0]
    simp only [goes_go]
    refine ⟨evw hL, ?_⟩
    walk_nrm
    clear c0 z0
    refine next_set hF fun _ hF => ?_
    u_c stepG_region_end at_rely hF
    u_c stepG_end at_rely hF
    u_in at_rely hF
    rw [stepG_leave_deferred rfl rfl Try.func57 (results_none rfl _ _ _) (events_results_none rfl _ _) hcm]
    simp only [goes_go]
    refine ⟨by u_nil, ?_⟩
    exact Goes.mono (hT _ hF) (by omega)
  · u_op at_rely hF
    u_op at_rely hF
    u_op at_rely hF
    u_op at_rely hF
    u_call Try.func87 x87 Try.f87 at_rely hF
    u_c stepG_seq at_rely hF
    u_reg at_rely hF
    u_op at_rely hF
    u_c stepG_region_end at_rely hF
    u_c stepG_seq at_rely hF
    u_c stepG_seq at_rely hF
    u_reg at_rely hF
    u_op at_rely hF
    u_c stepG_region_end at_rely hF
    u_cond true at_rely hF
    u_c stepG_seq at_rely hF
    u_reg at_rely hF
    u_op at_rely hF
    u_c stepG_region_end at_rely hF
    u_c stepG_ret' at_rely hF
    u_leave1 Try.func87 at_rely hF
    u_in at_rely hF
    have c0 := (at_cell hF _).trans c0
    have z0 := (at_frozen hF _).trans z0
    rw [stepG_store_atomic (k := .u32) (v := 1) rfl rfl (by k_ne) rfl Try.func86 x86.1 x86.2.1 x86.2.2 e86 rfl rfl c0 z0]
    simp only [goes_go]
    refine ⟨evw hL, ?_⟩
    walk_nrm
    clear c0 z0
    refine next_set hF fun _ hF => ?_
    u_c stepG_region_end at_rely hF
    u_c stepG_end at_rely hF
    u_in at_rely hF
    rw [stepG_leave_deferred rfl rfl Try.func57 (results_none rfl _ _ _) (events_results_none rfl _ _) hcm]
    simp only [goes_go]
    refine ⟨by u_nil, ?_⟩
    exact Goes.mono (hT _ hF) (by omega)
  · u_op at_rely hF
    u_op at_rely hF
    u_op at_rely hF
    u_call Try.func87 x87 Try.f87 at_rely hF
    u_c stepG_seq at_rely hF
    u_reg at_rely hF
    u_op at_rely hF
    u_c stepG_region_end at_rely hF
    u_c stepG_seq at_rely hF
    u_c stepG_seq at_rely hF
    u_reg at_rely hF
    u_op at_rely hF
    u_c stepG_region_end at_rely hF
    u_cond true at_rely hF
    u_c stepG_seq at_rely hF
    u_reg at_rely hF
    u_op at_rely hF
    u_c stepG_region_end at_rely hF
    u_c stepG_ret' at_rely hF
    u_leave1 Try.func87 at_rely hF
    u_op at_rely hF
    u_in at_rely hF
    have c0 := (at_cell hF _).trans c0
    have z0 := (at_frozen hF _).trans z0
    rw [stepG_store_atomic (k := .u32) (v := 1) rfl rfl (by k_ne) rfl Try.func86 x86.1 x86.2.1 x86.2.2 e86 rfl rfl c0 z0]
    simp only [goes_go]
    refine ⟨evw hL, ?_⟩
    walk_nrm
    clear c0 z0
    refine next_set hF fun _ hF => ?_
    u_c stepG_region_end at_rely hF
    u_c stepG_end at_rely hF
    u_in at_rely hF
    rw [stepG_leave_deferred rfl rfl Try.func57 (results_none rfl _ _ _) (events_results_none rfl _ _) hcm]
    simp only [goes_go]
    refine ⟨by u_nil, ?_⟩
    exact Goes.mono (hT _ hF) (by omega)
  · u_op at_rely hF
    u_op at_rely hF
    u_op at_rely hF
    u_op at_rely hF
    u_call Try.func87 x87 Try.f87 at_rely hF
    u_c stepG_seq at_rely hF
    u_reg at_rely hF
    u_op at_rely hF
    u_c stepG_region_end at_rely hF
    u_c stepG_seq at_rely hF
    u_c stepG_seq at_rely hF
    u_reg at_rely hF
    u_op at_rely hF
    u_c stepG_region_end at_rely hF
    u_cond true at_rely hF
    u_c stepG_seq at_rely hF
    u_reg at_rely hF
    u_op at_rely hF
    u_c stepG_region_end at_rely hF
    u_c stepG_ret' at_rely hF
    u_leave1 Try.func87 at_rely hF
    u_in at_rely hF
    have c0 := (at_cell hF _).trans c0
    have z0 := (at_frozen hF _).trans z0
    rw [stepG_store_atomic (k := .u32) (v := 1) rfl rfl (by k_ne) rfl Try.func86 x86.1 x86.2.1 x86.2.2 e86 rfl rfl c0 z0]
    simp only [goes_go]
    refine ⟨evw hL, ?_⟩
    walk_nrm
    clear c0 z0
    refine next_set hF fun _ hF => ?_
    u_c stepG_region_end at_rely hF
    u_c stepG_end at_rely hF
    u_in at_rely hF
    rw [stepG_leave_deferred rfl rfl Try.func57 (results_none rfl _ _ _) (events_results_none rfl _ _) hcm]
    simp only [goes_go]
    refine ⟨by u_nil, ?_⟩
    exact Goes.mono (hT _ hF) (by omega)
  · u_op at_rely hF
    u_op at_rely hF
    u_op at_rely hF
    u_call Try.func87 x87 Try.f87 at_rely hF
    u_c stepG_seq at_rely hF
    u_reg at_rely hF
    u_op at_rely hF
    u_c stepG_region_end at_rely hF
    u_c stepG_seq at_rely hF
    u_c stepG_seq at_rely hF
    u_reg at_rely hF
    u_op at_rely hF
    u_c stepG_region_end at_rely hF
    u_cond true at_rely hF
    u_c stepG_seq at_rely hF
    u_reg at_rely hF
    u_op at_rely hF
    u_c stepG_region_end at_rely hF
    u_c stepG_ret' at_rely hF
    u_leave1 Try.func87 at_rely hF
    u_op at_rely hF
    u_in at_rely hF
    have c0 := (at_cell hF _).trans c0
    have z0 := (at_frozen hF _).trans z0
    rw [stepG_store_atomic (k := .u32) (v := 1) rfl rfl (by k_ne) rfl Try.func86 x86.1 x86.2.1 x86.2.2 e86 rfl rfl c0 z0]
    simp only [goes_go]
    refine ⟨evw hL, ?_⟩
    walk_nrm
    clear c0 z0
    refine next_set hF fun _ hF => ?_
    u_c stepG_region_end at_rely hF
    u_c stepG_end at_rely hF
    u_in at_rely hF
    rw [stepG_leave_deferred rfl rfl Try.func57 (results_none rfl _ _ _) (events_results_none rfl _ _) hcm]
    simp only [goes_go]
    refine ⟨by u_nil, ?_⟩
    exact Goes.mono (hT _ hF) (by omega)
  · u_op at_rely hF
    u_op at_rely hF
    u_call Try.func87 x87 Try.f87 at_rely hF
    u_c stepG_seq at_rely hF
    u_reg at_rely hF
    u_op at_rely hF
    u_c stepG_region_end at_rely hF
    u_c stepG_seq at_rely hF
    u_c stepG_seq at_rely hF
    u_reg at_rely hF
    u_op at_rely hF
    u_c stepG_region_end at_rely hF
    u_cond true at_rely hF
    u_c stepG_seq at_rely hF
    u_reg at_rely hF
    u_op at_rely hF
    u_c stepG_region_end at_rely hF
    u_c stepG_ret' at_rely hF
    u_leave1 Try.func87 at_rely hF
    u_op at_rely hF
    u_op at_rely hF
    u_in at_rely hF
    have c0 := (at_cell hF _).trans c0
    have z0 := (at_frozen hF _).trans z0
    rw [stepG_store_atomic (k := .u32) (v := 1) rfl rfl (by k_ne) rfl Try.func86 x86.1 x86.2.1 x86.2.2 e86 rfl rfl c0 z0]
    simp only [goes_go]
    refine ⟨evw hL, ?_⟩
    walk_nrm
    clear c0 z0
    refine next_set hF fun _ hF => ?_
    u_c stepG_region_end at_rely hF
    u_c stepG_end at_rely hF
    u_in at_rely hF
    rw [stepG_leave_deferred rfl rfl Try.func57 (results_none rfl _ _ _) (events_results_none rfl _ _) hcm]
    simp only [goes_go]
    refine ⟨by u_nil, ?_⟩
    exact Goes.mono (hT _ hF) (by omega)
  · u_op at_rely hF
    u_op at_rely hF
    u_op at_rely hF
    u_op at_rely hF
    u_call Try.func87 x87 Try.f87 at_rely hF
    u_c stepG_seq at_rely hF
    u_reg at_rely hF
    u_op at_rely hF
    u_c stepG_region_end at_rely hF
    u_c stepG_seq at_rely hF
    u_c stepG_seq at_rely hF
    u_reg at_rely hF
    u_op at_rely hF
    u_c stepG_region_end at_rely hF
    u_cond true at_rely hF
    u_c stepG_seq at_rely hF
    u_reg at_rely hF
    u_op at_rely hF
    u_c stepG_region_end at_rely hF
    u_c stepG_ret' at_rely hF
    u_leave1 Try.func87 at_rely hF
    u_in at_rely hF
    have c0 := (at_cell hF _).trans c0
    have z0 := (at_frozen hF _).trans z0
    rw [stepG_store_atomic (k := .u32) (v := 1) rfl rfl (by k_ne) rfl Try.func86 x86.1 x86.2.1 x86.2.2 e86 rfl rfl c0 z0]
    simp only [goes_go]
    refine ⟨evw hL, ?_⟩
    walk_nrm
    clear c0 z0
    refine next_set hF fun _ hF => ?_
    u_c stepG_region_end at_rely hF
    u_c stepG_end at_rely hF
    u_in at_rely hF
    rw [stepG_leave_deferred rfl rfl Try.func57 (results_none rfl _ _ _) (events_results_none rfl _ _) hcm]
    simp only [goes_go]
    refine ⟨by u_nil, ?_⟩
    exact Goes.mono (hT _ hF) (by omega)
  · u_op at_rely hF
    u_op at_rely hF
    u_op at_rely hF
    u_call Try.func87 x87 Try.f87 at_rely hF
    u_c stepG_seq at_rely hF
    u_reg at_rely hF
    u_op at_rely hF
    u_c stepG_region_end at_rely hF
    u_c stepG_seq at_rely hF
    u_c stepG_seq at_rely hF
    u_reg at_rely hF
    u_op at_rely hF
    u_c stepG_region_end at_rely hF
    u_cond true at_rely hF
    u_c stepG_seq at_rely hF
    u_reg at_rely hF
    u_op at_rely hF
    u_c stepG_region_end at_rely hF
    u_c stepG_ret' at_rely hF
    u_leave1 Try.func87 at_rely hF
    u_op at_rely hF
    u_in at_rely hF
    have c0 := (at_cell hF _).trans c0
    have z0 := (at_frozen hF _).trans z0
    rw [stepG_store_atomic (k := .u32) (v := 1) rfl rfl (by k_ne) rfl Try.func86 x86.1 x86.2.1 x86.2.2 e86 rfl rfl c0 z0]
    simp only [goes_go]
    refine ⟨evw hL, ?_⟩
    walk_nrm
    clear c0 z0
    refine next_set hF fun _ hF => ?_
    u_c stepG_region_end at_rely hF
    u_c stepG_end at_rely hF
    u_in at_rely hF
    rw [stepG_leave_deferred rfl rfl Try.func57 (results_none rfl _ _ _) (events_results_none rfl _ _) hcm]
    simp only [goes_go]
    refine ⟨by u_nil, ?_⟩
    exact Goes.mono (hT _ hF) (by omega)
  · u_op at_rely hF
    u_op at_rely hF
    u_call Try.func87 x87 Try.f87 at_rely hF
    u_c stepG_seq at_rely hF
    u_reg at_rely hF
    u_op at_rely hF
    u_c stepG_region_end at_rely hF
    u_c stepG_seq at_rely hF
    u_c stepG_seq at_rely hF
    u_reg at_rely hF
    u_op at_rely hF
    u_c stepG_region_end at_rely hF
    u_cond true at_rely hF
    u_c stepG_seq at_rely hF
    u_reg at_rely hF
    u_op at_rely hF
    u_c stepG_region_end at_rely hF
    u_c stepG_ret' at_rely hF
    u_leave1 Try.func87 at_rely hF
    u_op at_rely hF
    u_op at_rely hF
    u_in at_rely hF
    have c0 := (at_cell hF _).trans c0
    have z0 := (at_frozen hF _).trans z0
    rw [stepG_store_atomic (k := .u32) (v := 1) rfl rfl (by k_ne) rfl Try.func86 x86.1 x86.2.1 x86.2.2 e86 rfl rfl c0 z0]
    simp only [goes_go]
    refine ⟨evw hL, ?_⟩
    walk_nrm
    clear c0 z0
    refine next_set hF fun _ hF => ?_
    u_c stepG_region_end at_rely hF
    u_c stepG_end at_rely hF
    u_in at_rely hF
    rw [stepG_leave_deferred rfl rfl Try.func57 (results_none rfl _ _ _) (events_results_none rfl _ _) hcm]
    simp only [goes_go]
    refine ⟨by u_nil, ?_⟩
    exact Goes.mono (hT _ hF) (by omega)
  · u_op at_rely hF
    u_call Try.func87 x87 Try.f87 at_rely hF
    u_c stepG_seq at_rely hF
    u_reg at_rely hF
    u_op at_rely hF
    u_c stepG_region_end at_rely hF
    u_c stepG_seq at_rely hF
    u_c stepG_seq at_rely hF
    u_reg at_rely hF
    u_op at_rely hF
    u_c stepG_region_end at_rely hF
    u_cond true at_rely hF
    u_c stepG_seq at_rely hF
    u_reg at_rely hF
    u_op at_rely hF
    u_c stepG_region_end at_rely hF
    u_c stepG_ret' at_rely hF
    u_leave1 Try.func87 at_rely hF
    u_op at_rely hF
    u_op at_rely hF
    u_op at_rely hF
    u_in at_rely hF
    have c0 := (at_cell hF _).trans c0
    have z0 := (at_frozen hF _).trans z0
    rw [stepG_store_atomic (k := .u32) (v := 1) rfl rfl (by k_ne) rfl Try.func86 x86.1 x86.2.1 x86.2.2 e86 rfl rfl c0 z0]
    simp only [goes_go]
    refine ⟨evw hL, ?_⟩
    walk_nrm
    clear c0 z0
    refine next_set hF fun _ hF => ?_
    u_c stepG_region_end at_rely hF
    u_c stepG_end at_rely hF
    u_in at_rely hF
    rw [stepG_leave_deferred rfl rfl Try.func57 (results_none rfl _ _ _) (events_results_none rfl _ _) hcm]
    simp only [goes_go]
    refine ⟨by u_nil, ?_⟩
    exact Goes.mono (hT _ hF) (by omega)
end
end Go.Proofs.Ytdkbkocklnnmdaa.free
