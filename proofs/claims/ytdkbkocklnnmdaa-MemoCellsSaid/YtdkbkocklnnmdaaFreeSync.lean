/-
  Beside goroutines that only leave: main's walks through Bool.Load, sync.Mutex's Lock and Unlock (free, held by itself), Bool.Store, each with what is behind it as it goes on. Conditions: the cells named hold what is said and may be touched.
-/
import Derived.Test.YtdkbkocklnnmdaaFree
import Derived.Test.YtdkbkocklnnmdaaCrowd
import Derived.Test.YtdkbkocklnnmdaaSync
set_option linter.unusedSimpArgs false
set_option linter.unusedVariables false
namespace Go.Proofs.Ytdkbkocklnnmdaa.free
open Go Go.Conc Go.RowKit Go.ConcR.Gen Go.ConcN.Gen Go.Proofs.Ytdkbkocklnnmdaa.crew Go.Proofs.Ytdkbkocklnnmdaa.kid Go.Proofs.Ytdkbkocklnnmdaa.wg
open Go.ConcX.Gen (setCell_at alloc_at)

theorem x35 : (Try.f35.name == "runtime.NumGoroutine") = false := by kernel_rfl
theorem x94 : (Try.f94.name == "runtime.NumGoroutine") = false := by kernel_rfl
theorem x95 : (Try.f95.name == "runtime.NumGoroutine") = false := by kernel_rfl
theorem x59 : (Try.f59.name == "runtime.NumGoroutine") = false ∧ Try.f59.body.isNone = true ∧ Extern.findNext Try.f59 = none := ⟨by kernel_rfl, by kernel_rfl, by kernel_rfl⟩
theorem e59 : Extern.find Try.f59 = some (Extern.Atomic.loadT (.int .u32)) := by kernel_rfl
theorem x96 : (Try.f96.name == "runtime.NumGoroutine") = false ∧ Try.f96.body.isNone = true ∧ Extern.findNext Try.f96 = none := ⟨by kernel_rfl, by kernel_rfl, by kernel_rfl⟩
theorem e96 : Extern.find Try.f96 = some (Extern.Atomic.casT (.int .i32)) := by kernel_rfl
theorem x98 : (Try.f98.name == "runtime.NumGoroutine") = false ∧ Try.f98.body.isNone = true ∧ Extern.findNext Try.f98 = none := ⟨by kernel_rfl, by kernel_rfl, by kernel_rfl⟩
theorem e98 : Extern.find Try.f98 = some (Extern.Atomic.update (Op.intArith .add) .i32 true) := by kernel_rfl

theorem u148 : Try.prog.underlying 148 = some (.pointer 80) := by kernel_rfl
theorem u35 : Try.prog.underlying 35 = some .unsafePointer := by kernel_rfl
theorem r80 : (Try.prog.info? 80).map (fun i => decide (i.size = 0)) = some false := by kernel_rfl
theorem ev1 {Shun Lw : Loc → Prop} {a : Addr} (h : Lw (.cell a)) : ∀ e ∈ (#[⟨.cell a, false, true⟩] : Array Event), EvS Shun Lw e := by
  intro e he; simp at he; subst he; exact evS_at h
theorem evw {Shun Lw : Loc → Prop} {a : Addr} (h : Lw (.cell a)) : ∀ e ∈ (#[⟨.cell a, true, true⟩] : Array Event), EvS Shun Lw e := by
  intro e he; simp at he; subst he; exact evS_at h
theorem ev2 {Shun Lw : Loc → Prop} {a : Addr} (h : Lw (.cell a)) : ∀ e ∈ (#[⟨.cell a, false, true⟩, ⟨.cell a, true, true⟩] : Array Event), EvS Shun Lw e := by
  intro e he; simp at he; rcases he with rfl | rfl <;> exact evS_at h
theorem evm {Shun Lw : Loc → Prop} {mm : Mark} (h : (MemAct.mark mm).touch? = none) (hr : ∀ ar, mm ≠ .release ar) (hd : mm ≠ .disable) (he : mm ≠ .enable) : ∀ e ∈ (#[⟨.mark mm, false, true⟩] : Array Event), EvS Shun Lw e := by
  intro e hh
  have := mk_fine (Shun := Shun) (Lw := Lw) h hr e hh
  simp at hh; subst hh
  exact ⟨this, by simpa using hd, by simpa using he⟩

section
variable {Shun Lw : Loc → Prop} {Stop : Goroutine → World → Prop} {m : Nat} {b₀ : Frame} {a₀ : Act} {ops₀ : Array Oper} {i₀ : Nat} {rest₀ : List Nat} {k₀ : List Item} {cs : List Frame} {mT : Nat}

set_option maxRecDepth 100000 in
set_option maxHeartbeats 8000000 in
theorem boolLoad {St : Goroutine → World → Prop} {a : Addr} {d : Int} {W : World} (c0 : W.cell? a = some (.int .u32 d)) (hL : Lw (.cell a))
    (hT : ∀ y, Conc.AtRel W y → Goes Try.prog true Conc.AtRel (DF Shun Lw) St mT (G (b₀.at (a₀.put ((ops₀[i₀]?).bind (·.dst)) (.bool (d != 0))) (.inRegion ops₀ rest₀ :: k₀)) cs) y) :
    ∀ y, Conc.AtRel W y → Goes Try.prog true Conc.AtRel (DF Shun Lw) St (mT + 20) (G ((base 35).at { tmps := #[.pointer (some a)] ++ Array.replicate 7 undef, defers := [] } [.code (Try.f35.body.getD .skip)]) (b₀.at a₀ (.inRegion ops₀ (i₀ :: rest₀) :: k₀) :: cs)) y := by
  intro y hF
  simp only [Try.f35, Option.getD_some]
  walk_nrm
  u_c stepG_seq at_rely hF
  u_reg at_rely hF
  u_op at_rely hF
  u_c stepG_region_end at_rely hF
  u_c stepG_seq at_rely hF
  u_reg at_rely hF
  u_op at_rely hF
  u_op at_rely hF
  u_op at_rely hF
  u_in at_rely hF
  have c0 := (at_cell hF _).trans c0
  rw [stepG_load_atomic (v := d) rfl rfl (by k_ne) rfl Try.func59 x59.1 x59.2.1 x59.2.2 .u32 e59 rfl c0]
  simp only [goes_go]
  refine ⟨ev1 hL, ?_⟩
  walk_nrm
  u_op at_rely hF
  u_op at_rely hF
  u_c stepG_region_end at_rely hF
  u_c stepG_ret' at_rely hF
  u_leave1 Try.func35 at_rely hF
  exact Goes.mono (hT _ hF) (by omega)

set_option maxRecDepth 100000 in
set_option maxHeartbeats 8000000 in
theorem lockC {a : Addr} {W : World} (c0 : W.cell? a = some (.int .i32 0)) (z0 : W.frozen? a = false) (c1 : (W.setCell a (.int .i32 1)).cell? a = some (.int .i32 1)) (hL : Lw (.cell a))
    (hT : ∀ y, Conc.AtRel (W.setCell a (.int .i32 1)) y → Goes Try.prog true Conc.AtRel (DF Shun Lw) (Fz Shun Lw Stop m) mT (G (b₀.at (a₀.put ((ops₀[i₀]?).bind (·.dst)) (.tuple #[])) (.inRegion ops₀ rest₀ :: k₀)) cs) y) :
    ∀ y, Conc.AtRel W y → Goes Try.prog true Conc.AtRel (DF Shun Lw) (Fz Shun Lw Stop (m + 1)) 20 (G ((base 84).at { tmps := #[.pointer (some a)] ++ Array.replicate 5 undef, defers := [] } [.code (Try.f84.body.getD .skip)]) (b₀.at a₀ (.inRegion ops₀ (i₀ :: rest₀) :: k₀) :: cs)) y := by
  intro y hF
  simp only [Try.f84, Option.getD_some]
  walk_nrm
  u_reg at_rely hF
  u_op at_rely hF
  u_op at_rely hF
  u_op at_rely hF
  u_call Try.func94 x94 Try.f94 at_rely hF
  u_c stepG_seq at_rely hF
  u_reg at_rely hF
  refine Goes.stop fun w₁ h₁ => ?_
  replace hF := at_rely hF h₁
  clear h₁
  refine ⟨rfl, _, stepG_mark0 .disable (by simp) rfl rfl (by k_ne) rfl Try.func65 x65.1 x65.2.1 x65.2.2 e65, rfl, 100, ?_⟩
  walk_nrm
  u_c stepG_region_end at_rely hF
  u_c stepG_seq at_rely hF
  u_c stepG_seq at_rely hF
  u_reg at_rely hF
  u_op at_rely hF
  u_op at_rely hF
  u_op at_rely hF
  u_in at_rely hF
  have c0 := (at_cell hF _).trans c0
  have z0 := (at_frozen hF _).trans z0
  rw [stepG_cas_hit (v := 0) (n := 1) rfl rfl (by k_ne) rfl Try.func96 x96.1 x96.2.1 x96.2.2 .i32 e96 rfl rfl rfl c0 z0]
  simp only [goes_go]
  refine ⟨ev2 hL, ?_⟩
  walk_nrm
  clear c0 z0
  refine next_set hF fun _ hF => ?_
  u_c stepG_region_end at_rely hF
  u_cond true at_rely hF
  u_c stepG_seq at_rely hF
  u_cond true at_rely hF
  u_c stepG_seq at_rely hF
  u_reg at_rely hF
  refine Goes.stop fun w₁ h₁ => ?_
  replace hF := at_rely hF h₁
  clear h₁
  refine ⟨rfl, _, stepG_mark0 .enable (by simp) rfl rfl (by k_ne) rfl Try.func66 x66.1 x66.2.1 x66.2.2 e66, rfl, mT + 100, ?_⟩
  walk_nrm
  u_c stepG_region_end at_rely hF
  u_reg at_rely hF
  u_op at_rely hF
  have hcv := fun x => fun (hF : Conc.AtRel (W.setCell a (.int .i32 1)) x) => run_convert_to_unsafe (P := Try.prog) u148 u35 r80 ((at_cell hF a).trans c1)
  have hce := fun x => fun (hF : Conc.AtRel (W.setCell a (.int .i32 1)) x) es => events_convert_to_unsafe (P := Try.prog) u148 u35 r80 ((at_cell hF a).trans c1) es
  u_in at_rely hF
  refine goes_oper_k rfl rfl (by k_ne) (fun Kx hKx => ?_)
  have hcv := hcv _ hF
  have hce := hce _ hF
  go_simp
  refine hKx _ _ ⟨?_, ?_⟩
  · u_none
    intro ex hex
    have hmx := mem_listed hex
    simp [go_sem, hce] at hmx
  clear hKx Kx hcv hce
  u_in at_rely hF
  rw [stepG_markAt .acquire (by simp) rfl rfl (by k_ne) rfl Try.func77 x77.1 x77.2.1 x77.2.2 e77 (by simp [Act.eval]; rfl)]
  simp only [goes_go]
  refine ⟨evm rfl (by simp) (by simp) (by simp), ?_⟩
  walk_nrm
  u_c stepG_region_end at_rely hF
  u_c stepG_ret' at_rely hF
  u_leave0 Try.func94 at_rely hF
  u_c stepG_region_end at_rely hF
  u_c stepG_end at_rely hF
  u_leave0 Try.func84 at_rely hF
  exact Goes.mono (hT _ hF) (by omega)

set_option maxRecDepth 100000 in
set_option maxHeartbeats 8000000 in
theorem unlockD {a : Addr} {c₀ : Frame} {W : World} (hcm : c₀.mode = .returning) (c0 : W.cell? a = some (.int .i32 1)) (z0 : W.frozen? a = false) (hM : May Shun Lw a.block)
    (hT : ∀ y, Conc.AtRel (W.setCell a (.int .i32 0)) y → Goes Try.prog true Conc.AtRel (DF Shun Lw) (Fz Shun Lw Stop m) mT (G c₀ cs) y) :
    ∀ y, Conc.AtRel W y → Goes Try.prog true Conc.AtRel (DF Shun Lw) (Fz Shun Lw Stop (m + 1)) 40 (G ((baseD 85).at { tmps := #[.pointer (some a)] ++ Array.replicate 5 undef, defers := [] } [.code (Try.f85.body.getD .skip)]) (c₀ :: cs)) y := by
  intro y hF
  simp only [Try.f85, Option.getD_some]
  walk_nrm
  u_reg at_rely hF
  u_op at_rely hF
  u_op at_rely hF
  u_op at_rely hF
  u_call Try.func95 x95 Try.f95 at_rely hF
  u_c stepG_seq at_rely hF
  u_cond true at_rely hF
  u_c stepG_seq at_rely hF
  u_reg at_rely hF
  u_op at_rely hF
  u_op at_rely hF
  u_op at_rely hF
  u_in at_rely hF
  refine goes_oper_k rfl rfl (by k_ne) (fun K hK => ?_)
  have hcl := free.at_cell hF
  have hfz := free.at_frozen hF
  have hsz := free.at_size hF
  go_simp
  refine hK _ _ ⟨fun e he => ?_, ?_⟩
  · (have hm := mem_listed he; simp [go_sem, storedEv, *] at hm; try (subst hm; refine free.evS_may ?_ (Eq.refl _); assumption))
  clear hK K hcl hfz hsz
  u_c stepG_region_end at_rely hF
  u_c stepG_seq at_rely hF
  u_reg at_rely hF
  u_op at_rely hF
  u_in at_rely hF
  refine goes_oper_k rfl rfl (by k_ne) (fun Kx hKx => ?_)
  have hcv := run_convert_to_unsafe (P := Try.prog) u148 u35 r80 ((at_cell hF a).trans c0)
  have hce := fun es => events_convert_to_unsafe (P := Try.prog) u148 u35 r80 ((at_cell hF a).trans c0) es
  go_simp
  refine hKx _ _ ⟨?_, ?_⟩
  · u_none
    intro ex hex
    have hmx := mem_listed hex
    simp [go_sem, hce] at hmx
  clear hKx Kx hcv hce
  u_in at_rely hF
  rw [stepG_markAt .releaseMerge (by simp) rfl rfl (by k_ne) rfl Try.func64 x64.1 x64.2.1 x64.2.2 e64 (by simp [Act.eval]; rfl)]
  simp only [goes_go]
  refine ⟨evm rfl (by simp) (by simp) (by simp), ?_⟩
  walk_nrm
  u_c stepG_region_end at_rely hF
  u_reg at_rely hF
  refine Goes.stop fun w₁ h₁ => ?_
  replace hF := at_rely hF h₁
  clear h₁
  refine ⟨rfl, _, stepG_mark0 .disable (by simp) rfl rfl (by k_ne) rfl Try.func65 x65.1 x65.2.1 x65.2.2 e65, rfl, 100, ?_⟩
  walk_nrm
  u_c stepG_region_end at_rely hF
  u_c stepG_seq at_rely hF
  u_reg at_rely hF
  u_op at_rely hF
  u_op at_rely hF
  u_op at_rely hF
  u_in at_rely hF
  have c0 := (at_cell hF _).trans c0
  have z0 := (at_frozen hF _).trans z0
  rw [stepG_add_atomic (v := 1) (d := -1) rfl rfl (by k_ne) rfl Try.func98 x98.1 x98.2.1 x98.2.2 .i32 e98 rfl rfl c0 z0]
  simp only [goes_go, show IntKind.i32.wrap (1 + -1) = 0 from by decide]
  refine ⟨ev2 (hM a rfl).2, ?_⟩
  walk_nrm
  clear c0 z0
  refine next_set hF fun _ hF => ?_
  u_op at_rely hF
  u_c stepG_region_end at_rely hF
  u_c stepG_seq at_rely hF
  u_c stepG_seq at_rely hF
  u_reg at_rely hF
  u_op at_rely hF
  u_op at_rely hF
  u_c stepG_region_end at_rely hF
  u_cond false at_rely hF
  u_c stepG_skip at_rely hF
  u_reg at_rely hF
  refine Goes.stop fun w₁ h₁ => ?_
  replace hF := at_rely hF h₁
  clear h₁
  refine ⟨rfl, _, stepG_mark0 .enable (by simp) rfl rfl (by k_ne) rfl Try.func66 x66.1 x66.2.1 x66.2.2 e66, rfl, mT + 100, ?_⟩
  walk_nrm
  u_c stepG_region_end at_rely hF
  u_c stepG_end at_rely hF
  u_leave0 Try.func95 at_rely hF
  u_c stepG_region_end at_rely hF
  u_c stepG_end at_rely hF
  u_in at_rely hF
  rw [stepG_leave_deferred rfl rfl Try.func85 (results_none rfl _ _ _) (events_results_none rfl _ _) hcm]
  simp only [goes_go]
  refine ⟨by u_nil, ?_⟩
  exact Goes.mono (hT _ hF) (by omega)
end
end Go.Proofs.Ytdkbkocklnnmdaa.free
