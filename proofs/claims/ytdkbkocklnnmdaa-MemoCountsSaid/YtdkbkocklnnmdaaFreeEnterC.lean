/-
  Beside goroutines that only leave: main's walks over a count: from Count.Crowd's entry to its loop's head; through Count.Add by main alone. Conditions: those that the theorems name.
-/
import Derived.Test.YtdkbkocklnnmdaaDriveC
import Derived.Test.YtdkbkocklnnmdaaFreeTail
import Derived.Test.YtdkbkocklnnmdaaGet
import Derived.Test.YtdkbkocklnnmdaaFreeRun7
set_option linter.unusedSimpArgs false
set_option linter.unusedVariables false
namespace Go.Proofs.Ytdkbkocklnnmdaa.free
open Go Go.Conc Go.RowKit Go.ConcR.Gen Go.ConcN.Gen Go.Proofs.Ytdkbkocklnnmdaa.crew Go.Proofs.Ytdkbkocklnnmdaa.kid Go.Proofs.Ytdkbkocklnnmdaa.wg
open Go.ConcX.Gen (setCell_at alloc_at)
open Go.ConcR (WgAt)

theorem atCrowdC_of {Shun Lw Shun2 Lw2 : Loc → Prop} {N k Cn : Nat} {Stop : Goroutine → World → Prop} {cs : List Frame} {n bv v x9 : Int} {W : World} {g : Goroutine}
    (hN : N < 2147483647) (hv : I64 v) (hbv : I64 bv) (hcn : CntAt Cn W v) (hCs : Cn < W.heap.size) (hsh : ∀ l, Shun l → Shun2 l) (hlw : ∀ l, Lw l → Lw2 l) (hshLw : ∀ l, Shun2 l → Lw2 l)
    (hWS : ∀ a : Addr, a.block = W.heap.size + 2 ∨ a.block = Cn → Shun2 (.cell a)) (hfr : ∀ l, Shun2 l → Shun l ∨ ¬ Lw l)
    (hBS : ∀ a : Addr, a.block = W.heap.size ∨ a.block = W.heap.size + 1 → ¬ Shun2 (.cell a) ∧ Lw2 (.cell a))
    (hgo : ∀ w', Rm (W.heap.size + 2) Cn (crowdWorld W (.pointer (some ⟨Cn, 0, none⟩)) bv) w' → WgAt 96 (W.heap.size + 2) w' 0 0 → CntAt Cn w' (satn v bv N) → ∃ m, Goes Try.prog true Conc.AtRel (DF Shun2 Lw2) (Fz Shun2 Lw2 Stop k) m
      (G ((base 26).at ⟨T26 (.pointer (some ⟨Cn, 0, none⟩)) n bv (W.heap.size + 2) W.heap.size (W.heap.size + 1) undef (.int .i64 n) (.int .i64 x9) N N (.bool false) (J13 N) (J14 (W.heap.size + 2) W.heap.size (W.heap.size + 1) N) (J15 N) (.tuple #[]) undef undef, []⟩ [.inRegion (opsOf (cL tail26)) [], .code (cR tail26)]) cs) w') (d : Nat)
    (hg : g = G ((base 26).at ⟨T26 (.pointer (some ⟨Cn, 0, none⟩)) n bv (W.heap.size + 2) W.heap.size (W.heap.size + 1) undef (.int .i64 n) (.int .i64 x9) N 0 undef undef undef undef undef undef undef, []⟩ [.code loop26, .inLoop loop26, .inBlock 0, .code tail26]) cs) :
    Fz Shun Lw (AtCrowdC Shun Lw Shun2 Lw2 N Stop k) 0 g ((crowdWorld W (.pointer (some ⟨Cn, 0, none⟩)) bv).at d) := by
  obtain ⟨f1, f2, f3, f4⟩ := crowdWorld_facts W (.pointer (some ⟨Cn, 0, none⟩)) bv
  have f5 : CntAt Cn (crowdWorld W (.pointer (some ⟨Cn, 0, none⟩)) bv) v := box_old (box_old (box_old hcn))
  exact ⟨hN, hsh, hlw, hshLw, cs, n, bv, v, W.heap.size + 2, W.heap.size, W.heap.size + 1, Cn, undef, .int .i64 n, .int .i64 x9, undef, undef, undef, hg, hv, hbv, f5, f1, f2, f3, by omega, by omega, by omega, by omega, by omega, hWS, hfr, hBS, fun w' hr hw hc => hgo w' ⟨hr.blocks, hr.size, hr.tape, hr.os, hr.output, hr.live, hr.cnt⟩ hw hc⟩

section
variable {Shun Lw Shun2 Lw2 : Loc → Prop} {N k Cn : Nat} {Stop : Goroutine → World → Prop} {cs : List Frame}
set_option maxRecDepth 100000 in
set_option maxHeartbeats 16000000 in
theorem crowdEnterC {n bv v x9 : Int} {W : World} (e9 : (if (1024 : Int) < n then (1024 : Int) else n) = x9) (e10 : (if (0 : Int) < x9 then x9 else (0 : Int)) = (N : Int))
    (hN : N < 2147483647) (hv : I64 v) (hbv : I64 bv) (hcn : CntAt Cn W v) (hCs : Cn < W.heap.size) (hsh : ∀ l, Shun l → Shun2 l) (hlw : ∀ l, Lw l → Lw2 l) (hshLw : ∀ l, Shun2 l → Lw2 l)
    (hWS : ∀ a : Addr, a.block = W.heap.size + 2 ∨ a.block = Cn → Shun2 (.cell a)) (hfr : ∀ l, Shun2 l → Shun l ∨ ¬ Lw l)
    (hBS : ∀ a : Addr, a.block = W.heap.size ∨ a.block = W.heap.size + 1 → ¬ Shun2 (.cell a) ∧ Lw2 (.cell a))
    (hgo : ∀ w', Rm (W.heap.size + 2) Cn (crowdWorld W (.pointer (some ⟨Cn, 0, none⟩)) bv) w' → WgAt 96 (W.heap.size + 2) w' 0 0 → CntAt Cn w' (satn v bv N) → ∃ m, Goes Try.prog true Conc.AtRel (DF Shun2 Lw2) (Fz Shun2 Lw2 Stop k) m
      (G ((base 26).at ⟨T26 (.pointer (some ⟨Cn, 0, none⟩)) n bv (W.heap.size + 2) W.heap.size (W.heap.size + 1) undef (.int .i64 n) (.int .i64 x9) N N (.bool false) (J13 N) (J14 (W.heap.size + 2) W.heap.size (W.heap.size + 1) N) (J15 N) (.tuple #[]) undef undef, []⟩ [.inRegion (opsOf (cL tail26)) [], .code (cR tail26)]) cs) w') :
    ∀ y, Conc.AtRel W y → Goes Try.prog true Conc.AtRel (DF Shun Lw) (Fz Shun Lw (AtCrowdC Shun Lw Shun2 Lw2 N Stop k) 0) 100
      (G ((base 26).at { tmps := #[.pointer (some ⟨Cn, 0, none⟩), .int .i64 n, .int .i64 bv] ++ Array.replicate 16 undef, defers := [] } [.code (Try.f26.body.getD .skip)]) cs) y := by
  intro y hF
  have hmi := ev_min
  have hma := ev_max
  simp only [Try.f26, Option.getD_some]
  walk_nrm
  u_c stepG_seq at_rely hF
  u_reg at_rely hF
  u_in at_rely hF
  refine goes_oper_k rfl rfl (by k_ne) (fun K hK => ?_)
  have hcl := free.at_cell hF
  have hfz := free.at_frozen hF
  have hsz := free.at_size hF
  go_simp
  refine hK _ _ ⟨fun e he => ?_, ?_⟩
  · (have hm := mem_listed he; simp [go_sem, storedEv, *] at hm; try (subst hm; refine free.evS_may ?_ (Eq.refl _); assumption))
  clear hK K hcl hfz hsz
  refine free.next_alloc hF (fun _ hF => ?_)
  u_in at_rely hF
  refine goes_oper_k rfl rfl (by k_ne) (fun K hK => ?_)
  have hcl := free.at_cell hF
  have hfz := free.at_frozen hF
  have hsz := free.at_size hF
  go_simp
  refine hK _ _ ⟨fun e he => ?_, ?_⟩
  · (have hm := mem_listed he; simp [go_sem, storedEv, *] at hm; try (subst hm; refine free.evS_may ?_ (Eq.refl _); assumption))
  clear hK K hcl hfz hsz
  refine free.next_alloc hF (fun _ hF => ?_)
  u_op at_rely hF
  u_c stepG_region_end at_rely hF
  u_c stepG_seq at_rely hF
  u_reg at_rely hF
  u_in at_rely hF
  refine goes_oper_k rfl rfl (by k_ne) (fun K hK => ?_)
  have hcl := free.at_cell hF
  have hfz := free.at_frozen hF
  have hsz := free.at_size hF
  go_simp
  refine hK _ _ ⟨fun e he => ?_, ?_⟩
  · (have hm := mem_listed he; simp [go_sem, storedEv, *] at hm; try (subst hm; refine free.evS_may ?_ (Eq.refl _); assumption))
  clear hK K hcl hfz hsz
  refine free.next_alloc hF (fun _ hF => ?_)
  u_c stepG_region_end at_rely hF
  u_c stepG_seq at_rely hF
  u_c stepG_seq at_rely hF
  u_reg at_rely hF
  u_op at_rely hF
  u_op at_rely hF
  u_op at_rely hF
  u_op at_rely hF
  u_c stepG_region_end at_rely hF
  u_c stepG_block at_rely hF
  u_c stepG_loop at_rely hF
  refine Goes.stop fun w₁ h₁ => ?_
  replace hF := at_rely hF h₁
  clear h₁
  obtain ⟨d, rfl⟩ := hF
  refine atCrowdC_of hN hv hbv hcn hCs hsh hlw hshLw hWS hfr hBS hgo d ?_
  simp only [T26, loop26, tail26, body26, cL, cR, cB, Try.f26, Option.getD_some]
  rfl
end

theorem x25f : (Try.f25.name == "runtime.NumGoroutine") = false := by kernel_rfl
theorem df_of {Shun Lw : Loc → Prop} (w w' : World) (es : Array Event) (h : Go.ConcR.DC0 w w' es) : DF Shun Lw w w' es := fun e he => by rw [h.2] at he; simp at he
section
variable {Shun Lw : Loc → Prop} {St : Goroutine → World → Prop} {b₀ : Frame} {a₀ : Act} {ops₀ : Array Oper} {i₀ : Nat} {rest₀ : List Nat} {k₀ : List Item} {cs : List Frame} {mT : Nat}
set_option maxRecDepth 100000 in
set_option maxHeartbeats 16000000 in
theorem addC {Cn : Nat} {bv v : Int} {W : World} (hc : CntAt Cn W v) (hL : Lw (.cell ⟨Cn, 0, none⟩))
    (hT : ∀ y, Conc.AtRel (W.setCell ⟨Cn, 0, none⟩ (.int .i64 (msum v bv))) y → Goes Try.prog true Conc.AtRel (DF Shun Lw) St mT (G (b₀.at (a₀.put ((ops₀[i₀]?).bind (·.dst)) (.int .i64 (msum v bv))) (.inRegion ops₀ rest₀ :: k₀)) cs) y) :
    ∀ y, Conc.AtRel W y → Goes Try.prog true Conc.AtRel (DF Shun Lw) St (mT + 300) (G ((base 25).at { tmps := #[.pointer (some ⟨Cn, 0, none⟩), .int .i64 bv] ++ Array.replicate 21 undef, defers := [] } [.code (Try.f25.body.getD .skip)]) (b₀.at a₀ (.inRegion ops₀ (i₀ :: rest₀) :: k₀) :: cs)) y := by
  intro y hF
  have hev := ev_eql_nil p57
  simp only [Try.f25, Option.getD_some]
  walk_nrm
  u_c stepG_seq at_rely hF
  u_reg at_rely hF
  u_op at_rely hF
  u_c stepG_region_end at_rely hF
  u_c stepG_seq at_rely hF
  u_c stepG_seq at_rely hF
  u_reg at_rely hF
  u_op at_rely hF
  u_op at_rely hF
  u_c stepG_region_end at_rely hF
  u_cond false at_rely hF
  u_c stepG_skip at_rely hF
  u_c stepG_block at_rely hF
  u_c stepG_loop at_rely hF
  u_c stepG_block at_rely hF
  u_c stepG_seq at_rely hF
  u_reg at_rely hF
  u_op at_rely hF
  u_op at_rely hF
  u_op at_rely hF
  u_in at_rely hF
  refine goes_call rfl rfl (by k_ne) rfl Try.func41 x41 rfl ⟨by u_nil, ?_⟩
  have hA := @int64Load Shun Lw
  simp only [Try.f41, Option.getD_some, Array.replicate_succ, Array.replicate_zero, List.push_toArray, List.append_toArray, List.nil_append, List.cons_append] at hA
  walk_nrmf Try.f41
  refine Goes.mono (hA (mT := mT + 200) (cnt_cell hc) hL (fun y hF => ?_) _ hF) (by omega)
  clear hA
  walk_nrm
  u_op at_rely hF
  u_c stepG_region_end at_rely hF
  u_c stepG_seq at_rely hF
  u_reg at_rely hF
  u_op at_rely hF
  u_op at_rely hF
  u_in at_rely hF
  refine goes_call rfl rfl (by k_ne) rfl Try.func48 x48 rfl ⟨by u_nil, ?_⟩
  have hS := @sumSil Conc.AtRel (Conc.AtRel W) true
  simp only [Try.f48, Option.getD_some, Array.replicate_succ, Array.replicate_zero, List.push_toArray, List.append_toArray, List.nil_append, List.cons_append] at hS
  walk_nrmf Try.f48
  refine Goes.mono (crew.Goes.after (n := mT + 100) atRel_refl (fun g w h => ?_) (dmono df_of (hS at_rely _ hF))) (by omega)
  clear hS hF
  obtain ⟨rfl, hF⟩ := h
  walk_nrm
  u_op at_rely hF
  u_c stepG_region_end at_rely hF
  u_c stepG_seq at_rely hF
  u_reg at_rely hF
  u_op at_rely hF
  u_op at_rely hF
  u_op at_rely hF
  u_op at_rely hF
  u_op at_rely hF
  u_call Try.func49 x49 Try.f49 at_rely hF
  u_c stepG_seq at_rely hF
  u_reg at_rely hF
  u_op at_rely hF
  u_c stepG_region_end at_rely hF
  u_c stepG_seq at_rely hF
  u_reg at_rely hF
  u_op at_rely hF
  u_op at_rely hF
  u_op at_rely hF
  u_op at_rely hF
  u_op at_rely hF
  u_in at_rely hF
  have c0 := (at_cell hF _).trans (cnt_cell hc)
  have z0 := (at_frozen hF _).trans (cnt_thaw hc)
  rw [stepG_cas_hit (v := v) (n := msum v bv) rfl rfl (by k_ne) rfl Try.func83 x83.1 x83.2.1 x83.2.2 .i64 e83 rfl rfl rfl c0 z0]
  simp only [goes_go]
  refine ⟨ev2 hL, ?_⟩
  walk_nrm
  clear c0 z0
  refine next_set hF fun _ hF => ?_
  u_op at_rely hF
  u_c stepG_region_end at_rely hF
  u_c stepG_ret' at_rely hF
  u_leave1 Try.func49 at_rely hF
  u_c stepG_region_end at_rely hF
  u_cond true at_rely hF
  u_c stepG_seq at_rely hF
  u_reg at_rely hF
  u_op at_rely hF
  u_op at_rely hF
  u_c stepG_region_end at_rely hF
  u_c stepG_ret' at_rely hF
  u_leave1 Try.func25 at_rely hF
  exact Goes.mono (hT _ hF) (by omega)
end
end Go.Proofs.Ytdkbkocklnnmdaa.free
