/-
  Beside goroutines that only leave: main's walk from Count.Crowd's entry to its loop's head. Conditions: new blocks may be touched; what is behind its Wait as it goes on.
-/
import Derived.Test.YtdkbkocklnnmdaaDrive
import Derived.Test.YtdkbkocklnnmdaaGet
import Derived.Test.YtdkbkocklnnmdaaFreeRun7
set_option linter.unusedSimpArgs false
set_option linter.unusedVariables false
namespace Go.Proofs.Ytdkbkocklnnmdaa.free
open Go Go.Conc Go.RowKit Go.ConcR.Gen Go.ConcN.Gen Go.Proofs.Ytdkbkocklnnmdaa.crew Go.Proofs.Ytdkbkocklnnmdaa.kid Go.Proofs.Ytdkbkocklnnmdaa.wg
open Go.ConcX.Gen (setCell_at alloc_at)
open Go.ConcR (WgAt)

/-- The world at Crowd's loop. -/
def crowdWorld (W : World) (cv : Value) (bv : Int) : World := ((W.alloc (.cells #[cv] 57)).alloc (.cells #[.int .i64 bv] 2)).alloc (.cells #[.int .u64 0, .int .u32 0] 96)

theorem crowdWorld_facts (W : World) (cv : Value) (bv : Int) : WgAt 96 (W.heap.size + 2) (crowdWorld W cv bv) 0 0 ∧ (crowdWorld W cv bv).cell? ⟨W.heap.size, 0, none⟩ = some cv ∧ (crowdWorld W cv bv).cell? ⟨W.heap.size + 1, 0, none⟩ = some (.int .i64 bv) ∧ (crowdWorld W cv bv).heap.size = W.heap.size + 3 := by
  have e1 := box_new W (.cells #[cv] 57)
  have e2 := box_new (W.alloc (.cells #[cv] 57)) (.cells #[.int .i64 bv] 2)
  have e3 := box_new ((W.alloc (.cells #[cv] 57)).alloc (.cells #[.int .i64 bv] 2)) (.cells #[.int .u64 0, .int .u32 0] 96)
  have s1 : (W.alloc (.cells #[cv] 57)).heap.size = W.heap.size + 1 := by simp
  have s2 : ((W.alloc (.cells #[cv] 57)).alloc (.cells #[.int .i64 bv] 2)).heap.size = W.heap.size + 2 := by simp
  rw [s1] at e2
  rw [s2] at e3
  refine ⟨e3, ?_, ?_, by simp [crowdWorld]⟩
  · exact cell_of_one (box_old (box_old e1))
  · exact cell_of_one (box_old e2)

theorem atCrowd_of {Shun Lw Shun2 Lw2 : Loc → Prop} {N k : Nat} {Stop : Goroutine → World → Prop} {cs : List Frame} {cv : Value} {n bv x9 : Int} {W : World} {g : Goroutine}
    (hN : N < 2147483647) (hcv : N = 0 ∨ cv = .pointer none) (hsh : ∀ l, Shun l → Shun2 l) (hlw : ∀ l, Lw l → Lw2 l) (hshLw : ∀ l, Shun2 l → Lw2 l)
    (hWS : ∀ a : Addr, a.block = W.heap.size + 2 → Shun2 (.cell a)) (hfr : ∀ l, Shun2 l → Shun l ∨ (¬ Lw l ∧ ∃ a : Addr, l = .cell a ∧ a.block = W.heap.size + 2))
    (hBS : ∀ a : Addr, a.block = W.heap.size ∨ a.block = W.heap.size + 1 → ¬ Shun2 (.cell a) ∧ Lw2 (.cell a))
    (hgo : ∀ w', Rm (W.heap.size + 2) (W.heap.size + 4) (crowdWorld W cv bv) w' → WgAt 96 (W.heap.size + 2) w' 0 0 → ∃ m, Goes Try.prog true Conc.AtRel (DF Shun2 Lw2) (Fz Shun2 Lw2 Stop k) m
      (G ((base 26).at ⟨T26 cv n bv (W.heap.size + 2) W.heap.size (W.heap.size + 1) undef (.int .i64 n) (.int .i64 x9) N N (.bool false) (J13 N) (J14 (W.heap.size + 2) W.heap.size (W.heap.size + 1) N) (J15 N) (.tuple #[]) undef undef, []⟩ [.inRegion (opsOf (cL tail26)) [], .code (cR tail26)]) cs) w') (d : Nat)
    (hg : g = G ((base 26).at ⟨T26 cv n bv (W.heap.size + 2) W.heap.size (W.heap.size + 1) undef (.int .i64 n) (.int .i64 x9) N 0 undef undef undef undef undef undef undef, []⟩ [.code loop26, .inLoop loop26, .inBlock 0, .code tail26]) cs) :
    Fz Shun Lw (AtCrowd Shun Lw Shun2 Lw2 N Stop k) 0 g ((crowdWorld W cv bv).at d) := by
  obtain ⟨f1, f2, f3, f4⟩ := crowdWorld_facts W cv bv
  have hs : ((crowdWorld W cv bv).at d).heap.size = W.heap.size + 3 := f4
  refine ⟨hN, hsh, hlw, hshLw, cs, cv, n, bv, W.heap.size + 2, W.heap.size, W.heap.size + 1, undef, .int .i64 n, .int .i64 x9, undef, undef, undef, hg, hcv, f1, f2, f3, by omega, by omega, by omega, by omega, hWS, hfr, hBS, fun w' hr hw => ?_⟩
  rw [hs] at hr
  exact hgo w' ⟨hr.blocks, hr.size, hr.tape, hr.os, hr.output, hr.live, hr.cnt⟩ hw

section
variable {Shun Lw Shun2 Lw2 : Loc → Prop} {N k : Nat} {Stop : Goroutine → World → Prop} {cs : List Frame}
set_option maxRecDepth 100000 in
set_option maxHeartbeats 16000000 in
theorem crowdEnter {cv : Value} {n bv x9 : Int} {W : World} (hcp : cv = .pointer none ∨ ∃ a, cv = .pointer (some a)) (e9 : (if (1024 : Int) < n then (1024 : Int) else n) = x9) (e10 : (if (0 : Int) < x9 then x9 else (0 : Int)) = (N : Int))
    (hN : N < 2147483647) (hcv : N = 0 ∨ cv = .pointer none) (hsh : ∀ l, Shun l → Shun2 l) (hlw : ∀ l, Lw l → Lw2 l) (hshLw : ∀ l, Shun2 l → Lw2 l)
    (hWS : ∀ a : Addr, a.block = W.heap.size + 2 → Shun2 (.cell a)) (hfr : ∀ l, Shun2 l → Shun l ∨ (¬ Lw l ∧ ∃ a : Addr, l = .cell a ∧ a.block = W.heap.size + 2))
    (hBS : ∀ a : Addr, a.block = W.heap.size ∨ a.block = W.heap.size + 1 → ¬ Shun2 (.cell a) ∧ Lw2 (.cell a))
    (hgo : ∀ w', Rm (W.heap.size + 2) (W.heap.size + 4) (crowdWorld W cv bv) w' → WgAt 96 (W.heap.size + 2) w' 0 0 → ∃ m, Goes Try.prog true Conc.AtRel (DF Shun2 Lw2) (Fz Shun2 Lw2 Stop k) m
      (G ((base 26).at ⟨T26 cv n bv (W.heap.size + 2) W.heap.size (W.heap.size + 1) undef (.int .i64 n) (.int .i64 x9) N N (.bool false) (J13 N) (J14 (W.heap.size + 2) W.heap.size (W.heap.size + 1) N) (J15 N) (.tuple #[]) undef undef, []⟩ [.inRegion (opsOf (cL tail26)) [], .code (cR tail26)]) cs) w') :
    ∀ y, Conc.AtRel W y → Goes Try.prog true Conc.AtRel (DF Shun Lw) (Fz Shun Lw (AtCrowd Shun Lw Shun2 Lw2 N Stop k) 0) 100
      (G ((base 26).at { tmps := #[cv, .int .i64 n, .int .i64 bv] ++ Array.replicate 16 undef, defers := [] } [.code (Try.f26.body.getD .skip)]) cs) y := by
  intro y hF
  have hmi := ev_min
  have hma := ev_max
  simp only [Try.f26, Option.getD_some]
  walk_nrm
  rcases hcp with hcp | ⟨ca, hcp⟩ <;> subst hcp
  · u_c stepG_seq at_rely hF
    u_reg at_rely hF
    u_in at_rely hF
    refine goes_oper_k rfl rfl (by k_ne) (fun K hK => ?_)
    have hcl := free.at_cell hF
    have hfz := free.at_frozen hF
    have hsz := free.at_size hF
    go_simp
    refine hK _ _ ⟨fun e he => ?_, ?_⟩
    · (have hm := mem_listed he; simp [go_sem, storedEv, *] at hm; try (subst hm; refine free.evS_may ?_ (Eq.refl _); assumption))
    clear hK K hcl hfz hsz
    refine free.next_alloc hF (fun _ hF => ?_)
    u_in at_rely hF
    refine goes_oper_k rfl rfl (by k_ne) (fun K hK => ?_)
    have hcl := free.at_cell hF
    have hfz := free.at_frozen hF
    have hsz := free.at_size hF
    go_simp
    refine hK _ _ ⟨fun e he => ?_, ?_⟩
    · (have hm := mem_listed he; simp [go_sem, storedEv, *] at hm; try (subst hm; refine free.evS_may ?_ (Eq.refl _); assumption))
    clear hK K hcl hfz hsz
    refine free.next_alloc hF (fun _ hF => ?_)
    u_op at_rely hF
    u_c stepG_region_end at_rely hF
    u_c stepG_seq at_rely hF
    u_reg at_rely hF
    u_in at_rely hF
    refine goes_oper_k rfl rfl (by k_ne) (fun K hK => ?_)
    have hcl := free.at_cell hF
    have hfz := free.at_frozen hF
    have hsz := free.at_size hF
    go_simp
    refine hK _ _ ⟨fun e he => ?_, ?_⟩
    · (have hm := mem_listed he; simp [go_sem, storedEv, *] at hm; try (subst hm; refine free.evS_may ?_ (Eq.refl _); assumption))
    clear hK K hcl hfz hsz
    refine free.next_alloc hF (fun _ hF => ?_)
    u_c stepG_region_end at_rely hF
    u_c stepG_seq at_rely hF
    u_c stepG_seq at_rely hF
    u_reg at_rely hF
    u_op at_rely hF
    u_op at_rely hF
    u_op at_rely hF
    u_op at_rely hF
    u_c stepG_region_end at_rely hF
    u_c stepG_block at_rely hF
    u_c stepG_loop at_rely hF
    refine Goes.stop fun w₁ h₁ => ?_
    replace hF := at_rely hF h₁
    clear h₁
    obtain ⟨d, rfl⟩ := hF
    refine atCrowd_of hN hcv hsh hlw hshLw hWS hfr hBS hgo d ?_
    simp only [T26, loop26, tail26, body26, cL, cR, cB, Try.f26, Option.getD_some]
    rfl
  · u_c stepG_seq at_rely hF
    u_reg at_rely hF
    u_in at_rely hF
    refine goes_oper_k rfl rfl (by k_ne) (fun K hK => ?_)
    have hcl := free.at_cell hF
    have hfz := free.at_frozen hF
    have hsz := free.at_size hF
    go_simp
    refine hK _ _ ⟨fun e he => ?_, ?_⟩
    · (have hm := mem_listed he; simp [go_sem, storedEv, *] at hm; try (subst hm; refine free.evS_may ?_ (Eq.refl _); assumption))
    clear hK K hcl hfz hsz
    refine free.next_alloc hF (fun _ hF => ?_)
    u_in at_rely hF
    refine goes_oper_k rfl rfl (by k_ne) (fun K hK => ?_)
    have hcl := free.at_cell hF
    have hfz := free.at_frozen hF
    have hsz := free.at_size hF
    go_simp
    refine hK _ _ ⟨fun e he => ?_, ?_⟩
    · (have hm := mem_listed he; simp [go_sem, storedEv, *] at hm; try (subst hm; refine free.evS_may ?_ (Eq.refl _); assumption))
    clear hK K hcl hfz hsz
    refine free.next_alloc hF (fun _ hF => ?_)
    u_op at_rely hF
    u_c stepG_region_end at_rely hF
    u_c stepG_seq at_rely hF
    u_reg at_rely hF
    u_in at_rely hF
    refine goes_oper_k rfl rfl (by k_ne) (fun K hK => ?_)
    have hcl := free.at_cell hF
    have hfz := free.at_frozen hF
    have hsz := free.at_size hF
    go_simp
    refine hK _ _ ⟨fun e he => ?_, ?_⟩
    · (have hm := mem_listed he; simp [go_sem, storedEv, *] at hm; try (subst hm; refine free.evS_may ?_ (Eq.refl _); assumption))
    clear hK K hcl hfz hsz
    refine free.next_alloc hF (fun _ hF => ?_)
    u_c stepG_region_end at_rely hF
    u_c stepG_seq at_rely hF
    u_c stepG_seq at_rely hF
    u_reg at_rely hF
    u_op at_rely hF
    u_op at_rely hF
    u_op at_rely hF
    u_op at_rely hF
    u_c stepG_region_end at_rely hF
    u_c stepG_block at_rely hF
    u_c stepG_loop at_rely hF
    refine Goes.stop fun w₁ h₁ => ?_
    replace hF := at_rely hF h₁
    clear h₁
    obtain ⟨d, rfl⟩ := hF
    refine atCrowd_of hN hcv hsh hlw hshLw hWS hfr hBS hgo d ?_
    simp only [T26, loop26, tail26, body26, cL, cR, cB, Try.f26, Option.getD_some]
    rfl
end
end Go.Proofs.Ytdkbkocklnnmdaa.free
