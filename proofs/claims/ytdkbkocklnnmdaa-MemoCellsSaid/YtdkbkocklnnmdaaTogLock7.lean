/-
  One of many at sync.Mutex's unlockSlow from its entry, Unlock whole. Conditions: what is held of the world outlives the others' doing.
-/
import Derived.Test.YtdkbkocklnnmdaaTogLock6
set_option linter.unusedSimpArgs false
set_option linter.unusedVariables false
namespace Go.Proofs.Ytdkbkocklnnmdaa.tog
open Go Go.Conc Go.RowKit Go.ConcR.Gen Go.ConcN.Gen Go.Proofs.Ytdkbkocklnnmdaa.wg Go.Proofs.Ytdkbkocklnnmdaa.kid Go.Proofs.Ytdkbkocklnnmdaa.lock Go.Proofs.Ytdkbkocklnnmdaa.free
open Go.ConcR (KK WgAt stA smA rd wr mk DC0)
open Go.ConcN (WgLive RW AtR0)
open Go.Conc.Lib


section
variable {p : Tp} {bi ix : Nat} {K : World → Prop} {b₁ : Frame} {a₁ : Act} {ops₁ : Array Oper} {i₁ : Nat} {rest₁ : List Nat} {k₁ : List Item} {cs₁ : List Frame} {mT : Nat}

set_option maxRecDepth 100000 in
set_option maxHeartbeats 64000000 in
/-- unlockSlow, from its entry. -/
theorem slow99 (hK : ∀ {w w₁ : World}, K w → RT p [bi] w w₁ → K w₁) (hC : ∀ {w : World}, K w → CLive p w)
    (hO : p.Ok) (hb : bi ≠ p.C) (hT : ∀ d w, K w → Goes Try.prog false (RT p [bi]) (DT p [bi]) (AtD p bi ix d (.lk .ue)) mT (G (b₁.at (a₁.put ((ops₁[i₁]?).bind (·.dst)) (.tuple #[])) (.inRegion ops₁ rest₁ :: k₁)) cs₁) w) (hm : mT ≤ 240) :
    ∀ d (wk s c : Nat), wk ≤ 1 → s ≤ 1 → c ≤ 1048576 → ∀ W, K W → Goes Try.prog false (RT p [bi]) (DT p [bi]) (AtD p bi ix d (.lk (un ⟨0, wk, s, c⟩))) 340
      (G ((base 99).at ⟨#[.pointer (some ⟨p.C, 1, none⟩), .int .i32 (Mst.enc ⟨0, wk, s, c⟩), undef, undef, undef, undef, undef, undef, undef, undef, undef, undef, undef, undef, undef, undef, undef, undef, undef, undef, undef, undef, undef, undef, undef, undef, undef, undef, undef, undef, undef, undef, undef, undef, undef, undef, undef, undef, undef, undef, undef, undef, undef], []⟩ [.code body99]) (b₁.at a₁ (.inRegion ops₁ (i₁ :: rest₁) :: k₁) :: cs₁)) W := by
  intro d wk s c hw hs hc W hF
  have f0 : IntKind.i32.wrap (Mst.enc ⟨0, wk, s, c⟩ + 1) = Mst.enc ⟨1, wk, s, c⟩ := enc_add1 hw hs (by omega)
  have f1 : bits .and .i32 (Mst.enc ⟨1, wk, s, c⟩) 1 = 1 := enc_and1 (by omega) (by omega) (by omega) (by omega)
  have hs' : s = 0 ∨ s = 1 := by omega
  rcases hs' with rfl | rfl
  · have eu : un ⟨0, wk, 0, c⟩ = ul ⟨0, wk, 0, c⟩ := by unfold un ul; simp
    rw [eu]
    have f4 : bits .and .i32 (Mst.enc ⟨0, wk, 0, c⟩) 4 = 0 := enc_and4 (by omega) (by omega) (by omega) (by omega)
    have hH := head9Lit (head9 hK hC hO hb hT hm d)
    refine crew.Goes.after (S₁ := fun g w => Goes Try.prog false (RT p [bi]) (DT p [bi]) (AtD p bi ix d (.lk (ul ⟨0, wk, 0, c⟩))) 300 g w) (RT.refl (p := p) (ps := [bi])) (fun g w h => h) (m := 40) (n := 300) (dmono (D := DC0) (fun w w' es h => dt_of w w' es h) ?_) |>.mono (by omega)
    show Goes Try.prog false (RT p [bi]) DC0 _ _ _ _
    simp only [body99, cT, opsOf, cL, cR, cB, Try.f99, Option.getD_some]
    u_c stepG_seq hK hF
    u_c stepG_seq hK hF
    u_reg hK hF
    u_op hK hF
    u_op hK hF
    u_op hK hF
    u_op hK hF
    u_c stepG_region_end hK hF
    u_cond false hK hF
    u_c stepG_skip hK hF
    u_c stepG_seq hK hF
    u_reg hK hF
    u_op hK hF
    u_op hK hF
    u_op hK hF
    u_c stepG_region_end hK hF
    u_cond true hK hF
    u_c stepG_seq hK hF
    u_reg hK hF
    u_op hK hF
    u_op hK hF
    u_c stepG_region_end hK hF
    u_c stepG_block hK hF
    u_c stepG_loop hK hF
    refine Goes.stop fun w₃ h₃ => ?_
    refine hH _ ⟨0, wk, 0, c⟩ ⟨by omega, by omega, by omega, by omega⟩ ?_ _ (hK hF h₃)
    simp only [S99, lp99, body99, cT, opsOf, cL, cR, cB, Try.f99, Option.getD_some]
    rfl
  · have eu : un ⟨0, wk, 1, c⟩ = .us true := by unfold un; simp
    rw [eu]
    have f4 : bits .and .i32 (Mst.enc ⟨0, wk, 1, c⟩) 4 = 4 := enc_and4 (by omega) (by omega) (by omega) (by omega)
    refine dmono (D := DC0) (fun w w' es h => dt_of w w' es h) ?_
    simp only [body99, cT, opsOf, cL, cR, cB, Try.f99, Option.getD_some]
    u_c stepG_seq hK hF
    u_c stepG_seq hK hF
    u_reg hK hF
    u_op hK hF
    u_op hK hF
    u_op hK hF
    u_op hK hF
    u_c stepG_region_end hK hF
    u_cond false hK hF
    u_c stepG_skip hK hF
    u_c stepG_seq hK hF
    u_reg hK hF
    u_op hK hF
    u_op hK hF
    u_op hK hF
    u_c stepG_region_end hK hF
    u_cond false hK hF
    u_reg hK hF
    u_op hK hF
    u_op hK hF
    u_op hK hF
    refine Goes.stop fun w2 h2 => ?_
    replace hF := hK hF h2
    clear h2
    rcases d with _ | d
    · trivial
    refine ⟨rfl, rfl, fun w' es s' hn => ?_, fun _ _ e => by (cases e), fun _ _ => mayWake_entry rfl rfl Try.func106 x106.2.1, fun _ e => by (cases e)⟩
    cases hn with
    | us c _ hc hlt =>
      have hs1 := set2 hc (c.s + 1)
      have e1 : ((c.s + 1 : Nat) : Int) = (c.s : Int) + 1 := by omega
      have e2 : IntKind.u32.wrap ((c.s : Int) + 1) = (c.s : Int) + 1 := by rw [← e1]; exact wrap_u32_small _ (by omega)
      rw [e1] at hs1
      rw [← e2] at hs1 ⊢
      refine ⟨_, stepG_semrelease rfl rfl (by k_ne) rfl Try.func106 x106.1 x106.2.1 x106.2.2 e106 (by simp [Act.eval, cA]) (cs2 hc) (csz hc 2), rfl, ?_⟩
      replace hF := hK hF (RT.own hO (by simpa using hb) hs1)
      clear hs1 hc e1 e2 hlt
      refine crew.Goes.after (S₁ := fun g w => Goes Try.prog false (RT p [bi]) (DT p [bi]) (AtD p bi ix d (.lk .ue)) mT g w) (RT.refl (p := p) (ps := [bi])) (fun g w h => h) (m := 60) (n := mT) (dmono (D := DC0) (fun w w' es h => dt_of w w' es h) ?_) |>.mono (by omega)
      walk_nrm
      show Goes Try.prog false (RT p [bi]) DC0 _ _ _ _
      u_c stepG_region_end hK hF
      u_c stepG_end hK hF
      u_leave0 Try.func99 hK hF
      refine Goes.stop fun w₃ h₃ => ?_
      exact hT d _ (hK hF h₃)

end
section
variable {p : Tp} {bi ix : Nat} {K : World → Prop} {c₀ : Frame} {cs : List Frame} {mT : Nat}

theorem x85 : (Try.f85.name == "runtime.NumGoroutine") = false := by kernel_rfl
theorem x99 : (Try.f99.name == "runtime.NumGoroutine") = false := by kernel_rfl
theorem q95 : (Try.prog.funcs[(base 95).fn]?).any (·.norace) = true := by kernel_rfl
noncomputable def body85 : Code := Try.f85.body.getD .skip
noncomputable def body95 : Code := Try.f95.body.getD .skip
noncomputable def t95 : Code := cR (cR body95)
noncomputable def ops95 : Array Oper := opsOf (cT (cR (cL t95)))
noncomputable def ops85 : Array Oper := opsOf body85
noncomputable def fr85 (C : Nat) : Frame := (baseD 85).at ⟨#[.pointer (some ⟨C, 1, none⟩), undef, .pointer (some ⟨C, 1, none⟩), .pointer (some ⟨C, 1, none⟩), .pointer (some ⟨C, 1, none⟩), undef], []⟩ [.inRegion ops85 [3]]
set_option maxRecDepth 100000 in
set_option maxHeartbeats 64000000 in
/-- Back in Unlock: the detector on again, and out. -/
theorem back95 (hcm : c₀.mode = .returning) (hK : ∀ {w w₁ : World}, K w → RT p [bi] w w₁ → K w₁) (hC : ∀ {w : World}, K w → CLive p w)
    (hO : p.Ok) (hb : bi ≠ p.C) (hT : ∀ d w, K w → Goes Try.prog false (RT p [bi]) (DT p [bi]) (AtD p bi ix d .gv) mT (G c₀ cs) w) (hm : mT ≤ 200) : ∀ (T : Array Value) (d : Nat) (w : World), K w → Goes Try.prog false (RT p [bi]) (DT p [bi]) (AtD p bi ix d (.lk .ue)) 240
      (G ((base 95).at ⟨T, []⟩ [.inRegion ops95 [], .code (cR t95)]) (fr85 p.C :: c₀ :: cs)) w := by
  intro T d w hF
  refine dmono (D := DC0) (fun w w' es h => dt_of w w' es h) ?_
  refine Goes.mono (n := 60) ?_ (by omega)
  simp only [ops95, ops85, fr85, t95, body95, body85, opsOf, cT, cL, cR, Try.f95, Try.f85, Option.getD_some]
  u_c stepG_region_end hK hF
  u_reg hK hF
  refine Goes.stop fun w1 h1 => ?_
  replace hF := hK hF h1
  clear h1
  rcases d with _ | d
  · trivial
  refine ⟨rfl, rfl, fun w' es s' hn => ?_, fun _ _ e => by (cases e), fun _ e => by (cases e), fun _ e => by (cases e)⟩
  cases hn
  refine ⟨_, stepG_mark0 .enable (by simp) rfl rfl (by k_ne) rfl Try.func66 x66.1 x66.2.1 x66.2.2 e66, rfl, ?_⟩
  refine crew.Goes.after (S₁ := fun g w => Goes Try.prog false (RT p [bi]) (DT p [bi]) (AtD p bi ix d (.gv)) mT g w) (RT.refl (p := p) (ps := [bi])) (fun g w h => h) (m := 60) (n := mT) (dmono (D := DC0) (fun w w' es h => dt_of w w' es h) ?_) |>.mono (by omega)
  walk_nrm
  show Goes Try.prog false (RT p [bi]) DC0 _ _ _ _
  u_c stepG_region_end hK hF
  u_c stepG_end hK hF
  u_leave0 Try.func95 hK hF
  u_c stepG_region_end hK hF
  u_c stepG_end hK hF
  u_in hK hF
  rw [stepG_leave_deferred rfl rfl Try.func85 (results_none rfl _ _ _) (events_results_none rfl _ _) hcm]
  simp only [goes_go]
  refine ⟨by u_nil, ?_⟩
  refine Goes.stop fun w₃ h₃ => ?_
  exact hT d _ (hK hF h₃)
set_option maxRecDepth 100000 in
set_option maxHeartbeats 64000000 in
/-- Unlock. -/
theorem unlockG (hcm : c₀.mode = .returning) (hK : ∀ {w w₁ : World}, K w → RT p [bi] w w₁ → K w₁) (hC : ∀ {w : World}, K w → CLive p w)
    (hO : p.Ok) (hb : bi ≠ p.C) (hT : ∀ d w, K w → Goes Try.prog false (RT p [bi]) (DT p [bi]) (AtD p bi ix d .gv) mT (G c₀ cs) w) (hm : mT ≤ 200) :
    ∀ d w, K w → Goes Try.prog false (RT p [bi]) (DT p [bi]) (AtD p bi ix d (.lk .ur)) 60
      (G ((baseD 85).at ⟨#[.pointer (some ⟨p.C, 1, none⟩), undef, undef, undef, undef, undef], []⟩ [.code body85]) (c₀ :: cs)) w := by
  intro d w hF
  refine dmono (D := DC0) (fun w w' es h => dt_of w w' es h) ?_
  simp only [body85, Try.f85, Option.getD_some]
  u_reg hK hF
  u_op hK hF
  u_op hK hF
  u_op hK hF
  u_call Try.func95 x95 Try.f95 hK hF
  u_c stepG_seq hK hF
  u_cond true hK hF
  u_c stepG_seq hK hF
  u_reg hK hF
  u_op hK hF
  u_op hK hF
  u_op hK hF
  u_in hK hF
  obtain ⟨c0, hc0⟩ := hC hF
  rw [stepG_loadQ rfl rfl (by k_ne) rfl rfl (cs1 hc0) q95]
  simp only [goes_go]
  refine ⟨by u_nil, ?_⟩
  walk_nrm
  generalize c0.m.enc = junk
  clear hc0 c0
  u_c stepG_region_end hK hF
  u_c stepG_seq hK hF
  u_reg hK hF
  u_op hK hF
  u_in hK hF
  refine goes_oper_k rfl rfl (by k_ne) (fun Kx hKx => ?_)
  obtain ⟨c0, hc0⟩ := hC hF
  have hcv := run_convert_to_unsafe (P := Try.prog) u148 u35 r80 (cs1 hc0)
  have hce := fun es => events_convert_to_unsafe (P := Try.prog) u148 u35 r80 (cs1 hc0) es
  simp only [cA] at hcv hce
  go_simp
  refine hKx _ _ ⟨⟨rfl, Array.eq_empty_iff_forall_not_mem.2 fun ex hex => ?_⟩, ?_⟩
  · have hmx := mem_listed hex
    simp [go_sem, hce] at hmx
  clear hKx Kx hcv hce hc0 c0
  refine Goes.stop fun w1 h1 => ?_
  replace hF := hK hF h1
  clear h1
  rcases d with _ | d
  · trivial
  refine ⟨rfl, rfl, fun w' es s' hn => ?_, fun _ _ e => by (cases e), fun _ e => by (cases e), fun _ e => by (cases e)⟩
  cases hn
  refine ⟨_, stepG_markAt .releaseMerge (by simp) rfl rfl (by k_ne) rfl Try.func64 x64.1 x64.2.1 x64.2.2 e64 (by simp [Act.eval, cA]), rfl, ?_⟩
  refine dmono (D := DC0) (fun w w' es h => dt_of w w' es h) ?_
  walk_nrm
  show Goes Try.prog false (RT p [bi]) DC0 _ _ _ _
  u_c stepG_region_end hK hF
  u_reg hK hF
  refine Goes.stop fun w2 h2 => ?_
  replace hF := hK hF h2
  clear h2
  rcases d with _ | d
  · trivial
  refine ⟨rfl, rfl, fun w' es s' hn => ?_, fun _ _ e => by (cases e), fun _ e => by (cases e), fun _ e => by (cases e)⟩
  cases hn
  refine ⟨_, stepG_mark0 .disable (by simp) rfl rfl (by k_ne) rfl Try.func65 x65.1 x65.2.1 x65.2.2 e65, rfl, ?_⟩
  refine dmono (D := DC0) (fun w w' es h => dt_of w w' es h) ?_
  walk_nrm
  show Goes Try.prog false (RT p [bi]) DC0 _ _ _ _
  u_c stepG_region_end hK hF
  u_c stepG_seq hK hF
  u_reg hK hF
  u_op hK hF
  u_op hK hF
  u_op hK hF
  refine Goes.stop fun w3 h3 => ?_
  replace hF := hK hF h3
  clear h3
  rcases d with _ | d
  · trivial
  refine ⟨rfl, rfl, fun w' es s' hn => ?_, fun _ _ e => by (cases e), fun _ e => by (cases e), fun _ e => by (cases e)⟩
  cases hn with
  | u0 c hc ho hl =>
    rcases c with ⟨d0, ⟨ml, mw, ms, k⟩, s0, v0, cd0, r0⟩
    simp only [Mst.Ok] at ho hl
    subst hl
    have e2 : IntKind.i32.wrap (Mst.enc ⟨1, mw, ms, k⟩ + -1) = Mst.enc ⟨0, mw, ms, k⟩ := enc_sub1 (by omega) (by omega) (by omega)
    have hs1 := set1 hc ⟨0, mw, ms, k⟩
    simp only at hs1 hc ⊢
    rw [← e2] at hs1 ⊢
    refine ⟨_, stepG_add_atomic rfl rfl (by k_ne) rfl Try.func98 x98.1 x98.2.1 x98.2.2 .i32 e98 rfl rfl (cs1 hc) (csz hc 1), rfl, ?_⟩
    replace hF := hK hF (RT.own hO (by simpa using hb) hs1)
    rw [e2] at hs1 hF ⊢
    clear hs1 hc
    by_cases hz : mw = 0 ∧ ms = 0 ∧ k = 0
    · obtain ⟨rfl, rfl, rfl⟩ := hz
      have eu : un ⟨0, 0, 0, 0⟩ = .ue := by unfold un; simp
      rw [eu]
      have ez : Mst.enc ⟨0, 0, 0, 0⟩ = 0 := rfl
      refine dmono (D := DC0) (fun w w' es h => dt_of w w' es h) ?_
      walk_nrm
      show Goes Try.prog false (RT p [bi]) DC0 _ _ _ _
      u_op hK hF
      u_c stepG_region_end hK hF
      u_c stepG_seq hK hF
      u_c stepG_seq hK hF
      u_reg hK hF
      u_op hK hF
      u_op hK hF
      u_c stepG_region_end hK hF
      u_cond false hK hF
      u_c stepG_skip hK hF
      u_reg hK hF
      refine Goes.stop fun w1 h1 => ?_
      replace hF := hK hF h1
      clear h1
      rcases d with _ | d
      · trivial
      refine ⟨rfl, rfl, fun w' es s' hn => ?_, fun _ _ e => by (cases e), fun _ e => by (cases e), fun _ e => by (cases e)⟩
      cases hn
      refine ⟨_, stepG_mark0 .enable (by simp) rfl rfl (by k_ne) rfl Try.func66 x66.1 x66.2.1 x66.2.2 e66, rfl, ?_⟩
      refine crew.Goes.after (S₁ := fun g w => Goes Try.prog false (RT p [bi]) (DT p [bi]) (AtD p bi ix d (.gv)) mT g w) (RT.refl (p := p) (ps := [bi])) (fun g w h => h) (m := 60) (n := mT) (dmono (D := DC0) (fun w w' es h => dt_of w w' es h) ?_) |>.mono (by omega)
      walk_nrm
      show Goes Try.prog false (RT p [bi]) DC0 _ _ _ _
      u_c stepG_region_end hK hF
      u_c stepG_end hK hF
      u_leave0 Try.func95 hK hF
      u_c stepG_region_end hK hF
      u_c stepG_end hK hF
      u_in hK hF
      rw [stepG_leave_deferred rfl rfl Try.func85 (results_none rfl _ _ _) (events_results_none rfl _ _) hcm]
      simp only [goes_go]
      refine ⟨by u_nil, ?_⟩
      refine Goes.stop fun w₃ h₃ => ?_
      exact hT d _ (hK hF h₃)
    · have hz1 : ¬ (Mst.enc ⟨0, mw, ms, k⟩ = 0) := by simp only [Mst.enc]; omega
      have z1 : (Mst.enc ⟨0, mw, ms, k⟩ != 0) = true := by simpa using hz1
      have z2 : decide (Mst.enc ⟨0, mw, ms, k⟩ = 0) = false := decide_eq_false hz1
      have e19 : (ops95[2]?).bind (·.dst) = some 19 := by kernel_rfl
      have hS := fun T : Array Value => slow99 (ix := ix) (a₁ := ⟨T, []⟩) (b₁ := base 95) (ops₁ := ops95) (i₁ := 2) (rest₁ := []) (k₁ := [.code (cR t95)]) (cs₁ := fr85 p.C :: c₀ :: cs) (mT := 240) hK hC hO hb (fun d w hw => by rw [e19]; exact back95 hcm hK hC hO hb hT hm _ d w hw) (by omega) d mw ms k (by omega) (by omega) (by omega)
      refine crew.Goes.after (S₁ := fun g w => Goes Try.prog false (RT p [bi]) (DT p [bi]) (AtD p bi ix d (.lk (un ⟨0, mw, ms, k⟩))) 340 g w) (RT.refl (p := p) (ps := [bi])) (fun g w h => h) (m := 60) (n := 340) (dmono (D := DC0) (fun w w' es h => dt_of w w' es h) ?_) |>.mono (by omega)
      walk_nrm
      show Goes Try.prog false (RT p [bi]) DC0 _ _ _ _
      u_op hK hF
      u_c stepG_region_end hK hF
      u_c stepG_seq hK hF
      u_c stepG_seq hK hF
      u_reg hK hF
      u_op hK hF
      u_op hK hF
      u_c stepG_region_end hK hF
      u_cond true hK hF
      u_reg hK hF
      u_op hK hF
      u_op hK hF
      u_call Try.func99 x99 Try.f99 hK hF
      refine Goes.stop fun w₃ h₃ => ?_
      exact hS _ _ (hK hF h₃)
end
end Go.Proofs.Ytdkbkocklnnmdaa.tog
