/-
  One of many at sync.Mutex's Lock, whole. Conditions: what is held of the world outlives the others' doing.
-/
import Derived.Test.YtdkbkocklnnmdaaTogLock4
set_option linter.unusedSimpArgs false
set_option linter.unusedVariables false
namespace Go.Proofs.Ytdkbkocklnnmdaa.tog
open Go Go.Conc Go.RowKit Go.ConcR.Gen Go.ConcN.Gen Go.Proofs.Ytdkbkocklnnmdaa.wg Go.Proofs.Ytdkbkocklnnmdaa.kid Go.Proofs.Ytdkbkocklnnmdaa.lock Go.Proofs.Ytdkbkocklnnmdaa.free
open Go.ConcR (KK WgAt stA smA rd wr mk DC0)
open Go.ConcN (WgLive RW AtR0)
open Go.Conc.Lib


section
variable {p : Tp} {bi ix : Nat} {K : World → Prop} {b₀ : Frame} {a₀ : Act} {ops₀ : Array Oper} {i₀ : Nat} {rest₀ : List Nat} {k₀ : List Item} {cs : List Frame} {mT : Nat}

theorem x84 : (Try.f84.name == "runtime.NumGoroutine") = false := by kernel_rfl
noncomputable def body84 : Code := Try.f84.body.getD .skip
noncomputable def body94 : Code := Try.f94.body.getD .skip
noncomputable def ops94 : Array Oper := opsOf (cR (cR body94))
noncomputable def ops84 : Array Oper := opsOf body84
def pM (C : Nat) : Value := .pointer (some ⟨C, 1, none⟩)
def a94 (C : Nat) : Act := ⟨#[.pointer (some ⟨C, 1, none⟩), undef, .tuple #[], .pointer (some ⟨C, 1, none⟩), .pointer (some ⟨C, 1, none⟩), .pointer (some ⟨C, 1, none⟩), .bool false, undef, undef, undef, undef, .pointer (some ⟨C, 1, none⟩), undef], []⟩
def a84 (C : Nat) : Act := ⟨#[.pointer (some ⟨C, 1, none⟩), undef, .pointer (some ⟨C, 1, none⟩), .pointer (some ⟨C, 1, none⟩), .pointer (some ⟨C, 1, none⟩), undef], []⟩
noncomputable def fr84 (C : Nat) : Frame := (base 84).at (a84 C) [.inRegion ops84 [3]]
set_option maxRecDepth 100000 in
set_option maxHeartbeats 64000000 in
/-- Back from lockSlow. -/
theorem back94 (hK : ∀ {w w₁ : World}, K w → RT p [bi] w w₁ → K w₁) (hC : ∀ {w : World}, K w → CLive p w)
    (hO : p.Ok) (hb : bi ≠ p.C) (hT : ∀ d w, K w → Goes Try.prog false (RT p [bi]) (DT p [bi]) (AtD p bi ix d .o2) mT (G (b₀.at (a₀.put ((ops₀[i₀]?).bind (·.dst)) (.tuple #[])) (.inRegion ops₀ rest₀ :: k₀)) cs) w) (hm : mT ≤ 200) : ∀ d w, K w → Goes Try.prog false (RT p [bi]) (DT p [bi]) (AtD p bi ix d .o2) (mT + 60)
      (G ((base 94).at ((a94 p.C).put ((ops94[1]?).bind (·.dst)) (.tuple #[])) [.inRegion ops94 []]) (fr84 p.C :: b₀.at a₀ (.inRegion ops₀ (i₀ :: rest₀) :: k₀) :: cs)) w := by
  intro d w hF
  refine Goes.mono (n := 60 + mT) ?_ (by omega)
  refine crew.Goes.after (S₁ := fun g w => Goes Try.prog false (RT p [bi]) (DT p [bi]) (AtD p bi ix d (.o2)) mT g w) (RT.refl (p := p) (ps := [bi])) (fun g w h => h) (m := 60) (n := mT) (dmono (D := DC0) (fun w w' es h => dt_of w w' es h) ?_) |>.mono (by omega)
  show Goes Try.prog false (RT p [bi]) DC0 _ _ _ _
  simp only [a94, a84, ops94, ops84, fr84, body94, body84, opsOf, cR, Try.f94, Try.f84, Option.getD_some]
  walk_nrm
  u_c stepG_region_end hK hF
  u_c stepG_end hK hF
  u_leave0 Try.func94 hK hF
  u_c stepG_region_end hK hF
  u_c stepG_end hK hF
  u_leave0 Try.func84 hK hF
  refine Goes.stop fun w₃ h₃ => ?_
  exact hT d _ (hK hF h₃)
set_option maxRecDepth 100000 in
set_option maxHeartbeats 64000000 in
/-- Lock. -/
theorem lockG (hK : ∀ {w w₁ : World}, K w → RT p [bi] w w₁ → K w₁) (hC : ∀ {w : World}, K w → CLive p w)
    (hO : p.Ok) (hb : bi ≠ p.C) (hT : ∀ d w, K w → Goes Try.prog false (RT p [bi]) (DT p [bi]) (AtD p bi ix d .o2) mT (G (b₀.at (a₀.put ((ops₀[i₀]?).bind (·.dst)) (.tuple #[])) (.inRegion ops₀ rest₀ :: k₀)) cs) w) (hm : mT ≤ 200) :
    ∀ d w, K w → Goes Try.prog false (RT p [bi]) (DT p [bi]) (AtD p bi ix d (.lk .ld)) 60
      (G ((base 84).at ⟨#[.pointer (some ⟨p.C, 1, none⟩), undef, undef, undef, undef, undef], []⟩ [.code body84]) (b₀.at a₀ (.inRegion ops₀ (i₀ :: rest₀) :: k₀) :: cs)) w := by
  intro d w hF
  refine dmono (D := DC0) (fun w w' es h => dt_of w w' es h) ?_
  simp only [body84, Try.f84, Option.getD_some]
  u_reg hK hF
  u_op hK hF
  u_op hK hF
  u_op hK hF
  u_call Try.func94 x94 Try.f94 hK hF
  u_c stepG_seq hK hF
  u_reg hK hF
  refine Goes.stop fun w1 h1 => ?_
  replace hF := hK hF h1
  clear h1
  rcases d with _ | d
  · trivial
  refine ⟨rfl, rfl, fun w' es s' hn => ?_, fun _ _ e => by (cases e), fun _ e => by (cases e), fun _ e => by (cases e)⟩
  cases hn
  refine ⟨_, stepG_mark0 .disable (by simp) rfl rfl (by k_ne) rfl Try.func65 (x_disable_n link) (x_disable_b link) (x_disable_x link) (x_disable_f link), rfl, ?_⟩
  refine dmono (D := DC0) (fun w w' es h => dt_of w w' es h) ?_
  walk_nrm
  show Goes Try.prog false (RT p [bi]) DC0 _ _ _ _
  u_c stepG_region_end hK hF
  u_c stepG_seq hK hF
  u_c stepG_seq hK hF
  u_reg hK hF
  u_op hK hF
  u_op hK hF
  u_op hK hF
  refine Goes.stop fun w2 h2 => ?_
  replace hF := hK hF h2
  clear h2
  rcases d with _ | d
  · trivial
  refine ⟨rfl, rfl, fun w' es s' hn => ?_, fun _ _ e => by (cases e), fun _ e => by (cases e), fun _ e => by (cases e)⟩
  cases hn with
  | l0hit c hc e =>
    have h1 := cs1 hc
    rw [e] at h1
    have hs1 := set1 hc ⟨1, 0, 0, 0⟩
    refine ⟨_, stepG_cas_hit rfl rfl (by k_ne) rfl Try.func96 x96.1 x96.2.1 x96.2.2 .i32 e96 rfl rfl rfl h1 (csz hc 1), rfl, ?_⟩
    replace hF := hK hF (RT.own hO (by simpa using hb) hs1)
    clear hs1 h1 hc e
    refine dmono (D := DC0) (fun w w' es h => dt_of w w' es h) ?_
    walk_nrm
    show Goes Try.prog false (RT p [bi]) DC0 _ _ _ _
    u_c stepG_region_end hK hF
    u_cond true hK hF
    u_c stepG_seq hK hF
    u_cond true hK hF
    u_c stepG_seq hK hF
    u_reg hK hF
    refine Goes.stop fun w3 h3 => ?_
    replace hF := hK hF h3
    clear h3
    rcases d with _ | d
    · trivial
    refine ⟨rfl, rfl, fun w' es s' hn => ?_, fun _ _ e => by (cases e), fun _ e => by (cases e), fun _ e => by (cases e)⟩
    cases hn
    refine ⟨_, stepG_mark0 .enable (by simp) rfl rfl (by k_ne) rfl Try.func66 (x_enable_n link) (x_enable_b link) (x_enable_x link) (x_enable_f link), rfl, ?_⟩
    refine dmono (D := DC0) (fun w w' es h => dt_of w w' es h) ?_
    walk_nrm
    show Goes Try.prog false (RT p [bi]) DC0 _ _ _ _
    u_c stepG_region_end hK hF
    u_reg hK hF
    u_op hK hF
    u_in hK hF
    refine goes_oper_k rfl rfl (by k_ne) (fun Kx hKx => ?_)
    obtain ⟨c0, hc0⟩ := hC hF
    have hcv := run_convert_to_unsafe (P := Try.prog) u148 u35 r80 (cs1 hc0)
    have hce := fun es => events_convert_to_unsafe (P := Try.prog) u148 u35 r80 (cs1 hc0) es
    simp only [cA] at hcv hce
    go_simp
    refine hKx _ _ ⟨⟨rfl, Array.eq_empty_iff_forall_not_mem.2 fun ex hex => ?_⟩, ?_⟩
    · have hmx := mem_listed hex
      simp [go_sem, hce] at hmx
    clear hKx Kx hcv hce hc0 c0
    refine Goes.stop fun w4 h4 => ?_
    replace hF := hK hF h4
    clear h4
    rcases d with _ | d
    · trivial
    refine ⟨rfl, rfl, fun w' es s' hn => ?_, fun _ _ e => by (cases e), fun _ e => by (cases e), fun _ e => by (cases e)⟩
    cases hn
    refine ⟨_, stepG_markAt .acquire (by simp) rfl rfl (by k_ne) rfl Try.func77 (x_acquire_n link) (x_acquire_b link) (x_acquire_x link) (x_acquire_f link) (by simp [Act.eval, cA]), rfl, ?_⟩
    refine crew.Goes.after (S₁ := fun g w => Goes Try.prog false (RT p [bi]) (DT p [bi]) (AtD p bi ix d (.o2)) mT g w) (RT.refl (p := p) (ps := [bi])) (fun g w h => h) (m := 60) (n := mT) (dmono (D := DC0) (fun w w' es h => dt_of w w' es h) ?_) |>.mono (by omega)
    walk_nrm
    show Goes Try.prog false (RT p [bi]) DC0 _ _ _ _
    u_c stepG_region_end hK hF
    u_c stepG_ret' hK hF
    u_leave0 Try.func94 hK hF
    u_c stepG_region_end hK hF
    u_c stepG_end hK hF
    u_leave0 Try.func84 hK hF
    refine Goes.stop fun w₃ h₃ => ?_
    exact hT d _ (hK hF h₃)
  | l0miss c hc ho e =>
    have hne : c.m.enc ≠ 0 := fun h => e (Mst.inj (b := ⟨0, 0, 0, 0⟩) ho (by simp [Mst.Ok]) h)
    refine ⟨_, stepG_cas_miss rfl rfl (by k_ne) rfl Try.func96 x96.1 x96.2.1 x96.2.2 .i32 e96 rfl rfl rfl (cs1 hc) (csz hc 1) hne, rfl, ?_⟩
    clear hc ho e hne
    refine dmono (D := DC0) (fun w w' es h => dt_of w w' es h) ?_
    walk_nrm
    show Goes Try.prog false (RT p [bi]) DC0 _ _ _ _
    u_c stepG_region_end hK hF
    u_cond false hK hF
    u_c stepG_skip hK hF
    u_reg hK hF
    u_op hK hF
    u_call Try.func97 x97 Try.f97 hK hF
    u_c stepG_seq hK hF
    u_reg hK hF
    u_op hK hF
    u_c stepG_region_end hK hF
    u_c stepG_seq hK hF
    u_reg hK hF
    u_op hK hF
    u_c stepG_region_end hK hF
    u_c stepG_seq hK hF
    u_reg hK hF
    u_op hK hF
    u_c stepG_region_end hK hF
    u_c stepG_seq hK hF
    u_reg hK hF
    u_op hK hF
    u_c stepG_region_end hK hF
    u_c stepG_seq hK hF
    u_reg hK hF
    u_op hK hF
    u_op hK hF
    u_op hK hF
    refine Goes.stop fun w3 h3 => ?_
    replace hF := hK hF h3
    clear h3
    rcases d with _ | d
    · trivial
    refine ⟨rfl, rfl, fun w' es s' hn => ?_, fun _ _ e => by (cases e), fun _ e => by (cases e), fun _ e => by (cases e)⟩
    cases hn with
    | r0 c hc hs =>
      refine ⟨_, stepG_loadQ rfl rfl (by k_ne) rfl rfl (cs1 hc) q97, rfl, ?_⟩
      have hH := headLit (head (b₁ := base 94) (a₁ := a94 p.C) (ops₁ := ops94) (i₁ := 1) (rest₁ := []) (k₁ := []) (cs₁ := fr84 p.C :: b₀.at a₀ (.inRegion ops₀ (i₀ :: rest₀) :: k₀) :: cs) (mT := mT + 60) hK hC hO hb (back94 hK hC hO hb hT hm) (by omega) d)
      clear hc
      generalize c.m = mm at *
      refine crew.Goes.after (S₁ := fun g w => Goes Try.prog false (RT p [bi]) (DT p [bi]) (AtD p bi ix d (.lk (hd mm 0 false false 0))) 200 g w) (RT.refl (p := p) (ps := [bi])) (fun g w h => h) (m := 60) (n := 200) (dmono (D := DC0) (fun w w' es h => dt_of w w' es h) ?_) |>.mono (by omega)
      walk_nrm
      show Goes Try.prog false (RT p [bi]) DC0 _ _ _ _
      u_op hK hF
      u_c stepG_region_end hK hF
      u_c stepG_seq hK hF
      u_c stepG_block hK hF
      u_c stepG_loop hK hF
      refine Goes.stop fun w₃ h₃ => ?_
      refine hH _ mm 0 false false 0 hs ?_ _ (hK hF h₃)
      simp only [a94, a84, ops94, ops84, fr84, body94, body84, Try.f94, Try.f84, S97, restR, restV, restS, restQ, cT, opsOf, rest11, in97, lp97, tail97, c97, body97, cL, cR, cB, Try.f97, Option.getD_some]
      rfl
end
end Go.Proofs.Ytdkbkocklnnmdaa.tog
