/-
  One of many at sync.Mutex's unlockSlow and Unlock. Conditions: what is held of the world outlives the others' doing.
-/
import Derived.Test.YtdkbkocklnnmdaaTogLock5
set_option linter.unusedSimpArgs false
set_option linter.unusedVariables false
namespace Go.Proofs.Ytdkbkocklnnmdaa.tog
open Go Go.Conc Go.RowKit Go.ConcR.Gen Go.ConcN.Gen Go.Proofs.Ytdkbkocklnnmdaa.wg Go.Proofs.Ytdkbkocklnnmdaa.kid Go.Proofs.Ytdkbkocklnnmdaa.lock Go.Proofs.Ytdkbkocklnnmdaa.free
open Go.ConcR (KK WgAt stA smA rd wr mk DC0)
open Go.ConcN (WgLive RW AtR0)
open Go.Conc.Lib


section
variable {p : Tp} {bi ix : Nat} {K : World → Prop} {b₁ : Frame} {a₁ : Act} {ops₁ : Array Oper} {i₁ : Nat} {rest₁ : List Nat} {k₁ : List Item} {cs₁ : List Frame} {mT : Nat}

theorem x106 : (Try.f106.name == "runtime.NumGoroutine") = false ∧ Try.f106.body.isNone = true ∧ Extern.findNext Try.f106 = none := ⟨by kernel_rfl, by kernel_rfl, by kernel_rfl⟩
theorem e106 : Extern.find Try.f106 = some Extern.Sync.semrelease := by kernel_rfl
theorem q99 : (Try.prog.funcs[(base 99).fn]?).any (·.norace) = true := by kernel_rfl
/-- unlockSlow's slots. -/
def S99 (C : Nat) (o : Mst) (J : Nat → Value) : Array Value := #[.pointer (some ⟨C, 1, none⟩), J 1, J 2, J 3, .int .i32 o.enc, J 5, J 6, J 7, J 8, J 9, J 10, J 11, J 12, J 13, J 14, J 15, J 16, J 17, J 18, J 19, J 20, J 21, J 22, J 23, J 24, J 25, J 26, J 27, J 28, J 29, J 30, J 31, J 32, J 33, J 34, J 35, J 36, J 37, J 38, J 39, J 40, J 41, J 42]
noncomputable def body99 : Code := Try.f99.body.getD .skip
noncomputable def lp99 : Code := cB (cB (cR (cT (cR (cR body99)))))
/-- unlockSlow's loop head, at depth d. -/
def Head9 (p : Tp) (bi ix : Nat) (K : World → Prop) (b₁ : Frame) (a₁ : Act) (ops₁ : Array Oper) (i₁ : Nat) (rest₁ : List Nat) (k₁ : List Item) (cs₁ : List Frame) (d : Nat) : Prop :=
  ∀ (o : Mst) (J : Nat → Value) (w : World), o.Ok → K w → Goes Try.prog false (RT p [bi]) (DT p [bi]) (AtD p bi ix d (.lk (ul o))) 300
    (G ((base 99).at ⟨S99 p.C o J, []⟩ [.code lp99, .inLoop lp99, .inBlock 0]) (b₁.at a₁ (.inRegion ops₁ (i₁ :: rest₁) :: k₁) :: cs₁)) w
theorem head9Lit {d : Nat} (h : Head9 p bi ix K b₁ a₁ ops₁ i₁ rest₁ k₁ cs₁ d) (g : Goroutine) (o : Mst) (ho : o.Ok) (hg : g = G ((base 99).at ⟨S99 p.C o (fun k => g.frame.tmps.getD k undef), []⟩ [.code lp99, .inLoop lp99, .inBlock 0]) (b₁.at a₁ (.inRegion ops₁ (i₁ :: rest₁) :: k₁) :: cs₁)) (w : World) (hw : K w) :
    Goes Try.prog false (RT p [bi]) (DT p [bi]) (AtD p bi ix d (.lk (ul o))) 300 g w := by
  obtain ⟨J, rfl⟩ : ∃ J, g = G ((base 99).at ⟨S99 p.C o J, []⟩ [.code lp99, .inLoop lp99, .inBlock 0]) (b₁.at a₁ (.inRegion ops₁ (i₁ :: rest₁) :: k₁) :: cs₁) := ⟨_, hg⟩
  exact h o J w ho hw

theorem wrap_u32_small (n : Nat) (h : n < 4294967296) : IntKind.u32.wrap (n : Int) = (n : Int) := by
  simp only [IntKind.wrap, IntKind.bits, IntKind.signed]
  simp
  omega
set_option maxRecDepth 100000 in
set_option maxHeartbeats 64000000 in
/-- unlockSlow's loop head, at every depth. -/
theorem head9 (hK : ∀ {w w₁ : World}, K w → RT p [bi] w w₁ → K w₁) (hC : ∀ {w : World}, K w → CLive p w)
    (hO : p.Ok) (hb : bi ≠ p.C) (hT : ∀ d w, K w → Goes Try.prog false (RT p [bi]) (DT p [bi]) (AtD p bi ix d (.lk .ue)) mT (G (b₁.at (a₁.put ((ops₁[i₁]?).bind (·.dst)) (.tuple #[])) (.inRegion ops₁ rest₁ :: k₁)) cs₁) w) (hm : mT ≤ 240) : ∀ d, Head9 p bi ix K b₁ a₁ ops₁ i₁ rest₁ k₁ cs₁ d := by
  intro d
  induction d using Nat.strongRecOn with
  | _ d IH =>
    intro o J w ho hF
    obtain ⟨l, wo, s, c⟩ := o
    simp only [Mst.Ok] at ho
    by_cases h : l = 0 ∧ wo = 0 ∧ s = 0 ∧ c ≠ 0
    · obtain ⟨rfl, rfl, rfl, hc0⟩ := h
      have eu : ul ⟨0, 0, 0, c⟩ = .uc ⟨0, 0, 0, c⟩ := by unfold ul; rw [if_pos ⟨rfl, rfl, rfl, hc0⟩]
      rw [eu]
      have fd : Mst.enc ⟨0, 0, 0, c⟩ / 8 = (c : Int) := enc_div8 (by omega) (by omega) (by omega) (by omega)
      have f7 : bits .and .i32 (Mst.enc ⟨0, 0, 0, c⟩) 7 = 0 := enc_and7 (by omega) (by omega) (by omega) (by omega)
      have g1 : IntKind.i32.wrap (Mst.enc ⟨0, 0, 0, c⟩ - 8) = Mst.enc ⟨0, 0, 0, c - 1⟩ := enc_sub8 (by omega) (by omega) (by omega) (by omega) (by omega)
      have g2 : bits .or .i32 (Mst.enc ⟨0, 0, 0, c - 1⟩) 2 = Mst.enc ⟨0, 1, 0, c - 1⟩ := enc_or2 (by omega) (by omega) (by omega) (by omega)
      have dz : decide ((c : Int) = 0) = false := decide_eq_false (by omega)
      have dzn : decide (c = 0) = false := decide_eq_false (by omega)
      have dz2 : ((c : Int) == 0) = false := by
        have : ¬ ((c : Int) = 0) := by omega
        simpa using this
      refine dmono (D := DC0) (fun w w' es h => dt_of w w' es h) ?_
      simp only [S99, lp99, body99, cT, opsOf, cL, cR, cB, Try.f99, Option.getD_some]
      u_c stepG_block hK hF
      u_c stepG_seq hK hF
      u_c stepG_seq hK hF
      u_reg hK hF
      u_op hK hF
      u_op hK hF
      u_op hK hF
      u_op hK hF
      u_op hK hF
      u_op hK hF
      u_op hK hF
      u_op hK hF
      u_c stepG_region_end hK hF
      u_cond false hK hF
      u_c stepG_skip hK hF
      u_c stepG_seq hK hF
      u_reg hK hF
      u_op hK hF
      u_op hK hF
      u_op hK hF
      u_op hK hF
      u_c stepG_region_end hK hF
      u_c stepG_seq hK hF
      u_c stepG_seq hK hF
      u_reg hK hF
      u_op hK hF
      u_op hK hF
      u_op hK hF
      u_op hK hF
      u_op hK hF
      refine Goes.stop fun w1 h1 => ?_
      replace hF := hK hF h1
      clear h1
      rcases d with _ | d
      · trivial
      refine ⟨rfl, rfl, fun w' es s' hn => ?_, fun _ _ e => by (cases e), fun _ e => by (cases e), fun _ e => by (cases e)⟩
      generalize hol : (⟨0, 0, 0, c⟩ : Mst) = oo at hn
      cases hn with
      | uchit c' _ hc hs e =>
        subst hol
        have hs1 := set1 hc ⟨0, 1, 0, c - 1⟩
        have h1 := cs1 hc
        rw [e] at h1
        refine ⟨_, stepG_cas_hit rfl rfl (by k_ne) rfl Try.func96 x96.1 x96.2.1 x96.2.2 .i32 e96 rfl rfl rfl h1 (csz hc 1), rfl, ?_⟩
        replace hF := hK hF (RT.own hO (by simpa using hb) hs1)
        clear hs1 hc h1 e hs
        refine dmono (D := DC0) (fun w w' es h => dt_of w w' es h) ?_
        walk_nrm
        show Goes Try.prog false (RT p [bi]) DC0 _ _ _ _
        u_c stepG_region_end hK hF
        u_cond true hK hF
        u_c stepG_seq hK hF
        u_reg hK hF
        u_op hK hF
        u_op hK hF
        u_op hK hF
        refine Goes.stop fun w2 h2 => ?_
        replace hF := hK hF h2
        clear h2
        rcases d with _ | d
        · trivial
        refine ⟨rfl, rfl, fun w' es s' hn => ?_, fun _ _ e => by (cases e), fun _ _ => mayWake_entry rfl rfl Try.func106 x106.2.1, fun _ e => by (cases e)⟩
        cases hn with
        | us c _ hc hlt =>
          have hs1 := set2 hc (c.s + 1)
          have e1 : ((c.s + 1 : Nat) : Int) = (c.s : Int) + 1 := by omega
          have e2 : IntKind.u32.wrap ((c.s : Int) + 1) = (c.s : Int) + 1 := by rw [← e1]; exact wrap_u32_small _ (by omega)
          rw [e1] at hs1
          rw [← e2] at hs1 ⊢
          refine ⟨_, stepG_semrelease rfl rfl (by k_ne) rfl Try.func106 x106.1 x106.2.1 x106.2.2 e106 (by simp [Act.eval, cA]) (cs2 hc) (csz hc 2), rfl, ?_⟩
          replace hF := hK hF (RT.own hO (by simpa using hb) hs1)
          clear hs1 hc e1 e2 hlt
          refine crew.Goes.after (S₁ := fun g w => Goes Try.prog false (RT p [bi]) (DT p [bi]) (AtD p bi ix d (.lk .ue)) mT g w) (RT.refl (p := p) (ps := [bi])) (fun g w h => h) (m := 60) (n := mT) (dmono (D := DC0) (fun w w' es h => dt_of w w' es h) ?_) |>.mono (by omega)
          walk_nrm
          show Goes Try.prog false (RT p [bi]) DC0 _ _ _ _
          u_c stepG_region_end hK hF
          u_c stepG_ret' hK hF
          u_leave0 Try.func99 hK hF
          refine Goes.stop fun w₃ h₃ => ?_
          exact hT d _ (hK hF h₃)
      | ucmiss c' _ hc ho' hs e =>
        subst hol
        have hne : c'.m.enc ≠ Mst.enc ⟨0, 0, 0, c⟩ := fun h => e (Mst.inj ho' hs.1 h)
        refine ⟨_, stepG_cas_miss rfl rfl (by k_ne) rfl Try.func96 x96.1 x96.2.1 x96.2.2 .i32 e96 rfl rfl rfl (cs1 hc) (csz hc 1) hne, rfl, ?_⟩
        clear hc ho' hne e hs
        refine dmono (D := DC0) (fun w w' es h => dt_of w w' es h) ?_
        walk_nrm
        show Goes Try.prog false (RT p [bi]) DC0 _ _ _ _
        u_c stepG_region_end hK hF
        u_cond false hK hF
        u_c stepG_skip hK hF
        u_reg hK hF
        u_op hK hF
        u_op hK hF
        u_op hK hF
        refine Goes.stop fun w2 h2 => ?_
        replace hF := hK hF h2
        clear h2
        rcases d with _ | d
        · trivial
        refine ⟨rfl, rfl, fun w' es s' hn => ?_, fun _ _ e => by (cases e), fun _ e => by (cases e), fun _ e => by (cases e)⟩
        cases hn with
        | ux c2 hc ho2 =>
          refine ⟨_, stepG_loadQ rfl rfl (by k_ne) rfl rfl (cs1 hc) q99, rfl, ?_⟩
          have hH := head9Lit (IH d (by omega))
          clear hc
          generalize c2.m = mm at *
          refine crew.Goes.after (S₁ := fun g w => Goes Try.prog false (RT p [bi]) (DT p [bi]) (AtD p bi ix d (.lk (ul mm))) 300 g w) (RT.refl (p := p) (ps := [bi])) (fun g w h => h) (m := 40) (n := 300) (dmono (D := DC0) (fun w w' es h => dt_of w w' es h) ?_) |>.mono (by omega)
          walk_nrm
          show Goes Try.prog false (RT p [bi]) DC0 _ _ _ _
          u_op hK hF
          u_c stepG_region_end hK hF
          u_c stepG_inBlock hK hF
          u_c stepG_inLoop hK hF
          refine Goes.stop fun w₃ h₃ => ?_
          refine hH _ mm ho2 ?_ _ (hK hF h₃)
          simp only [S99, lp99, body99, cT, opsOf, cL, cR, cB, Try.f99, Option.getD_some]
          rfl
    · have eu : ul ⟨l, wo, s, c⟩ = .ue := by unfold ul; rw [if_neg h]
      rw [eu]
      have fd : Mst.enc ⟨l, wo, s, c⟩ / 8 = (c : Int) := enc_div8 (by omega) (by omega) (by omega) (by omega)
      have f7 : bits .and .i32 (Mst.enc ⟨l, wo, s, c⟩) 7 = ((l + 2 * wo + 4 * s : Nat) : Int) := enc_and7 (by omega) (by omega) (by omega) (by omega)
      by_cases hc0 : c = 0
      · subst hc0
        have fd' : Mst.enc ⟨l, wo, s, 0⟩ / 8 = 0 := fd
        clear fd
        refine crew.Goes.after (S₁ := fun g w => Goes Try.prog false (RT p [bi]) (DT p [bi]) (AtD p bi ix d (.lk .ue)) mT g w) (RT.refl (p := p) (ps := [bi])) (fun g w h => h) (m := 60) (n := mT) (dmono (D := DC0) (fun w w' es h => dt_of w w' es h) ?_) |>.mono (by omega)
        show Goes Try.prog false (RT p [bi]) DC0 _ _ _ _
        simp only [S99, lp99, body99, cT, opsOf, cL, cR, cB, Try.f99, Option.getD_some]
        u_c stepG_block hK hF
        u_c stepG_seq hK hF
        u_c stepG_seq hK hF
        u_reg hK hF
        u_op hK hF
        u_op hK hF
        u_op hK hF
        u_op hK hF
        u_skip hK hF
        u_skip hK hF
        u_skip hK hF
        u_op hK hF
        u_c stepG_region_end hK hF
        u_cond true hK hF
        u_c stepG_ret' hK hF
        u_leave0 Try.func99 hK hF
        refine Goes.stop fun w₃ h₃ => ?_
        exact hT d _ (hK hF h₃)
      · have dz : decide ((c : Int) = 0) = false := decide_eq_false (by omega)
        have dz2 : ((c : Int) == 0) = false := by
          have : ¬ ((c : Int) = 0) := by omega
          simpa using this
        have hz : ¬ (((l + 2 * wo + 4 * s : Nat) : Int) = 0) := by omega
        generalize ((l + 2 * wo + 4 * s : Nat) : Int) = z at f7 hz
        have z1 : (z != 0) = true := by simpa using hz
        have z2 : decide (z = 0) = false := decide_eq_false hz
        refine crew.Goes.after (S₁ := fun g w => Goes Try.prog false (RT p [bi]) (DT p [bi]) (AtD p bi ix d (.lk .ue)) mT g w) (RT.refl (p := p) (ps := [bi])) (fun g w h => h) (m := 60) (n := mT) (dmono (D := DC0) (fun w w' es h => dt_of w w' es h) ?_) |>.mono (by omega)
        show Goes Try.prog false (RT p [bi]) DC0 _ _ _ _
        simp only [S99, lp99, body99, cT, opsOf, cL, cR, cB, Try.f99, Option.getD_some]
        u_c stepG_block hK hF
        u_c stepG_seq hK hF
        u_c stepG_seq hK hF
        u_reg hK hF
        u_op hK hF
        u_op hK hF
        u_op hK hF
        u_op hK hF
        u_op hK hF
        u_op hK hF
        u_op hK hF
        u_op hK hF
        u_c stepG_region_end hK hF
        u_cond true hK hF
        u_c stepG_ret' hK hF
        u_leave0 Try.func99 hK hF
        refine Goes.stop fun w₃ h₃ => ?_
        exact hT d _ (hK hF h₃)
end
end Go.Proofs.Ytdkbkocklnnmdaa.tog
