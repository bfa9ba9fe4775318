/-
  One of many at sync.Mutex's lockSlow: the loop's head, at every depth. Conditions: what is held of the world outlives the others' doing.
-/
import Derived.Test.YtdkbkocklnnmdaaTogLock3
set_option linter.unusedSimpArgs false
set_option linter.unusedVariables false
namespace Go.Proofs.Ytdkbkocklnnmdaa.tog
open Go Go.Conc Go.RowKit Go.ConcR.Gen Go.ConcN.Gen Go.Proofs.Ytdkbkocklnnmdaa.wg Go.Proofs.Ytdkbkocklnnmdaa.kid Go.Proofs.Ytdkbkocklnnmdaa.lock Go.Proofs.Ytdkbkocklnnmdaa.free
open Go.ConcR (KK WgAt stA smA rd wr mk DC0)
open Go.ConcN (WgLive RW AtR0)
open Go.Conc.Lib


section
variable {p : Tp} {bi ix : Nat} {K : World → Prop} {b₁ : Frame} {a₁ : Act} {ops₁ : Array Oper} {i₁ : Nat} {rest₁ : List Nat} {k₁ : List Item} {cs₁ : List Frame} {mT : Nat}

/-- Behind the question whether to spin. -/
theorem headC (hK : ∀ {w w₁ : World}, K w → RT p [bi] w w₁ → K w₁) (hC : ∀ {w : World}, K w → CLive p w)
    (hO : p.Ok) (hb : bi ≠ p.C) (hT : ∀ d w, K w → Goes Try.prog false (RT p [bi]) (DT p [bi]) (AtD p bi ix d .o2) mT (G (b₁.at (a₁.put ((ops₁[i₁]?).bind (·.dst)) (.tuple #[])) (.inRegion ops₁ rest₁ :: k₁)) cs₁) w) (hm : mT ≤ 300) (d : Nat) (IH : ∀ d' < d, Head p bi ix K b₁ a₁ ops₁ i₁ rest₁ k₁ cs₁ d') (o : Mst) (it : Nat) (aw sv : Bool) (ws : Int) (hs : Snap (.c2 o it aw sv ws)) (g : Goroutine)
    (hg : g = G ((base 97).at ⟨S97 p.C o it aw sv ws (fun k => g.frame.tmps.getD k undef), []⟩ [.code rest11, .inBlock 1, .inLoop lp97, .inBlock 0, .code tail97]) (b₁.at a₁ (.inRegion ops₁ (i₁ :: rest₁) :: k₁) :: cs₁)) (w : World) (hw : K w) :
    Goes Try.prog false (RT p [bi]) (DT p [bi]) (AtD p bi ix d (.lk (.c2 o it aw sv ws))) 140 g w := by
  obtain ⟨J, rfl⟩ : ∃ J, g = G ((base 97).at ⟨S97 p.C o it aw sv ws J, []⟩ [.code rest11, .inBlock 1, .inLoop lp97, .inBlock 0, .code tail97]) (b₁.at a₁ (.inRegion ops₁ (i₁ :: rest₁) :: k₁) :: cs₁) := ⟨_, hg⟩
  clear hg
  obtain ⟨l, wo, s, c⟩ := o
  simp only [Snap, Mst.Ok] at hs
  obtain ⟨⟨h1, h2, h3, h4⟩, h5, h6, h7⟩ := hs
  have hl : l = 0 ∨ l = 1 := by omega
  have hs : s = 0 ∨ s = 1 := by omega
  cases aw with
  | true =>
    obtain ⟨rfl, rfl⟩ := h6 rfl
    cases sv with
    | true =>
      rcases hl with rfl | rfl
      · exact c2g hK hC hO hb hT hm d IH c h4 it ws J w hw
      · exact c2h hK hC hO hb hT hm d IH c h4 it ws J w hw
    | false =>
      rcases hl with rfl | rfl
      · exact c2e hK hC hO hb hT hm d IH c h4 it ws J w hw
      · exact c2f hK hC hO hb hT hm d IH c h4 it ws J w hw
  | false =>
    cases sv with
    | true => exact absurd (h7 rfl) (by simp)
    | false =>
      rcases hl with rfl | rfl <;> rcases hs with rfl | rfl
      · exact c2a hK hC hO hb hT hm d IH wo h2 c h4 it ws J w hw
      · exact c2c hK hC hO hb hT hm d IH wo h2 c h4 it ws J w hw
      · exact c2b hK hC hO hb hT hm d IH wo h2 c h4 it ws J w hw
      · exact c2d hK hC hO hb hT hm d IH wo h2 c h4 it ws J w hw

set_option maxRecDepth 100000 in
set_option maxHeartbeats 64000000 in
/-- The loop's head where there is no question of spinning. -/
theorem headN (hK : ∀ {w w₁ : World}, K w → RT p [bi] w w₁ → K w₁) (hC : ∀ {w : World}, K w → CLive p w)
    (hO : p.Ok) (hb : bi ≠ p.C) (hT : ∀ d w, K w → Goes Try.prog false (RT p [bi]) (DT p [bi]) (AtD p bi ix d .o2) mT (G (b₁.at (a₁.put ((ops₁[i₁]?).bind (·.dst)) (.tuple #[])) (.inRegion ops₁ rest₁ :: k₁)) cs₁) w) (hm : mT ≤ 300) (d : Nat) (IH : ∀ d' < d, Head p bi ix K b₁ a₁ ops₁ i₁ rest₁ k₁ cs₁ d') (o : Mst) (it : Nat) (aw sv : Bool) (ws : Int) (hno : ¬ (o.l = 1 ∧ o.s = 0)) (hs : Snap (.c2 o it aw sv ws)) (J : Nat → Value) (w : World) (hF : K w) :
    Goes Try.prog false (RT p [bi]) (DT p [bi]) (AtD p bi ix d (.lk (.c2 o it aw sv ws))) 200
      (G ((base 97).at ⟨S97 p.C o it aw sv ws J, []⟩ [.code lp97, .inLoop lp97, .inBlock 0, .code tail97]) (b₁.at a₁ (.inRegion ops₁ (i₁ :: rest₁) :: k₁) :: cs₁)) w := by
  obtain ⟨l, wo, s, c⟩ := o
  have ho := hs
  simp only [Snap, Mst.Ok] at ho hno
  have f5 : bits .and .i32 (Mst.enc ⟨l, wo, s, c⟩) 5 = ((l + 4 * s : Nat) : Int) := enc_and5 (by omega) (by omega) (by omega) (by omega)
  have fe : (((l + 4 * s : Nat) : Int) == 1) = false := by
    have : ¬ (((l + 4 * s : Nat) : Int) = 1) := by omega
    simpa using this
  have fd : decide (((l + 4 * s : Nat) : Int) = 1) = false := decide_eq_false (by omega)
  generalize ((l + 4 * s : Nat) : Int) = z at f5 fe fd
  refine crew.Goes.after (S₁ := fun g w => Goes Try.prog false (RT p [bi]) (DT p [bi]) (AtD p bi ix d (.lk (.c2 ⟨l, wo, s, c⟩ it aw sv ws))) 140 g w) (RT.refl (p := p) (ps := [bi])) (fun g w h => h) (m := 60) (n := 140) (dmono (D := DC0) (fun w w' es h => dt_of w w' es h) ?_) |>.mono (by omega)
  show Goes Try.prog false (RT p [bi]) DC0 _ _ _ _
  simp only [S97, restR, restV, restS, restQ, cT, opsOf, rest11, in97, lp97, tail97, c97, body97, cL, cR, cB, Try.f97, Option.getD_some]
  u_c stepG_block hK hF
  u_c stepG_seq hK hF
  u_c stepG_seq hK hF
  u_reg hK hF
  u_op hK hF
  u_op hK hF
  u_op hK hF
  u_op hK hF
  u_skip hK hF
  u_skip hK hF
  u_op hK hF
  u_c stepG_region_end hK hF
  u_cond false hK hF
  u_c stepG_skip hK hF
  refine Goes.stop fun w₃ h₃ => ?_
  refine headC hK hC hO hb hT hm d IH ⟨l, wo, s, c⟩ it aw sv ws hs _ ?_ _ (hK hF h₃)
  simp only [S97, restR, restV, restS, restQ, cT, opsOf, rest11, in97, lp97, tail97, c97, body97, cL, cR, cB, Try.f97, Option.getD_some]
  rfl

theorem x101 : (Try.f101.name == "runtime.NumGoroutine") = false ∧ Try.f101.body.isNone = true ∧ Extern.findNext Try.f101 = none := ⟨by kernel_rfl, by kernel_rfl, by kernel_rfl⟩
theorem e101 : Extern.find Try.f101 = some (fun _ => pure (.tuple #[])) := by kernel_rfl
set_option maxRecDepth 100000 in
set_option maxHeartbeats 64000000 in
/-- The loop's head where it may spin. -/
theorem headP (hK : ∀ {w w₁ : World}, K w → RT p [bi] w w₁ → K w₁) (hC : ∀ {w : World}, K w → CLive p w)
    (hO : p.Ok) (hb : bi ≠ p.C) (hT : ∀ d w, K w → Goes Try.prog false (RT p [bi]) (DT p [bi]) (AtD p bi ix d .o2) mT (G (b₁.at (a₁.put ((ops₁[i₁]?).bind (·.dst)) (.tuple #[])) (.inRegion ops₁ rest₁ :: k₁)) cs₁) w) (hm : mT ≤ 300) (d : Nat) (IH : ∀ d' < d, Head p bi ix K b₁ a₁ ops₁ i₁ rest₁ k₁ cs₁ d') (wo c : Nat) (it : Nat) (aw sv : Bool) (ws : Int) (hsn : Snap (.sq ⟨1, wo, 0, c⟩ it aw sv ws)) (J : Nat → Value) (w : World) (hF : K w) :
    Goes Try.prog false (RT p [bi]) (DT p [bi]) (AtD p bi ix d (.lk (.sq ⟨1, wo, 0, c⟩ it aw sv ws))) 200
      (G ((base 97).at ⟨S97 p.C ⟨1, wo, 0, c⟩ it aw sv ws J, []⟩ [.code lp97, .inLoop lp97, .inBlock 0, .code tail97]) (b₁.at a₁ (.inRegion ops₁ (i₁ :: rest₁) :: k₁) :: cs₁)) w := by
  have ho := hsn
  simp only [Snap, Mst.Ok] at ho
  have hs2 : Snap (.c2 ⟨1, wo, 0, c⟩ it aw sv ws) := ⟨hsn.1, ho.2.1, fun e => ⟨ho.2.2.2.2.1 e, rfl⟩, ho.2.2.2.2.2⟩
  have f5 : bits .and .i32 (Mst.enc ⟨1, wo, 0, c⟩) 5 = 1 := enc_and5 (by omega) (by omega) (by omega) (by omega)
  refine dmono (D := DC0) (fun w w' es h => dt_of w w' es h) ?_
  simp only [S97, restR, restV, restS, restQ, cT, opsOf, rest11, in97, lp97, tail97, c97, body97, cL, cR, cB, Try.f97, Option.getD_some]
  u_c stepG_block hK hF
  u_c stepG_seq hK hF
  u_c stepG_seq hK hF
  u_reg hK hF
  u_op hK hF
  u_op hK hF
  u_op hK hF
  u_op hK hF
  u_op hK hF
  refine Goes.stop fun w1 h1 => ?_
  replace hF := hK hF h1
  clear h1
  rcases d with _ | d
  · trivial
  refine ⟨rfl, rfl, fun w' es s' hn => ?_, fun _ _ e => by (cases e), fun _ e => by (cases e), fun _ e => by (cases e)⟩
  cases hn with
  | sqno _ _ _ _ _ _ h4 =>
    refine ⟨_, stepG_canSpin_no rfl rfl (by k_ne) rfl Try.func100 x100.1 x100.2.1 x100.2.2 e100 (k := .i64) (n := it) (by simp [Act.eval]) (by omega), rfl, ?_⟩
    refine crew.Goes.after (S₁ := fun g w => Goes Try.prog false (RT p [bi]) (DT p [bi]) (AtD p bi ix d (.lk (.c2 ⟨1, wo, 0, c⟩ it aw sv ws))) 140 g w) (RT.refl (p := p) (ps := [bi])) (fun g w h => h) (m := 60) (n := 140) (dmono (D := DC0) (fun w w' es h => dt_of w w' es h) ?_) |>.mono (by omega)
    walk_nrm
    show Goes Try.prog false (RT p [bi]) DC0 _ _ _ _
    u_op hK hF
    u_c stepG_region_end hK hF
    u_cond false hK hF
    u_c stepG_skip hK hF
    refine Goes.stop fun w₃ h₃ => ?_
    refine headC hK hC hO hb hT hm d (fun d' h' => IH d' (by omega)) ⟨1, wo, 0, c⟩ it aw sv ws hs2 _ ?_ _ (hK hF h₃)
    simp only [S97, restR, restV, restS, restQ, cT, opsOf, rest11, in97, lp97, tail97, c97, body97, cL, cR, cB, Try.f97, Option.getD_some]
    rfl
  | sqgo _ _ _ _ _ _ h4 hsp =>
    refine ⟨_, stepG_canSpin_ask rfl rfl (by k_ne) rfl Try.func100 x100.1 x100.2.1 x100.2.2 e100 (k := .i64) (n := it) (by simp [Act.eval]) (by omega), rfl, ?_⟩
    rw [hsp]
    replace hF := hK hF (RT.asked _)
    refine crew.Goes.after (S₁ := fun g w => Goes Try.prog false (RT p [bi]) (DT p [bi]) (AtD p bi ix d (.lk (.c2 ⟨1, wo, 0, c⟩ it aw sv ws))) 140 g w) (RT.refl (p := p) (ps := [bi])) (fun g w h => h) (m := 60) (n := 140) (dmono (D := DC0) (fun w w' es h => dt_of w w' es h) ?_) |>.mono (by omega)
    walk_nrm
    show Goes Try.prog false (RT p [bi]) DC0 _ _ _ _
    u_op hK hF
    u_c stepG_region_end hK hF
    u_cond false hK hF
    u_c stepG_skip hK hF
    refine Goes.stop fun w₃ h₃ => ?_
    refine headC hK hC hO hb hT hm d (fun d' h' => IH d' (by omega)) ⟨1, wo, 0, c⟩ it aw sv ws hs2 _ ?_ _ (hK hF h₃)
    simp only [S97, restR, restV, restS, restQ, cT, opsOf, rest11, in97, lp97, tail97, c97, body97, cL, cR, cB, Try.f97, Option.getD_some]
    rfl
  | sqspin _ _ _ _ _ _ h4 hsp hno =>
    refine ⟨_, stepG_canSpin_ask rfl rfl (by k_ne) rfl Try.func100 x100.1 x100.2.1 x100.2.2 e100 (k := .i64) (n := it) (by simp [Act.eval]) (by omega), rfl, ?_⟩
    rw [hsp]
    replace hF := hK hF (RT.asked _)
    have ew : IntKind.i64.wrap ((it : Int) + 1) = (it : Int) + 1 := by rw [IntKind.wrap_i64]; omega
    have ec : ((it + 1 : Nat) : Int) = (it : Int) + 1 := by omega
    clear hsp
    cases aw with
    | true =>
      refine dmono (D := DC0) (fun w w' es h => dt_of w w' es h) ?_
      walk_nrm
      show Goes Try.prog false (RT p [bi]) DC0 _ _ _ _
      u_op hK hF
      u_c stepG_region_end hK hF
      u_cond true hK hF
      u_c stepG_seq hK hF
      u_c stepG_seq hK hF
      u_reg hK hF
      u_op hK hF
      u_op hK hF
      u_op hK hF
      u_skip hK hF
      u_skip hK hF
      u_skip hK hF
      u_op hK hF
      u_op hK hF
      u_skip hK hF
      u_skip hK hF
      u_skip hK hF
      u_op hK hF
      u_op hK hF
      u_skip hK hF
      u_skip hK hF
      u_skip hK hF
      u_skip hK hF
      u_skip hK hF
      u_skip hK hF
      u_skip hK hF
      u_op hK hF
      u_c stepG_region_end hK hF
      u_cond false hK hF
      u_c stepG_skip hK hF
      u_c stepG_seq hK hF
      u_reg hK hF
      u_in hK hF
      rw [stepG_entry_pure (.tuple #[]) rfl rfl (by k_ne) rfl Try.func101 x101.1 x101.2.1 x101.2.2 e101]
      simp only [goes_go]
      refine ⟨by u_nil, ?_⟩
      walk_nrm
      u_c stepG_region_end hK hF
      u_c stepG_seq hK hF
      u_reg hK hF
      u_op hK hF
      u_op hK hF
      u_op hK hF
      u_c stepG_region_end hK hF
      u_c stepG_seq hK hF
      u_reg hK hF
      u_op hK hF
      u_op hK hF
      u_op hK hF
      refine Goes.stop fun w2 h2 => ?_
      replace hF := hK hF h2
      clear h2
      rcases d with _ | d
      · trivial
      refine ⟨rfl, rfl, fun w' es s' hn => ?_, fun _ _ e => by (cases e), fun _ e => by (cases e), fun _ e => by (cases e)⟩
      cases hn with
      | r1 c' _ _ _ _ hc hi hs =>
        refine ⟨_, stepG_loadQ rfl rfl (by k_ne) rfl rfl (cs1 hc) q97, rfl, ?_⟩
        have hH := headLit (IH d (by omega))
        clear hc
        generalize c'.m = mm at *
        refine crew.Goes.after (S₁ := fun g w => Goes Try.prog false (RT p [bi]) (DT p [bi]) (AtD p bi ix d (.lk (hd mm (it + 1) true sv ws))) 200 g w) (RT.refl (p := p) (ps := [bi])) (fun g w h => h) (m := 60) (n := 200) (dmono (D := DC0) (fun w w' es h => dt_of w w' es h) ?_) |>.mono (by omega)
        walk_nrm
        show Goes Try.prog false (RT p [bi]) DC0 _ _ _ _
        u_op hK hF
        u_c stepG_region_end hK hF
        u_exit hK hF
        u_c stepG_inLoop hK hF
        refine Goes.stop fun w₃ h₃ => ?_
        refine hH _ mm (it + 1) true sv ws hs ?_ _ (hK hF h₃)
        simp only [ec]
        simp only [S97, restR, restV, restS, restQ, cT, opsOf, rest11, in97, lp97, tail97, c97, body97, cL, cR, cB, Try.f97, Option.getD_some]
        rfl
    | false =>
      rcases (by omega : wo = 0 ∨ wo = 1) with rfl | rfl
      · obtain rfl : c = 0 := by
          rcases Nat.eq_zero_or_pos c with h | h
          · exact h
          · exact absurd ⟨rfl, rfl, h⟩ hno
        have f2 : bits .and .i32 (Mst.enc ⟨1, 0, 0, 0⟩) 2 = 0 := enc_and2 (by omega) (by omega) (by omega) (by omega)
        have fd : Mst.enc ⟨1, 0, 0, 0⟩ / 8 = ((0 : Nat) : Int) := enc_div8 (by omega) (by omega) (by omega) (by omega)
        have fd' : Mst.enc ⟨1, 0, 0, 0⟩ / 8 = 0 := fd
        clear fd
        refine dmono (D := DC0) (fun w w' es h => dt_of w w' es h) ?_
        walk_nrm
        show Goes Try.prog false (RT p [bi]) DC0 _ _ _ _
        u_op hK hF
        u_c stepG_region_end hK hF
        u_cond true hK hF
        u_c stepG_seq hK hF
        u_c stepG_seq hK hF
        u_reg hK hF
        u_op hK hF
        u_op hK hF
        u_op hK hF
        u_op hK hF
        u_op hK hF
        u_op hK hF
        u_op hK hF
        u_op hK hF
        u_op hK hF
        u_op hK hF
        u_op hK hF
        u_op hK hF
        u_op hK hF
        u_skip hK hF
        u_skip hK hF
        u_skip hK hF
        u_skip hK hF
        u_skip hK hF
        u_skip hK hF
        u_skip hK hF
        u_op hK hF
        u_c stepG_region_end hK hF
        u_cond false hK hF
        u_c stepG_skip hK hF
        u_c stepG_seq hK hF
        u_reg hK hF
        u_in hK hF
        rw [stepG_entry_pure (.tuple #[]) rfl rfl (by k_ne) rfl Try.func101 x101.1 x101.2.1 x101.2.2 e101]
        simp only [goes_go]
        refine ⟨by u_nil, ?_⟩
        walk_nrm
        u_c stepG_region_end hK hF
        u_c stepG_seq hK hF
        u_reg hK hF
        u_op hK hF
        u_op hK hF
        u_op hK hF
        u_c stepG_region_end hK hF
        u_c stepG_seq hK hF
        u_reg hK hF
        u_op hK hF
        u_op hK hF
        u_op hK hF
        refine Goes.stop fun w2 h2 => ?_
        replace hF := hK hF h2
        clear h2
        rcases d with _ | d
        · trivial
        refine ⟨rfl, rfl, fun w' es s' hn => ?_, fun _ _ e => by (cases e), fun _ e => by (cases e), fun _ e => by (cases e)⟩
        cases hn with
        | r1 c' _ _ _ _ hc hi hs =>
          refine ⟨_, stepG_loadQ rfl rfl (by k_ne) rfl rfl (cs1 hc) q97, rfl, ?_⟩
          have hH := headLit (IH d (by omega))
          clear hc
          generalize c'.m = mm at *
          refine crew.Goes.after (S₁ := fun g w => Goes Try.prog false (RT p [bi]) (DT p [bi]) (AtD p bi ix d (.lk (hd mm (it + 1) false sv ws))) 200 g w) (RT.refl (p := p) (ps := [bi])) (fun g w h => h) (m := 60) (n := 200) (dmono (D := DC0) (fun w w' es h => dt_of w w' es h) ?_) |>.mono (by omega)
          walk_nrm
          show Goes Try.prog false (RT p [bi]) DC0 _ _ _ _
          u_op hK hF
          u_c stepG_region_end hK hF
          u_exit hK hF
          u_c stepG_inLoop hK hF
          refine Goes.stop fun w₃ h₃ => ?_
          refine hH _ mm (it + 1) false sv ws hs ?_ _ (hK hF h₃)
          simp only [ec]
          simp only [S97, restR, restV, restS, restQ, cT, opsOf, rest11, in97, lp97, tail97, c97, body97, cL, cR, cB, Try.f97, Option.getD_some]
          rfl
      · have f2 : bits .and .i32 (Mst.enc ⟨1, 1, 0, c⟩) 2 = 2 := enc_and2 (by omega) (by omega) (by omega) (by omega)
        refine dmono (D := DC0) (fun w w' es h => dt_of w w' es h) ?_
        walk_nrm
        show Goes Try.prog false (RT p [bi]) DC0 _ _ _ _
        u_op hK hF
        u_c stepG_region_end hK hF
        u_cond true hK hF
        u_c stepG_seq hK hF
        u_c stepG_seq hK hF
        u_reg hK hF
        u_op hK hF
        u_op hK hF
        u_op hK hF
        u_op hK hF
        u_op hK hF
        u_op hK hF
        u_op hK hF
        u_op hK hF
        u_skip hK hF
        u_skip hK hF
        u_skip hK hF
        u_op hK hF
        u_op hK hF
        u_skip hK hF
        u_skip hK hF
        u_skip hK hF
        u_skip hK hF
        u_skip hK hF
        u_skip hK hF
        u_skip hK hF
        u_op hK hF
        u_c stepG_region_end hK hF
        u_cond false hK hF
        u_c stepG_skip hK hF
        u_c stepG_seq hK hF
        u_reg hK hF
        u_in hK hF
        rw [stepG_entry_pure (.tuple #[]) rfl rfl (by k_ne) rfl Try.func101 x101.1 x101.2.1 x101.2.2 e101]
        simp only [goes_go]
        refine ⟨by u_nil, ?_⟩
        walk_nrm
        u_c stepG_region_end hK hF
        u_c stepG_seq hK hF
        u_reg hK hF
        u_op hK hF
        u_op hK hF
        u_op hK hF
        u_c stepG_region_end hK hF
        u_c stepG_seq hK hF
        u_reg hK hF
        u_op hK hF
        u_op hK hF
        u_op hK hF
        refine Goes.stop fun w2 h2 => ?_
        replace hF := hK hF h2
        clear h2
        rcases d with _ | d
        · trivial
        refine ⟨rfl, rfl, fun w' es s' hn => ?_, fun _ _ e => by (cases e), fun _ e => by (cases e), fun _ e => by (cases e)⟩
        cases hn with
        | r1 c' _ _ _ _ hc hi hs =>
          refine ⟨_, stepG_loadQ rfl rfl (by k_ne) rfl rfl (cs1 hc) q97, rfl, ?_⟩
          have hH := headLit (IH d (by omega))
          clear hc
          generalize c'.m = mm at *
          refine crew.Goes.after (S₁ := fun g w => Goes Try.prog false (RT p [bi]) (DT p [bi]) (AtD p bi ix d (.lk (hd mm (it + 1) false sv ws))) 200 g w) (RT.refl (p := p) (ps := [bi])) (fun g w h => h) (m := 60) (n := 200) (dmono (D := DC0) (fun w w' es h => dt_of w w' es h) ?_) |>.mono (by omega)
          walk_nrm
          show Goes Try.prog false (RT p [bi]) DC0 _ _ _ _
          u_op hK hF
          u_c stepG_region_end hK hF
          u_exit hK hF
          u_c stepG_inLoop hK hF
          refine Goes.stop fun w₃ h₃ => ?_
          refine hH _ mm (it + 1) false sv ws hs ?_ _ (hK hF h₃)
          simp only [ec]
          simp only [S97, restR, restV, restS, restQ, cT, opsOf, rest11, in97, lp97, tail97, c97, body97, cL, cR, cB, Try.f97, Option.getD_some]
          rfl
  | sqc1 _ _ _ _ h4 hsp hw0 hc0 =>
    simp only at hw0 hc0
    subst hw0
    refine ⟨_, stepG_canSpin_ask rfl rfl (by k_ne) rfl Try.func100 x100.1 x100.2.1 x100.2.2 e100 (k := .i64) (n := it) (by simp [Act.eval]) (by omega), rfl, ?_⟩
    rw [hsp]
    replace hF := hK hF (RT.asked _)
    have ew : IntKind.i64.wrap ((it : Int) + 1) = (it : Int) + 1 := by rw [IntKind.wrap_i64]; omega
    have ec : ((it + 1 : Nat) : Int) = (it : Int) + 1 := by omega
    have f2 : bits .and .i32 (Mst.enc ⟨1, 0, 0, c⟩) 2 = 0 := enc_and2 (by omega) (by omega) (by omega) (by omega)
    have fd : Mst.enc ⟨1, 0, 0, c⟩ / 8 = (c : Int) := enc_div8 (by omega) (by omega) (by omega) (by omega)
    have g2 : bits .or .i32 (Mst.enc ⟨1, 0, 0, c⟩) 2 = Mst.enc ⟨1, 1, 0, c⟩ := enc_or2 (by omega) (by omega) (by omega) (by omega)
    have dz : decide ((c : Int) = 0) = false := decide_eq_false (by omega)
    have dz2 : ((c : Int) == 0) = false := by
      have : ¬ ((c : Int) = 0) := by omega
      simpa using this
    have dz3 : ((c : Int) != 0) = true := by
      have : ¬ ((c : Int) = 0) := by omega
      simpa using this
    have dzn : decide (c = 0) = false := decide_eq_false (by omega)
    have hmok : (Mst.Ok ⟨1, 0, 0, c⟩) := ho.1
    clear hsp
    refine dmono (D := DC0) (fun w w' es h => dt_of w w' es h) ?_
    walk_nrm
    show Goes Try.prog false (RT p [bi]) DC0 _ _ _ _
    u_op hK hF
    u_c stepG_region_end hK hF
    u_cond true hK hF
    u_c stepG_seq hK hF
    u_c stepG_seq hK hF
    u_reg hK hF
    u_op hK hF
    u_op hK hF
    u_op hK hF
    u_op hK hF
    u_op hK hF
    u_op hK hF
    u_op hK hF
    u_op hK hF
    u_op hK hF
    u_op hK hF
    u_op hK hF
    u_op hK hF
    u_op hK hF
    u_op hK hF
    u_op hK hF
    u_op hK hF
    u_op hK hF
    u_op hK hF
    u_op hK hF
    refine Goes.stop fun w2 h2 => ?_
    replace hF := hK hF h2
    clear h2
    rcases d with _ | d
    · trivial
    refine ⟨rfl, rfl, fun w' es s' hn => ?_, fun _ _ e => by (cases e), fun _ e => by (cases e), fun _ e => by (cases e)⟩
    generalize hol : (⟨1, 0, 0, c⟩ : Mst) = oo at hn
    cases hn with
    | c1hit c' _ _ _ hc hs e =>
      subst hol
      have hs1 := set1 hc ⟨1, 1, 0, c⟩
      have h1 := cs1 hc
      rw [e] at h1
      refine ⟨_, stepG_cas_hit rfl rfl (by k_ne) rfl Try.func96 x96.1 x96.2.1 x96.2.2 .i32 e96 rfl rfl rfl h1 (csz hc 1), rfl, ?_⟩
      replace hF := hK hF (RT.own hO (by simpa using hb) hs1)
      clear hs1 hc h1 e hs
      refine dmono (D := DC0) (fun w w' es h => dt_of w w' es h) ?_
      walk_nrm
      show Goes Try.prog false (RT p [bi]) DC0 _ _ _ _
      u_op hK hF
      u_c stepG_region_end hK hF
      u_cond true hK hF
      u_reg hK hF
      u_op hK hF
      u_c stepG_region_end hK hF
      u_c stepG_seq hK hF
      u_reg hK hF
      u_in hK hF
      rw [stepG_entry_pure (.tuple #[]) rfl rfl (by k_ne) rfl Try.func101 x101.1 x101.2.1 x101.2.2 e101]
      simp only [goes_go]
      refine ⟨by u_nil, ?_⟩
      walk_nrm
      u_c stepG_region_end hK hF
      u_c stepG_seq hK hF
      u_reg hK hF
      u_op hK hF
      u_op hK hF
      u_op hK hF
      u_c stepG_region_end hK hF
      u_c stepG_seq hK hF
      u_reg hK hF
      u_op hK hF
      u_op hK hF
      u_op hK hF
      refine Goes.stop fun w3 h3 => ?_
      replace hF := hK hF h3
      clear h3
      rcases d with _ | d
      · trivial
      refine ⟨rfl, rfl, fun w' es s' hn => ?_, fun _ _ e => by (cases e), fun _ e => by (cases e), fun _ e => by (cases e)⟩
      cases hn with
      | r1 c' _ _ _ _ hc hi hs =>
        refine ⟨_, stepG_loadQ rfl rfl (by k_ne) rfl rfl (cs1 hc) q97, rfl, ?_⟩
        have hH := headLit (IH d (by omega))
        clear hc
        generalize c'.m = mm at *
        refine crew.Goes.after (S₁ := fun g w => Goes Try.prog false (RT p [bi]) (DT p [bi]) (AtD p bi ix d (.lk (hd mm (it + 1) true false ws))) 200 g w) (RT.refl (p := p) (ps := [bi])) (fun g w h => h) (m := 60) (n := 200) (dmono (D := DC0) (fun w w' es h => dt_of w w' es h) ?_) |>.mono (by omega)
        walk_nrm
        show Goes Try.prog false (RT p [bi]) DC0 _ _ _ _
        u_op hK hF
        u_c stepG_region_end hK hF
        u_exit hK hF
        u_c stepG_inLoop hK hF
        refine Goes.stop fun w₃ h₃ => ?_
        refine hH _ mm (it + 1) true false ws hs ?_ _ (hK hF h₃)
        simp only [ec]
        simp only [S97, restR, restV, restS, restQ, cT, opsOf, rest11, in97, lp97, tail97, c97, body97, cL, cR, cB, Try.f97, Option.getD_some]
        rfl
    | c1miss c' _ _ _ hc ho' hs e =>
      subst hol
      have hne : c'.m.enc ≠ Mst.enc ⟨1, 0, 0, c⟩ := fun h => e (Mst.inj ho' hs.1 h)
      refine ⟨_, stepG_cas_miss rfl rfl (by k_ne) rfl Try.func96 x96.1 x96.2.1 x96.2.2 .i32 e96 rfl rfl rfl (cs1 hc) (csz hc 1) hne, rfl, ?_⟩
      clear hc ho' hne e hs
      refine dmono (D := DC0) (fun w w' es h => dt_of w w' es h) ?_
      walk_nrm
      show Goes Try.prog false (RT p [bi]) DC0 _ _ _ _
      u_op hK hF
      u_c stepG_region_end hK hF
      u_cond false hK hF
      u_c stepG_skip hK hF
      u_c stepG_seq hK hF
      u_reg hK hF
      u_in hK hF
      rw [stepG_entry_pure (.tuple #[]) rfl rfl (by k_ne) rfl Try.func101 x101.1 x101.2.1 x101.2.2 e101]
      simp only [goes_go]
      refine ⟨by u_nil, ?_⟩
      walk_nrm
      u_c stepG_region_end hK hF
      u_c stepG_seq hK hF
      u_reg hK hF
      u_op hK hF
      u_op hK hF
      u_op hK hF
      u_c stepG_region_end hK hF
      u_c stepG_seq hK hF
      u_reg hK hF
      u_op hK hF
      u_op hK hF
      u_op hK hF
      refine Goes.stop fun w3 h3 => ?_
      replace hF := hK hF h3
      clear h3
      rcases d with _ | d
      · trivial
      refine ⟨rfl, rfl, fun w' es s' hn => ?_, fun _ _ e => by (cases e), fun _ e => by (cases e), fun _ e => by (cases e)⟩
      cases hn with
      | r1 c' _ _ _ _ hc hi hs =>
        refine ⟨_, stepG_loadQ rfl rfl (by k_ne) rfl rfl (cs1 hc) q97, rfl, ?_⟩
        have hH := headLit (IH d (by omega))
        clear hc
        generalize c'.m = mm at *
        refine crew.Goes.after (S₁ := fun g w => Goes Try.prog false (RT p [bi]) (DT p [bi]) (AtD p bi ix d (.lk (hd mm (it + 1) false false ws))) 200 g w) (RT.refl (p := p) (ps := [bi])) (fun g w h => h) (m := 60) (n := 200) (dmono (D := DC0) (fun w w' es h => dt_of w w' es h) ?_) |>.mono (by omega)
        walk_nrm
        show Goes Try.prog false (RT p [bi]) DC0 _ _ _ _
        u_op hK hF
        u_c stepG_region_end hK hF
        u_exit hK hF
        u_c stepG_inLoop hK hF
        refine Goes.stop fun w₃ h₃ => ?_
        refine hH _ mm (it + 1) false false ws hs ?_ _ (hK hF h₃)
        simp only [ec]
        simp only [S97, restR, restV, restS, restQ, cT, opsOf, rest11, in97, lp97, tail97, c97, body97, cL, cR, cB, Try.f97, Option.getD_some]
        rfl

/-- The loop's head, at every depth. -/
theorem head (hK : ∀ {w w₁ : World}, K w → RT p [bi] w w₁ → K w₁) (hC : ∀ {w : World}, K w → CLive p w)
    (hO : p.Ok) (hb : bi ≠ p.C) (hT : ∀ d w, K w → Goes Try.prog false (RT p [bi]) (DT p [bi]) (AtD p bi ix d .o2) mT (G (b₁.at (a₁.put ((ops₁[i₁]?).bind (·.dst)) (.tuple #[])) (.inRegion ops₁ rest₁ :: k₁)) cs₁) w) (hm : mT ≤ 300) : ∀ d, Head p bi ix K b₁ a₁ ops₁ i₁ rest₁ k₁ cs₁ d := by
  intro d
  induction d using Nat.strongRecOn with
  | _ d IH =>
    intro o it aw sv ws hs J w hw
    obtain ⟨l, wo, s, c⟩ := o
    by_cases h : l = 1 ∧ s = 0
    · obtain ⟨rfl, rfl⟩ := h
      have e : hd ⟨1, wo, 0, c⟩ it aw sv ws = .sq ⟨1, wo, 0, c⟩ it aw sv ws := by unfold hd; rw [if_pos ⟨rfl, rfl⟩]
      rw [e] at hs ⊢
      exact headP hK hC hO hb hT hm d IH wo c it aw sv ws hs J w hw
    · have e : hd ⟨l, wo, s, c⟩ it aw sv ws = .c2 ⟨l, wo, s, c⟩ it aw sv ws := by unfold hd; rw [if_neg h]
      rw [e] at hs ⊢
      exact headN hK hC hO hb hT hm d IH ⟨l, wo, s, c⟩ it aw sv ws h hs J w hw
end
end Go.Proofs.Ytdkbkocklnnmdaa.tog
