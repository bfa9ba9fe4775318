/-
  One of many at sync.Mutex's lockSlow: the word that is to be laid, and the CompareAndSwap. Conditions: what is held of the world outlives the others' doing.
-/
import Derived.Test.YtdkbkocklnnmdaaTogLock2
set_option linter.unusedSimpArgs false
set_option linter.unusedVariables false
namespace Go.Proofs.Ytdkbkocklnnmdaa.tog
open Go Go.Conc Go.RowKit Go.ConcR.Gen Go.ConcN.Gen Go.Proofs.Ytdkbkocklnnmdaa.wg Go.Proofs.Ytdkbkocklnnmdaa.kid Go.Proofs.Ytdkbkocklnnmdaa.lock Go.Proofs.Ytdkbkocklnnmdaa.free
open Go.ConcR (KK WgAt stA smA rd wr mk DC0)
open Go.ConcN (WgLive RW AtR0)
open Go.Conc.Lib


section
variable {p : Tp} {bi ix : Nat} {K : World → Prop} {b₁ : Frame} {a₁ : Act} {ops₁ : Array Oper} {i₁ : Nat} {rest₁ : List Nat} {k₁ : List Item} {cs₁ : List Frame} {mT : Nat}

theorem headQLit (hK : ∀ {w w₁ : World}, K w → RT p [bi] w w₁ → K w₁) (hC : ∀ {w : World}, K w → CLive p w)
    (hO : p.Ok) (hb : bi ≠ p.C) (hT : ∀ d w, K w → Goes Try.prog false (RT p [bi]) (DT p [bi]) (AtD p bi ix d .o2) mT (G (b₁.at (a₁.put ((ops₁[i₁]?).bind (·.dst)) (.tuple #[])) (.inRegion ops₁ rest₁ :: k₁)) cs₁) w) (hm : mT ≤ 300) (d : Nat) (IH : ∀ d' < d, Head p bi ix K b₁ a₁ ops₁ i₁ rest₁ k₁ cs₁ d') (g : Goroutine) (o : Mst) (it : Int) (aw sv : Bool) (ws : Int) (hg : g = G ((base 97).at ⟨S97 p.C o it aw sv ws (fun k => g.frame.tmps.getD k undef), []⟩ [.code restQ, .inBlock 1, .inLoop lp97, .inBlock 0, .code tail97]) (b₁.at a₁ (.inRegion ops₁ (i₁ :: rest₁) :: k₁) :: cs₁)) (w : World) (hw : K w) :
    Goes Try.prog false (RT p [bi]) (DT p [bi]) (AtD p bi ix d (.lk (if ws = 0 then .t1 sv else .s1 sv ws))) 120 g w := by
  obtain ⟨J, rfl⟩ : ∃ J, g = G ((base 97).at ⟨S97 p.C o it aw sv ws J, []⟩ [.code restQ, .inBlock 1, .inLoop lp97, .inBlock 0, .code tail97]) (b₁.at a₁ (.inRegion ops₁ (i₁ :: rest₁) :: k₁) :: cs₁) := ⟨_, hg⟩
  exact headQ hK hC hO hb hT hm d IH o it aw sv ws J w hw

set_option maxRecDepth 100000 in
set_option maxHeartbeats 64000000 in
theorem c2a (hK : ∀ {w w₁ : World}, K w → RT p [bi] w w₁ → K w₁) (hC : ∀ {w : World}, K w → CLive p w)
    (hO : p.Ok) (hb : bi ≠ p.C) (hT : ∀ d w, K w → Goes Try.prog false (RT p [bi]) (DT p [bi]) (AtD p bi ix d .o2) mT (G (b₁.at (a₁.put ((ops₁[i₁]?).bind (·.dst)) (.tuple #[])) (.inRegion ops₁ rest₁ :: k₁)) cs₁) w) (hm : mT ≤ 300) :
    ∀ d, (∀ d' < d, Head p bi ix K b₁ a₁ ops₁ i₁ rest₁ k₁ cs₁ d') → ∀ (w : Nat) (hw : w ≤ 1) (c : Nat) (hc : c ≤ 1048576) (it : Nat) (ws : Int) (J : Nat → Value) wl, K wl → Goes Try.prog false (RT p [bi]) (DT p [bi]) (AtD p bi ix d (.lk (.c2 ⟨0, w, 0, c⟩ it false false ws))) 140
      (G ((base 97).at ⟨S97 p.C ⟨0, w, 0, c⟩ it false false ws J, []⟩ [.code rest11, .inBlock 1, .inLoop lp97, .inBlock 0, .code tail97]) (b₁.at a₁ (.inRegion ops₁ (i₁ :: rest₁) :: k₁) :: cs₁)) wl := by
  intro d IH w hw c hcc it ws J wl hF
  simp only [S97, restR, restV, restS, restQ, cT, opsOf, rest11, in97, lp97, tail97, c97, body97, cL, cR, cB, Try.f97, Option.getD_some]
  have f4 : bits .and .i32 (Mst.enc ⟨0, w, 0, c⟩) 4 = 0 := enc_and4 (by omega) (by omega) (by omega) (by omega)
  have f5 : bits .and .i32 (Mst.enc ⟨0, w, 0, c⟩) 5 = 0 := enc_and5 (by omega) (by omega) (by omega) (by omega)
  have f1 : bits .and .i32 (Mst.enc ⟨0, w, 0, c⟩) 1 = 0 := enc_and1 (by omega) (by omega) (by omega) (by omega)
  have g1 : bits .or .i32 (Mst.enc ⟨0, w, 0, c⟩) 1 = Mst.enc ⟨1, w, 0, c⟩ := enc_or1 (by omega) (by omega) (by omega) (by omega)
  have en : nw ⟨0, w, 0, c⟩ false false = ⟨1, w, 0, c⟩ := rfl
  have ex : nx ⟨0, w, 0, c⟩ false ws = .le := rfl
  refine dmono (D := DC0) (fun w w' es h => dt_of w w' es h) ?_
  show Goes Try.prog false (RT p [bi]) DC0 _ _ _ _
  u_c stepG_seq hK hF
  u_reg hK hF
  u_op hK hF
  u_op hK hF
  u_c stepG_region_end hK hF
  u_c stepG_seq hK hF
  u_c stepG_seq hK hF
  u_reg hK hF
  u_op hK hF
  u_op hK hF
  u_op hK hF
  u_c stepG_region_end hK hF
  u_cond true hK hF
  u_reg hK hF
  u_op hK hF
  u_op hK hF
  u_op hK hF
  u_c stepG_region_end hK hF
  u_c stepG_seq hK hF
  u_c stepG_seq hK hF
  u_reg hK hF
  u_op hK hF
  u_op hK hF
  u_op hK hF
  u_c stepG_region_end hK hF
  u_cond false hK hF
  u_c stepG_skip hK hF
  u_c stepG_seq hK hF
  u_c stepG_seq hK hF
  u_reg hK hF
  u_op hK hF
  u_op hK hF
  u_skip hK hF
  u_skip hK hF
  u_skip hK hF
  u_op hK hF
  u_c stepG_region_end hK hF
  u_cond false hK hF
  u_c stepG_skip hK hF
  u_c stepG_seq hK hF
  u_c stepG_seq hK hF
  u_reg hK hF
  u_op hK hF
  u_c stepG_region_end hK hF
  u_cond false hK hF
  u_c stepG_skip hK hF
  u_c stepG_seq hK hF
  u_reg hK hF
  u_op hK hF
  u_op hK hF
  u_op hK hF
  u_op hK hF
  u_op hK hF
  refine Goes.stop fun w1 h1 => ?_
  replace hF := hK hF h1
  clear h1
  rcases d with _ | d
  · trivial
  refine ⟨rfl, rfl, fun w' es s' hn => ?_, fun _ _ e => by (cases e), fun _ e => by (cases e), fun _ e => by (cases e)⟩
  generalize hol : (⟨0, w, 0, c⟩ : Mst) = oo at hn
  cases hn with
  | c2hit c' _ _ _ _ _ hc hs e =>
    subst hol
    have hs1 := set1 hc (nw ⟨0, w, 0, c⟩ false false)
    have h1 := cs1 hc
    rw [e] at h1
    rw [ex]
    rw [en] at hs1 ⊢
    refine ⟨_, stepG_cas_hit rfl rfl (by k_ne) rfl Try.func96 x96.1 x96.2.1 x96.2.2 .i32 e96 rfl rfl rfl h1 (csz hc 1), rfl, ?_⟩
    replace hF := hK hF (RT.own hO (by simpa using hb) hs1)
    clear hs1 hc h1 e hs
    refine crew.Goes.after (S₁ := fun g w => Goes Try.prog false (RT p [bi]) (DT p [bi]) (AtD p bi ix d (.lk .le)) 60 g w) (RT.refl (p := p) (ps := [bi])) (fun g w h => h) (m := 60) (n := 60) (dmono (D := DC0) (fun w w' es h => dt_of w w' es h) ?_) |>.mono (by omega)
    walk_nrm
    show Goes Try.prog false (RT p [bi]) DC0 _ _ _ _
    u_c stepG_region_end hK hF
    u_cond true hK hF
    u_c stepG_seq hK hF
    u_c stepG_seq hK hF
    u_reg hK hF
    u_op hK hF
    u_op hK hF
    u_op hK hF
    u_c stepG_region_end hK hF
    u_cond true hK hF
    u_exit hK hF
    u_cond true hK hF
    u_c stepG_seq hK hF
    u_reg hK hF
    refine Goes.stop fun w₃ h₃ => ?_
    refine tailLit hK hC hO hb hT hm d _ ⟨0, w, 0, c⟩ it false false ws ?_ _ (hK hF h₃)
    simp only [S97, restR, restV, restS, restQ, cT, opsOf, rest11, in97, lp97, tail97, c97, body97, cL, cR, cB, Try.f97, Option.getD_some]
    rfl
  | c2miss c' _ _ _ _ _ hc ho hs e =>
    subst hol
    have hne : c'.m.enc ≠ Mst.enc ⟨0, w, 0, c⟩ := fun h => e (Mst.inj ho hs.1 h)
    refine ⟨_, stepG_cas_miss rfl rfl (by k_ne) rfl Try.func96 x96.1 x96.2.1 x96.2.2 .i32 e96 rfl rfl rfl (cs1 hc) (csz hc 1) hne, rfl, ?_⟩
    clear hc ho hne e hs
    refine dmono (D := DC0) (fun w w' es h => dt_of w w' es h) ?_
    walk_nrm
    show Goes Try.prog false (RT p [bi]) DC0 _ _ _ _
    u_c stepG_region_end hK hF
    u_cond false hK hF
    u_reg hK hF
    u_op hK hF
    u_op hK hF
    u_op hK hF
    refine Goes.stop fun w2 h2 => ?_
    replace hF := hK hF h2
    clear h2
    rcases d with _ | d
    · trivial
    refine ⟨rfl, rfl, fun w' es s' hn => ?_, fun _ _ e => by (cases e), fun _ e => by (cases e), fun _ e => by (cases e)⟩
    cases hn with
    | r3 c2 _ _ _ _ hc hs =>
      refine ⟨_, stepG_loadQ rfl rfl (by k_ne) rfl rfl (cs1 hc) q97, rfl, ?_⟩
      have hH := headLit (IH d (by omega))
      clear hc
      generalize c2.m = mm at *
      refine crew.Goes.after (S₁ := fun g w => Goes Try.prog false (RT p [bi]) (DT p [bi]) (AtD p bi ix d (.lk (hd mm it false false ws))) 200 g w) (RT.refl (p := p) (ps := [bi])) (fun g w h => h) (m := 60) (n := 200) (dmono (D := DC0) (fun w w' es h => dt_of w w' es h) ?_) |>.mono (by omega)
      walk_nrm
      show Goes Try.prog false (RT p [bi]) DC0 _ _ _ _
      u_op hK hF
      u_c stepG_region_end hK hF
      u_c stepG_inBlock hK hF
      u_c stepG_inLoop hK hF
      refine Goes.stop fun w₃ h₃ => ?_
      refine hH _ mm it false false ws hs ?_ _ (hK hF h₃)
      simp only [S97, restR, restV, restS, restQ, cT, opsOf, rest11, in97, lp97, tail97, c97, body97, cL, cR, cB, Try.f97, Option.getD_some]
      rfl

set_option maxRecDepth 100000 in
set_option maxHeartbeats 64000000 in
theorem c2b (hK : ∀ {w w₁ : World}, K w → RT p [bi] w w₁ → K w₁) (hC : ∀ {w : World}, K w → CLive p w)
    (hO : p.Ok) (hb : bi ≠ p.C) (hT : ∀ d w, K w → Goes Try.prog false (RT p [bi]) (DT p [bi]) (AtD p bi ix d .o2) mT (G (b₁.at (a₁.put ((ops₁[i₁]?).bind (·.dst)) (.tuple #[])) (.inRegion ops₁ rest₁ :: k₁)) cs₁) w) (hm : mT ≤ 300) :
    ∀ d, (∀ d' < d, Head p bi ix K b₁ a₁ ops₁ i₁ rest₁ k₁ cs₁ d') → ∀ (w : Nat) (hw : w ≤ 1) (c : Nat) (hc : c ≤ 1048576) (it : Nat) (ws : Int) (J : Nat → Value) wl, K wl → Goes Try.prog false (RT p [bi]) (DT p [bi]) (AtD p bi ix d (.lk (.c2 ⟨1, w, 0, c⟩ it false false ws))) 140
      (G ((base 97).at ⟨S97 p.C ⟨1, w, 0, c⟩ it false false ws J, []⟩ [.code rest11, .inBlock 1, .inLoop lp97, .inBlock 0, .code tail97]) (b₁.at a₁ (.inRegion ops₁ (i₁ :: rest₁) :: k₁) :: cs₁)) wl := by
  intro d IH w hw c hcc it ws J wl hF
  simp only [S97, restR, restV, restS, restQ, cT, opsOf, rest11, in97, lp97, tail97, c97, body97, cL, cR, cB, Try.f97, Option.getD_some]
  have f4 : bits .and .i32 (Mst.enc ⟨1, w, 0, c⟩) 4 = 0 := enc_and4 (by omega) (by omega) (by omega) (by omega)
  have f5 : bits .and .i32 (Mst.enc ⟨1, w, 0, c⟩) 5 = 1 := enc_and5 (by omega) (by omega) (by omega) (by omega)
  have f1 : bits .and .i32 (Mst.enc ⟨1, w, 0, c⟩) 1 = 1 := enc_and1 (by omega) (by omega) (by omega) (by omega)
  have g1 : bits .or .i32 (Mst.enc ⟨1, w, 0, c⟩) 1 = Mst.enc ⟨1, w, 0, c⟩ := enc_or1 (by omega) (by omega) (by omega) (by omega)
  have g2 : IntKind.i32.wrap (Mst.enc ⟨1, w, 0, c⟩ + 8) = Mst.enc ⟨1, w, 0, c + 1⟩ := enc_add8 (by omega) (by omega) (by omega) (by omega)
  have en : nw ⟨1, w, 0, c⟩ false false = ⟨1, w, 0, c + 1⟩ := rfl
  have ex : nx ⟨1, w, 0, c⟩ false ws = (if ws = 0 then .t1 false else .s1 false ws) := by simp [nx]
  refine dmono (D := DC0) (fun w w' es h => dt_of w w' es h) ?_
  show Goes Try.prog false (RT p [bi]) DC0 _ _ _ _
  u_c stepG_seq hK hF
  u_reg hK hF
  u_op hK hF
  u_op hK hF
  u_c stepG_region_end hK hF
  u_c stepG_seq hK hF
  u_c stepG_seq hK hF
  u_reg hK hF
  u_op hK hF
  u_op hK hF
  u_op hK hF
  u_c stepG_region_end hK hF
  u_cond true hK hF
  u_reg hK hF
  u_op hK hF
  u_op hK hF
  u_op hK hF
  u_c stepG_region_end hK hF
  u_c stepG_seq hK hF
  u_c stepG_seq hK hF
  u_reg hK hF
  u_op hK hF
  u_op hK hF
  u_op hK hF
  u_c stepG_region_end hK hF
  u_cond true hK hF
  u_reg hK hF
  u_op hK hF
  u_op hK hF
  u_op hK hF
  u_c stepG_region_end hK hF
  u_c stepG_seq hK hF
  u_c stepG_seq hK hF
  u_reg hK hF
  u_op hK hF
  u_op hK hF
  u_skip hK hF
  u_skip hK hF
  u_skip hK hF
  u_op hK hF
  u_c stepG_region_end hK hF
  u_cond false hK hF
  u_c stepG_skip hK hF
  u_c stepG_seq hK hF
  u_c stepG_seq hK hF
  u_reg hK hF
  u_op hK hF
  u_c stepG_region_end hK hF
  u_cond false hK hF
  u_c stepG_skip hK hF
  u_c stepG_seq hK hF
  u_reg hK hF
  u_op hK hF
  u_op hK hF
  u_op hK hF
  u_op hK hF
  u_op hK hF
  refine Goes.stop fun w1 h1 => ?_
  replace hF := hK hF h1
  clear h1
  rcases d with _ | d
  · trivial
  refine ⟨rfl, rfl, fun w' es s' hn => ?_, fun _ _ e => by (cases e), fun _ e => by (cases e), fun _ e => by (cases e)⟩
  generalize hol : (⟨1, w, 0, c⟩ : Mst) = oo at hn
  cases hn with
  | c2hit c' _ _ _ _ _ hc hs e =>
    subst hol
    have hs1 := set1 hc (nw ⟨1, w, 0, c⟩ false false)
    have h1 := cs1 hc
    rw [e] at h1
    rw [ex]
    rw [en] at hs1 ⊢
    refine ⟨_, stepG_cas_hit rfl rfl (by k_ne) rfl Try.func96 x96.1 x96.2.1 x96.2.2 .i32 e96 rfl rfl rfl h1 (csz hc 1), rfl, ?_⟩
    replace hF := hK hF (RT.own hO (by simpa using hb) hs1)
    clear hs1 hc h1 e hs
    refine crew.Goes.after (S₁ := fun g w => Goes Try.prog false (RT p [bi]) (DT p [bi]) (AtD p bi ix d (.lk (if ws = 0 then .t1 false else .s1 false ws))) 120 g w) (RT.refl (p := p) (ps := [bi])) (fun g w h => h) (m := 60) (n := 120) (dmono (D := DC0) (fun w w' es h => dt_of w w' es h) ?_) |>.mono (by omega)
    walk_nrm
    show Goes Try.prog false (RT p [bi]) DC0 _ _ _ _
    u_c stepG_region_end hK hF
    u_cond true hK hF
    u_c stepG_seq hK hF
    u_c stepG_seq hK hF
    u_reg hK hF
    u_op hK hF
    u_op hK hF
    u_op hK hF
    u_c stepG_region_end hK hF
    u_cond false hK hF
    u_c stepG_skip hK hF
    refine Goes.stop fun w₃ h₃ => ?_
    refine headQLit hK hC hO hb hT hm d (fun d' h' => IH d' (by omega)) _ ⟨1, w, 0, c⟩ it false false ws ?_ _ (hK hF h₃)
    simp only [S97, restR, restV, restS, restQ, cT, opsOf, rest11, in97, lp97, tail97, c97, body97, cL, cR, cB, Try.f97, Option.getD_some]
    rfl
  | c2miss c' _ _ _ _ _ hc ho hs e =>
    subst hol
    have hne : c'.m.enc ≠ Mst.enc ⟨1, w, 0, c⟩ := fun h => e (Mst.inj ho hs.1 h)
    refine ⟨_, stepG_cas_miss rfl rfl (by k_ne) rfl Try.func96 x96.1 x96.2.1 x96.2.2 .i32 e96 rfl rfl rfl (cs1 hc) (csz hc 1) hne, rfl, ?_⟩
    clear hc ho hne e hs
    refine dmono (D := DC0) (fun w w' es h => dt_of w w' es h) ?_
    walk_nrm
    show Goes Try.prog false (RT p [bi]) DC0 _ _ _ _
    u_c stepG_region_end hK hF
    u_cond false hK hF
    u_reg hK hF
    u_op hK hF
    u_op hK hF
    u_op hK hF
    refine Goes.stop fun w2 h2 => ?_
    replace hF := hK hF h2
    clear h2
    rcases d with _ | d
    · trivial
    refine ⟨rfl, rfl, fun w' es s' hn => ?_, fun _ _ e => by (cases e), fun _ e => by (cases e), fun _ e => by (cases e)⟩
    cases hn with
    | r3 c2 _ _ _ _ hc hs =>
      refine ⟨_, stepG_loadQ rfl rfl (by k_ne) rfl rfl (cs1 hc) q97, rfl, ?_⟩
      have hH := headLit (IH d (by omega))
      clear hc
      generalize c2.m = mm at *
      refine crew.Goes.after (S₁ := fun g w => Goes Try.prog false (RT p [bi]) (DT p [bi]) (AtD p bi ix d (.lk (hd mm it false false ws))) 200 g w) (RT.refl (p := p) (ps := [bi])) (fun g w h => h) (m := 60) (n := 200) (dmono (D := DC0) (fun w w' es h => dt_of w w' es h) ?_) |>.mono (by omega)
      walk_nrm
      show Goes Try.prog false (RT p [bi]) DC0 _ _ _ _
      u_op hK hF
      u_c stepG_region_end hK hF
      u_c stepG_inBlock hK hF
      u_c stepG_inLoop hK hF
      refine Goes.stop fun w₃ h₃ => ?_
      refine hH _ mm it false false ws hs ?_ _ (hK hF h₃)
      simp only [S97, restR, restV, restS, restQ, cT, opsOf, rest11, in97, lp97, tail97, c97, body97, cL, cR, cB, Try.f97, Option.getD_some]
      rfl

set_option maxRecDepth 100000 in
set_option maxHeartbeats 64000000 in
theorem c2c (hK : ∀ {w w₁ : World}, K w → RT p [bi] w w₁ → K w₁) (hC : ∀ {w : World}, K w → CLive p w)
    (hO : p.Ok) (hb : bi ≠ p.C) (hT : ∀ d w, K w → Goes Try.prog false (RT p [bi]) (DT p [bi]) (AtD p bi ix d .o2) mT (G (b₁.at (a₁.put ((ops₁[i₁]?).bind (·.dst)) (.tuple #[])) (.inRegion ops₁ rest₁ :: k₁)) cs₁) w) (hm : mT ≤ 300) :
    ∀ d, (∀ d' < d, Head p bi ix K b₁ a₁ ops₁ i₁ rest₁ k₁ cs₁ d') → ∀ (w : Nat) (hw : w ≤ 1) (c : Nat) (hc : c ≤ 1048576) (it : Nat) (ws : Int) (J : Nat → Value) wl, K wl → Goes Try.prog false (RT p [bi]) (DT p [bi]) (AtD p bi ix d (.lk (.c2 ⟨0, w, 1, c⟩ it false false ws))) 140
      (G ((base 97).at ⟨S97 p.C ⟨0, w, 1, c⟩ it false false ws J, []⟩ [.code rest11, .inBlock 1, .inLoop lp97, .inBlock 0, .code tail97]) (b₁.at a₁ (.inRegion ops₁ (i₁ :: rest₁) :: k₁) :: cs₁)) wl := by
  intro d IH w hw c hcc it ws J wl hF
  simp only [S97, restR, restV, restS, restQ, cT, opsOf, rest11, in97, lp97, tail97, c97, body97, cL, cR, cB, Try.f97, Option.getD_some]
  have f4 : bits .and .i32 (Mst.enc ⟨0, w, 1, c⟩) 4 = 4 := enc_and4 (by omega) (by omega) (by omega) (by omega)
  have f5 : bits .and .i32 (Mst.enc ⟨0, w, 1, c⟩) 5 = 4 := enc_and5 (by omega) (by omega) (by omega) (by omega)
  have f1 : bits .and .i32 (Mst.enc ⟨0, w, 1, c⟩) 1 = 0 := enc_and1 (by omega) (by omega) (by omega) (by omega)
  have g2 : IntKind.i32.wrap (Mst.enc ⟨0, w, 1, c⟩ + 8) = Mst.enc ⟨0, w, 1, c + 1⟩ := enc_add8 (by omega) (by omega) (by omega) (by omega)
  have en : nw ⟨0, w, 1, c⟩ false false = ⟨0, w, 1, c + 1⟩ := rfl
  have ex : nx ⟨0, w, 1, c⟩ false ws = (if ws = 0 then .t1 false else .s1 false ws) := by simp [nx]
  refine dmono (D := DC0) (fun w w' es h => dt_of w w' es h) ?_
  show Goes Try.prog false (RT p [bi]) DC0 _ _ _ _
  u_c stepG_seq hK hF
  u_reg hK hF
  u_op hK hF
  u_op hK hF
  u_c stepG_region_end hK hF
  u_c stepG_seq hK hF
  u_c stepG_seq hK hF
  u_reg hK hF
  u_op hK hF
  u_op hK hF
  u_op hK hF
  u_c stepG_region_end hK hF
  u_cond false hK hF
  u_c stepG_skip hK hF
  u_c stepG_seq hK hF
  u_c stepG_seq hK hF
  u_reg hK hF
  u_op hK hF
  u_op hK hF
  u_op hK hF
  u_c stepG_region_end hK hF
  u_cond true hK hF
  u_reg hK hF
  u_op hK hF
  u_op hK hF
  u_op hK hF
  u_c stepG_region_end hK hF
  u_c stepG_seq hK hF
  u_c stepG_seq hK hF
  u_reg hK hF
  u_op hK hF
  u_op hK hF
  u_skip hK hF
  u_skip hK hF
  u_skip hK hF
  u_op hK hF
  u_c stepG_region_end hK hF
  u_cond false hK hF
  u_c stepG_skip hK hF
  u_c stepG_seq hK hF
  u_c stepG_seq hK hF
  u_reg hK hF
  u_op hK hF
  u_c stepG_region_end hK hF
  u_cond false hK hF
  u_c stepG_skip hK hF
  u_c stepG_seq hK hF
  u_reg hK hF
  u_op hK hF
  u_op hK hF
  u_op hK hF
  u_op hK hF
  u_op hK hF
  refine Goes.stop fun w1 h1 => ?_
  replace hF := hK hF h1
  clear h1
  rcases d with _ | d
  · trivial
  refine ⟨rfl, rfl, fun w' es s' hn => ?_, fun _ _ e => by (cases e), fun _ e => by (cases e), fun _ e => by (cases e)⟩
  generalize hol : (⟨0, w, 1, c⟩ : Mst) = oo at hn
  cases hn with
  | c2hit c' _ _ _ _ _ hc hs e =>
    subst hol
    have hs1 := set1 hc (nw ⟨0, w, 1, c⟩ false false)
    have h1 := cs1 hc
    rw [e] at h1
    rw [ex]
    rw [en] at hs1 ⊢
    refine ⟨_, stepG_cas_hit rfl rfl (by k_ne) rfl Try.func96 x96.1 x96.2.1 x96.2.2 .i32 e96 rfl rfl rfl h1 (csz hc 1), rfl, ?_⟩
    replace hF := hK hF (RT.own hO (by simpa using hb) hs1)
    clear hs1 hc h1 e hs
    refine crew.Goes.after (S₁ := fun g w => Goes Try.prog false (RT p [bi]) (DT p [bi]) (AtD p bi ix d (.lk (if ws = 0 then .t1 false else .s1 false ws))) 120 g w) (RT.refl (p := p) (ps := [bi])) (fun g w h => h) (m := 60) (n := 120) (dmono (D := DC0) (fun w w' es h => dt_of w w' es h) ?_) |>.mono (by omega)
    walk_nrm
    show Goes Try.prog false (RT p [bi]) DC0 _ _ _ _
    u_c stepG_region_end hK hF
    u_cond true hK hF
    u_c stepG_seq hK hF
    u_c stepG_seq hK hF
    u_reg hK hF
    u_op hK hF
    u_op hK hF
    u_op hK hF
    u_c stepG_region_end hK hF
    u_cond false hK hF
    u_c stepG_skip hK hF
    refine Goes.stop fun w₃ h₃ => ?_
    refine headQLit hK hC hO hb hT hm d (fun d' h' => IH d' (by omega)) _ ⟨0, w, 1, c⟩ it false false ws ?_ _ (hK hF h₃)
    simp only [S97, restR, restV, restS, restQ, cT, opsOf, rest11, in97, lp97, tail97, c97, body97, cL, cR, cB, Try.f97, Option.getD_some]
    rfl
  | c2miss c' _ _ _ _ _ hc ho hs e =>
    subst hol
    have hne : c'.m.enc ≠ Mst.enc ⟨0, w, 1, c⟩ := fun h => e (Mst.inj ho hs.1 h)
    refine ⟨_, stepG_cas_miss rfl rfl (by k_ne) rfl Try.func96 x96.1 x96.2.1 x96.2.2 .i32 e96 rfl rfl rfl (cs1 hc) (csz hc 1) hne, rfl, ?_⟩
    clear hc ho hne e hs
    refine dmono (D := DC0) (fun w w' es h => dt_of w w' es h) ?_
    walk_nrm
    show Goes Try.prog false (RT p [bi]) DC0 _ _ _ _
    u_c stepG_region_end hK hF
    u_cond false hK hF
    u_reg hK hF
    u_op hK hF
    u_op hK hF
    u_op hK hF
    refine Goes.stop fun w2 h2 => ?_
    replace hF := hK hF h2
    clear h2
    rcases d with _ | d
    · trivial
    refine ⟨rfl, rfl, fun w' es s' hn => ?_, fun _ _ e => by (cases e), fun _ e => by (cases e), fun _ e => by (cases e)⟩
    cases hn with
    | r3 c2 _ _ _ _ hc hs =>
      refine ⟨_, stepG_loadQ rfl rfl (by k_ne) rfl rfl (cs1 hc) q97, rfl, ?_⟩
      have hH := headLit (IH d (by omega))
      clear hc
      generalize c2.m = mm at *
      refine crew.Goes.after (S₁ := fun g w => Goes Try.prog false (RT p [bi]) (DT p [bi]) (AtD p bi ix d (.lk (hd mm it false false ws))) 200 g w) (RT.refl (p := p) (ps := [bi])) (fun g w h => h) (m := 60) (n := 200) (dmono (D := DC0) (fun w w' es h => dt_of w w' es h) ?_) |>.mono (by omega)
      walk_nrm
      show Goes Try.prog false (RT p [bi]) DC0 _ _ _ _
      u_op hK hF
      u_c stepG_region_end hK hF
      u_c stepG_inBlock hK hF
      u_c stepG_inLoop hK hF
      refine Goes.stop fun w₃ h₃ => ?_
      refine hH _ mm it false false ws hs ?_ _ (hK hF h₃)
      simp only [S97, restR, restV, restS, restQ, cT, opsOf, rest11, in97, lp97, tail97, c97, body97, cL, cR, cB, Try.f97, Option.getD_some]
      rfl

set_option maxRecDepth 100000 in
set_option maxHeartbeats 64000000 in
theorem c2d (hK : ∀ {w w₁ : World}, K w → RT p [bi] w w₁ → K w₁) (hC : ∀ {w : World}, K w → CLive p w)
    (hO : p.Ok) (hb : bi ≠ p.C) (hT : ∀ d w, K w → Goes Try.prog false (RT p [bi]) (DT p [bi]) (AtD p bi ix d .o2) mT (G (b₁.at (a₁.put ((ops₁[i₁]?).bind (·.dst)) (.tuple #[])) (.inRegion ops₁ rest₁ :: k₁)) cs₁) w) (hm : mT ≤ 300) :
    ∀ d, (∀ d' < d, Head p bi ix K b₁ a₁ ops₁ i₁ rest₁ k₁ cs₁ d') → ∀ (w : Nat) (hw : w ≤ 1) (c : Nat) (hc : c ≤ 1048576) (it : Nat) (ws : Int) (J : Nat → Value) wl, K wl → Goes Try.prog false (RT p [bi]) (DT p [bi]) (AtD p bi ix d (.lk (.c2 ⟨1, w, 1, c⟩ it false false ws))) 140
      (G ((base 97).at ⟨S97 p.C ⟨1, w, 1, c⟩ it false false ws J, []⟩ [.code rest11, .inBlock 1, .inLoop lp97, .inBlock 0, .code tail97]) (b₁.at a₁ (.inRegion ops₁ (i₁ :: rest₁) :: k₁) :: cs₁)) wl := by
  intro d IH w hw c hcc it ws J wl hF
  simp only [S97, restR, restV, restS, restQ, cT, opsOf, rest11, in97, lp97, tail97, c97, body97, cL, cR, cB, Try.f97, Option.getD_some]
  have f4 : bits .and .i32 (Mst.enc ⟨1, w, 1, c⟩) 4 = 4 := enc_and4 (by omega) (by omega) (by omega) (by omega)
  have f5 : bits .and .i32 (Mst.enc ⟨1, w, 1, c⟩) 5 = 5 := enc_and5 (by omega) (by omega) (by omega) (by omega)
  have f1 : bits .and .i32 (Mst.enc ⟨1, w, 1, c⟩) 1 = 1 := enc_and1 (by omega) (by omega) (by omega) (by omega)
  have g2 : IntKind.i32.wrap (Mst.enc ⟨1, w, 1, c⟩ + 8) = Mst.enc ⟨1, w, 1, c + 1⟩ := enc_add8 (by omega) (by omega) (by omega) (by omega)
  have en : nw ⟨1, w, 1, c⟩ false false = ⟨1, w, 1, c + 1⟩ := rfl
  have ex : nx ⟨1, w, 1, c⟩ false ws = (if ws = 0 then .t1 false else .s1 false ws) := by simp [nx]
  refine dmono (D := DC0) (fun w w' es h => dt_of w w' es h) ?_
  show Goes Try.prog false (RT p [bi]) DC0 _ _ _ _
  u_c stepG_seq hK hF
  u_reg hK hF
  u_op hK hF
  u_op hK hF
  u_c stepG_region_end hK hF
  u_c stepG_seq hK hF
  u_c stepG_seq hK hF
  u_reg hK hF
  u_op hK hF
  u_op hK hF
  u_op hK hF
  u_c stepG_region_end hK hF
  u_cond false hK hF
  u_c stepG_skip hK hF
  u_c stepG_seq hK hF
  u_c stepG_seq hK hF
  u_reg hK hF
  u_op hK hF
  u_op hK hF
  u_op hK hF
  u_c stepG_region_end hK hF
  u_cond true hK hF
  u_reg hK hF
  u_op hK hF
  u_op hK hF
  u_op hK hF
  u_c stepG_region_end hK hF
  u_c stepG_seq hK hF
  u_c stepG_seq hK hF
  u_reg hK hF
  u_op hK hF
  u_op hK hF
  u_skip hK hF
  u_skip hK hF
  u_skip hK hF
  u_op hK hF
  u_c stepG_region_end hK hF
  u_cond false hK hF
  u_c stepG_skip hK hF
  u_c stepG_seq hK hF
  u_c stepG_seq hK hF
  u_reg hK hF
  u_op hK hF
  u_c stepG_region_end hK hF
  u_cond false hK hF
  u_c stepG_skip hK hF
  u_c stepG_seq hK hF
  u_reg hK hF
  u_op hK hF
  u_op hK hF
  u_op hK hF
  u_op hK hF
  u_op hK hF
  refine Goes.stop fun w1 h1 => ?_
  replace hF := hK hF h1
  clear h1
  rcases d with _ | d
  · trivial
  refine ⟨rfl, rfl, fun w' es s' hn => ?_, fun _ _ e => by (cases e), fun _ e => by (cases e), fun _ e => by (cases e)⟩
  generalize hol : (⟨1, w, 1, c⟩ : Mst) = oo at hn
  cases hn with
  | c2hit c' _ _ _ _ _ hc hs e =>
    subst hol
    have hs1 := set1 hc (nw ⟨1, w, 1, c⟩ false false)
    have h1 := cs1 hc
    rw [e] at h1
    rw [ex]
    rw [en] at hs1 ⊢
    refine ⟨_, stepG_cas_hit rfl rfl (by k_ne) rfl Try.func96 x96.1 x96.2.1 x96.2.2 .i32 e96 rfl rfl rfl h1 (csz hc 1), rfl, ?_⟩
    replace hF := hK hF (RT.own hO (by simpa using hb) hs1)
    clear hs1 hc h1 e hs
    refine crew.Goes.after (S₁ := fun g w => Goes Try.prog false (RT p [bi]) (DT p [bi]) (AtD p bi ix d (.lk (if ws = 0 then .t1 false else .s1 false ws))) 120 g w) (RT.refl (p := p) (ps := [bi])) (fun g w h => h) (m := 60) (n := 120) (dmono (D := DC0) (fun w w' es h => dt_of w w' es h) ?_) |>.mono (by omega)
    walk_nrm
    show Goes Try.prog false (RT p [bi]) DC0 _ _ _ _
    u_c stepG_region_end hK hF
    u_cond true hK hF
    u_c stepG_seq hK hF
    u_c stepG_seq hK hF
    u_reg hK hF
    u_op hK hF
    u_op hK hF
    u_op hK hF
    u_c stepG_region_end hK hF
    u_cond false hK hF
    u_c stepG_skip hK hF
    refine Goes.stop fun w₃ h₃ => ?_
    refine headQLit hK hC hO hb hT hm d (fun d' h' => IH d' (by omega)) _ ⟨1, w, 1, c⟩ it false false ws ?_ _ (hK hF h₃)
    simp only [S97, restR, restV, restS, restQ, cT, opsOf, rest11, in97, lp97, tail97, c97, body97, cL, cR, cB, Try.f97, Option.getD_some]
    rfl
  | c2miss c' _ _ _ _ _ hc ho hs e =>
    subst hol
    have hne : c'.m.enc ≠ Mst.enc ⟨1, w, 1, c⟩ := fun h => e (Mst.inj ho hs.1 h)
    refine ⟨_, stepG_cas_miss rfl rfl (by k_ne) rfl Try.func96 x96.1 x96.2.1 x96.2.2 .i32 e96 rfl rfl rfl (cs1 hc) (csz hc 1) hne, rfl, ?_⟩
    clear hc ho hne e hs
    refine dmono (D := DC0) (fun w w' es h => dt_of w w' es h) ?_
    walk_nrm
    show Goes Try.prog false (RT p [bi]) DC0 _ _ _ _
    u_c stepG_region_end hK hF
    u_cond false hK hF
    u_reg hK hF
    u_op hK hF
    u_op hK hF
    u_op hK hF
    refine Goes.stop fun w2 h2 => ?_
    replace hF := hK hF h2
    clear h2
    rcases d with _ | d
    · trivial
    refine ⟨rfl, rfl, fun w' es s' hn => ?_, fun _ _ e => by (cases e), fun _ e => by (cases e), fun _ e => by (cases e)⟩
    cases hn with
    | r3 c2 _ _ _ _ hc hs =>
      refine ⟨_, stepG_loadQ rfl rfl (by k_ne) rfl rfl (cs1 hc) q97, rfl, ?_⟩
      have hH := headLit (IH d (by omega))
      clear hc
      generalize c2.m = mm at *
      refine crew.Goes.after (S₁ := fun g w => Goes Try.prog false (RT p [bi]) (DT p [bi]) (AtD p bi ix d (.lk (hd mm it false false ws))) 200 g w) (RT.refl (p := p) (ps := [bi])) (fun g w h => h) (m := 60) (n := 200) (dmono (D := DC0) (fun w w' es h => dt_of w w' es h) ?_) |>.mono (by omega)
      walk_nrm
      show Goes Try.prog false (RT p [bi]) DC0 _ _ _ _
      u_op hK hF
      u_c stepG_region_end hK hF
      u_c stepG_inBlock hK hF
      u_c stepG_inLoop hK hF
      refine Goes.stop fun w₃ h₃ => ?_
      refine hH _ mm it false false ws hs ?_ _ (hK hF h₃)
      simp only [S97, restR, restV, restS, restQ, cT, opsOf, rest11, in97, lp97, tail97, c97, body97, cL, cR, cB, Try.f97, Option.getD_some]
      rfl

set_option maxRecDepth 100000 in
set_option maxHeartbeats 64000000 in
theorem c2e (hK : ∀ {w w₁ : World}, K w → RT p [bi] w w₁ → K w₁) (hC : ∀ {w : World}, K w → CLive p w)
    (hO : p.Ok) (hb : bi ≠ p.C) (hT : ∀ d w, K w → Goes Try.prog false (RT p [bi]) (DT p [bi]) (AtD p bi ix d .o2) mT (G (b₁.at (a₁.put ((ops₁[i₁]?).bind (·.dst)) (.tuple #[])) (.inRegion ops₁ rest₁ :: k₁)) cs₁) w) (hm : mT ≤ 300) :
    ∀ d, (∀ d' < d, Head p bi ix K b₁ a₁ ops₁ i₁ rest₁ k₁ cs₁ d') → ∀ (c : Nat) (hc : c ≤ 1048576) (it : Nat) (ws : Int) (J : Nat → Value) wl, K wl → Goes Try.prog false (RT p [bi]) (DT p [bi]) (AtD p bi ix d (.lk (.c2 ⟨0, 1, 0, c⟩ it true false ws))) 140
      (G ((base 97).at ⟨S97 p.C ⟨0, 1, 0, c⟩ it true false ws J, []⟩ [.code rest11, .inBlock 1, .inLoop lp97, .inBlock 0, .code tail97]) (b₁.at a₁ (.inRegion ops₁ (i₁ :: rest₁) :: k₁) :: cs₁)) wl := by
  intro d IH c hcc it ws J wl hF
  simp only [S97, restR, restV, restS, restQ, cT, opsOf, rest11, in97, lp97, tail97, c97, body97, cL, cR, cB, Try.f97, Option.getD_some]
  have f4 : bits .and .i32 (Mst.enc ⟨0, 1, 0, c⟩) 4 = 0 := enc_and4 (by omega) (by omega) (by omega) (by omega)
  have f5 : bits .and .i32 (Mst.enc ⟨0, 1, 0, c⟩) 5 = 0 := enc_and5 (by omega) (by omega) (by omega) (by omega)
  have f1 : bits .and .i32 (Mst.enc ⟨0, 1, 0, c⟩) 1 = 0 := enc_and1 (by omega) (by omega) (by omega) (by omega)
  have g1 : bits .or .i32 (Mst.enc ⟨0, 1, 0, c⟩) 1 = Mst.enc ⟨1, 1, 0, c⟩ := enc_or1 (by omega) (by omega) (by omega) (by omega)
  have g4 : bits .and .i32 (Mst.enc ⟨1, 1, 0, c⟩) 2 = 2 := enc_and2 (by omega) (by omega) (by omega) (by omega)
  have g5 : bits .andNot .i32 (Mst.enc ⟨1, 1, 0, c⟩) 2 = Mst.enc ⟨1, 0, 0, c⟩ := enc_not2 (by omega) (by omega) (by omega) (by omega)
  have en : nw ⟨0, 1, 0, c⟩ true false = ⟨1, 0, 0, c⟩ := rfl
  have ex : nx ⟨0, 1, 0, c⟩ false ws = .le := rfl
  refine dmono (D := DC0) (fun w w' es h => dt_of w w' es h) ?_
  show Goes Try.prog false (RT p [bi]) DC0 _ _ _ _
  u_c stepG_seq hK hF
  u_reg hK hF
  u_op hK hF
  u_op hK hF
  u_c stepG_region_end hK hF
  u_c stepG_seq hK hF
  u_c stepG_seq hK hF
  u_reg hK hF
  u_op hK hF
  u_op hK hF
  u_op hK hF
  u_c stepG_region_end hK hF
  u_cond true hK hF
  u_reg hK hF
  u_op hK hF
  u_op hK hF
  u_op hK hF
  u_c stepG_region_end hK hF
  u_c stepG_seq hK hF
  u_c stepG_seq hK hF
  u_reg hK hF
  u_op hK hF
  u_op hK hF
  u_op hK hF
  u_c stepG_region_end hK hF
  u_cond false hK hF
  u_c stepG_skip hK hF
  u_c stepG_seq hK hF
  u_c stepG_seq hK hF
  u_reg hK hF
  u_op hK hF
  u_op hK hF
  u_skip hK hF
  u_skip hK hF
  u_skip hK hF
  u_op hK hF
  u_c stepG_region_end hK hF
  u_cond false hK hF
  u_c stepG_skip hK hF
  u_c stepG_seq hK hF
  u_c stepG_seq hK hF
  u_reg hK hF
  u_op hK hF
  u_c stepG_region_end hK hF
  u_cond true hK hF
  u_c stepG_seq hK hF
  u_c stepG_seq hK hF
  u_reg hK hF
  u_op hK hF
  u_op hK hF
  u_op hK hF
  u_c stepG_region_end hK hF
  u_cond false hK hF
  u_c stepG_skip hK hF
  u_reg hK hF
  u_op hK hF
  u_op hK hF
  u_op hK hF
  u_c stepG_region_end hK hF
  u_c stepG_seq hK hF
  u_reg hK hF
  u_op hK hF
  u_op hK hF
  u_op hK hF
  u_op hK hF
  u_op hK hF
  refine Goes.stop fun w1 h1 => ?_
  replace hF := hK hF h1
  clear h1
  rcases d with _ | d
  · trivial
  refine ⟨rfl, rfl, fun w' es s' hn => ?_, fun _ _ e => by (cases e), fun _ e => by (cases e), fun _ e => by (cases e)⟩
  generalize hol : (⟨0, 1, 0, c⟩ : Mst) = oo at hn
  cases hn with
  | c2hit c' _ _ _ _ _ hc hs e =>
    subst hol
    have hs1 := set1 hc (nw ⟨0, 1, 0, c⟩ true false)
    have h1 := cs1 hc
    rw [e] at h1
    rw [ex]
    rw [en] at hs1 ⊢
    refine ⟨_, stepG_cas_hit rfl rfl (by k_ne) rfl Try.func96 x96.1 x96.2.1 x96.2.2 .i32 e96 rfl rfl rfl h1 (csz hc 1), rfl, ?_⟩
    replace hF := hK hF (RT.own hO (by simpa using hb) hs1)
    clear hs1 hc h1 e hs
    refine crew.Goes.after (S₁ := fun g w => Goes Try.prog false (RT p [bi]) (DT p [bi]) (AtD p bi ix d (.lk .le)) 60 g w) (RT.refl (p := p) (ps := [bi])) (fun g w h => h) (m := 60) (n := 60) (dmono (D := DC0) (fun w w' es h => dt_of w w' es h) ?_) |>.mono (by omega)
    walk_nrm
    show Goes Try.prog false (RT p [bi]) DC0 _ _ _ _
    u_c stepG_region_end hK hF
    u_cond true hK hF
    u_c stepG_seq hK hF
    u_c stepG_seq hK hF
    u_reg hK hF
    u_op hK hF
    u_op hK hF
    u_op hK hF
    u_c stepG_region_end hK hF
    u_cond true hK hF
    u_exit hK hF
    u_cond true hK hF
    u_c stepG_seq hK hF
    u_reg hK hF
    refine Goes.stop fun w₃ h₃ => ?_
    refine tailLit hK hC hO hb hT hm d _ ⟨0, 1, 0, c⟩ it true false ws ?_ _ (hK hF h₃)
    simp only [S97, restR, restV, restS, restQ, cT, opsOf, rest11, in97, lp97, tail97, c97, body97, cL, cR, cB, Try.f97, Option.getD_some]
    rfl
  | c2miss c' _ _ _ _ _ hc ho hs e =>
    subst hol
    have hne : c'.m.enc ≠ Mst.enc ⟨0, 1, 0, c⟩ := fun h => e (Mst.inj ho hs.1 h)
    refine ⟨_, stepG_cas_miss rfl rfl (by k_ne) rfl Try.func96 x96.1 x96.2.1 x96.2.2 .i32 e96 rfl rfl rfl (cs1 hc) (csz hc 1) hne, rfl, ?_⟩
    clear hc ho hne e hs
    refine dmono (D := DC0) (fun w w' es h => dt_of w w' es h) ?_
    walk_nrm
    show Goes Try.prog false (RT p [bi]) DC0 _ _ _ _
    u_c stepG_region_end hK hF
    u_cond false hK hF
    u_reg hK hF
    u_op hK hF
    u_op hK hF
    u_op hK hF
    refine Goes.stop fun w2 h2 => ?_
    replace hF := hK hF h2
    clear h2
    rcases d with _ | d
    · trivial
    refine ⟨rfl, rfl, fun w' es s' hn => ?_, fun _ _ e => by (cases e), fun _ e => by (cases e), fun _ e => by (cases e)⟩
    cases hn with
    | r3 c2 _ _ _ _ hc hs =>
      refine ⟨_, stepG_loadQ rfl rfl (by k_ne) rfl rfl (cs1 hc) q97, rfl, ?_⟩
      have hH := headLit (IH d (by omega))
      clear hc
      generalize c2.m = mm at *
      refine crew.Goes.after (S₁ := fun g w => Goes Try.prog false (RT p [bi]) (DT p [bi]) (AtD p bi ix d (.lk (hd mm it true false ws))) 200 g w) (RT.refl (p := p) (ps := [bi])) (fun g w h => h) (m := 60) (n := 200) (dmono (D := DC0) (fun w w' es h => dt_of w w' es h) ?_) |>.mono (by omega)
      walk_nrm
      show Goes Try.prog false (RT p [bi]) DC0 _ _ _ _
      u_op hK hF
      u_c stepG_region_end hK hF
      u_c stepG_inBlock hK hF
      u_c stepG_inLoop hK hF
      refine Goes.stop fun w₃ h₃ => ?_
      refine hH _ mm it true false ws hs ?_ _ (hK hF h₃)
      simp only [S97, restR, restV, restS, restQ, cT, opsOf, rest11, in97, lp97, tail97, c97, body97, cL, cR, cB, Try.f97, Option.getD_some]
      rfl

set_option maxRecDepth 100000 in
set_option maxHeartbeats 64000000 in
theorem c2f (hK : ∀ {w w₁ : World}, K w → RT p [bi] w w₁ → K w₁) (hC : ∀ {w : World}, K w → CLive p w)
    (hO : p.Ok) (hb : bi ≠ p.C) (hT : ∀ d w, K w → Goes Try.prog false (RT p [bi]) (DT p [bi]) (AtD p bi ix d .o2) mT (G (b₁.at (a₁.put ((ops₁[i₁]?).bind (·.dst)) (.tuple #[])) (.inRegion ops₁ rest₁ :: k₁)) cs₁) w) (hm : mT ≤ 300) :
    ∀ d, (∀ d' < d, Head p bi ix K b₁ a₁ ops₁ i₁ rest₁ k₁ cs₁ d') → ∀ (c : Nat) (hc : c ≤ 1048576) (it : Nat) (ws : Int) (J : Nat → Value) wl, K wl → Goes Try.prog false (RT p [bi]) (DT p [bi]) (AtD p bi ix d (.lk (.c2 ⟨1, 1, 0, c⟩ it true false ws))) 140
      (G ((base 97).at ⟨S97 p.C ⟨1, 1, 0, c⟩ it true false ws J, []⟩ [.code rest11, .inBlock 1, .inLoop lp97, .inBlock 0, .code tail97]) (b₁.at a₁ (.inRegion ops₁ (i₁ :: rest₁) :: k₁) :: cs₁)) wl := by
  intro d IH c hcc it ws J wl hF
  simp only [S97, restR, restV, restS, restQ, cT, opsOf, rest11, in97, lp97, tail97, c97, body97, cL, cR, cB, Try.f97, Option.getD_some]
  have f4 : bits .and .i32 (Mst.enc ⟨1, 1, 0, c⟩) 4 = 0 := enc_and4 (by omega) (by omega) (by omega) (by omega)
  have f5 : bits .and .i32 (Mst.enc ⟨1, 1, 0, c⟩) 5 = 1 := enc_and5 (by omega) (by omega) (by omega) (by omega)
  have f1 : bits .and .i32 (Mst.enc ⟨1, 1, 0, c⟩) 1 = 1 := enc_and1 (by omega) (by omega) (by omega) (by omega)
  have g1 : bits .or .i32 (Mst.enc ⟨1, 1, 0, c⟩) 1 = Mst.enc ⟨1, 1, 0, c⟩ := enc_or1 (by omega) (by omega) (by omega) (by omega)
  have g2 : IntKind.i32.wrap (Mst.enc ⟨1, 1, 0, c⟩ + 8) = Mst.enc ⟨1, 1, 0, c + 1⟩ := enc_add8 (by omega) (by omega) (by omega) (by omega)
  have g4 : bits .and .i32 (Mst.enc ⟨1, 1, 0, c + 1⟩) 2 = 2 := enc_and2 (by omega) (by omega) (by omega) (by omega)
  have g5 : bits .andNot .i32 (Mst.enc ⟨1, 1, 0, c + 1⟩) 2 = Mst.enc ⟨1, 0, 0, c + 1⟩ := enc_not2 (by omega) (by omega) (by omega) (by omega)
  have en : nw ⟨1, 1, 0, c⟩ true false = ⟨1, 0, 0, c + 1⟩ := rfl
  have ex : nx ⟨1, 1, 0, c⟩ false ws = (if ws = 0 then .t1 false else .s1 false ws) := by simp [nx]
  refine dmono (D := DC0) (fun w w' es h => dt_of w w' es h) ?_
  show Goes Try.prog false (RT p [bi]) DC0 _ _ _ _
  u_c stepG_seq hK hF
  u_reg hK hF
  u_op hK hF
  u_op hK hF
  u_c stepG_region_end hK hF
  u_c stepG_seq hK hF
  u_c stepG_seq hK hF
  u_reg hK hF
  u_op hK hF
  u_op hK hF
  u_op hK hF
  u_c stepG_region_end hK hF
  u_cond true hK hF
  u_reg hK hF
  u_op hK hF
  u_op hK hF
  u_op hK hF
  u_c stepG_region_end hK hF
  u_c stepG_seq hK hF
  u_c stepG_seq hK hF
  u_reg hK hF
  u_op hK hF
  u_op hK hF
  u_op hK hF
  u_c stepG_region_end hK hF
  u_cond true hK hF
  u_reg hK hF
  u_op hK hF
  u_op hK hF
  u_op hK hF
  u_c stepG_region_end hK hF
  u_c stepG_seq hK hF
  u_c stepG_seq hK hF
  u_reg hK hF
  u_op hK hF
  u_op hK hF
  u_skip hK hF
  u_skip hK hF
  u_skip hK hF
  u_op hK hF
  u_c stepG_region_end hK hF
  u_cond false hK hF
  u_c stepG_skip hK hF
  u_c stepG_seq hK hF
  u_c stepG_seq hK hF
  u_reg hK hF
  u_op hK hF
  u_c stepG_region_end hK hF
  u_cond true hK hF
  u_c stepG_seq hK hF
  u_c stepG_seq hK hF
  u_reg hK hF
  u_op hK hF
  u_op hK hF
  u_op hK hF
  u_c stepG_region_end hK hF
  u_cond false hK hF
  u_c stepG_skip hK hF
  u_reg hK hF
  u_op hK hF
  u_op hK hF
  u_op hK hF
  u_c stepG_region_end hK hF
  u_c stepG_seq hK hF
  u_reg hK hF
  u_op hK hF
  u_op hK hF
  u_op hK hF
  u_op hK hF
  u_op hK hF
  refine Goes.stop fun w1 h1 => ?_
  replace hF := hK hF h1
  clear h1
  rcases d with _ | d
  · trivial
  refine ⟨rfl, rfl, fun w' es s' hn => ?_, fun _ _ e => by (cases e), fun _ e => by (cases e), fun _ e => by (cases e)⟩
  generalize hol : (⟨1, 1, 0, c⟩ : Mst) = oo at hn
  cases hn with
  | c2hit c' _ _ _ _ _ hc hs e =>
    subst hol
    have hs1 := set1 hc (nw ⟨1, 1, 0, c⟩ true false)
    have h1 := cs1 hc
    rw [e] at h1
    rw [ex]
    rw [en] at hs1 ⊢
    refine ⟨_, stepG_cas_hit rfl rfl (by k_ne) rfl Try.func96 x96.1 x96.2.1 x96.2.2 .i32 e96 rfl rfl rfl h1 (csz hc 1), rfl, ?_⟩
    replace hF := hK hF (RT.own hO (by simpa using hb) hs1)
    clear hs1 hc h1 e hs
    refine crew.Goes.after (S₁ := fun g w => Goes Try.prog false (RT p [bi]) (DT p [bi]) (AtD p bi ix d (.lk (if ws = 0 then .t1 false else .s1 false ws))) 120 g w) (RT.refl (p := p) (ps := [bi])) (fun g w h => h) (m := 60) (n := 120) (dmono (D := DC0) (fun w w' es h => dt_of w w' es h) ?_) |>.mono (by omega)
    walk_nrm
    show Goes Try.prog false (RT p [bi]) DC0 _ _ _ _
    u_c stepG_region_end hK hF
    u_cond true hK hF
    u_c stepG_seq hK hF
    u_c stepG_seq hK hF
    u_reg hK hF
    u_op hK hF
    u_op hK hF
    u_op hK hF
    u_c stepG_region_end hK hF
    u_cond false hK hF
    u_c stepG_skip hK hF
    refine Goes.stop fun w₃ h₃ => ?_
    refine headQLit hK hC hO hb hT hm d (fun d' h' => IH d' (by omega)) _ ⟨1, 1, 0, c⟩ it true false ws ?_ _ (hK hF h₃)
    simp only [S97, restR, restV, restS, restQ, cT, opsOf, rest11, in97, lp97, tail97, c97, body97, cL, cR, cB, Try.f97, Option.getD_some]
    rfl
  | c2miss c' _ _ _ _ _ hc ho hs e =>
    subst hol
    have hne : c'.m.enc ≠ Mst.enc ⟨1, 1, 0, c⟩ := fun h => e (Mst.inj ho hs.1 h)
    refine ⟨_, stepG_cas_miss rfl rfl (by k_ne) rfl Try.func96 x96.1 x96.2.1 x96.2.2 .i32 e96 rfl rfl rfl (cs1 hc) (csz hc 1) hne, rfl, ?_⟩
    clear hc ho hne e hs
    refine dmono (D := DC0) (fun w w' es h => dt_of w w' es h) ?_
    walk_nrm
    show Goes Try.prog false (RT p [bi]) DC0 _ _ _ _
    u_c stepG_region_end hK hF
    u_cond false hK hF
    u_reg hK hF
    u_op hK hF
    u_op hK hF
    u_op hK hF
    refine Goes.stop fun w2 h2 => ?_
    replace hF := hK hF h2
    clear h2
    rcases d with _ | d
    · trivial
    refine ⟨rfl, rfl, fun w' es s' hn => ?_, fun _ _ e => by (cases e), fun _ e => by (cases e), fun _ e => by (cases e)⟩
    cases hn with
    | r3 c2 _ _ _ _ hc hs =>
      refine ⟨_, stepG_loadQ rfl rfl (by k_ne) rfl rfl (cs1 hc) q97, rfl, ?_⟩
      have hH := headLit (IH d (by omega))
      clear hc
      generalize c2.m = mm at *
      refine crew.Goes.after (S₁ := fun g w => Goes Try.prog false (RT p [bi]) (DT p [bi]) (AtD p bi ix d (.lk (hd mm it true false ws))) 200 g w) (RT.refl (p := p) (ps := [bi])) (fun g w h => h) (m := 60) (n := 200) (dmono (D := DC0) (fun w w' es h => dt_of w w' es h) ?_) |>.mono (by omega)
      walk_nrm
      show Goes Try.prog false (RT p [bi]) DC0 _ _ _ _
      u_op hK hF
      u_c stepG_region_end hK hF
      u_c stepG_inBlock hK hF
      u_c stepG_inLoop hK hF
      refine Goes.stop fun w₃ h₃ => ?_
      refine hH _ mm it true false ws hs ?_ _ (hK hF h₃)
      simp only [S97, restR, restV, restS, restQ, cT, opsOf, rest11, in97, lp97, tail97, c97, body97, cL, cR, cB, Try.f97, Option.getD_some]
      rfl

set_option maxRecDepth 100000 in
set_option maxHeartbeats 64000000 in
theorem c2g (hK : ∀ {w w₁ : World}, K w → RT p [bi] w w₁ → K w₁) (hC : ∀ {w : World}, K w → CLive p w)
    (hO : p.Ok) (hb : bi ≠ p.C) (hT : ∀ d w, K w → Goes Try.prog false (RT p [bi]) (DT p [bi]) (AtD p bi ix d .o2) mT (G (b₁.at (a₁.put ((ops₁[i₁]?).bind (·.dst)) (.tuple #[])) (.inRegion ops₁ rest₁ :: k₁)) cs₁) w) (hm : mT ≤ 300) :
    ∀ d, (∀ d' < d, Head p bi ix K b₁ a₁ ops₁ i₁ rest₁ k₁ cs₁ d') → ∀ (c : Nat) (hc : c ≤ 1048576) (it : Nat) (ws : Int) (J : Nat → Value) wl, K wl → Goes Try.prog false (RT p [bi]) (DT p [bi]) (AtD p bi ix d (.lk (.c2 ⟨0, 1, 0, c⟩ it true true ws))) 140
      (G ((base 97).at ⟨S97 p.C ⟨0, 1, 0, c⟩ it true true ws J, []⟩ [.code rest11, .inBlock 1, .inLoop lp97, .inBlock 0, .code tail97]) (b₁.at a₁ (.inRegion ops₁ (i₁ :: rest₁) :: k₁) :: cs₁)) wl := by
  intro d IH c hcc it ws J wl hF
  simp only [S97, restR, restV, restS, restQ, cT, opsOf, rest11, in97, lp97, tail97, c97, body97, cL, cR, cB, Try.f97, Option.getD_some]
  have f4 : bits .and .i32 (Mst.enc ⟨0, 1, 0, c⟩) 4 = 0 := enc_and4 (by omega) (by omega) (by omega) (by omega)
  have f5 : bits .and .i32 (Mst.enc ⟨0, 1, 0, c⟩) 5 = 0 := enc_and5 (by omega) (by omega) (by omega) (by omega)
  have f1 : bits .and .i32 (Mst.enc ⟨0, 1, 0, c⟩) 1 = 0 := enc_and1 (by omega) (by omega) (by omega) (by omega)
  have g1 : bits .or .i32 (Mst.enc ⟨0, 1, 0, c⟩) 1 = Mst.enc ⟨1, 1, 0, c⟩ := enc_or1 (by omega) (by omega) (by omega) (by omega)
  have g4 : bits .and .i32 (Mst.enc ⟨1, 1, 0, c⟩) 2 = 2 := enc_and2 (by omega) (by omega) (by omega) (by omega)
  have g5 : bits .andNot .i32 (Mst.enc ⟨1, 1, 0, c⟩) 2 = Mst.enc ⟨1, 0, 0, c⟩ := enc_not2 (by omega) (by omega) (by omega) (by omega)
  have en : nw ⟨0, 1, 0, c⟩ true true = ⟨1, 0, 0, c⟩ := rfl
  have ex : nx ⟨0, 1, 0, c⟩ true ws = .le := rfl
  refine dmono (D := DC0) (fun w w' es h => dt_of w w' es h) ?_
  show Goes Try.prog false (RT p [bi]) DC0 _ _ _ _
  u_c stepG_seq hK hF
  u_reg hK hF
  u_op hK hF
  u_op hK hF
  u_c stepG_region_end hK hF
  u_c stepG_seq hK hF
  u_c stepG_seq hK hF
  u_reg hK hF
  u_op hK hF
  u_op hK hF
  u_op hK hF
  u_c stepG_region_end hK hF
  u_cond true hK hF
  u_reg hK hF
  u_op hK hF
  u_op hK hF
  u_op hK hF
  u_c stepG_region_end hK hF
  u_c stepG_seq hK hF
  u_c stepG_seq hK hF
  u_reg hK hF
  u_op hK hF
  u_op hK hF
  u_op hK hF
  u_c stepG_region_end hK hF
  u_cond false hK hF
  u_c stepG_skip hK hF
  u_c stepG_seq hK hF
  u_c stepG_seq hK hF
  u_reg hK hF
  u_op hK hF
  u_op hK hF
  u_op hK hF
  u_op hK hF
  u_op hK hF
  u_op hK hF
  u_c stepG_region_end hK hF
  u_cond false hK hF
  u_c stepG_skip hK hF
  u_c stepG_seq hK hF
  u_c stepG_seq hK hF
  u_reg hK hF
  u_op hK hF
  u_c stepG_region_end hK hF
  u_cond true hK hF
  u_c stepG_seq hK hF
  u_c stepG_seq hK hF
  u_reg hK hF
  u_op hK hF
  u_op hK hF
  u_op hK hF
  u_c stepG_region_end hK hF
  u_cond false hK hF
  u_c stepG_skip hK hF
  u_reg hK hF
  u_op hK hF
  u_op hK hF
  u_op hK hF
  u_c stepG_region_end hK hF
  u_c stepG_seq hK hF
  u_reg hK hF
  u_op hK hF
  u_op hK hF
  u_op hK hF
  u_op hK hF
  u_op hK hF
  refine Goes.stop fun w1 h1 => ?_
  replace hF := hK hF h1
  clear h1
  rcases d with _ | d
  · trivial
  refine ⟨rfl, rfl, fun w' es s' hn => ?_, fun _ _ e => by (cases e), fun _ e => by (cases e), fun _ e => by (cases e)⟩
  generalize hol : (⟨0, 1, 0, c⟩ : Mst) = oo at hn
  cases hn with
  | c2hit c' _ _ _ _ _ hc hs e =>
    subst hol
    have hs1 := set1 hc (nw ⟨0, 1, 0, c⟩ true true)
    have h1 := cs1 hc
    rw [e] at h1
    rw [ex]
    rw [en] at hs1 ⊢
    refine ⟨_, stepG_cas_hit rfl rfl (by k_ne) rfl Try.func96 x96.1 x96.2.1 x96.2.2 .i32 e96 rfl rfl rfl h1 (csz hc 1), rfl, ?_⟩
    replace hF := hK hF (RT.own hO (by simpa using hb) hs1)
    clear hs1 hc h1 e hs
    refine crew.Goes.after (S₁ := fun g w => Goes Try.prog false (RT p [bi]) (DT p [bi]) (AtD p bi ix d (.lk .le)) 60 g w) (RT.refl (p := p) (ps := [bi])) (fun g w h => h) (m := 60) (n := 60) (dmono (D := DC0) (fun w w' es h => dt_of w w' es h) ?_) |>.mono (by omega)
    walk_nrm
    show Goes Try.prog false (RT p [bi]) DC0 _ _ _ _
    u_c stepG_region_end hK hF
    u_cond true hK hF
    u_c stepG_seq hK hF
    u_c stepG_seq hK hF
    u_reg hK hF
    u_op hK hF
    u_op hK hF
    u_op hK hF
    u_c stepG_region_end hK hF
    u_cond true hK hF
    u_exit hK hF
    u_cond true hK hF
    u_c stepG_seq hK hF
    u_reg hK hF
    refine Goes.stop fun w₃ h₃ => ?_
    refine tailLit hK hC hO hb hT hm d _ ⟨0, 1, 0, c⟩ it true true ws ?_ _ (hK hF h₃)
    simp only [S97, restR, restV, restS, restQ, cT, opsOf, rest11, in97, lp97, tail97, c97, body97, cL, cR, cB, Try.f97, Option.getD_some]
    rfl
  | c2miss c' _ _ _ _ _ hc ho hs e =>
    subst hol
    have hne : c'.m.enc ≠ Mst.enc ⟨0, 1, 0, c⟩ := fun h => e (Mst.inj ho hs.1 h)
    refine ⟨_, stepG_cas_miss rfl rfl (by k_ne) rfl Try.func96 x96.1 x96.2.1 x96.2.2 .i32 e96 rfl rfl rfl (cs1 hc) (csz hc 1) hne, rfl, ?_⟩
    clear hc ho hne e hs
    refine dmono (D := DC0) (fun w w' es h => dt_of w w' es h) ?_
    walk_nrm
    show Goes Try.prog false (RT p [bi]) DC0 _ _ _ _
    u_c stepG_region_end hK hF
    u_cond false hK hF
    u_reg hK hF
    u_op hK hF
    u_op hK hF
    u_op hK hF
    refine Goes.stop fun w2 h2 => ?_
    replace hF := hK hF h2
    clear h2
    rcases d with _ | d
    · trivial
    refine ⟨rfl, rfl, fun w' es s' hn => ?_, fun _ _ e => by (cases e), fun _ e => by (cases e), fun _ e => by (cases e)⟩
    cases hn with
    | r3 c2 _ _ _ _ hc hs =>
      refine ⟨_, stepG_loadQ rfl rfl (by k_ne) rfl rfl (cs1 hc) q97, rfl, ?_⟩
      have hH := headLit (IH d (by omega))
      clear hc
      generalize c2.m = mm at *
      refine crew.Goes.after (S₁ := fun g w => Goes Try.prog false (RT p [bi]) (DT p [bi]) (AtD p bi ix d (.lk (hd mm it true true ws))) 200 g w) (RT.refl (p := p) (ps := [bi])) (fun g w h => h) (m := 60) (n := 200) (dmono (D := DC0) (fun w w' es h => dt_of w w' es h) ?_) |>.mono (by omega)
      walk_nrm
      show Goes Try.prog false (RT p [bi]) DC0 _ _ _ _
      u_op hK hF
      u_c stepG_region_end hK hF
      u_c stepG_inBlock hK hF
      u_c stepG_inLoop hK hF
      refine Goes.stop fun w₃ h₃ => ?_
      refine hH _ mm it true true ws hs ?_ _ (hK hF h₃)
      simp only [S97, restR, restV, restS, restQ, cT, opsOf, rest11, in97, lp97, tail97, c97, body97, cL, cR, cB, Try.f97, Option.getD_some]
      rfl

set_option maxRecDepth 100000 in
set_option maxHeartbeats 64000000 in
theorem c2h (hK : ∀ {w w₁ : World}, K w → RT p [bi] w w₁ → K w₁) (hC : ∀ {w : World}, K w → CLive p w)
    (hO : p.Ok) (hb : bi ≠ p.C) (hT : ∀ d w, K w → Goes Try.prog false (RT p [bi]) (DT p [bi]) (AtD p bi ix d .o2) mT (G (b₁.at (a₁.put ((ops₁[i₁]?).bind (·.dst)) (.tuple #[])) (.inRegion ops₁ rest₁ :: k₁)) cs₁) w) (hm : mT ≤ 300) :
    ∀ d, (∀ d' < d, Head p bi ix K b₁ a₁ ops₁ i₁ rest₁ k₁ cs₁ d') → ∀ (c : Nat) (hc : c ≤ 1048576) (it : Nat) (ws : Int) (J : Nat → Value) wl, K wl → Goes Try.prog false (RT p [bi]) (DT p [bi]) (AtD p bi ix d (.lk (.c2 ⟨1, 1, 0, c⟩ it true true ws))) 140
      (G ((base 97).at ⟨S97 p.C ⟨1, 1, 0, c⟩ it true true ws J, []⟩ [.code rest11, .inBlock 1, .inLoop lp97, .inBlock 0, .code tail97]) (b₁.at a₁ (.inRegion ops₁ (i₁ :: rest₁) :: k₁) :: cs₁)) wl := by
  intro d IH c hcc it ws J wl hF
  simp only [S97, restR, restV, restS, restQ, cT, opsOf, rest11, in97, lp97, tail97, c97, body97, cL, cR, cB, Try.f97, Option.getD_some]
  have f4 : bits .and .i32 (Mst.enc ⟨1, 1, 0, c⟩) 4 = 0 := enc_and4 (by omega) (by omega) (by omega) (by omega)
  have f5 : bits .and .i32 (Mst.enc ⟨1, 1, 0, c⟩) 5 = 1 := enc_and5 (by omega) (by omega) (by omega) (by omega)
  have f1 : bits .and .i32 (Mst.enc ⟨1, 1, 0, c⟩) 1 = 1 := enc_and1 (by omega) (by omega) (by omega) (by omega)
  have g1 : bits .or .i32 (Mst.enc ⟨1, 1, 0, c⟩) 1 = Mst.enc ⟨1, 1, 0, c⟩ := enc_or1 (by omega) (by omega) (by omega) (by omega)
  have g2 : IntKind.i32.wrap (Mst.enc ⟨1, 1, 0, c⟩ + 8) = Mst.enc ⟨1, 1, 0, c + 1⟩ := enc_add8 (by omega) (by omega) (by omega) (by omega)
  have g3 : bits .or .i32 (Mst.enc ⟨1, 1, 0, c + 1⟩) 4 = Mst.enc ⟨1, 1, 1, c + 1⟩ := enc_or4 (by omega) (by omega) (by omega) (by omega)
  have g4 : bits .and .i32 (Mst.enc ⟨1, 1, 1, c + 1⟩) 2 = 2 := enc_and2 (by omega) (by omega) (by omega) (by omega)
  have g5 : bits .andNot .i32 (Mst.enc ⟨1, 1, 1, c + 1⟩) 2 = Mst.enc ⟨1, 0, 1, c + 1⟩ := enc_not2 (by omega) (by omega) (by omega) (by omega)
  have en : nw ⟨1, 1, 0, c⟩ true true = ⟨1, 0, 1, c + 1⟩ := rfl
  have ex : nx ⟨1, 1, 0, c⟩ true ws = (if ws = 0 then .t1 true else .s1 true ws) := by simp [nx]
  refine dmono (D := DC0) (fun w w' es h => dt_of w w' es h) ?_
  show Goes Try.prog false (RT p [bi]) DC0 _ _ _ _
  u_c stepG_seq hK hF
  u_reg hK hF
  u_op hK hF
  u_op hK hF
  u_c stepG_region_end hK hF
  u_c stepG_seq hK hF
  u_c stepG_seq hK hF
  u_reg hK hF
  u_op hK hF
  u_op hK hF
  u_op hK hF
  u_c stepG_region_end hK hF
  u_cond true hK hF
  u_reg hK hF
  u_op hK hF
  u_op hK hF
  u_op hK hF
  u_c stepG_region_end hK hF
  u_c stepG_seq hK hF
  u_c stepG_seq hK hF
  u_reg hK hF
  u_op hK hF
  u_op hK hF
  u_op hK hF
  u_c stepG_region_end hK hF
  u_cond true hK hF
  u_reg hK hF
  u_op hK hF
  u_op hK hF
  u_op hK hF
  u_c stepG_region_end hK hF
  u_c stepG_seq hK hF
  u_c stepG_seq hK hF
  u_reg hK hF
  u_op hK hF
  u_op hK hF
  u_op hK hF
  u_op hK hF
  u_op hK hF
  u_op hK hF
  u_c stepG_region_end hK hF
  u_cond true hK hF
  u_reg hK hF
  u_op hK hF
  u_op hK hF
  u_op hK hF
  u_c stepG_region_end hK hF
  u_c stepG_seq hK hF
  u_c stepG_seq hK hF
  u_reg hK hF
  u_op hK hF
  u_c stepG_region_end hK hF
  u_cond true hK hF
  u_c stepG_seq hK hF
  u_c stepG_seq hK hF
  u_reg hK hF
  u_op hK hF
  u_op hK hF
  u_op hK hF
  u_c stepG_region_end hK hF
  u_cond false hK hF
  u_c stepG_skip hK hF
  u_reg hK hF
  u_op hK hF
  u_op hK hF
  u_op hK hF
  u_c stepG_region_end hK hF
  u_c stepG_seq hK hF
  u_reg hK hF
  u_op hK hF
  u_op hK hF
  u_op hK hF
  u_op hK hF
  u_op hK hF
  refine Goes.stop fun w1 h1 => ?_
  replace hF := hK hF h1
  clear h1
  rcases d with _ | d
  · trivial
  refine ⟨rfl, rfl, fun w' es s' hn => ?_, fun _ _ e => by (cases e), fun _ e => by (cases e), fun _ e => by (cases e)⟩
  generalize hol : (⟨1, 1, 0, c⟩ : Mst) = oo at hn
  cases hn with
  | c2hit c' _ _ _ _ _ hc hs e =>
    subst hol
    have hs1 := set1 hc (nw ⟨1, 1, 0, c⟩ true true)
    have h1 := cs1 hc
    rw [e] at h1
    rw [ex]
    rw [en] at hs1 ⊢
    refine ⟨_, stepG_cas_hit rfl rfl (by k_ne) rfl Try.func96 x96.1 x96.2.1 x96.2.2 .i32 e96 rfl rfl rfl h1 (csz hc 1), rfl, ?_⟩
    replace hF := hK hF (RT.own hO (by simpa using hb) hs1)
    clear hs1 hc h1 e hs
    refine crew.Goes.after (S₁ := fun g w => Goes Try.prog false (RT p [bi]) (DT p [bi]) (AtD p bi ix d (.lk (if ws = 0 then .t1 true else .s1 true ws))) 120 g w) (RT.refl (p := p) (ps := [bi])) (fun g w h => h) (m := 60) (n := 120) (dmono (D := DC0) (fun w w' es h => dt_of w w' es h) ?_) |>.mono (by omega)
    walk_nrm
    show Goes Try.prog false (RT p [bi]) DC0 _ _ _ _
    u_c stepG_region_end hK hF
    u_cond true hK hF
    u_c stepG_seq hK hF
    u_c stepG_seq hK hF
    u_reg hK hF
    u_op hK hF
    u_op hK hF
    u_op hK hF
    u_c stepG_region_end hK hF
    u_cond false hK hF
    u_c stepG_skip hK hF
    refine Goes.stop fun w₃ h₃ => ?_
    refine headQLit hK hC hO hb hT hm d (fun d' h' => IH d' (by omega)) _ ⟨1, 1, 0, c⟩ it true true ws ?_ _ (hK hF h₃)
    simp only [S97, restR, restV, restS, restQ, cT, opsOf, rest11, in97, lp97, tail97, c97, body97, cL, cR, cB, Try.f97, Option.getD_some]
    rfl
  | c2miss c' _ _ _ _ _ hc ho hs e =>
    subst hol
    have hne : c'.m.enc ≠ Mst.enc ⟨1, 1, 0, c⟩ := fun h => e (Mst.inj ho hs.1 h)
    refine ⟨_, stepG_cas_miss rfl rfl (by k_ne) rfl Try.func96 x96.1 x96.2.1 x96.2.2 .i32 e96 rfl rfl rfl (cs1 hc) (csz hc 1) hne, rfl, ?_⟩
    clear hc ho hne e hs
    refine dmono (D := DC0) (fun w w' es h => dt_of w w' es h) ?_
    walk_nrm
    show Goes Try.prog false (RT p [bi]) DC0 _ _ _ _
    u_c stepG_region_end hK hF
    u_cond false hK hF
    u_reg hK hF
    u_op hK hF
    u_op hK hF
    u_op hK hF
    refine Goes.stop fun w2 h2 => ?_
    replace hF := hK hF h2
    clear h2
    rcases d with _ | d
    · trivial
    refine ⟨rfl, rfl, fun w' es s' hn => ?_, fun _ _ e => by (cases e), fun _ e => by (cases e), fun _ e => by (cases e)⟩
    cases hn with
    | r3 c2 _ _ _ _ hc hs =>
      refine ⟨_, stepG_loadQ rfl rfl (by k_ne) rfl rfl (cs1 hc) q97, rfl, ?_⟩
      have hH := headLit (IH d (by omega))
      clear hc
      generalize c2.m = mm at *
      refine crew.Goes.after (S₁ := fun g w => Goes Try.prog false (RT p [bi]) (DT p [bi]) (AtD p bi ix d (.lk (hd mm it true true ws))) 200 g w) (RT.refl (p := p) (ps := [bi])) (fun g w h => h) (m := 60) (n := 200) (dmono (D := DC0) (fun w w' es h => dt_of w w' es h) ?_) |>.mono (by omega)
      walk_nrm
      show Goes Try.prog false (RT p [bi]) DC0 _ _ _ _
      u_op hK hF
      u_c stepG_region_end hK hF
      u_c stepG_inBlock hK hF
      u_c stepG_inLoop hK hF
      refine Goes.stop fun w₃ h₃ => ?_
      refine hH _ mm it true true ws hs ?_ _ (hK hF h₃)
      simp only [S97, restR, restV, restS, restQ, cT, opsOf, rest11, in97, lp97, tail97, c97, body97, cL, cR, cB, Try.f97, Option.getD_some]
      rfl
end
end Go.Proofs.Ytdkbkocklnnmdaa.tog
