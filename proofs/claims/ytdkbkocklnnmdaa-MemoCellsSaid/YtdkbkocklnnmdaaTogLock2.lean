/-
  One of many at sync.Mutex's lockSlow: it queues, asks the clock, waits for the semaphore. Conditions: what is held of the world outlives the others' doing.
-/
import Derived.Test.YtdkbkocklnnmdaaTogLock1
set_option linter.unusedSimpArgs false
set_option linter.unusedVariables false
namespace Go.Proofs.Ytdkbkocklnnmdaa.tog
open Go Go.Conc Go.RowKit Go.ConcR.Gen Go.ConcN.Gen Go.Proofs.Ytdkbkocklnnmdaa.wg Go.Proofs.Ytdkbkocklnnmdaa.kid Go.Proofs.Ytdkbkocklnnmdaa.lock Go.Proofs.Ytdkbkocklnnmdaa.free
open Go.ConcR (KK WgAt stA smA rd wr mk DC0)
open Go.ConcN (WgLive RW AtR0)
open Go.Conc.Lib


section
variable {p : Tp} {bi ix : Nat} {K : World → Prop} {b₁ : Frame} {a₁ : Act} {ops₁ : Array Oper} {i₁ : Nat} {rest₁ : List Nat} {k₁ : List Item} {cs₁ : List Frame} {mT : Nat}

theorem headRLit (hK : ∀ {w w₁ : World}, K w → RT p [bi] w w₁ → K w₁) (hC : ∀ {w : World}, K w → CLive p w)
    (hO : p.Ok) (hb : bi ≠ p.C) (hT : ∀ d w, K w → Goes Try.prog false (RT p [bi]) (DT p [bi]) (AtD p bi ix d .o2) mT (G (b₁.at (a₁.put ((ops₁[i₁]?).bind (·.dst)) (.tuple #[])) (.inRegion ops₁ rest₁ :: k₁)) cs₁) w) (hm : mT ≤ 300) (d : Nat) (IH : ∀ d' < d, Head p bi ix K b₁ a₁ ops₁ i₁ rest₁ k₁ cs₁ d') (g : Goroutine) (o : Mst) (it : Int) (aw sv : Bool) (ws : Int) (hg : g = G ((base 97).at ⟨S97 p.C o it aw sv ws (fun k => g.frame.tmps.getD k undef), []⟩ [.code restR, .inBlock 1, .inLoop lp97, .inBlock 0, .code tail97]) (b₁.at a₁ (.inRegion ops₁ (i₁ :: rest₁) :: k₁) :: cs₁)) (w : World) (hw : K w) :
    Goes Try.prog false (RT p [bi]) (DT p [bi]) (AtD p bi ix d (.lk (.r2 sv ws))) 60 g w := by
  obtain ⟨J, rfl⟩ : ∃ J, g = G ((base 97).at ⟨S97 p.C o it aw sv ws J, []⟩ [.code restR, .inBlock 1, .inLoop lp97, .inBlock 0, .code tail97]) (b₁.at a₁ (.inRegion ops₁ (i₁ :: rest₁) :: k₁) :: cs₁) := ⟨_, hg⟩
  exact headR hK hC hO hb hT hm d IH o it aw sv ws J w hw

set_option maxRecDepth 100000 in
set_option maxHeartbeats 64000000 in
/-- It waits for the semaphore. -/
theorem headS (hK : ∀ {w w₁ : World}, K w → RT p [bi] w w₁ → K w₁) (hC : ∀ {w : World}, K w → CLive p w)
    (hO : p.Ok) (hb : bi ≠ p.C) (hT : ∀ d w, K w → Goes Try.prog false (RT p [bi]) (DT p [bi]) (AtD p bi ix d .o2) mT (G (b₁.at (a₁.put ((ops₁[i₁]?).bind (·.dst)) (.tuple #[])) (.inRegion ops₁ rest₁ :: k₁)) cs₁) w) (hm : mT ≤ 300) :
    ∀ d, (∀ d' < d, Head p bi ix K b₁ a₁ ops₁ i₁ rest₁ k₁ cs₁ d') → ∀ (o : Mst) (it : Int) (aw sv : Bool) (ws : Int) (J : Nat → Value) w, K w → Goes Try.prog false (RT p [bi]) (DT p [bi]) (AtD p bi ix d (.lk (.s1 sv ws))) 60
      (G ((base 97).at ⟨S97 p.C o it aw sv ws J, []⟩ [.code restS, .inBlock 1, .inLoop lp97, .inBlock 0, .code tail97]) (b₁.at a₁ (.inRegion ops₁ (i₁ :: rest₁) :: k₁) :: cs₁)) w := by
  intro d IH o it aw sv ws J w hF
  refine dmono (D := DC0) (fun w w' es h => dt_of w w' es h) ?_
  simp only [S97, restR, restV, restS, restQ, cT, opsOf, rest11, in97, lp97, tail97, c97, body97, cL, cR, cB, Try.f97, Option.getD_some]
  u_c stepG_seq hK hF
  u_reg hK hF
  u_op hK hF
  u_op hK hF
  u_op hK hF
  u_op hK hF
  refine Goes.stop fun w1 h1 => ?_
  replace hF := hK hF h1
  clear h1
  rcases d with _ | d
  · trivial
  refine ⟨rfl, rfl, fun w' es s' hn => ?_, fun _ _ e c hc h0 => stepG_semacquire_wait (ad := cA p 2) rfl rfl rfl Try.func104 x104.1 x104.2.1 x104.2.2 e104 (by simp [Act.eval, cA]) (by have := cs2 hc; rw [h0] at this; exact this), fun _ e => by (cases e), fun _ e => by (cases e)⟩
  have hR := fun (sv : Bool) => headRLit hK hC hO hb hT hm d (fun d' h' => IH d' (by omega)) (sv := sv)
  have hR2 := fun (d0 : Nat) (h0 : d0 + 1 = d) (sv : Bool) => headRLit hK hC hO hb hT hm d0 (fun d' h' => IH d' (by omega)) (sv := sv)
  cases hn with
  | s1 c _ _ hc h0 =>
    have hs1 := set2 hc (c.s - 1)
    have e1 : ((c.s - 1 : Nat) : Int) = (c.s : Int) - 1 := by omega
    rw [e1] at hs1
    refine ⟨_, stepG_semacquire rfl rfl (by k_ne) rfl Try.func104 x104.1 x104.2.1 x104.2.2 e104 (by simp [Act.eval, cA]) (cs2 hc) (by omega) (csz hc 2), rfl, ?_⟩
    replace hF := hK hF (RT.own hO (by simpa using hb) hs1)
    clear hs1 hc e1 h0
    cases sv with
    | true =>
      simp only [if_true]
      refine crew.Goes.after (S₁ := fun g w => Goes Try.prog false (RT p [bi]) (DT p [bi]) (AtD p bi ix d (.lk (.r2 true ws))) 60 g w) (RT.refl (p := p) (ps := [bi])) (fun g w h => h) (m := 40) (n := 60) (dmono (D := DC0) (fun w w' es h => dt_of w w' es h) ?_) |>.mono (by omega)
      walk_nrm
      show Goes Try.prog false (RT p [bi]) DC0 _ _ _ _
      u_c stepG_region_end hK hF
      u_c stepG_seq hK hF
      u_reg hK hF
      u_op hK hF
      u_op hK hF
      u_skip hK hF
      u_skip hK hF
      u_skip hK hF
      u_skip hK hF
      u_op hK hF
      u_op hK hF
      u_c stepG_region_end hK hF
      refine Goes.stop fun w₃ h₃ => ?_
      refine hR true _ o it aw ws ?_ _ (hK hF h₃)
      simp only [S97, restR, restV, restS, restQ, cT, opsOf, rest11, in97, lp97, tail97, c97, body97, cL, cR, cB, Try.f97, Option.getD_some]
      rfl
    | false =>
      simp only [if_false, Bool.false_eq_true]
      refine dmono (D := DC0) (fun w w' es h => dt_of w w' es h) ?_
      walk_nrm
      show Goes Try.prog false (RT p [bi]) DC0 _ _ _ _
      u_c stepG_region_end hK hF
      u_c stepG_seq hK hF
      u_reg hK hF
      u_op hK hF
      u_op hK hF
      refine Goes.stop fun w2 h2 => ?_
      replace hF := hK hF h2
      clear h2
      rcases d with _ | d
      · trivial
      refine ⟨rfl, rfl, fun w' es s' hn => ?_, fun _ _ e => by (cases e), fun _ e => by (cases e), fun _ e => by (cases e)⟩
      cases hn with
      | t2 =>
        refine ⟨_, stepG_nanotime rfl rfl (by k_ne) rfl Try.func103 x103.1 x103.2.1 x103.2.2 e103 q103, rfl, ?_⟩
        replace hF := hK hF (RT.later _)
        generalize ((w2.os.mono + w2.tick : Nat) : Int) = tv
        generalize w2.later = w2' at hF ⊢
        refine crew.Goes.after (S₁ := fun g w => Goes Try.prog false (RT p [bi]) (DT p [bi]) (AtD p bi ix d (.lk (.r2 (decide (1000000 < IntKind.i64.wrap (tv - ws))) ws))) 60 g w) (RT.refl (p := p) (ps := [bi])) (fun g w h => h) (m := 40) (n := 60) (dmono (D := DC0) (fun w w' es h => dt_of w w' es h) ?_) |>.mono (by omega)
        walk_nrm
        show Goes Try.prog false (RT p [bi]) DC0 _ _ _ _
        u_op hK hF
        u_op hK hF
        u_op hK hF
        u_op hK hF
        u_op hK hF
        u_c stepG_region_end hK hF
        refine Goes.stop fun w₃ h₃ => ?_
        refine hR2 d rfl (decide (1000000 < IntKind.i64.wrap (tv - ws))) _ o it aw ws ?_ _ (hK hF h₃)
        simp only [S97, restR, restV, restS, restQ, cT, opsOf, rest11, in97, lp97, tail97, c97, body97, cL, cR, cB, Try.f97, Option.getD_some]
        rfl

theorem headSLit (hK : ∀ {w w₁ : World}, K w → RT p [bi] w w₁ → K w₁) (hC : ∀ {w : World}, K w → CLive p w)
    (hO : p.Ok) (hb : bi ≠ p.C) (hT : ∀ d w, K w → Goes Try.prog false (RT p [bi]) (DT p [bi]) (AtD p bi ix d .o2) mT (G (b₁.at (a₁.put ((ops₁[i₁]?).bind (·.dst)) (.tuple #[])) (.inRegion ops₁ rest₁ :: k₁)) cs₁) w) (hm : mT ≤ 300) (d : Nat) (IH : ∀ d' < d, Head p bi ix K b₁ a₁ ops₁ i₁ rest₁ k₁ cs₁ d') (g : Goroutine) (o : Mst) (it : Int) (aw sv : Bool) (ws : Int) (hg : g = G ((base 97).at ⟨S97 p.C o it aw sv ws (fun k => g.frame.tmps.getD k undef), []⟩ [.code restS, .inBlock 1, .inLoop lp97, .inBlock 0, .code tail97]) (b₁.at a₁ (.inRegion ops₁ (i₁ :: rest₁) :: k₁) :: cs₁)) (w : World) (hw : K w) :
    Goes Try.prog false (RT p [bi]) (DT p [bi]) (AtD p bi ix d (.lk (.s1 sv ws))) 60 g w := by
  obtain ⟨J, rfl⟩ : ∃ J, g = G ((base 97).at ⟨S97 p.C o it aw sv ws J, []⟩ [.code restS, .inBlock 1, .inLoop lp97, .inBlock 0, .code tail97]) (b₁.at a₁ (.inRegion ops₁ (i₁ :: rest₁) :: k₁) :: cs₁) := ⟨_, hg⟩
  exact headS hK hC hO hb hT hm d IH o it aw sv ws J w hw

set_option maxRecDepth 100000 in
set_option maxHeartbeats 64000000 in
/-- It queues. -/
theorem headQ (hK : ∀ {w w₁ : World}, K w → RT p [bi] w w₁ → K w₁) (hC : ∀ {w : World}, K w → CLive p w)
    (hO : p.Ok) (hb : bi ≠ p.C) (hT : ∀ d w, K w → Goes Try.prog false (RT p [bi]) (DT p [bi]) (AtD p bi ix d .o2) mT (G (b₁.at (a₁.put ((ops₁[i₁]?).bind (·.dst)) (.tuple #[])) (.inRegion ops₁ rest₁ :: k₁)) cs₁) w) (hm : mT ≤ 300) :
    ∀ d, (∀ d' < d, Head p bi ix K b₁ a₁ ops₁ i₁ rest₁ k₁ cs₁ d') → ∀ (o : Mst) (it : Int) (aw sv : Bool) (ws : Int) (J : Nat → Value) w, K w → Goes Try.prog false (RT p [bi]) (DT p [bi]) (AtD p bi ix d (.lk (if ws = 0 then .t1 sv else .s1 sv ws))) 120
      (G ((base 97).at ⟨S97 p.C o it aw sv ws J, []⟩ [.code restQ, .inBlock 1, .inLoop lp97, .inBlock 0, .code tail97]) (b₁.at a₁ (.inRegion ops₁ (i₁ :: rest₁) :: k₁) :: cs₁)) w := by
  intro d IH o it aw sv ws J w hF
  by_cases hw : ws = 0
  · subst hw
    rw [if_pos rfl]
    refine dmono (D := DC0) (fun w w' es h => dt_of w w' es h) ?_
    simp only [S97, restR, restV, restS, restQ, cT, opsOf, rest11, in97, lp97, tail97, c97, body97, cL, cR, cB, Try.f97, Option.getD_some]
    u_c stepG_seq hK hF
    u_reg hK hF
    u_op hK hF
    u_op hK hF
    u_op hK hF
    u_c stepG_region_end hK hF
    u_c stepG_seq hK hF
    u_c stepG_seq hK hF
    u_reg hK hF
    u_op hK hF
    u_op hK hF
    u_c stepG_region_end hK hF
    u_cond true hK hF
    u_reg hK hF
    refine Goes.stop fun w1 h1 => ?_
    replace hF := hK hF h1
    clear h1
    rcases d with _ | d
    · trivial
    refine ⟨rfl, rfl, fun w' es s' hn => ?_, fun _ _ e => by (cases e), fun _ e => by (cases e), fun _ e => by (cases e)⟩
    cases hn with
    | t1 =>
      refine ⟨_, stepG_nanotime rfl rfl (by k_ne) rfl Try.func103 x103.1 x103.2.1 x103.2.2 e103 q103, rfl, ?_⟩
      replace hF := hK hF (RT.later _)
      generalize ((w1.os.mono + w1.tick : Nat) : Int) = tv
      generalize w1.later = w1' at hF ⊢
      refine crew.Goes.after (S₁ := fun g w => Goes Try.prog false (RT p [bi]) (DT p [bi]) (AtD p bi ix d (.lk (.s1 sv tv))) 60 g w) (RT.refl (p := p) (ps := [bi])) (fun g w h => h) (m := 40) (n := 60) (dmono (D := DC0) (fun w w' es h => dt_of w w' es h) ?_) |>.mono (by omega)
      walk_nrm
      show Goes Try.prog false (RT p [bi]) DC0 _ _ _ _
      u_op hK hF
      u_c stepG_region_end hK hF
      refine Goes.stop fun w₃ h₃ => ?_
      refine headSLit hK hC hO hb hT hm d (fun d' h' => IH d' (by omega)) _ o it aw sv tv ?_ _ (hK hF h₃)
      simp only [S97, restR, restV, restS, restQ, cT, opsOf, rest11, in97, lp97, tail97, c97, body97, cL, cR, cB, Try.f97, Option.getD_some]
      rfl
  · rw [if_neg hw]
    have hd : decide (ws = 0) = false := decide_eq_false hw
    have hd2 : (ws == 0) = false := by simpa using hw
    simp only [S97, restR, restV, restS, restQ, cT, opsOf, rest11, in97, lp97, tail97, c97, body97, cL, cR, cB, Try.f97, Option.getD_some]
    refine crew.Goes.after (S₁ := fun g w => Goes Try.prog false (RT p [bi]) (DT p [bi]) (AtD p bi ix d (.lk (.s1 sv ws))) 60 g w) (RT.refl (p := p) (ps := [bi])) (fun g w h => h) (m := 40) (n := 60) (dmono (D := DC0) (fun w w' es h => dt_of w w' es h) ?_) |>.mono (by omega)
    show Goes Try.prog false (RT p [bi]) DC0 _ _ _ _
    u_c stepG_seq hK hF
    u_reg hK hF
    u_op hK hF
    u_op hK hF
    u_op hK hF
    u_c stepG_region_end hK hF
    u_c stepG_seq hK hF
    u_c stepG_seq hK hF
    u_reg hK hF
    u_op hK hF
    u_op hK hF
    u_c stepG_region_end hK hF
    u_cond false hK hF
    u_c stepG_skip hK hF
    refine Goes.stop fun w₃ h₃ => ?_
    refine headSLit hK hC hO hb hT hm d IH _ o it aw sv ws ?_ _ (hK hF h₃)
    simp only [S97, restR, restV, restS, restQ, cT, opsOf, rest11, in97, lp97, tail97, c97, body97, cL, cR, cB, Try.f97, Option.getD_some]
    rfl
end
end Go.Proofs.Ytdkbkocklnnmdaa.tog
