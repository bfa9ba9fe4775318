/-
  One of many: memo.Cell[string].Get over a function that counts its runs and tells a captured value, from its entry to its answer. Conditions: what is held of the world outlives the others' doing.
-/
import Derived.Test.YtdkbkocklnnmdaaIRun
set_option linter.unusedSimpArgs false
set_option linter.unusedVariables false
namespace Go.Proofs.Ytdkbkocklnnmdaa.itog
open Go.Proofs.Ytdkbkocklnnmdaa.tog Go Go.Conc Go.RowKit Go.ConcR.Gen Go.ConcN.Gen Go.Proofs.Ytdkbkocklnnmdaa.wg Go.Proofs.Ytdkbkocklnnmdaa.kid Go.Proofs.Ytdkbkocklnnmdaa.lock Go.Proofs.Ytdkbkocklnnmdaa.free
open Go.ConcR (KK WgAt stA smA rd wr mk DC0)
open Go.ConcN (WgLive RW AtR0)
open Go.Conc.Lib


theorem p24 : Try.prog.underlying 24 = some (.pointer (Try.prog.pointee 24)) := by kernel_rfl
theorem x11 : (Try.f11.name == "runtime.NumGoroutine") = false := by kernel_rfl
theorem q11 : (Try.prog.funcs[(base 11).fn]?).any (·.norace) = false := by kernel_rfl
noncomputable def body11 : Code := Try.f11.body.getD .skip
noncomputable def ops11 : Array Oper := opsOf (cL (cR (cR body11)))
noncomputable def rest11 : Code := cR (cR (cR body11))
noncomputable def body33 : Code := Try.f33.body.getD .skip
noncomputable def ops33 : Array Oper := opsOf (cT (cR body33))
noncomputable def body55 : Code := Try.f55.body.getD .skip
noncomputable def ops55 : Array Oper := opsOf (cL body55)
noncomputable def rest55 : Code := cR body55
noncomputable def ops55r : Array Oper := opsOf (cR (cT (cR (cR (cR body55)))))
/-- Get's slots. -/
def S11 (C : Nat) (J : Nat → Value) : Array Value := #[.pointer (some ⟨C, 0, none⟩), J 1, J 2, J 3, J 4, J 5, J 6, J 7, J 8, J 9, J 10, J 11, J 12, J 13, J 14, J 15, J 16]
/-- doSlow's slots. -/
def S55 (C : Nat) (J : Nat → Value) : Array Value := #[.pointer (some ⟨C, 0, none⟩), .func (.func 34) #[.pointer (some ⟨C, 0, none⟩)] #[], J 2, J 3, J 4, J 5, J 6, J 7, J 8, J 9, J 10, J 11, J 12, J 13, J 14, J 15, J 16, J 17, J 18, J 19, J 20]
def At11 (p : Tp) (T : Array Value) : Prop := ∃ J, T = S11 p.C J
theorem At11.mk {p : Tp} (T : Array Value) (h : T = S11 p.C fun k => T.getD k undef) : At11 p T := ⟨_, h⟩
def dStore (C : Nat) : Deferred := { target := .fn (.func 57) #[], args := #[.pointer (some ⟨C, 0, none⟩), .bool true] }
def dUnlock (C : Nat) : Deferred := { target := .fn (.func 85) #[], args := #[.pointer (some ⟨C, 1, none⟩)] }

section
variable {p : Tp} {bi ix : Nat} {Bv : Fb} {K : World → Prop} {b₀ : Frame} {a₀ : Act} {ops₀ : Array Oper} {i₀ : Nat} {rest₀ : List Nat} {k₀ : List Item} {cs : List Frame} {mT : Nat}
set_option maxRecDepth 100000 in
set_option maxHeartbeats 64000000 in
/-- Behind Do: the value is read. -/
theorem gvG (R : RunOk p bi Bv K) (hT : ∀ d v w, K w → Goes Try.prog false (RT p [bi]) (DT p [bi]) (AtD p bi ix d (.ow v)) mT (G (b₀.at (a₀.put ((ops₀[i₀]?).bind (·.dst)) v) (.inRegion ops₀ rest₀ :: k₀)) cs) w) (hm : mT ≤ 60) : ∀ J d w, K w → Goes Try.prog false (RT p [bi]) (DT p [bi]) (AtD p bi ix d (.gv)) 100 (G ((base 11).at ⟨S11 p.C J, []⟩ [.inRegion ops11 [], .code rest11]) (b₀.at a₀ (.inRegion ops₀ (i₀ :: rest₀) :: k₀) :: cs)) w := by
  intro J d w hF
  have hK := @R.st
  refine dmono (D := DC0) (fun w w' es h => dt_of w w' es h) ?_
  refine Goes.mono (n := 60) ?_ (by omega)
  simp only [S11, ops11, rest11, body11, opsOf, cL, cR, cT, Try.f11, Option.getD_some]
  u_c stepG_region_end hK hF
  u_c stepG_seq hK hF
  u_reg hK hF
  u_op hK hF
  u_op hK hF
  u_op hK hF
  refine Goes.stop fun w1 h1 => ?_
  replace hF := hK hF h1
  clear h1
  rcases d with _ | d
  · trivial
  refine ⟨rfl, rfl, fun w' es s' hn => ?_, fun _ _ e => by (cases e), fun _ e => by (cases e), fun _ e => by (cases e)⟩
  cases hn with
  | gv c hc =>
    refine ⟨_, stepG_loadE (ty := 3) (by simp [tog.one]) rfl rfl (by k_ne) rfl rfl (cs4 hc) q11, rfl, ?_⟩
    clear hc
    generalize c.v = vv
    refine crew.Goes.after (S₁ := fun g w => Goes Try.prog false (RT p [bi]) (DT p [bi]) (AtD p bi ix d (.ow vv)) mT g w) (RT.refl (p := p) (ps := [bi])) (fun g w h => h) (m := 40) (n := mT) (dmono (D := DC0) (fun w w' es h => dt_of w w' es h) ?_) |>.mono (by omega)
    walk_nrm
    show Goes Try.prog false (RT p [bi]) DC0 _ _ _ _
    u_op hK hF
    u_c stepG_region_end hK hF
    u_c stepG_ret' hK hF
    u_leave1 Try.func11 hK hF
    refine Goes.stop fun w₃ h₃ => ?_
    exact hT d vv _ (hK hF h₃)
theorem gvLit (R : RunOk p bi Bv K) (hT : ∀ d v w, K w → Goes Try.prog false (RT p [bi]) (DT p [bi]) (AtD p bi ix d (.ow v)) mT (G (b₀.at (a₀.put ((ops₀[i₀]?).bind (·.dst)) v) (.inRegion ops₀ rest₀ :: k₀)) cs) w) (hm : mT ≤ 60) (d : Nat) (g : Goroutine) (hg : g = G ((base 11).at ⟨S11 p.C (fun k => g.frame.tmps.getD k undef), []⟩ [.inRegion ops11 [], .code rest11]) (b₀.at a₀ (.inRegion ops₀ (i₀ :: rest₀) :: k₀) :: cs)) (w : World) (hw : K w) : Goes Try.prog false (RT p [bi]) (DT p [bi]) (AtD p bi ix d (.gv)) 100 (g) w := by
  obtain ⟨J, rfl⟩ : ∃ J, g = G ((base 11).at ⟨S11 p.C J, []⟩ [.inRegion ops11 [], .code rest11]) (b₀.at a₀ (.inRegion ops₀ (i₀ :: rest₀) :: k₀) :: cs) := ⟨_, hg⟩
  exact gvG R hT hm J d w hw
set_option maxRecDepth 100000 in
set_option maxHeartbeats 64000000 in
/-- Behind doSlow's deferred Unlock. -/
theorem out55 (R : RunOk p bi Bv K) (hT : ∀ d v w, K w → Goes Try.prog false (RT p [bi]) (DT p [bi]) (AtD p bi ix d (.ow v)) mT (G (b₀.at (a₀.put ((ops₀[i₀]?).bind (·.dst)) v) (.inRegion ops₀ rest₀ :: k₀)) cs) w) (hm : mT ≤ 60) : ∀ T T33 T11, At11 p T11 → ∀ d w, K w → Goes Try.prog false (RT p [bi]) (DT p [bi]) (AtD p bi ix d (.gv)) 150 (G { (base 55).at ⟨T, []⟩ [] with mode := .returning } ((base 33).at ⟨T33, []⟩ [.inRegion ops33 [2]] :: (base 11).at ⟨T11, []⟩ [.inRegion ops11 [5], .code rest11] :: b₀.at a₀ (.inRegion ops₀ (i₀ :: rest₀) :: k₀) :: cs)) w := by
  intro T T33 T11 h11 d w hF
  obtain ⟨J, rfl⟩ := h11
  have hK := @R.st
  refine crew.Goes.after (S₁ := fun g w => Goes Try.prog false (RT p [bi]) (DT p [bi]) (AtD p bi ix d (.gv)) 100 g w) (RT.refl (p := p) (ps := [bi])) (fun g w h => h) (m := 40) (n := 100) (dmono (D := DC0) (fun w w' es h => dt_of w w' es h) ?_) |>.mono (by omega)
  show Goes Try.prog false (RT p [bi]) DC0 _ _ _ _
  simp only [S11, ops33, body33, opsOf, cL, cR, cT, Try.f33, Option.getD_some]
  u_leave0 Try.func55 hK hF
  u_c stepG_region_end hK hF
  u_c stepG_end hK hF
  u_leave0 Try.func33 hK hF
  refine Goes.stop fun w₃ h₃ => ?_
  refine gvLit R hT hm d _ ?_ _ (hK hF h₃)
  simp only [S11]
  rfl
theorem unl55 (R : RunOk p bi Bv K) (hT : ∀ d v w, K w → Goes Try.prog false (RT p [bi]) (DT p [bi]) (AtD p bi ix d (.ow v)) mT (G (b₀.at (a₀.put ((ops₀[i₀]?).bind (·.dst)) v) (.inRegion ops₀ rest₀ :: k₀)) cs) w) (hm : mT ≤ 60) : ∀ T T33 T11, At11 p T11 → ∀ d w, K w → Goes Try.prog false (RT p [bi]) (DT p [bi]) (AtD p bi ix d (.lk .ur)) 60 (G ((baseD 85).at ⟨#[.pointer (some ⟨p.C, 1, none⟩), undef, undef, undef, undef, undef], []⟩ [.code body85]) ({ (base 55).at ⟨T, []⟩ [] with mode := .returning } :: (base 33).at ⟨T33, []⟩ [.inRegion ops33 [2]] :: (base 11).at ⟨T11, []⟩ [.inRegion ops11 [5], .code rest11] :: b₀.at a₀ (.inRegion ops₀ (i₀ :: rest₀) :: k₀) :: cs)) w :=
  fun T T33 T11 h11 d w hw => unlockG (c₀ := { (base 55).at ⟨T, []⟩ [] with mode := .returning }) rfl R.st R.live R.ok R.bc (fun d w hw => out55 R hT hm T T33 T11 h11 d w hw) (by omega) d w hw
set_option maxRecDepth 100000 in
set_option maxHeartbeats 64000000 in
theorem st55 (R : RunOk p bi Bv K) (hT : ∀ d v w, K w → Goes Try.prog false (RT p [bi]) (DT p [bi]) (AtD p bi ix d (.ow v)) mT (G (b₀.at (a₀.put ((ops₀[i₀]?).bind (·.dst)) v) (.inRegion ops₀ rest₀ :: k₀)) cs) w) (hm : mT ≤ 60) : ∀ T T33 T11, At11 p T11 → ∀ d w, K w → Goes Try.prog false (RT p [bi]) (DT p [bi]) (AtD p bi ix d (.lk .ur)) 100 (G { (base 55).at ⟨T, [dUnlock p.C]⟩ [] with mode := .returning } ((base 33).at ⟨T33, []⟩ [.inRegion ops33 [2]] :: (base 11).at ⟨T11, []⟩ [.inRegion ops11 [5], .code rest11] :: b₀.at a₀ (.inRegion ops₀ (i₀ :: rest₀) :: k₀) :: cs)) w := by
  intro T T33 T11 h11 d w hF
  have hK := @R.st
  refine crew.Goes.after (S₁ := fun g w => Goes Try.prog false (RT p [bi]) (DT p [bi]) (AtD p bi ix d (.lk .ur)) 60 g w) (RT.refl (p := p) (ps := [bi])) (fun g w h => h) (m := 40) (n := 60) (dmono (D := DC0) (fun w w' es h => dt_of w w' es h) ?_) |>.mono (by omega)
  show Goes Try.prog false (RT p [bi]) DC0 _ _ _ _
  u_in hK hF
  rw [stepG_unwind_enter rfl Try.func85 tog.x85 rfl]
  simp only [goes_go]
  refine ⟨by u_nil, ?_⟩
  walk_nrmf Try.f85
  refine Goes.stop fun w₃ h₃ => ?_
  exact unl55 R hT hm T T33 T11 h11 d _ (hK hF h₃)
set_option maxRecDepth 100000 in
set_option maxHeartbeats 64000000 in
/-- Behind run: done is told, then the lock given back. -/
theorem run55 (R : RunOk p bi Bv K) (hT : ∀ d v w, K w → Goes Try.prog false (RT p [bi]) (DT p [bi]) (AtD p bi ix d (.ow v)) mT (G (b₀.at (a₀.put ((ops₀[i₀]?).bind (·.dst)) v) (.inRegion ops₀ rest₀ :: k₀)) cs) w) (hm : mT ≤ 60) : ∀ ba, (∀ b ∈ [bi, ba], b ≠ p.C) → ∀ T T33 T11, At11 p T11 → ∀ d w, KB p K ba w → Goes Try.prog false (RT p [bi, ba]) (DT p [bi, ba]) (AtD p bi ix d (.os ba)) 150 (G ((base 55).at ⟨T, [dStore p.C, dUnlock p.C]⟩ [.inRegion ops55r []]) ((base 33).at ⟨T33, []⟩ [.inRegion ops33 [2]] :: (base 11).at ⟨T11, []⟩ [.inRegion ops11 [5], .code rest11] :: b₀.at a₀ (.inRegion ops₀ (i₀ :: rest₀) :: k₀) :: cs)) w := by
  intro ba hbB T T33 T11 h11 d w hF
  have hK : ∀ {w w₁ : World}, KB p K ba w → RT p [bi, ba] w w₁ → KB p K ba w₁ := KB.st @R.st
  refine crew.Goes.after (S₁ := fun g w => Goes Try.prog false (RT p [bi, ba]) (DT p [bi, ba]) (AtD p bi ix d (.os ba)) 60 g w) (RT.refl (p := p) (ps := [bi, ba])) (fun g w h => h) (m := 40) (n := 60) (dmono (D := DC0) (fun w w' es h => dt_of w w' es h) ?_) |>.mono (by omega)
  show Goes Try.prog false (RT p [bi, ba]) DC0 _ _ _ _
  u_c stepG_region_end hK hF
  u_c stepG_end hK hF
  u_in hK hF
  rw [stepG_unwind_enter rfl Try.func57 x57 rfl]
  simp only [goes_go]
  refine ⟨by u_nil, ?_⟩
  walk_nrmf Try.f57
  refine Goes.stop fun w₃ h₃ => ?_
  exact storeOs (K' := K) (c₀ := { (base 55).at ⟨T, [dUnlock p.C]⟩ [] with mode := .returning }) rfl hK (fun h => R.live h.1) R.ok hbB (fun h => h.1) R.st (fun d w hw => st55 R hT hm T T33 T11 h11 d w hw) (by omega) d _ (hK hF h₃)
set_option maxRecDepth 100000 in
set_option maxHeartbeats 64000000 in
/-- doSlow behind its Lock. -/
theorem behind55 (R : RunOk p bi Bv K) (hT : ∀ d v w, K w → Goes Try.prog false (RT p [bi]) (DT p [bi]) (AtD p bi ix d (.ow v)) mT (G (b₀.at (a₀.put ((ops₀[i₀]?).bind (·.dst)) v) (.inRegion ops₀ rest₀ :: k₀)) cs) w) (hm : mT ≤ 60) : ∀ J T33 T11, At11 p T11 → ∀ d w, K w → Goes Try.prog false (RT p [bi]) (DT p [bi]) (AtD p bi ix d (.o2)) 100 (G ((base 55).at ⟨S55 p.C J, []⟩ [.inRegion ops55 [], .code rest55]) ((base 33).at ⟨T33, []⟩ [.inRegion ops33 [2]] :: (base 11).at ⟨T11, []⟩ [.inRegion ops11 [5], .code rest11] :: b₀.at a₀ (.inRegion ops₀ (i₀ :: rest₀) :: k₀) :: cs)) w := by
  intro J T33 T11 h11 d w hF
  have hK := @R.st
  have hnr := hnot2
  have hne := hnot3
  refine dmono (D := DC0) (fun w w' es h => dt_of w w' es h) ?_
  simp only [S55, ops55, rest55, body55, opsOf, cL, cR, cT, Try.f55, Option.getD_some]
  u_c stepG_region_end hK hF
  u_c stepG_seq hK hF
  u_reg hK hF
  u_op hK hF
  u_op hK hF
  u_op hK hF
  u_defer hK hF
  u_c stepG_region_end hK hF
  u_c stepG_seq hK hF
  u_reg hK hF
  u_op hK hF
  u_op hK hF
  u_op hK hF
  u_call Try.func35 x35 Try.f35 hK hF
  u_c stepG_seq hK hF
  u_reg hK hF
  u_op hK hF
  u_c stepG_region_end hK hF
  u_c stepG_seq hK hF
  u_reg hK hF
  u_op hK hF
  u_op hK hF
  u_op hK hF
  refine Goes.stop fun w1 h1 => ?_
  replace hF := hK hF h1
  clear h1
  rcases d with _ | d
  · trivial
  refine ⟨rfl, rfl, fun w' es s' hn => ?_, fun _ _ e => by (cases e), fun _ e => by (cases e), fun _ e => by (cases e)⟩
  cases hn with
  | o2 c hc =>
    refine ⟨_, stepG_load_atomic (v := c.d) rfl rfl (by k_ne) rfl Try.func59 x59.1 x59.2.1 x59.2.2 .u32 e59 rfl (cs0 hc), rfl, ?_⟩
    by_cases hd : c.d = 0
    · rw [if_pos hd, hd]
      clear hc hd
      refine crew.Goes.after (S₁ := fun g w => Goes Try.prog false (RT p [bi]) (DT p [bi]) (AtD p bi ix d (.bx)) 60 g w) (RT.refl (p := p) (ps := [bi])) (fun g w h => h) (m := 60) (n := 60) (dmono (D := DC0) (fun w w' es h => dt_of w w' es h) ?_) |>.mono (by omega)
      walk_nrm
      show Goes Try.prog false (RT p [bi]) DC0 _ _ _ _
      u_op hK hF
      u_op hK hF
      u_c stepG_region_end hK hF
      u_c stepG_ret' hK hF
      u_leave1 Try.func35 hK hF
      u_op hK hF
      u_c stepG_region_end hK hF
      u_cond true hK hF
      u_c stepG_seq hK hF
      u_reg hK hF
      u_op hK hF
      u_op hK hF
      u_op hK hF
      u_defer hK hF
      u_c stepG_region_end hK hF
      u_reg hK hF
      u_op hK hF
      u_in hK hF
      refine goes_callv rfl rfl (by k_ne) rfl rfl Try.func34 x34 rfl ⟨by u_nil, ?_⟩
      walk_nrmf Try.f34
      have e20 : (ops55r[1]?).bind (·.dst) = some 20 := by kernel_rfl
      have hS := fun T : Array Value => runG (ix := ix) (b₀ := base 55) (a₀ := ⟨T, [dStore p.C, dUnlock p.C]⟩) (ops₀ := ops55r) (i₀ := 1) (rest₀ := []) (k₀ := []) (cs := ((base 33).at ⟨T33, []⟩ [.inRegion ops33 [2]] :: (base 11).at ⟨T11, []⟩ [.inRegion ops11 [5], .code rest11] :: b₀.at a₀ (.inRegion ops₀ (i₀ :: rest₀) :: k₀) :: cs)) (mT := 150) R (fun ba hbB d w hw => by rw [e20]; exact run55 R hT hm ba hbB _ T33 T11 h11 d w hw) (by omega) d
      refine Goes.stop fun w₃ h₃ => ?_
      exact hS _ _ (hK hF h₃)
    · have z1 : (c.d != 0) = true := by simpa using hd
      have z2 : decide (c.d = 0) = false := decide_eq_false hd
      rw [if_neg hd]
      clear hc
      generalize c.d = dd at hd z1 z2 ⊢
      refine crew.Goes.after (S₁ := fun g w => Goes Try.prog false (RT p [bi]) (DT p [bi]) (AtD p bi ix d (.lk .ur)) 60 g w) (RT.refl (p := p) (ps := [bi])) (fun g w h => h) (m := 60) (n := 60) (dmono (D := DC0) (fun w w' es h => dt_of w w' es h) ?_) |>.mono (by omega)
      walk_nrm
      show Goes Try.prog false (RT p [bi]) DC0 _ _ _ _
      u_op hK hF
      u_op hK hF
      u_c stepG_region_end hK hF
      u_c stepG_ret' hK hF
      u_leave1 Try.func35 hK hF
      u_op hK hF
      u_c stepG_region_end hK hF
      u_cond false hK hF
      u_c stepG_skip hK hF
      u_c stepG_end hK hF
      u_in hK hF
      rw [stepG_unwind_enter rfl Try.func85 tog.x85 rfl]
      simp only [goes_go]
      refine ⟨by u_nil, ?_⟩
      walk_nrmf Try.f85
      refine Goes.stop fun w₃ h₃ => ?_
      exact unl55 R hT hm _ T33 T11 h11 d _ (hK hF h₃)
theorem lock55 (R : RunOk p bi Bv K) (hT : ∀ d v w, K w → Goes Try.prog false (RT p [bi]) (DT p [bi]) (AtD p bi ix d (.ow v)) mT (G (b₀.at (a₀.put ((ops₀[i₀]?).bind (·.dst)) v) (.inRegion ops₀ rest₀ :: k₀)) cs) w) (hm : mT ≤ 60) (T : Array Value) (hS : T = S55 p.C fun k => T.getD k undef) : ∀ T33 T11, At11 p T11 → ∀ d w, K w → Goes Try.prog false (RT p [bi]) (DT p [bi]) (AtD p bi ix d (.lk .ld)) 60 (G ((base 84).at ⟨#[.pointer (some ⟨p.C, 1, none⟩), undef, undef, undef, undef, undef], []⟩ [.code body84]) ((base 55).at ⟨T, []⟩ [.inRegion ops55 [3], .code rest55] :: (base 33).at ⟨T33, []⟩ [.inRegion ops33 [2]] :: (base 11).at ⟨T11, []⟩ [.inRegion ops11 [5], .code rest11] :: b₀.at a₀ (.inRegion ops₀ (i₀ :: rest₀) :: k₀) :: cs)) w := by
  obtain ⟨J, rfl⟩ : ∃ J, T = S55 p.C J := ⟨_, hS⟩
  intro T33 T11 h11 d w hw
  have e7 : (ops55[3]?).bind (·.dst) = some 7 := by kernel_rfl
  refine lockG (b₀ := base 55) (a₀ := ⟨S55 p.C J, []⟩) (ops₀ := ops55) (i₀ := 3) (rest₀ := []) (k₀ := [.code rest55]) (cs := ((base 33).at ⟨T33, []⟩ [.inRegion ops33 [2]] :: (base 11).at ⟨T11, []⟩ [.inRegion ops11 [5], .code rest11] :: b₀.at a₀ (.inRegion ops₀ (i₀ :: rest₀) :: k₀) :: cs)) (mT := 100) R.st R.live R.ok R.bc (fun d w hw => ?_) (by omega) d w hw
  rw [e7]
  exact behind55 R hT hm (fun k => if k = 7 then .tuple #[] else J k) T33 T11 h11 d w hw
set_option maxRecDepth 100000 in
set_option maxHeartbeats 64000000 in
/-- Get. -/
theorem getG (R : RunOk p bi Bv K) (hT : ∀ d v w, K w → Goes Try.prog false (RT p [bi]) (DT p [bi]) (AtD p bi ix d (.ow v)) mT (G (b₀.at (a₀.put ((ops₀[i₀]?).bind (·.dst)) v) (.inRegion ops₀ rest₀ :: k₀)) cs) w) (hm : mT ≤ 60) : ∀ d w, K w → Goes Try.prog false (RT p [bi]) (DT p [bi]) (AtD p bi ix d (.od)) 100 (G ((base 11).at ⟨#[.pointer (some ⟨p.C, 0, none⟩), undef, undef, undef, undef, undef, undef, undef, undef, undef, undef, undef, undef, undef, undef, undef, undef], []⟩ [.code body11]) (b₀.at a₀ (.inRegion ops₀ (i₀ :: rest₀) :: k₀) :: cs)) w := by
  intro d w hF
  have hK := @R.st
  have hnr := hnot2
  have hne := hnot3
  have hev := ev_eql_nil p24
  have hmf := hmf2
  have hme := hmf3
  refine dmono (D := DC0) (fun w w' es h => dt_of w w' es h) ?_
  simp only [body11, Try.f11, Option.getD_some]
  u_c stepG_seq hK hF
  u_reg hK hF
  u_op hK hF
  u_c stepG_region_end hK hF
  u_c stepG_seq hK hF
  u_c stepG_seq hK hF
  u_reg hK hF
  u_op hK hF
  u_op hK hF
  u_c stepG_region_end hK hF
  u_cond false hK hF
  u_c stepG_skip hK hF
  u_c stepG_seq hK hF
  u_reg hK hF
  u_op hK hF
  u_op hK hF
  u_op hK hF
  u_op hK hF
  u_op hK hF
  u_call Try.func33 x33 Try.f33 hK hF
  u_c stepG_seq hK hF
  u_reg hK hF
  u_op hK hF
  u_op hK hF
  u_op hK hF
  u_call Try.func35 x35 Try.f35 hK hF
  u_c stepG_seq hK hF
  u_reg hK hF
  u_op hK hF
  u_c stepG_region_end hK hF
  u_c stepG_seq hK hF
  u_reg hK hF
  u_op hK hF
  u_op hK hF
  u_op hK hF
  refine Goes.stop fun w1 h1 => ?_
  replace hF := hK hF h1
  clear h1
  rcases d with _ | d
  · trivial
  refine ⟨rfl, rfl, fun w' es s' hn => ?_, fun _ _ e => by (cases e), fun _ e => by (cases e), fun _ e => by (cases e)⟩
  cases hn with
  | od c hc =>
    refine ⟨_, stepG_load_atomic (v := c.d) rfl rfl (by k_ne) rfl Try.func59 x59.1 x59.2.1 x59.2.2 .u32 e59 rfl (cs0 hc), rfl, ?_⟩
    by_cases hd : c.d = 0
    · rw [if_pos hd, hd]
      clear hc hd
      refine crew.Goes.after (S₁ := fun g w => Goes Try.prog false (RT p [bi]) (DT p [bi]) (AtD p bi ix d (.lk .ld)) 60 g w) (RT.refl (p := p) (ps := [bi])) (fun g w h => h) (m := 60) (n := 60) (dmono (D := DC0) (fun w w' es h => dt_of w w' es h) ?_) |>.mono (by omega)
      walk_nrm
      show Goes Try.prog false (RT p [bi]) DC0 _ _ _ _
      u_op hK hF
      u_op hK hF
      u_c stepG_region_end hK hF
      u_c stepG_ret' hK hF
      u_leave1 Try.func35 hK hF
      u_op hK hF
      u_c stepG_region_end hK hF
      u_cond true hK hF
      u_reg hK hF
      u_op hK hF
      u_op hK hF
      u_call Try.func55 x55 Try.f55 hK hF
      u_c stepG_seq hK hF
      u_reg hK hF
      u_op hK hF
      u_op hK hF
      u_op hK hF
      u_call Try.func84 tog.x84 Try.f84 hK hF
      refine Goes.stop fun w₃ h₃ => ?_
      exact lock55 R hT hm _ rfl _ _ (At11.mk _ rfl) d _ (hK hF h₃)
    · have z1 : (c.d != 0) = true := by simpa using hd
      have z2 : decide (c.d = 0) = false := decide_eq_false hd
      rw [if_neg hd]
      clear hc
      generalize c.d = dd at hd z1 z2 ⊢
      refine crew.Goes.after (S₁ := fun g w => Goes Try.prog false (RT p [bi]) (DT p [bi]) (AtD p bi ix d (.gv)) 100 g w) (RT.refl (p := p) (ps := [bi])) (fun g w h => h) (m := 60) (n := 100) (dmono (D := DC0) (fun w w' es h => dt_of w w' es h) ?_) |>.mono (by omega)
      walk_nrm
      show Goes Try.prog false (RT p [bi]) DC0 _ _ _ _
      u_op hK hF
      u_op hK hF
      u_c stepG_region_end hK hF
      u_c stepG_ret' hK hF
      u_leave1 Try.func35 hK hF
      u_op hK hF
      u_c stepG_region_end hK hF
      u_cond false hK hF
      u_c stepG_skip hK hF
      u_c stepG_end hK hF
      u_leave0 Try.func33 hK hF
      refine Goes.stop fun w₃ h₃ => ?_
      refine gvLit R hT hm d _ ?_ _ (hK hF h₃)
      simp only [S11]
      rfl
end
end Go.Proofs.Ytdkbkocklnnmdaa.itog
