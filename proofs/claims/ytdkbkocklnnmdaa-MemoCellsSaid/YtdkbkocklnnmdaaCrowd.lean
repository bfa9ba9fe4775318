/-
  Count.Crowd from its loop's head: it starts the workers that are left and waits for them: the script of a phase. Conditions: what the theorems name; each worker's own walk is asked.
-/
import Derived.Test.YtdkbkocklnnmdaaKid
import Derived.Test.YtdkbkocklnnmdaaCrewAll
import Derived.Lib.Hide
set_option linter.unusedSimpArgs false
set_option linter.unusedVariables false
namespace Go.Proofs.Ytdkbkocklnnmdaa.kid
open Go Go.Conc Go.RowKit Go.ConcR.Gen Go.ConcN.Gen Go.Proofs.Ytdkbkocklnnmdaa.wg Go.Proofs.Ytdkbkocklnnmdaa.crew
open Go.ConcR (DC0 KK WgAt stA smA rd wr mk)
open Go.ConcN (WgLive AtR0 RW)
open Go.Conc.Lib

def cL : Code → Code
  | .seq x _ => x
  | c => c
def cR : Code → Code
  | .seq _ y => y
  | c => c
def cB : Code → Code
  | .loop c => c
  | .block _ c => c
  | c => c
noncomputable def body26 : Code := Try.f26.body.getD .skip
noncomputable def loop26 : Code := cB (cB (cR (cL (cR (cR body26)))))
noncomputable def tail26 : Code := cR (cR (cR body26))

/-- What main knows of the world in a phase that began in w0. -/
def FM (Wg Cn : Nat) (w0 w : World) : Prop := WgLive 96 Wg w ∧ Rm Wg Cn w0 w
section
variable {Wg Cn : Nat} {w0 w w₁ : World}
theorem FM.rely (h : FM Wg Cn w0 w) (r : Rm Wg Cn w w₁) : FM Wg Cn w0 w₁ := ⟨r.live h.1, h.2.trans r⟩
theorem FM.set (hne : Cn ≠ Wg) (h : FM Wg Cn w0 w) (x : Int) : FM Wg Cn w0 (w.setCell (stA Wg) (.int .u64 x)) := by
  obtain ⟨⟨st, sm, hw⟩, h2⟩ := h
  have hl : WgLive 96 Wg (w.setCell (stA Wg) (.int .u64 x)) := ⟨_, _, hw.setSt x⟩
  exact ⟨hl, h2.trans (Rm.of_wg hne (aside_setCell w (stA Wg) (.int .u64 x)) hl)⟩
theorem FM.setm (hne : Cn ≠ Wg) (h : FM Wg Cn w0 w) : FM Wg Cn w0 (w.setCell (smA Wg) (.int .u32 0)) := by
  obtain ⟨⟨st, sm, hw⟩, h2⟩ := h
  have hl : WgLive 96 Wg (w.setCell (smA Wg) (.int .u32 0)) := ⟨_, _, hw.setSm 0⟩
  exact ⟨hl, h2.trans (Rm.of_wg hne (aside_setCell w (smA Wg) (.int .u32 0)) hl)⟩
end

/-- Crowd's slots in the loop. -/
def T26 (cv : Value) (n bv : Int) (Wg Bc Bb : Nat) (x4 x8 x9 : Value) (N i : Nat) (x12 x13 x14 x15 x16 x17 x18 : Value) : Array Value :=
  #[cv, .int .i64 n, .int .i64 bv, .pointer (some ⟨Bc, 0, none⟩), x4, .pointer (some ⟨Bb, 0, none⟩), .int .i64 0, .pointer (some ⟨Wg, 0, none⟩), x8, x9, .int .i64 N, .int .i64 i, x12, x13, x14, x15, x16, x17, x18]

def J12 : Nat → Value
  | 0 => undef
  | _ + 1 => .bool true
def J13 : Nat → Value
  | 0 => undef
  | _ + 1 => .tuple #[]
def J14 (Wg Bc Bb : Nat) : Nat → Value
  | 0 => undef
  | _ + 1 => .func (.func 50) #[] #[.pointer (some ⟨Wg, 0, none⟩), .pointer (some ⟨Bc, 0, none⟩), .pointer (some ⟨Bb, 0, none⟩)]
def J15 : Nat → Value
  | 0 => undef
  | i + 1 => .int .i64 ((i : Int) + 1)
def opsOf : Code → Array Oper
  | .region _ ops _ => ops
  | _ => #[]
/-- Crowd at its call of Wait. -/
noncomputable def frW (cv : Value) (n bv : Int) (Wg Bc Bb : Nat) (x4 x8 x9 : Value) (N : Nat) (x16 x17 x18 : Value) (rest : List Nat) : Frame :=
  (base 26).at ⟨T26 cv n bv Wg Bc Bb x4 x8 x9 N N (.bool false) (J13 N) (J14 Wg Bc Bb N) (J15 N) x16 x17 x18, []⟩ [.inRegion (opsOf (cL tail26)) rest, .code (cR tail26)]

theorem hmf2 (fn : Fn) (first cap : Array Value) (w : World) : (Instr.makeFunc fn first cap).run Try.prog w = .ok (.func fn first cap) w := rfl
theorem hmf3 (fn : Fn) (first cap : Array Value) (w : World) (es : Array Event) : (Instr.makeFunc fn first cap).events Try.prog w es = es := rfl
theorem atGo_of {Y : Ways} {Next : Goroutine → World → Prop} {g g' child : Goroutine} {w : World} {es : Array Event} (hr : g.status = .running) (hs : stepG Try.prog true g w = .spawn g' child w es) (he : es = #[])
    (hk : ∃ m, Goes Try.prog false (RR Y) (DK Y) (kidStop Y) m child w) (hn : Next g' w) : crew.AtGo Y Next g w := by
  subst he
  exact ⟨hr, g', child, hs, hk, hn⟩
theorem x42 : (Try.f42.name == "runtime.NumGoroutine") = false := by kernel_rfl
theorem x45 : (Try.f45.name == "runtime.NumGoroutine") = false := by kernel_rfl

section
variable {Y : Ways} {w0 : World} {cv : Value} {n bv : Int} {x4 x8 x9 x16 x17 x18 : Value} {N : Nat} {cs : List Frame}

set_option maxRecDepth 100000 in
set_option maxHeartbeats 4000000 in
theorem crowdHead (hne : Y.p.Cn ≠ Y.p.Wg) (hN : N < 2147483647) (hkid : 0 < N → ∀ w, FM Y.p.Wg Y.p.Cn w0 w → ∃ m, Goes Try.prog false (RR Y) (DK Y) (kidStop Y) m (born Try.prog (call50 Y.p.Wg Y.p.Bc Y.p.Bb)) w)
    (hA : Y.Anch = AnchWN link (FM Y.p.Wg Y.p.Cn w0) Y.p.Wg (frW cv n bv Y.p.Wg Y.p.Bc Y.p.Bb x4 x8 x9 N x16 x17 x18 [0]) cs) :
    ∀ (r i : Nat), i + r = N →
      ∃ m, ∀ w, FM Y.p.Wg Y.p.Cn w0 w → Goes Try.prog true (RR Y) DC0 (Script Y r) m (G ((base 26).at ⟨T26 cv n bv Y.p.Wg Y.p.Bc Y.p.Bb x4 x8 x9 N i (J12 i) (J13 i) (J14 Y.p.Wg Y.p.Bc Y.p.Bb i) (J15 i) x16 x17 x18, []⟩ [.code loop26, .inLoop loop26, .inBlock 0, .code tail26]) cs) w := by
  intro r
  induction r with
  | zero =>
    intro i hi
    obtain rfl : i = N := by omega
    have q1 : decide ((i : Int) < (i : Int)) = false := decide_eq_false (by omega)
    refine ⟨100, fun w hF => ?_⟩
    show Goes Try.prog true (RR Y) DC0 (WDis (RR Y) Y.Anch) _ _ _
    rw [hA]
    simp only [T26, loop26, tail26, body26, cL, cR, cB, Try.f26, Option.getD_some]
    u_c stepG_seq FM.rely hF
    u_reg FM.rely hF
    u_op FM.rely hF
    u_c stepG_region_end FM.rely hF
    u_c stepG_seq FM.rely hF
    u_cond false FM.rely hF
    u_exit FM.rely hF
    u_c stepG_seq FM.rely hF
    u_reg FM.rely hF
    u_in FM.rely hF
    refine goes_call rfl rfl (by k_ne) rfl Try.func45 x45 rfl ⟨by u_nil, ?_⟩
    have hW := waitStart (R := RR Y) (F := FM Y.p.Wg Y.p.Cn w0) (cs := cs) (Wg := Y.p.Wg) FM.rely (fun w h => h.1) (frW cv n bv Y.p.Wg Y.p.Bc Y.p.Bb x4 x8 x9 i x16 x17 x18 [0]) _ hF
    refine Goes.mono ?_ (show 5 ≤ _ by omega)
    simp only [frW, opsOf, T26, loop26, tail26, body26, cL, cR, cB, Try.f26, Option.getD_some] at hW ⊢
    revert hW
    walk_nrmf Try.f45
    intro hW
    exact hW
  | succ r ih =>
    intro i hi
    have q1 : decide ((i : Int) < (N : Int)) = true := decide_eq_true (by omega)
    have q2 : decide (i < N) = true := decide_eq_true (by omega)
    have ew : IntKind.i64.wrap ((i : Int) + 1) = (i : Int) + 1 := by rw [IntKind.wrap_i64]; omega
    have ec : ((i + 1 : Nat) : Int) = (i : Int) + 1 := by omega
    obtain ⟨m, hm⟩ := ih (i + 1) (by omega)
    clear ih
    simp only [T26, J12, J13, J14, J15, ec, loop26, tail26, body26, cL, cR, cB, Try.f26, Option.getD_some] at hm
    have HM := Lib.hid hm
    clear hm
    refine ⟨100, fun w hF => ?_⟩
    show Goes Try.prog true (RR Y) DC0 (IncDis (RR Y) Y.p.Wg (AtGo Y (To true (RR Y) (Script Y r)))) _ _ _
    simp only [T26, loop26, tail26, body26, cL, cR, cB, Try.f26, Option.getD_some]
    u_c stepG_seq FM.rely hF
    u_reg FM.rely hF
    u_op FM.rely hF
    u_c stepG_region_end FM.rely hF
    u_c stepG_seq FM.rely hF
    u_cond true FM.rely hF
    u_c stepG_skip FM.rely hF
    u_c stepG_seq FM.rely hF
    u_c stepG_block FM.rely hF
    u_c stepG_seq FM.rely hF
    u_reg FM.rely hF
    u_in FM.rely hF
    refine goes_call rfl rfl (by k_ne) rfl Try.func42 x42 rfl ⟨by u_nil, ?_⟩
    have hA := @wg.addPos (RR Y) (FM Y.p.Wg Y.p.Cn w0) Y.p.Wg (AtGo Y (To true (RR Y) (Script Y r))) FM.rely (fun w h => h.1) (fun w x h => FM.set hne h x)
    simp only [Try.f42, Option.getD_some, Array.replicate_succ, Array.replicate_zero, List.push_toArray, List.append_toArray, List.nil_append, List.cons_append] at hA
    walk_nrmf Try.f42
    refine Goes.mono (hA (mT := 60) (fun w2 hF2 => ?_) _ hF) (by omega)
    clear hA hF
    walk_nrm
    u_c stepG_region_end FM.rely hF2
    u_reg FM.rely hF2
    have hmf := hmf2
    have hme := hmf3
    u_op FM.rely hF2
    refine Goes.stop fun w₁ h₁ => ?_
    replace hF2 := FM.rely hF2 h₁
    clear h₁ hmf hme
    refine atGo_of rfl (stepG_spawn (d := call50 Y.p.Wg Y.p.Bc Y.p.Bb) (w' := w₁) (f := .func 50) (c := #[.pointer (some ⟨Y.p.Wg, 0, none⟩), .pointer (some ⟨Y.p.Bc, 0, none⟩), .pointer (some ⟨Y.p.Bb, 0, none⟩)]) rfl rfl (by k_ne) (by simp [go_sem, call50, Deferred.ofValue]) rfl) ?_ (hkid (by omega) _ hF2) ?_
    · unfold listed
      simp [go_sem, seen_none]
    · refine ⟨m + 20, ?_⟩
      walk_nrm
      u_c stepG_region_end FM.rely hF2
      u_c stepG_inBlock FM.rely hF2
      u_reg FM.rely hF2
      u_op FM.rely hF2
      u_op FM.rely hF2
      u_c stepG_region_end FM.rely hF2
      u_c stepG_inLoop FM.rely hF2
      try simp only [ew, q2]
      exact Goes.mono (HM.out _ hF2) (by omega)
end
end Go.Proofs.Ytdkbkocklnnmdaa.kid
