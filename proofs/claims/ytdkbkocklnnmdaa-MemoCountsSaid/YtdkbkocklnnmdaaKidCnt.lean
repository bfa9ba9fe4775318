/-
  A goroutine of Crowd's over a count: its birth, the loads, Add's loop (the atomic load, the CompareAndSwap, which hits or misses), and the deferred Done as far as its release. Conditions: what is held of the world outlives the others' doing.
-/
import Derived.Test.YtdkbkocklnnmdaaCrowd
import Derived.Test.YtdkbkocklnnmdaaSum
set_option linter.unusedSimpArgs false
set_option linter.unusedVariables false
namespace Go.Proofs.Ytdkbkocklnnmdaa.kid
open Go Go.Conc Go.RowKit Go.ConcR.Gen Go.ConcN.Gen Go.Proofs.Ytdkbkocklnnmdaa.wg Go.Proofs.Ytdkbkocklnnmdaa.crew
open Go.ConcR (DC0 KK WgAt stA smA rd wr mk)
open Go.ConcN (WgLive AtR0 RW)
open Go.Conc.Lib

theorem x41k : (Try.f41.name == "runtime.NumGoroutine") = false := by kernel_rfl
theorem x48 : (Try.f48.name == "runtime.NumGoroutine") = false := by kernel_rfl
theorem x49 : (Try.f49.name == "runtime.NumGoroutine") = false := by kernel_rfl
theorem x63k : (Try.f63.name == "runtime.NumGoroutine") = false ∧ Try.f63.body.isNone = true ∧ Extern.findNext Try.f63 = none := ⟨by kernel_rfl, by kernel_rfl, by kernel_rfl⟩
theorem e63k : Extern.find Try.f63 = some (Extern.Atomic.loadT (.int .i64)) := by kernel_rfl
theorem x83 : (Try.f83.name == "runtime.NumGoroutine") = false ∧ Try.f83.body.isNone = true ∧ Extern.findNext Try.f83 = none := ⟨by kernel_rfl, by kernel_rfl, by kernel_rfl⟩
theorem e83 : Extern.find Try.f83 = some (Extern.Atomic.casT (.int .i64)) := by kernel_rfl

noncomputable def body25 : Code := Try.f25.body.getD .skip
noncomputable def loop25 : Code := cB (cB (cR (cR body25)))
/-- The worker at its call of Add. -/
noncomputable def frA (Wg Bc Bb Cn : Nat) (bv : Int) : Frame := b50.at ⟨#[.pointer (some ⟨Wg, 0, none⟩), .pointer (some ⟨Bc, 0, none⟩), .pointer (some ⟨Bb, 0, none⟩), .pointer (some ⟨Cn, 0, none⟩), .int .i64 bv, undef], [dcall 44 #[.pointer (some ⟨Wg, 0, none⟩)]]⟩ [.inRegion (opsOf (cR body50)) [2]]

/-- What a worker knows of the world. -/
structure CKc (Wg Bc Bb Cn : Nat) (bv : Int) (w : World) : Prop where
  ck : CK Wg Bc Bb (.pointer (some ⟨Cn, 0, none⟩)) bv w
  cnt : ∃ v, CntAt Cn w v
theorem CKc.rely {Wg Cn Bc Bb : Nat} {bv : Int} (hb : Bc ≠ Wg ∧ Bc ≠ Cn ∧ Bb ≠ Wg ∧ Bb ≠ Cn) {w w₁ : World} (h : CKc Wg Bc Bb Cn bv w) (r : Rm Wg Cn w w₁) : CKc Wg Bc Bb Cn bv w₁ := ⟨h.ck.rely hb r, r.cnt h.cnt⟩
theorem cnt_cell {Cn : Nat} {w : World} {v : Int} (h : CntAt Cn w v) : w.cell? ⟨Cn, 0, none⟩ = some (.int .i64 v) := by unfold CntAt at h; simp [World.cell?, h]
theorem cnt_thaw {Cn : Nat} {w : World} {v : Int} (h : CntAt Cn w v) : w.frozen? ⟨Cn, 0, none⟩ = false := by unfold CntAt at h; simp [World.frozen?, h]
theorem CKc.set {Wg Cn Bc Bb : Nat} {bv : Int} (hne : Cn ≠ Wg) (hb : Bc ≠ Wg ∧ Bc ≠ Cn ∧ Bb ≠ Wg ∧ Bb ≠ Cn) {w : World} (h : CKc Wg Bc Bb Cn bv w) (x : Int) : CKc Wg Bc Bb Cn bv (w.setCell ⟨Cn, 0, none⟩ (.int .i64 x)) := by
  obtain ⟨v, hv⟩ := h.cnt
  have hs : CntAt Cn (w.setCell ⟨Cn, 0, none⟩ (.int .i64 x)) x := by
    unfold CntAt at hv ⊢
    obtain ⟨hlt, hget⟩ := Array.getElem?_eq_some_iff.1 hv
    simp [World.setCell, Array.getElem?_modify, hv]
  exact h.rely hb (Rm.of_cnt hne (aside_setCell w ⟨Cn, 0, none⟩ (.int .i64 x)) hs)

/-- Add's loop's head. -/
def AnchA (Wg Bc Bb Cn : Nat) (bv : Int) (g : Goroutine) (w : World) : Prop :=
  ∃ x2 x3 x5 x6 x7 x8 x9 x10 x11 x12 x13 x14 x15 x16 x17 x18 x19 x20 x21 x22, g = G ((base 25).at ⟨#[.pointer (some ⟨Cn, 0, none⟩), .int .i64 bv, x2, x3, .int .i64 0, x5, x6, x7, x8, x9, x10, x11, x12, x13, x14, x15, x16, x17, x18, x19, x20, x21, x22], []⟩ [.code loop25, .inLoop loop25, .inBlock 0]) [frA Wg Bc Bb Cn bv, bot] ∧ CKc Wg Bc Bb Cn bv w

theorem AnchA.of {Wg Bc Bb Cn : Nat} {bv : Int} {g : Goroutine} {w : World} {x2 x3 x5 x6 x7 x8 x9 x10 x11 x12 x13 x14 x15 x16 x17 x18 x19 x20 x21 x22 : Value}
    (hg : g = G ((base 25).at ⟨#[.pointer (some ⟨Cn, 0, none⟩), .int .i64 bv, x2, x3, .int .i64 0, x5, x6, x7, x8, x9, x10, x11, x12, x13, x14, x15, x16, x17, x18, x19, x20, x21, x22], []⟩ [.code loop25, .inLoop loop25, .inBlock 0]) [frA Wg Bc Bb Cn bv, bot])
    (hF : CKc Wg Bc Bb Cn bv w) : AnchA Wg Bc Bb Cn bv g w := ⟨x2, x3, x5, x6, x7, x8, x9, x10, x11, x12, x13, x14, x15, x16, x17, x18, x19, x20, x21, x22, hg, hF⟩

section
variable {Y : Ways} {bv : Int}

set_option maxRecDepth 100000 in
set_option maxHeartbeats 16000000 in
theorem kidRound (hne : Y.p.Cn ≠ Y.p.Wg) (hb : Y.p.Bc ≠ Y.p.Wg ∧ Y.p.Bc ≠ Y.p.Cn ∧ Y.p.Bb ≠ Y.p.Wg ∧ Y.p.Bb ≠ Y.p.Cn) (hby : Y.by_ = .int .i64 bv) (hnx : Y.nx = fun v => msum v bv) (hA : Y.AnchK = AnchA Y.p.Wg Y.p.Bc Y.p.Bb Y.p.Cn bv) :
    ∀ g w, AnchA Y.p.Wg Y.p.Bc Y.p.Bb Y.p.Cn bv g w → Goes Try.prog false (RR Y) (DK Y) (AtKl Y) 30 g w := by
  rintro g w ⟨x2, x3, x5, x6, x7, x8, x9, x10, x11, x12, x13, x14, x15, x16, x17, x18, x19, x20, x21, x22, rfl, hF⟩
  refine dmono (D := DC0) (fun w w' es h => dkx_of w w' es h) ?_
  simp only [loop25, body25, frA, body50, opsOf, cL, cR, cB, Try.f25, Try.f50, Option.getD_some]
  u_c stepG_block (CKc.rely hb) hF
  u_c stepG_seq (CKc.rely hb) hF
  u_reg (CKc.rely hb) hF
  u_op (CKc.rely hb) hF
  u_op (CKc.rely hb) hF
  u_op (CKc.rely hb) hF
  u_call Try.func41 x41k Try.f41 (CKc.rely hb) hF
  u_c stepG_seq (CKc.rely hb) hF
  u_reg (CKc.rely hb) hF
  u_op (CKc.rely hb) hF
  u_c stepG_region_end (CKc.rely hb) hF
  u_c stepG_seq (CKc.rely hb) hF
  u_reg (CKc.rely hb) hF
  u_op (CKc.rely hb) hF
  u_op (CKc.rely hb) hF
  u_op (CKc.rely hb) hF
  refine Goes.stop fun w₁ h₁ => ?_
  replace hF := CKc.rely hb hF h₁
  clear h₁
  refine ⟨rfl, fun v hv => ⟨_, stepG_load_atomic (v := v) rfl rfl (by k_ne) rfl Try.func63 x63k.1 x63k.2.1 x63k.2.2 .i64 e63k rfl (cnt_cell hv), rfl, 200 + 60, ?_⟩⟩
  clear hv
  refine crew.Goes.after (S₁ := fun g w => Goes Try.prog false (RR Y) (DK Y) (AtKc Y v) 60 g w) Rm.refl (fun g w h => h) (dmono (D := DC0) (fun w w' es h => dkx_of w w' es h) ?_)
  walk_nrm
  u_op (CKc.rely hb) hF
  u_c stepG_region_end (CKc.rely hb) hF
  u_c stepG_ret' (CKc.rely hb) hF
  u_leave1 Try.func41 (CKc.rely hb) hF
  u_op (CKc.rely hb) hF
  u_c stepG_region_end (CKc.rely hb) hF
  u_c stepG_seq (CKc.rely hb) hF
  u_reg (CKc.rely hb) hF
  u_op (CKc.rely hb) hF
  u_op (CKc.rely hb) hF
  u_in (CKc.rely hb) hF
  refine goes_call rfl rfl (by k_ne) rfl Try.func48 x48 rfl ⟨by u_nil, ?_⟩
  have hS := @sumSil (Rm Y.p.Wg Y.p.Cn) (CKc Y.p.Wg Y.p.Bc Y.p.Bb Y.p.Cn bv) false
  simp only [Try.f48, Option.getD_some, Array.replicate_succ, Array.replicate_zero, List.push_toArray, List.append_toArray, List.nil_append, List.cons_append] at hS
  walk_nrmf Try.f48
  refine Goes.mono (crew.Goes.after (n := 60) Rm.refl (fun g w h => ?_) (hS (CKc.rely hb) _ hF)) (by omega)
  clear hS hF
  obtain ⟨rfl, hF⟩ := h
  walk_nrm
  u_op (CKc.rely hb) hF
  u_c stepG_region_end (CKc.rely hb) hF
  u_c stepG_seq (CKc.rely hb) hF
  u_reg (CKc.rely hb) hF
  u_op (CKc.rely hb) hF
  u_op (CKc.rely hb) hF
  u_op (CKc.rely hb) hF
  u_op (CKc.rely hb) hF
  u_op (CKc.rely hb) hF
  u_call Try.func49 x49 Try.f49 (CKc.rely hb) hF
  u_c stepG_seq (CKc.rely hb) hF
  u_reg (CKc.rely hb) hF
  u_op (CKc.rely hb) hF
  u_c stepG_region_end (CKc.rely hb) hF
  u_c stepG_seq (CKc.rely hb) hF
  u_reg (CKc.rely hb) hF
  u_op (CKc.rely hb) hF
  u_op (CKc.rely hb) hF
  u_op (CKc.rely hb) hF
  u_op (CKc.rely hb) hF
  u_op (CKc.rely hb) hF
  refine Goes.stop fun w₂ h₂ => Goes.stop fun w₃ h₃ => ?_
  replace hF := CKc.rely hb (CKc.rely hb hF h₂) h₃
  clear h₂ h₃
  refine ⟨rfl, fun v' hv' => ⟨fun e => ?_, fun e => ?_⟩⟩
  · subst e
    have e2 : Y.nx v' = msum v' bv := by rw [hnx]
    rw [e2]
    refine ⟨_, stepG_cas_hit (v := v') (n := msum v' bv) rfl rfl (by k_ne) rfl Try.func83 x83.1 x83.2.1 x83.2.2 .i64 e83 rfl rfl rfl (cnt_cell hv') (cnt_thaw hv'), rfl, 200, ?_⟩
    replace hF := CKc.set hne hb hF (msum v' bv)
    clear hv'
    refine dmono (D := DC0) (fun w w' es h => dkx_of w w' es h) ?_
    show Goes Try.prog false (Rm Y.p.Wg Y.p.Cn) DC0 (AtR0 Try.prog 96 Y.p.Wg Y.p.Bb 1 0 1 Y.by_) 200 _ _
    rw [hby]
    walk_nrm
    u_op (CKc.rely hb) hF
    u_c stepG_region_end (CKc.rely hb) hF
    u_c stepG_ret' (CKc.rely hb) hF
    u_leave1 Try.func49 (CKc.rely hb) hF
    u_c stepG_region_end (CKc.rely hb) hF
    u_cond true (CKc.rely hb) hF
    u_c stepG_seq (CKc.rely hb) hF
    u_reg (CKc.rely hb) hF
    u_op (CKc.rely hb) hF
    u_op (CKc.rely hb) hF
    u_c stepG_region_end (CKc.rely hb) hF
    u_c stepG_ret' (CKc.rely hb) hF
    u_leave1 Try.func25 (CKc.rely hb) hF
    u_c stepG_region_end (CKc.rely hb) hF
    u_c stepG_end (CKc.rely hb) hF
    u_unwB (CKc.rely hb) hF Try.func44 (nm_done link) Try.f44
    have hD := doneStop (R := Rm Y.p.Wg Y.p.Cn) (D := DC0) (Wg := Y.p.Wg) (C := Y.p.Bb) (val := .int .i64 bv) (c := { b50.at ⟨#[.pointer (some ⟨Y.p.Wg, 0, none⟩), .pointer (some ⟨Y.p.Bc, 0, none⟩), .pointer (some ⟨Y.p.Bb, 0, none⟩), .pointer (some ⟨Y.p.Cn, 0, none⟩), .int .i64 bv, .int .i64 (msum v' bv)], []⟩ [] with mode := .returning }) (cs := [bot]) (qt := 2)
      (fun w w₁ h => ⟨fun b hb' => by omega, h.live, fun ⟨cs, a, b⟩ => ⟨cs, (h.blocks _ hb.2.2.1 hb.2.2.2).trans a, b⟩, by simp only [World.cell?, h.blocks _ hb.2.2.1 hb.2.2.2]⟩) (fun w => ⟨rfl, rfl⟩) rfl (quitsTail _) _ ⟨hF.ck.live, hF.ck.bb⟩
    simp only [Try.f44, Option.getD_some] at hD
    exact Goes.mono hD (by omega)
  · refine ⟨_, stepG_cas_miss (v := v') (old := v) (n := msum v bv) rfl rfl (by k_ne) rfl Try.func83 x83.1 x83.2.1 x83.2.2 .i64 e83 rfl rfl rfl (cnt_cell hv') (cnt_thaw hv') e, rfl, 60, ?_⟩
    clear hv' e
    refine dmono (D := DC0) (fun w w' es h => dkx_of w w' es h) ?_
    rw [hA]
    walk_nrm
    u_op (CKc.rely hb) hF
    u_c stepG_region_end (CKc.rely hb) hF
    u_c stepG_ret' (CKc.rely hb) hF
    u_leave1 Try.func49 (CKc.rely hb) hF
    u_c stepG_region_end (CKc.rely hb) hF
    u_cond false (CKc.rely hb) hF
    u_c stepG_skip (CKc.rely hb) hF
    u_c stepG_inBlock (CKc.rely hb) hF
    u_c stepG_inLoop (CKc.rely hb) hF
    refine Goes.stop fun w₄ h₄ => ?_
    unfold AnchA
    simp only [loop25, body25, frA, body50, opsOf, cL, cR, cB, Try.f25, Try.f50, Option.getD_some]
    exact ⟨_, _, _, _, _, _, _, _, _, _, _, _, _, _, _, _, _, _, _, _, rfl, CKc.rely hb hF h₄⟩

set_option maxRecDepth 100000 in
set_option maxHeartbeats 16000000 in
/-- A worker, from its birth to its first load. -/
theorem kidCnt (hne : Y.p.Cn ≠ Y.p.Wg) (hb : Y.p.Bc ≠ Y.p.Wg ∧ Y.p.Bc ≠ Y.p.Cn ∧ Y.p.Bb ≠ Y.p.Wg ∧ Y.p.Bb ≠ Y.p.Cn) (hby : Y.by_ = .int .i64 bv) (hnx : Y.nx = fun v => msum v bv) (hA : Y.AnchK = AnchA Y.p.Wg Y.p.Bc Y.p.Bb Y.p.Cn bv)
    {w : World} (hF : CKc Y.p.Wg Y.p.Bc Y.p.Bb Y.p.Cn bv w) : Goes Try.prog false (RR Y) (DK Y) (AtKl Y) (6 + (100 + 30)) (born Try.prog (call50 Y.p.Wg Y.p.Bc Y.p.Bb)) w := by
  refine crew.Goes.after (S₁ := fun g w => Goes Try.prog false (RR Y) (DK Y) (AtKl Y) (100 + 30) g w) Rm.refl (fun g w h => h) (dmono (D := DC0) (fun w w' es h => dkx_of w w' es h) ?_)
  refine Goes.step rfl fun w₁ h₁ => ?_
  replace hF := CKc.rely hb hF h₁
  clear h₁
  rw [born_step]
  refine ⟨by u_nil, ?_⟩
  simp only [body50, Try.f50, Option.getD_some]
  u_c stepG_seq (CKc.rely hb) hF
  u_reg (CKc.rely hb) hF
  u_defer (CKc.rely hb) hF
  u_c stepG_region_end (CKc.rely hb) hF
  u_reg (CKc.rely hb) hF
  refine Goes.stop fun w₂ h₂ => ?_
  replace hF := CKc.rely hb hF h₂
  clear h₂
  refine crew.Goes.after (S₁ := AnchA Y.p.Wg Y.p.Bc Y.p.Bb Y.p.Cn bv) Rm.refl (kidRound hne hb hby hnx hA) ?_
  u_in (CKc.rely hb) hF
  refine goes_oper_k rfl rfl (by k_ne) (fun K hK => ?_)
  have h1 := hF.ck.cb
  go_simp
  refine hK _ _ ⟨⟨rfl, fun e he => ?_⟩, ?_⟩
  · have hm := mem_listed he
    simp [go_sem, *] at hm
    subst hm
    exact ⟨_, rfl, .inl rfl⟩
  clear hK K h1
  u_in (CKc.rely hb) hF
  refine goes_oper_k rfl rfl (by k_ne) (fun K hK => ?_)
  have h1 := hF.ck.bb
  go_simp
  refine hK _ _ ⟨⟨rfl, fun e he => ?_⟩, ?_⟩
  · have hm := mem_listed he
    simp [go_sem, *] at hm
    subst hm
    exact ⟨_, rfl, .inr rfl⟩
  clear hK K h1
  refine dmono (D := DC0) (fun w w' es h => dkx_of w w' es h) ?_
  u_call Try.func25 x25 Try.f25 (CKc.rely hb) hF
  have hev := ev_eql_nil p57
  u_c stepG_seq (CKc.rely hb) hF
  u_reg (CKc.rely hb) hF
  u_op (CKc.rely hb) hF
  u_c stepG_region_end (CKc.rely hb) hF
  u_c stepG_seq (CKc.rely hb) hF
  u_c stepG_seq (CKc.rely hb) hF
  u_reg (CKc.rely hb) hF
  u_op (CKc.rely hb) hF
  u_op (CKc.rely hb) hF
  u_c stepG_region_end (CKc.rely hb) hF
  u_cond false (CKc.rely hb) hF
  u_c stepG_skip (CKc.rely hb) hF
  u_c stepG_block (CKc.rely hb) hF
  u_c stepG_loop (CKc.rely hb) hF
  refine Goes.stop fun w₄ h₄ => ?_
  unfold AnchA
  simp only [loop25, body25, frA, body50, opsOf, cL, cR, cB, Try.f25, Try.f50, Option.getD_some]
  exact ⟨_, _, _, _, _, _, _, _, _, _, _, _, _, _, _, _, _, _, _, _, rfl, CKc.rely hb hF h₄⟩
end
end Go.Proofs.Ytdkbkocklnnmdaa.kid
