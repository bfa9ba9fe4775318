/-
  MemoCells beside goroutines that only leave: the rounds in which nobody else runs: Get, Done, Runs, Together with nobody. Conditions: what is held of the world at the loop's head.
-/
import Derived.Test.YtdkbkocklnnmdaaCells1
set_option linter.unusedSimpArgs false
set_option linter.unusedVariables false
namespace Go.Proofs.Ytdkbkocklnnmdaa.cells
open Go Go.Conc Go.RowKit Go.ConcR.Gen Go.ConcN.Gen Go.Proofs.Ytdkbkocklnnmdaa.crew Go.Proofs.Ytdkbkocklnnmdaa.wg Go.Proofs.Ytdkbkocklnnmdaa.free
open Go.Proofs.Ytdkbkocklnnmdaa.kid (opsOf cL cR cB hmf2 hmf3)
open Go.Proofs.Ytdkbkocklnnmdaa.tog (Tp Cs AtCs cblk cs0 cs1 cs3 cs4 cs5 cs6 csz Atom)
open Go.Proofs.Ytdkbkocklnnmdaa.itog (Fb noVal)
open Go.Proofs.Ytdkbkocklnnmdaa.itgm (Low)
open Go.Proofs.Ytdkbkocklnnmdaa.tgs (Gam Done Idle TW rest_zero)
open Go.ConcX.Gen (setCell_at alloc_at)
open Go.ConcR (WgAt)

theorem x19 : (Try.f19.name == "runtime.NumGoroutine") = false := by kernel_rfl
theorem x12' : (Try.f12.name == "runtime.NumGoroutine") = false := by kernel_rfl
section
variable {W0 w : World} {sl : Value} {i sz sz' : Nat} {want v0 : Int} {fl : Bool} {Shun : Loc → Prop} {St : Goroutine → World → Prop} {x12 x13 x14 x37 x43 x49 x50 x51 : Value} {J : Nat → Value} {mT m : Nat}
/-- A round's end is at hand. -/
def Ahead (W0 : World) (sl : Value) (want v0 : Int) (fl ran : Bool) (i sz : Nat) (Shun Lw : Loc → Prop) (St : Goroutine → World → Prop) (mT : Nat) : Prop :=
  ∀ X, H5 W0 v0 fl ran sz X → ∀ x12 x13 x14 x37 x43 x49 x50 x51 J y, Conc.AtRel X y → Goes Try.prog true Conc.AtRel (DF Shun Lw) St mT (G ((base 5).at ⟨S5 sl W0.heap.size want ran i x12 x13 x14 x37 x43 x49 x50 x51 J, []⟩ K36) []) y
set_option maxRecDepth 100000 in
set_option maxHeartbeats 16000000 in
/-- Get, asked first. -/
theorem armGet (hw : (if fl then 0 else v0) = want) (h : H5 W0 v0 fl false sz w) (hS : Sh5 W0.heap.size sz Shun) (hl : sz + 1 ≤ sz')
    (hT : Ahead W0 sl want v0 fl true i (sz + 1) Shun (Low sz') (Fz Shun (Low sz') St m) mT) :
    ∀ y, Conc.AtRel w y → Goes Try.prog true Conc.AtRel (DF Shun (Low sz')) (Fz Shun (Low sz') St (m + 2)) (mT + 700)
      (G ((base 5).at ⟨S5 sl W0.heap.size want false i x12 x13 x14 (.int .i64 0) x43 x49 x50 x51 J, []⟩ (.code sw5 :: K36)) []) y := by
  intro y hF
  have hsz := h.size
  have O := hS.own5 (h := 0) (v0 := v0) (fl := fl) (sz' := sz') (by omega)
  have efin : (tpI W0.heap.size 0 v0 fl).fin = .int .i64 want := by simp [tpI, hw]
  have hlit : ∀ X, H5 W0 v0 fl true (sz + 1) X → ∀ g y, g = G ((base 5).at ⟨S5 sl W0.heap.size want true i (g.frame.tmps.getD 12 undef) (g.frame.tmps.getD 13 undef) (g.frame.tmps.getD 14 undef) (g.frame.tmps.getD 37 undef) (g.frame.tmps.getD 43 undef) (g.frame.tmps.getD 49 undef) (g.frame.tmps.getD 50 undef) (g.frame.tmps.getD 51 undef) (fun k => g.frame.tmps.getD k undef), []⟩ K36) [] → Conc.AtRel X y → Goes Try.prog true Conc.AtRel (DF Shun (Low sz')) (Fz Shun (Low sz') St m) mT g y := fun X hX g y hg hw => by rw [hg]; exact hT X hX _ _ _ _ _ _ _ _ _ y hw
  have HM := Lib.hid hlit
  clear hlit hT
  obtain ⟨⟨c, hwd, htold⟩, _⟩ := h
  obtain rfl : c = c0 := htold
  have hMx : May Shun (Low sz') sz := hS.may (.inr ⟨by omega, Nat.le_refl _⟩) (by omega)
  have hlit2 : ∀ X, Wd W0 (tpI W0.heap.size 0 v0 fl) (fbI W0.heap.size v0 fl) { c0 with r := 1, v := (tpI W0.heap.size 0 v0 fl).fin, cd := 1, d := 1 } 1 (sz + 1) X → H5 W0 v0 fl true (sz + 1) X := fun X hX => ⟨⟨_, hX, rfl, rfl, rfl, rfl, tgs.rest_zero⟩, by omega⟩
  have H2 := Lib.hid hlit2
  have HW := Lib.hid hwd
  clear hlit2 hwd
  simp only [S5, K36, code36, code10, blk5, sw5, e1, e2, e3, chain16, ops16, x17c, loop3, code25, loop5, tail5, Z5, body5, opsOf, cL, cR, cB, cE, Try.f5, Option.getD_some]
  u_c stepG_seq at_rely hF
  u_reg at_rely hF
  u_op at_rely hF
  u_op at_rely hF
  u_c stepG_region_end at_rely hF
  u_cond true at_rely hF
  u_c stepG_seq at_rely hF
  u_c stepG_seq at_rely hF
  u_reg at_rely hF
  u_op at_rely hF
  u_in at_rely hF
  refine goes_call rfl rfl (by k_ne) rfl Try.func11 x11 rfl ⟨by u_nil, ?_⟩
  have hA := @getFirst Shun (Low sz') St
  simp only [Try.f11, Option.getD_some, Array.replicate_succ, Array.replicate_zero, List.push_toArray, List.append_toArray, List.nil_append, List.cons_append] at hA
  walk_nrmf Try.f11
  refine Goes.mono (hA (m := m) (mT := mT + 300) (sp5 W0 0 v0 fl) O rfl rfl rfl rfl rfl HW.out hMx (fun X hX y hF => ?_) _ hF) (by omega)
  clear hA
  replace hX := H2.out X hX
  have HX := Lib.hid hX
  clear hX
  rw [efin]
  walk_nrm
  u_op at_rely hF
  u_op at_rely hF
  u_c stepG_region_end at_rely hF
  u_cond false at_rely hF
  u_c stepG_skip at_rely hF
  u_reg at_rely hF
  u_op at_rely hF
  u_c stepG_region_end at_rely hF
  refine Goes.mono (HM.out _ (HX.out) _ _ ?_ hF) (by omega)
  simp only [S5, K36, code36, code10, blk5, sw5, e1, e2, e3, chain16, ops16, x17c, loop3, code25, loop5, tail5, Z5, body5, opsOf, cL, cR, cB, cE, Try.f5, Option.getD_some]
  rfl
set_option maxRecDepth 100000 in
set_option maxHeartbeats 16000000 in
/-- Get, asked again. -/
theorem armAgain (hw : (if fl then 0 else v0) = want) (h : H5 W0 v0 fl true sz w) (hS : Sh5 W0.heap.size sz Shun) (hl : sz ≤ sz')
    (hT : Ahead W0 sl want v0 fl true i (sz) Shun (Low sz') (St) mT) :
    ∀ y, Conc.AtRel w y → Goes Try.prog true Conc.AtRel (DF Shun (Low sz')) (St) (mT + 700)
      (G ((base 5).at ⟨S5 sl W0.heap.size want true i x12 x13 x14 (.int .i64 0) x43 x49 x50 x51 J, []⟩ (.code sw5 :: K36)) []) y := by
  intro y hF
  have hsz := h.size
  have O := hS.own5 (h := 0) (v0 := v0) (fl := fl) (sz' := sz') (by omega)
  have efin : (tpI W0.heap.size 0 v0 fl).fin = .int .i64 want := by simp [tpI, hw]
  have hlit : ∀ X, H5 W0 v0 fl true (sz) X → ∀ g y, g = G ((base 5).at ⟨S5 sl W0.heap.size want true i (g.frame.tmps.getD 12 undef) (g.frame.tmps.getD 13 undef) (g.frame.tmps.getD 14 undef) (g.frame.tmps.getD 37 undef) (g.frame.tmps.getD 43 undef) (g.frame.tmps.getD 49 undef) (g.frame.tmps.getD 50 undef) (g.frame.tmps.getD 51 undef) (fun k => g.frame.tmps.getD k undef), []⟩ K36) [] → Conc.AtRel X y → Goes Try.prog true Conc.AtRel (DF Shun (Low sz')) (St) mT g y := fun X hX g y hg hw => by rw [hg]; exact hT X hX _ _ _ _ _ _ _ _ _ y hw
  have HM := Lib.hid hlit
  clear hlit hT
  have HX := Lib.hid h
  obtain ⟨⟨c, hwd, t1, t2, t3, t4, t5⟩, _⟩ := h
  have hcs := hwd.cs
  have hd : c.d ≠ 0 := by rw [t1]; decide
  have hv : c.v = .int .i64 want := by rw [t4, hw]
  clear hwd t1 t2 t3 t4 t5
  simp only [S5, K36, code36, code10, blk5, sw5, e1, e2, e3, chain16, ops16, x17c, loop3, code25, loop5, tail5, Z5, body5, opsOf, cL, cR, cB, cE, Try.f5, Option.getD_some]
  u_c stepG_seq at_rely hF
  u_reg at_rely hF
  u_op at_rely hF
  u_op at_rely hF
  u_c stepG_region_end at_rely hF
  u_cond true at_rely hF
  u_c stepG_seq at_rely hF
  u_c stepG_seq at_rely hF
  u_reg at_rely hF
  u_op at_rely hF
  u_in at_rely hF
  refine goes_call rfl rfl (by k_ne) rfl Try.func11 x11 rfl ⟨by u_nil, ?_⟩
  have hA := @getDone Shun (Low sz') St
  simp only [Try.f11, Option.getD_some, Array.replicate_succ, Array.replicate_zero, List.push_toArray, List.append_toArray, List.nil_append, List.cons_append] at hA
  walk_nrmf Try.f11
  refine Goes.mono (hA (mT := mT + 300) hcs hd O.lC O.n4 (fun y hF => ?_) _ hF) (by omega)
  clear hA
  rw [hv]
  walk_nrm
  u_op at_rely hF
  u_op at_rely hF
  u_c stepG_region_end at_rely hF
  u_cond false at_rely hF
  u_c stepG_skip at_rely hF
  u_reg at_rely hF
  u_op at_rely hF
  u_c stepG_region_end at_rely hF
  refine Goes.mono (HM.out _ (HX.out) _ _ ?_ hF) (by omega)
  simp only [S5, K36, code36, code10, blk5, sw5, e1, e2, e3, chain16, ops16, x17c, loop3, code25, loop5, tail5, Z5, body5, opsOf, cL, cR, cB, cE, Try.f5, Option.getD_some]
  rfl
set_option maxRecDepth 100000 in
set_option maxHeartbeats 16000000 in
/-- Done. -/
theorem armDoneFalse (hw : (if fl then 0 else v0) = want) (h : H5 W0 v0 fl false sz w) (hS : Sh5 W0.heap.size sz Shun) (hl : sz ≤ sz')
    (hT : Ahead W0 sl want v0 fl false i (sz) Shun (Low sz') (St) mT) :
    ∀ y, Conc.AtRel w y → Goes Try.prog true Conc.AtRel (DF Shun (Low sz')) (St) (mT + 300)
      (G ((base 5).at ⟨S5 sl W0.heap.size want false i x12 x13 x14 (.int .i64 1) x43 x49 x50 x51 J, []⟩ (.code sw5 :: K36)) []) y := by
  intro y hF
  have hsz := h.size
  have O := hS.own5 (h := 0) (v0 := v0) (fl := fl) (sz' := sz') (by omega)
  have efin : (tpI W0.heap.size 0 v0 fl).fin = .int .i64 want := by simp [tpI, hw]
  have hlit : ∀ X, H5 W0 v0 fl false (sz) X → ∀ g y, g = G ((base 5).at ⟨S5 sl W0.heap.size want false i (g.frame.tmps.getD 12 undef) (g.frame.tmps.getD 13 undef) (g.frame.tmps.getD 14 undef) (g.frame.tmps.getD 37 undef) (g.frame.tmps.getD 43 undef) (g.frame.tmps.getD 49 undef) (g.frame.tmps.getD 50 undef) (g.frame.tmps.getD 51 undef) (fun k => g.frame.tmps.getD k undef), []⟩ K36) [] → Conc.AtRel X y → Goes Try.prog true Conc.AtRel (DF Shun (Low sz')) (St) mT g y := fun X hX g y hg hw => by rw [hg]; exact hT X hX _ _ _ _ _ _ _ _ _ y hw
  have HM := Lib.hid hlit
  clear hlit hT
  have HX := Lib.hid h
  have hb : ∃ c, AtCs (tpI W0.heap.size 0 v0 fl) c w ∧ (c.cd != 0) = false := by
    obtain ⟨⟨c, hwd, htold⟩, _⟩ := h
    refine ⟨c, hwd.cs, ?_⟩
    obtain rfl : c = c0 := htold; rfl
  obtain ⟨c, hcs, hv⟩ := hb
  have hnr := run_nbq
  have hne := ev_nbq
  simp only [S5, K36, code36, code10, blk5, sw5, e1, e2, e3, chain16, ops16, x17c, loop3, code25, loop5, tail5, Z5, body5, opsOf, cL, cR, cB, cE, Try.f5, Option.getD_some]
  u_c stepG_seq at_rely hF
  u_reg at_rely hF
  u_op at_rely hF
  u_op at_rely hF
  u_c stepG_region_end at_rely hF
  u_cond false at_rely hF
  u_c stepG_seq at_rely hF
  u_reg at_rely hF
  u_op at_rely hF
  u_op at_rely hF
  u_c stepG_region_end at_rely hF
  u_cond true at_rely hF
  u_c stepG_seq at_rely hF
  u_reg at_rely hF
  u_op at_rely hF
  u_in at_rely hF
  refine goes_call rfl rfl (by k_ne) rfl Try.func12 x12' rfl ⟨by u_nil, ?_⟩
  have hA := @doneI Shun (Low sz') St
  simp only [Try.f12, Option.getD_some, Array.replicate_succ, Array.replicate_zero, List.push_toArray, List.append_toArray, List.nil_append, List.cons_append] at hA
  walk_nrmf Try.f12
  refine Goes.mono (hA (mT := mT + 100) hcs O.lC (fun y hF => ?_) _ hF) (by omega)
  clear hA
  rw [hv]
  walk_nrm
  u_op at_rely hF
  u_op at_rely hF
  u_c stepG_region_end at_rely hF
  u_cond false at_rely hF
  u_c stepG_skip at_rely hF
  refine Goes.mono (HM.out _ (HX.out) _ _ ?_ hF) (by omega)
  simp only [S5, K36, code36, code10, blk5, sw5, e1, e2, e3, chain16, ops16, x17c, loop3, code25, loop5, tail5, Z5, body5, opsOf, cL, cR, cB, cE, Try.f5, Option.getD_some]
  rfl
set_option maxRecDepth 100000 in
set_option maxHeartbeats 16000000 in
/-- Done. -/
theorem armDoneTrue (hw : (if fl then 0 else v0) = want) (h : H5 W0 v0 fl true sz w) (hS : Sh5 W0.heap.size sz Shun) (hl : sz ≤ sz')
    (hT : Ahead W0 sl want v0 fl true i (sz) Shun (Low sz') (St) mT) :
    ∀ y, Conc.AtRel w y → Goes Try.prog true Conc.AtRel (DF Shun (Low sz')) (St) (mT + 300)
      (G ((base 5).at ⟨S5 sl W0.heap.size want true i x12 x13 x14 (.int .i64 1) x43 x49 x50 x51 J, []⟩ (.code sw5 :: K36)) []) y := by
  intro y hF
  have hsz := h.size
  have O := hS.own5 (h := 0) (v0 := v0) (fl := fl) (sz' := sz') (by omega)
  have efin : (tpI W0.heap.size 0 v0 fl).fin = .int .i64 want := by simp [tpI, hw]
  have hlit : ∀ X, H5 W0 v0 fl true (sz) X → ∀ g y, g = G ((base 5).at ⟨S5 sl W0.heap.size want true i (g.frame.tmps.getD 12 undef) (g.frame.tmps.getD 13 undef) (g.frame.tmps.getD 14 undef) (g.frame.tmps.getD 37 undef) (g.frame.tmps.getD 43 undef) (g.frame.tmps.getD 49 undef) (g.frame.tmps.getD 50 undef) (g.frame.tmps.getD 51 undef) (fun k => g.frame.tmps.getD k undef), []⟩ K36) [] → Conc.AtRel X y → Goes Try.prog true Conc.AtRel (DF Shun (Low sz')) (St) mT g y := fun X hX g y hg hw => by rw [hg]; exact hT X hX _ _ _ _ _ _ _ _ _ y hw
  have HM := Lib.hid hlit
  clear hlit hT
  have HX := Lib.hid h
  have hb : ∃ c, AtCs (tpI W0.heap.size 0 v0 fl) c w ∧ (c.cd != 0) = true := by
    obtain ⟨⟨c, hwd, htold⟩, _⟩ := h
    refine ⟨c, hwd.cs, ?_⟩
    obtain ⟨t1, t2, _⟩ := htold; rw [t2]; decide
  obtain ⟨c, hcs, hv⟩ := hb
  have hnr := run_nbq
  have hne := ev_nbq
  simp only [S5, K36, code36, code10, blk5, sw5, e1, e2, e3, chain16, ops16, x17c, loop3, code25, loop5, tail5, Z5, body5, opsOf, cL, cR, cB, cE, Try.f5, Option.getD_some]
  u_c stepG_seq at_rely hF
  u_reg at_rely hF
  u_op at_rely hF
  u_op at_rely hF
  u_c stepG_region_end at_rely hF
  u_cond false at_rely hF
  u_c stepG_seq at_rely hF
  u_reg at_rely hF
  u_op at_rely hF
  u_op at_rely hF
  u_c stepG_region_end at_rely hF
  u_cond true at_rely hF
  u_c stepG_seq at_rely hF
  u_reg at_rely hF
  u_op at_rely hF
  u_in at_rely hF
  refine goes_call rfl rfl (by k_ne) rfl Try.func12 x12' rfl ⟨by u_nil, ?_⟩
  have hA := @doneI Shun (Low sz') St
  simp only [Try.f12, Option.getD_some, Array.replicate_succ, Array.replicate_zero, List.push_toArray, List.append_toArray, List.nil_append, List.cons_append] at hA
  walk_nrmf Try.f12
  refine Goes.mono (hA (mT := mT + 100) hcs O.lC (fun y hF => ?_) _ hF) (by omega)
  clear hA
  rw [hv]
  walk_nrm
  u_op at_rely hF
  u_op at_rely hF
  u_c stepG_region_end at_rely hF
  u_cond false at_rely hF
  u_c stepG_skip at_rely hF
  refine Goes.mono (HM.out _ (HX.out) _ _ ?_ hF) (by omega)
  simp only [S5, K36, code36, code10, blk5, sw5, e1, e2, e3, chain16, ops16, x17c, loop3, code25, loop5, tail5, Z5, body5, opsOf, cL, cR, cB, cE, Try.f5, Option.getD_some]
  rfl
set_option maxRecDepth 100000 in
set_option maxHeartbeats 16000000 in
/-- Runs. -/
theorem armRunsFalse (hw : (if fl then 0 else v0) = want) (h : H5 W0 v0 fl false sz w) (hS : Sh5 W0.heap.size sz Shun) (hl : sz ≤ sz')
    (hT : Ahead W0 sl want v0 fl false i (sz) Shun (Low sz') (St) mT) :
    ∀ y, Conc.AtRel w y → Goes Try.prog true Conc.AtRel (DF Shun (Low sz')) (St) (mT + 500)
      (G ((base 5).at ⟨S5 sl W0.heap.size want false i x12 x13 x14 (.int .i64 2) x43 x49 x50 x51 J, []⟩ (.code sw5 :: K36)) []) y := by
  intro y hF
  have hsz := h.size
  have O := hS.own5 (h := 0) (v0 := v0) (fl := fl) (sz' := sz') (by omega)
  have efin : (tpI W0.heap.size 0 v0 fl).fin = .int .i64 want := by simp [tpI, hw]
  have hlit : ∀ X, H5 W0 v0 fl false (sz) X → ∀ g y, g = G ((base 5).at ⟨S5 sl W0.heap.size want false i (g.frame.tmps.getD 12 undef) (g.frame.tmps.getD 13 undef) (g.frame.tmps.getD 14 undef) (g.frame.tmps.getD 37 undef) (g.frame.tmps.getD 43 undef) (g.frame.tmps.getD 49 undef) (g.frame.tmps.getD 50 undef) (g.frame.tmps.getD 51 undef) (fun k => g.frame.tmps.getD k undef), []⟩ K36) [] → Conc.AtRel X y → Goes Try.prog true Conc.AtRel (DF Shun (Low sz')) (St) mT g y := fun X hX g y hg hw => by rw [hg]; exact hT X hX _ _ _ _ _ _ _ _ _ y hw
  have HM := Lib.hid hlit
  clear hlit hT
  have HX := Lib.hid h
  have hb : ∃ c, AtCs (tpI W0.heap.size 0 v0 fl) c w ∧ c.r = 0 := by
    obtain ⟨⟨c, hwd, htold⟩, _⟩ := h
    refine ⟨c, hwd.cs, ?_⟩
    obtain rfl : c = c0 := htold; rfl
  obtain ⟨c, hcs, hv⟩ := hb
  have hnr := run_nbq
  have hne := ev_nbq
  simp only [S5, K36, code36, code10, blk5, sw5, e1, e2, e3, chain16, ops16, x17c, loop3, code25, loop5, tail5, Z5, body5, opsOf, cL, cR, cB, cE, Try.f5, Option.getD_some]
  u_c stepG_seq at_rely hF
  u_reg at_rely hF
  u_op at_rely hF
  u_op at_rely hF
  u_c stepG_region_end at_rely hF
  u_cond false at_rely hF
  u_c stepG_seq at_rely hF
  u_reg at_rely hF
  u_op at_rely hF
  u_op at_rely hF
  u_c stepG_region_end at_rely hF
  u_cond false at_rely hF
  u_c stepG_seq at_rely hF
  u_reg at_rely hF
  u_op at_rely hF
  u_op at_rely hF
  u_c stepG_region_end at_rely hF
  u_cond true at_rely hF
  u_c stepG_seq at_rely hF
  u_reg at_rely hF
  u_op at_rely hF
  u_in at_rely hF
  refine goes_call rfl rfl (by k_ne) rfl Try.func18 x18 rfl ⟨by u_nil, ?_⟩
  have hA := @runsI Shun (Low sz') St
  simp only [Try.f18, Option.getD_some, Array.replicate_succ, Array.replicate_zero, List.push_toArray, List.append_toArray, List.nil_append, List.cons_append] at hA
  walk_nrmf Try.f18
  refine Goes.mono (hA (mT := mT + 300) hcs O.lC (fun y hF => ?_) _ hF) (by omega)
  clear hA
  rw [hv]
  walk_nrm
  u_op at_rely hF
  u_op at_rely hF
  u_op at_rely hF
  u_op at_rely hF
  u_op at_rely hF
  u_in at_rely hF
  refine goes_call rfl rfl (by k_ne) rfl Try.func18 x18 rfl ⟨by u_nil, ?_⟩
  have hA := @runsI Shun (Low sz') St
  simp only [Try.f18, Option.getD_some, Array.replicate_succ, Array.replicate_zero, List.push_toArray, List.append_toArray, List.nil_append, List.cons_append] at hA
  walk_nrmf Try.f18
  refine Goes.mono (hA (mT := mT + 100) hcs O.lC (fun y hF => ?_) _ hF) (by omega)
  clear hA
  rw [hv]
  walk_nrm
  u_op at_rely hF
  u_op at_rely hF
  u_c stepG_region_end at_rely hF
  u_cond false at_rely hF
  u_c stepG_skip at_rely hF
  refine Goes.mono (HM.out _ (HX.out) _ _ ?_ hF) (by omega)
  simp only [S5, K36, code36, code10, blk5, sw5, e1, e2, e3, chain16, ops16, x17c, loop3, code25, loop5, tail5, Z5, body5, opsOf, cL, cR, cB, cE, Try.f5, Option.getD_some]
  rfl
set_option maxRecDepth 100000 in
set_option maxHeartbeats 16000000 in
/-- Runs. -/
theorem armRunsTrue (hw : (if fl then 0 else v0) = want) (h : H5 W0 v0 fl true sz w) (hS : Sh5 W0.heap.size sz Shun) (hl : sz ≤ sz')
    (hT : Ahead W0 sl want v0 fl true i (sz) Shun (Low sz') (St) mT) :
    ∀ y, Conc.AtRel w y → Goes Try.prog true Conc.AtRel (DF Shun (Low sz')) (St) (mT + 500)
      (G ((base 5).at ⟨S5 sl W0.heap.size want true i x12 x13 x14 (.int .i64 2) x43 x49 x50 x51 J, []⟩ (.code sw5 :: K36)) []) y := by
  intro y hF
  have hsz := h.size
  have O := hS.own5 (h := 0) (v0 := v0) (fl := fl) (sz' := sz') (by omega)
  have efin : (tpI W0.heap.size 0 v0 fl).fin = .int .i64 want := by simp [tpI, hw]
  have hlit : ∀ X, H5 W0 v0 fl true (sz) X → ∀ g y, g = G ((base 5).at ⟨S5 sl W0.heap.size want true i (g.frame.tmps.getD 12 undef) (g.frame.tmps.getD 13 undef) (g.frame.tmps.getD 14 undef) (g.frame.tmps.getD 37 undef) (g.frame.tmps.getD 43 undef) (g.frame.tmps.getD 49 undef) (g.frame.tmps.getD 50 undef) (g.frame.tmps.getD 51 undef) (fun k => g.frame.tmps.getD k undef), []⟩ K36) [] → Conc.AtRel X y → Goes Try.prog true Conc.AtRel (DF Shun (Low sz')) (St) mT g y := fun X hX g y hg hw => by rw [hg]; exact hT X hX _ _ _ _ _ _ _ _ _ y hw
  have HM := Lib.hid hlit
  clear hlit hT
  have HX := Lib.hid h
  have hb : ∃ c, AtCs (tpI W0.heap.size 0 v0 fl) c w ∧ c.r = 1 := by
    obtain ⟨⟨c, hwd, htold⟩, _⟩ := h
    refine ⟨c, hwd.cs, ?_⟩
    obtain ⟨t1, t2, t3, _⟩ := htold; rw [t3]
  obtain ⟨c, hcs, hv⟩ := hb
  have hnr := run_nbq
  have hne := ev_nbq
  simp only [S5, K36, code36, code10, blk5, sw5, e1, e2, e3, chain16, ops16, x17c, loop3, code25, loop5, tail5, Z5, body5, opsOf, cL, cR, cB, cE, Try.f5, Option.getD_some]
  u_c stepG_seq at_rely hF
  u_reg at_rely hF
  u_op at_rely hF
  u_op at_rely hF
  u_c stepG_region_end at_rely hF
  u_cond false at_rely hF
  u_c stepG_seq at_rely hF
  u_reg at_rely hF
  u_op at_rely hF
  u_op at_rely hF
  u_c stepG_region_end at_rely hF
  u_cond false at_rely hF
  u_c stepG_seq at_rely hF
  u_reg at_rely hF
  u_op at_rely hF
  u_op at_rely hF
  u_c stepG_region_end at_rely hF
  u_cond true at_rely hF
  u_c stepG_seq at_rely hF
  u_reg at_rely hF
  u_op at_rely hF
  u_in at_rely hF
  refine goes_call rfl rfl (by k_ne) rfl Try.func18 x18 rfl ⟨by u_nil, ?_⟩
  have hA := @runsI Shun (Low sz') St
  simp only [Try.f18, Option.getD_some, Array.replicate_succ, Array.replicate_zero, List.push_toArray, List.append_toArray, List.nil_append, List.cons_append] at hA
  walk_nrmf Try.f18
  refine Goes.mono (hA (mT := mT + 300) hcs O.lC (fun y hF => ?_) _ hF) (by omega)
  clear hA
  rw [hv]
  walk_nrm
  u_op at_rely hF
  u_op at_rely hF
  u_op at_rely hF
  u_op at_rely hF
  u_op at_rely hF
  u_in at_rely hF
  refine goes_call rfl rfl (by k_ne) rfl Try.func18 x18 rfl ⟨by u_nil, ?_⟩
  have hA := @runsI Shun (Low sz') St
  simp only [Try.f18, Option.getD_some, Array.replicate_succ, Array.replicate_zero, List.push_toArray, List.append_toArray, List.nil_append, List.cons_append] at hA
  walk_nrmf Try.f18
  refine Goes.mono (hA (mT := mT + 100) hcs O.lC (fun y hF => ?_) _ hF) (by omega)
  clear hA
  rw [hv]
  walk_nrm
  u_op at_rely hF
  u_op at_rely hF
  u_c stepG_region_end at_rely hF
  u_cond false at_rely hF
  u_c stepG_skip at_rely hF
  refine Goes.mono (HM.out _ (HX.out) _ _ ?_ hF) (by omega)
  simp only [S5, K36, code36, code10, blk5, sw5, e1, e2, e3, chain16, ops16, x17c, loop3, code25, loop5, tail5, Z5, body5, opsOf, cL, cR, cB, cE, Try.f5, Option.getD_some]
  rfl
set_option maxRecDepth 100000 in
set_option maxHeartbeats 16000000 in
/-- Together with nobody. -/
theorem armNobodyFalse (hw : (if fl then 0 else v0) = want) (h : H5 W0 v0 fl false sz w) (hS : Sh5 W0.heap.size sz Shun) (hl : sz + 1 ≤ sz') {k : Int} (hk : k < 0)
    (hT : Ahead W0 sl want v0 fl false i (sz + 1) Shun (Low sz') (St) mT) :
    ∀ y, Conc.AtRel w y → Goes Try.prog true Conc.AtRel (DF Shun (Low sz')) (St) (mT + 500)
      (G ((base 5).at ⟨S5 sl W0.heap.size want false i (.int .i64 k) x13 x14 (.int .i64 k) x43 x49 x50 x51 J, []⟩ (.code sw5 :: K36)) []) y := by
  intro y hF
  have hsz := h.size
  have O := hS.own5 (h := 0) (v0 := v0) (fl := fl) (sz' := sz') (by omega)
  have efin : (tpI W0.heap.size 0 v0 fl).fin = .int .i64 want := by simp [tpI, hw]
  have hlit : ∀ X, H5 W0 v0 fl false (sz + 1) X → ∀ g y, g = G ((base 5).at ⟨S5 sl W0.heap.size want false i (g.frame.tmps.getD 12 undef) (g.frame.tmps.getD 13 undef) (g.frame.tmps.getD 14 undef) (g.frame.tmps.getD 37 undef) (g.frame.tmps.getD 43 undef) (g.frame.tmps.getD 49 undef) (g.frame.tmps.getD 50 undef) (g.frame.tmps.getD 51 undef) (fun k => g.frame.tmps.getD k undef), []⟩ K36) [] → Conc.AtRel X y → Goes Try.prog true Conc.AtRel (DF Shun (Low sz')) (St) mT g y := fun X hX g y hg hw => by rw [hg]; exact hT X hX _ _ _ _ _ _ _ _ _ y hw
  have HM := Lib.hid hlit
  clear hlit hT
  have hX : H5 W0 v0 fl false (sz + 1) (w.alloc (.cells #[.pointer (some ⟨W0.heap.size + 3, 0, none⟩)] 24)) := by
    obtain ⟨⟨c, hwd, htold⟩, _⟩ := h
    exact ⟨⟨c, hwd.al _, htold⟩, by omega⟩
  have hMx : May Shun (Low sz') w.heap.size := by
    obtain ⟨⟨c, hwd, _⟩, _⟩ := h
    rw [hwd.size]
    exact hS.may (.inr ⟨by omega, Nat.le_refl _⟩) (by omega)
  have c1 : (w.alloc (.cells #[.pointer (some ⟨W0.heap.size + 3, 0, none⟩)] 24)).cell? ⟨w.heap.size, 0, none⟩ = some (.pointer (some ⟨W0.heap.size + 3, 0, none⟩)) := cell_of_one (box_new _ _)
  have HX := Lib.hid hX
  clear h hX
  have d0 : (k == 0) = false := by simp; omega
  have d1 : (k == 1) = false := by simp; omega
  have d2 : (k == 2) = false := by simp; omega
  have e0 : decide (k = 0) = false := decide_eq_false (by omega)
  have e1 : decide (k = 1) = false := decide_eq_false (by omega)
  have e2 : decide (k = 2) = false := decide_eq_false (by omega)
  have f0 : ¬ k = 0 := by omega
  have f1 : ¬ k = 1 := by omega
  have f2 : ¬ k = 2 := by omega
  have d3 : decide (200 < k) = false := decide_eq_false (by omega)
  have d4 : decide (k < 1) = true := decide_eq_true (by omega)
  have d5 : decide (0 < k) = false := decide_eq_false (by omega)
  have d6 : (if k < 0 then (0 : Int) else k) = 0 := if_pos hk
  have d7 : (if 0 < k then k else (0 : Int)) = 0 := if_neg (by omega)
  have hma := ev_max
  have hep := ev_eql_nil free.p24
  simp only [S5, K36, code36, code10, blk5, sw5, e1, e2, e3, chain16, ops16, x17c, loop3, code25, loop5, tail5, Z5, body5, opsOf, cL, cR, cB, cE, Try.f5, Option.getD_some]
  u_c stepG_seq at_rely hF
  u_reg at_rely hF
  u_op at_rely hF
  u_op at_rely hF
  u_c stepG_region_end at_rely hF
  u_cond false at_rely hF
  u_c stepG_seq at_rely hF
  u_reg at_rely hF
  u_op at_rely hF
  u_op at_rely hF
  u_c stepG_region_end at_rely hF
  u_cond false at_rely hF
  u_c stepG_seq at_rely hF
  u_reg at_rely hF
  u_op at_rely hF
  u_op at_rely hF
  u_c stepG_region_end at_rely hF
  u_cond false at_rely hF
  u_c stepG_seq at_rely hF
  u_reg at_rely hF
  u_op at_rely hF
  u_op at_rely hF
  u_c stepG_region_end at_rely hF
  u_c stepG_seq at_rely hF
  u_c stepG_seq at_rely hF
  u_reg at_rely hF
  u_op at_rely hF
  u_op at_rely hF
  u_c stepG_region_end at_rely hF
  u_cond false at_rely hF
  u_c stepG_skip at_rely hF
  u_c stepG_seq at_rely hF
  u_reg at_rely hF
  u_op at_rely hF
  u_op at_rely hF
  u_call Try.func19 x19 Try.f19 at_rely hF
  u_c stepG_seq at_rely hF
  u_reg at_rely hF
  u_in at_rely hF
  refine goes_oper_k rfl rfl (by k_ne) (fun K hK => ?_)
  have hcl := free.at_cell hF
  have hfz := free.at_frozen hF
  have hsz := free.at_size hF
  go_simp
  refine hK _ _ ⟨fun e he => ?_, ?_⟩
  · (have hm := mem_listed he; simp [go_sem, storedEv, *] at hm; try (subst hm; refine free.evS_may ?_ (Eq.refl _); assumption))
  clear hK K hcl hfz hsz
  refine free.next_alloc hF (fun _ hF => ?_)
  u_op at_rely hF
  u_c stepG_region_end at_rely hF
  u_c stepG_seq at_rely hF
  u_c stepG_seq at_rely hF
  u_reg at_rely hF
  u_in at_rely hF
  refine goes_oper_k rfl rfl (by k_ne) (fun K hK => ?_)
  have hcl := free.at_cell hF
  have hfz := free.at_frozen hF
  have hsz := free.at_size hF
  go_simp
  refine hK _ _ ⟨fun e he => ?_, ?_⟩
  · (have hm := mem_listed he; simp [go_sem, storedEv, *] at hm; try (subst hm; refine free.evS_may ?_ (Eq.refl _); assumption))
  clear hK K hcl hfz hsz
  u_op at_rely hF
  u_op at_rely hF
  u_op at_rely hF
  u_op at_rely hF
  u_op at_rely hF
  u_c stepG_region_end at_rely hF
  u_cond true at_rely hF
  u_c stepG_seq at_rely hF
  u_reg at_rely hF
  u_op at_rely hF
  u_c stepG_region_end at_rely hF
  u_c stepG_ret' at_rely hF
  u_leave1 Try.func19 at_rely hF
  u_op at_rely hF
  u_c stepG_region_end at_rely hF
  u_c stepG_seq at_rely hF
  u_c stepG_seq at_rely hF
  u_reg at_rely hF
  u_op at_rely hF
  u_op at_rely hF
  u_op at_rely hF
  u_op at_rely hF
  u_op at_rely hF
  u_c stepG_region_end at_rely hF
  u_cond false at_rely hF
  u_c stepG_skip at_rely hF
  u_c stepG_seq at_rely hF
  u_c stepG_seq at_rely hF
  u_reg at_rely hF
  u_op at_rely hF
  u_op at_rely hF
  u_op at_rely hF
  u_c stepG_region_end at_rely hF
  u_c stepG_block at_rely hF
  u_c stepG_loop at_rely hF
  u_c stepG_seq at_rely hF
  u_reg at_rely hF
  u_op at_rely hF
  u_c stepG_region_end at_rely hF
  u_c stepG_seq at_rely hF
  u_cond false at_rely hF
  u_exit at_rely hF
  u_reg at_rely hF
  u_op at_rely hF
  u_op at_rely hF
  u_op at_rely hF
  u_op at_rely hF
  u_op at_rely hF
  u_op at_rely hF
  u_c stepG_region_end at_rely hF
  refine Goes.mono (HM.out _ (HX.out) _ _ ?_ hF) (by omega)
  simp only [S5, K36, code36, code10, blk5, sw5, e1, e2, e3, chain16, ops16, x17c, loop3, code25, loop5, tail5, Z5, body5, opsOf, cL, cR, cB, cE, Try.f5, Option.getD_some]
  rfl
set_option maxRecDepth 100000 in
set_option maxHeartbeats 16000000 in
/-- Together with nobody. -/
theorem armNobodyTrue (hw : (if fl then 0 else v0) = want) (h : H5 W0 v0 fl true sz w) (hS : Sh5 W0.heap.size sz Shun) (hl : sz + 1 ≤ sz') {k : Int} (hk : k < 0)
    (hT : Ahead W0 sl want v0 fl true i (sz + 1) Shun (Low sz') (St) mT) :
    ∀ y, Conc.AtRel w y → Goes Try.prog true Conc.AtRel (DF Shun (Low sz')) (St) (mT + 500)
      (G ((base 5).at ⟨S5 sl W0.heap.size want true i (.int .i64 k) x13 x14 (.int .i64 k) x43 x49 x50 x51 J, []⟩ (.code sw5 :: K36)) []) y := by
  intro y hF
  have hsz := h.size
  have O := hS.own5 (h := 0) (v0 := v0) (fl := fl) (sz' := sz') (by omega)
  have efin : (tpI W0.heap.size 0 v0 fl).fin = .int .i64 want := by simp [tpI, hw]
  have hlit : ∀ X, H5 W0 v0 fl true (sz + 1) X → ∀ g y, g = G ((base 5).at ⟨S5 sl W0.heap.size want true i (g.frame.tmps.getD 12 undef) (g.frame.tmps.getD 13 undef) (g.frame.tmps.getD 14 undef) (g.frame.tmps.getD 37 undef) (g.frame.tmps.getD 43 undef) (g.frame.tmps.getD 49 undef) (g.frame.tmps.getD 50 undef) (g.frame.tmps.getD 51 undef) (fun k => g.frame.tmps.getD k undef), []⟩ K36) [] → Conc.AtRel X y → Goes Try.prog true Conc.AtRel (DF Shun (Low sz')) (St) mT g y := fun X hX g y hg hw => by rw [hg]; exact hT X hX _ _ _ _ _ _ _ _ _ y hw
  have HM := Lib.hid hlit
  clear hlit hT
  have hX : H5 W0 v0 fl true (sz + 1) (w.alloc (.cells #[.pointer (some ⟨W0.heap.size + 3, 0, none⟩)] 24)) := by
    obtain ⟨⟨c, hwd, htold⟩, _⟩ := h
    exact ⟨⟨c, hwd.al _, htold⟩, by omega⟩
  have hMx : May Shun (Low sz') w.heap.size := by
    obtain ⟨⟨c, hwd, _⟩, _⟩ := h
    rw [hwd.size]
    exact hS.may (.inr ⟨by omega, Nat.le_refl _⟩) (by omega)
  have c1 : (w.alloc (.cells #[.pointer (some ⟨W0.heap.size + 3, 0, none⟩)] 24)).cell? ⟨w.heap.size, 0, none⟩ = some (.pointer (some ⟨W0.heap.size + 3, 0, none⟩)) := cell_of_one (box_new _ _)
  have HX := Lib.hid hX
  clear h hX
  have d0 : (k == 0) = false := by simp; omega
  have d1 : (k == 1) = false := by simp; omega
  have d2 : (k == 2) = false := by simp; omega
  have e0 : decide (k = 0) = false := decide_eq_false (by omega)
  have e1 : decide (k = 1) = false := decide_eq_false (by omega)
  have e2 : decide (k = 2) = false := decide_eq_false (by omega)
  have f0 : ¬ k = 0 := by omega
  have f1 : ¬ k = 1 := by omega
  have f2 : ¬ k = 2 := by omega
  have d3 : decide (200 < k) = false := decide_eq_false (by omega)
  have d4 : decide (k < 1) = true := decide_eq_true (by omega)
  have d5 : decide (0 < k) = false := decide_eq_false (by omega)
  have d6 : (if k < 0 then (0 : Int) else k) = 0 := if_pos hk
  have d7 : (if 0 < k then k else (0 : Int)) = 0 := if_neg (by omega)
  have hma := ev_max
  have hep := ev_eql_nil free.p24
  simp only [S5, K36, code36, code10, blk5, sw5, e1, e2, e3, chain16, ops16, x17c, loop3, code25, loop5, tail5, Z5, body5, opsOf, cL, cR, cB, cE, Try.f5, Option.getD_some]
  u_c stepG_seq at_rely hF
  u_reg at_rely hF
  u_op at_rely hF
  u_op at_rely hF
  u_c stepG_region_end at_rely hF
  u_cond false at_rely hF
  u_c stepG_seq at_rely hF
  u_reg at_rely hF
  u_op at_rely hF
  u_op at_rely hF
  u_c stepG_region_end at_rely hF
  u_cond false at_rely hF
  u_c stepG_seq at_rely hF
  u_reg at_rely hF
  u_op at_rely hF
  u_op at_rely hF
  u_c stepG_region_end at_rely hF
  u_cond false at_rely hF
  u_c stepG_seq at_rely hF
  u_reg at_rely hF
  u_op at_rely hF
  u_op at_rely hF
  u_c stepG_region_end at_rely hF
  u_c stepG_seq at_rely hF
  u_c stepG_seq at_rely hF
  u_reg at_rely hF
  u_op at_rely hF
  u_op at_rely hF
  u_c stepG_region_end at_rely hF
  u_cond false at_rely hF
  u_c stepG_skip at_rely hF
  u_c stepG_seq at_rely hF
  u_reg at_rely hF
  u_op at_rely hF
  u_op at_rely hF
  u_call Try.func19 x19 Try.f19 at_rely hF
  u_c stepG_seq at_rely hF
  u_reg at_rely hF
  u_in at_rely hF
  refine goes_oper_k rfl rfl (by k_ne) (fun K hK => ?_)
  have hcl := free.at_cell hF
  have hfz := free.at_frozen hF
  have hsz := free.at_size hF
  go_simp
  refine hK _ _ ⟨fun e he => ?_, ?_⟩
  · (have hm := mem_listed he; simp [go_sem, storedEv, *] at hm; try (subst hm; refine free.evS_may ?_ (Eq.refl _); assumption))
  clear hK K hcl hfz hsz
  refine free.next_alloc hF (fun _ hF => ?_)
  u_op at_rely hF
  u_c stepG_region_end at_rely hF
  u_c stepG_seq at_rely hF
  u_c stepG_seq at_rely hF
  u_reg at_rely hF
  u_in at_rely hF
  refine goes_oper_k rfl rfl (by k_ne) (fun K hK => ?_)
  have hcl := free.at_cell hF
  have hfz := free.at_frozen hF
  have hsz := free.at_size hF
  go_simp
  refine hK _ _ ⟨fun e he => ?_, ?_⟩
  · (have hm := mem_listed he; simp [go_sem, storedEv, *] at hm; try (subst hm; refine free.evS_may ?_ (Eq.refl _); assumption))
  clear hK K hcl hfz hsz
  u_op at_rely hF
  u_op at_rely hF
  u_op at_rely hF
  u_op at_rely hF
  u_op at_rely hF
  u_c stepG_region_end at_rely hF
  u_cond true at_rely hF
  u_c stepG_seq at_rely hF
  u_reg at_rely hF
  u_op at_rely hF
  u_c stepG_region_end at_rely hF
  u_c stepG_ret' at_rely hF
  u_leave1 Try.func19 at_rely hF
  u_op at_rely hF
  u_c stepG_region_end at_rely hF
  u_c stepG_seq at_rely hF
  u_c stepG_seq at_rely hF
  u_reg at_rely hF
  u_op at_rely hF
  u_op at_rely hF
  u_op at_rely hF
  u_op at_rely hF
  u_op at_rely hF
  u_c stepG_region_end at_rely hF
  u_cond false at_rely hF
  u_c stepG_skip at_rely hF
  u_c stepG_seq at_rely hF
  u_c stepG_seq at_rely hF
  u_reg at_rely hF
  u_op at_rely hF
  u_op at_rely hF
  u_op at_rely hF
  u_c stepG_region_end at_rely hF
  u_c stepG_block at_rely hF
  u_c stepG_loop at_rely hF
  u_c stepG_seq at_rely hF
  u_reg at_rely hF
  u_op at_rely hF
  u_c stepG_region_end at_rely hF
  u_c stepG_seq at_rely hF
  u_cond false at_rely hF
  u_exit at_rely hF
  u_reg at_rely hF
  u_op at_rely hF
  u_op at_rely hF
  u_skip at_rely hF
  u_skip at_rely hF
  u_op at_rely hF
  u_op at_rely hF
  u_c stepG_region_end at_rely hF
  refine Goes.mono (HM.out _ (HX.out) _ _ ?_ hF) (by omega)
  simp only [S5, K36, code36, code10, blk5, sw5, e1, e2, e3, chain16, ops16, x17c, loop3, code25, loop5, tail5, Z5, body5, opsOf, cL, cR, cB, cE, Try.f5, Option.getD_some]
  rfl
end
end Go.Proofs.Ytdkbkocklnnmdaa.cells
