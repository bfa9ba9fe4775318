/-
  MemoCounts beside goroutines that only leave: its slots; the walk out of its loop; a round in which main adds alone. Conditions: the argument leads to a row of Sums; what is held of the world at the loop's head.
-/
import Derived.Test.YtdkbkocklnnmdaaFreeEnterC
import Derived.Test.YtdkbkocklnnmdaaFreeAwake
import Derived.Test.YtdkbkocklnnmdaaEnding
set_option linter.unusedSimpArgs false
set_option linter.unusedVariables false
namespace Go.Proofs.Ytdkbkocklnnmdaa.counts
open Go Go.Conc Go.RowKit Go.ConcR.Gen Go.ConcN.Gen Go.Proofs.Ytdkbkocklnnmdaa.crew Go.Proofs.Ytdkbkocklnnmdaa.kid Go.Proofs.Ytdkbkocklnnmdaa.wg Go.Proofs.Ytdkbkocklnnmdaa.free
open Go.ConcX.Gen (setCell_at alloc_at)
open Go.ConcR (WgAt)

/-- MemoCounts' slots. -/
def T7 (a0 : Option Addr) (len cap s : Nat) (v : Int) (i : Int) (x7 x45 x46 : Value) (J : Nat → Value) : Array Value := #[(.slice a0 len cap), J 1, (.bool false), (.pointer (some ⟨s, 0, none⟩)), (.pointer (some ⟨s + 1, 0, none⟩)), (.int .i64 v), (.int .i64 i), x7, J 8, J 9, J 10, J 11, J 12, J 13, J 14, J 15, J 16, J 17, J 18, J 19, J 20, J 21, J 22, J 23, J 24, J 25, J 26, J 27, J 28, J 29, J 30, J 31, J 32, J 33, J 34, J 35, J 36, J 37, J 38, J 39, J 40, J 41, J 42, J 43, J 44, x45, x46, J 47, J 48, J 49, J 50, J 51, J 52, J 53, J 54, J 55, J 56, J 57, J 58, J 59, J 60, J 61, J 62, J 63, J 64, J 65, J 66, J 67, J 68, J 69, J 70, J 71, J 72, J 73, J 74, J 75]
noncomputable def body7 : Code := Try.f7.body.getD .skip
noncomputable def loop7 : Code := cB (cB (cR (cL (cR (cR (cR (cR body7)))))))
noncomputable def tail7 : Code := cR (cR (cR (cR (cR body7))))
/-- At the loop's head. -/
def AtHead7 (a0 : Option Addr) (len cap s : Nat) (v : Int) (i : Nat) (g : Goroutine) : Prop :=
  ∃ x7 x45 x46 J, g = G ((base 7).at ⟨T7 a0 len cap s v i x7 x45 x46 J, []⟩ [.code loop7, .inLoop loop7, .inBlock 0, .code tail7]) []
/-- The argument: a row of pairs, N and By. -/
def IsSums (W : World) (a : Option Addr) (len : Nat) : Prop :=
  len = 0 ∨ ∃ b off, a = some ⟨b, off, none⟩ ∧ b < W.heap.size ∧ len ≤ maxLen ∧ ∀ i, i < len → ∃ (n by_ : Int), W.cell? ⟨b, off + i * 2, none⟩ = some (.int .i64 n) ∧ W.cell? ⟨b, off + i * 2 + 1, none⟩ = some (.int .i64 by_) ∧ I64 n ∧ I64 by_
/-- What is held of the world at the loop's head. -/
structure H7 (W0 : World) (v : Int) (w : World) : Prop where
  only : Only (fun _ => False) W0 w
  cnt : CntAt W0.heap.size w v
  dnt : CntAt (W0.heap.size + 1) w 0
  size : W0.heap.size + 2 ≤ w.heap.size
  i64 : I64 v
/-- What is held of the shunned places and of those that were touched. -/
structure S7 (W0 w : World) (Shun Lw : Loc → Prop) : Prop where
  own : ∀ a : Addr, a.block = W0.heap.size → Shun (.cell a)
  shun : ∀ l, Shun l → ∃ a : Addr, l = .cell a ∧ (a.block = W0.heap.size ∨ (W0.heap.size + 2 ≤ a.block ∧ a.block < w.heap.size))
  lw : ∀ l, Lw l → ∃ a : Addr, l = .cell a ∧ a.block < w.heap.size
/-- A cell in a block below s. -/
def Low (s : Nat) : Loc → Prop := fun l => ∃ a : Addr, l = .cell a ∧ a.block < s
/-- The return of true. -/
def AtTrue (W : World) (Shun : Loc → Prop) : Goroutine → World → Prop := crew.Returns Shun (fun v w => v = .bool true ∧ Only (fun _ => False) W w)

/-- What stands behind a round's adding. -/
noncomputable def code20 : Code := cR (cR (cR (cB (cL (cR loop7)))))
noncomputable def code6 : Code := cR (cR loop7)
def NextHead (W0 : World) (a0 : Option Addr) (len cap : Nat) (v : Int) (i : Nat) (sz : Nat) (g : Goroutine) (w : World) : Prop := AtHead7 a0 len cap W0.heap.size v i g ∧ H7 W0 v w ∧ w.heap.size = sz
theorem H7.at {W0 w : World} {v : Int} (h : H7 W0 v w) (d : Nat) : H7 W0 v (w.at d) := ⟨⟨h.only.os, h.only.tape, h.only.output, h.only.size, h.only.block⟩, h.cnt, h.dnt, h.size, h.i64⟩
theorem head_lit {a0 : Option Addr} {len cap s : Nat} {v : Int} {i : Nat} {g : Goroutine}
    (hg : g = G ((base 7).at ⟨T7 a0 len cap s v i (g.frame.tmps.getD 7 undef) (g.frame.tmps.getD 45 undef) (g.frame.tmps.getD 46 undef) (fun k => g.frame.tmps.getD k undef), []⟩ [.code loop7, .inLoop loop7, .inBlock 0, .code tail7]) []) : AtHead7 a0 len cap s v i g := ⟨_, _, _, _, hg⟩
theorem S7.may {W0 w : World} {Shun Lw : Loc → Prop} (h : S7 W0 w Shun Lw) {Lw' : Loc → Prop} {b : Nat} (hb : b ≠ W0.heap.size) (hb2 : b < W0.heap.size + 2 ∨ w.heap.size ≤ b) (hl : ∀ a : Addr, a.block = b → Lw' (.cell a)) : May Shun Lw' b :=
  fun a ha => ⟨fun hs => by obtain ⟨a', e, h'⟩ := h.shun _ hs; cases e; omega, hl a ha⟩
theorem cell_old {w w' : World} (h : Only (fun _ => False) w w') {a : Addr} {v : Value} (hc : w.cell? a = some v) : w'.cell? a = some v := by
  have hlt : a.block < w.heap.size := by
    obtain ⟨e, n, hsh, _, _⟩ := World.shape?_of_cell? hc
    unfold World.shape? at hsh
    split at hsh
    · rename_i c e fr hb; exact lt_of_block hb
    · cases hsh
  unfold World.cell? at hc ⊢
  rw [h.block _ hlt (fun x => x)]; exact hc

section
variable {W0 w : World} {a0 : Option Addr} {len cap i : Nat} {v : Int} {Shun Lw : Loc → Prop} {x7 x45 x46 : Value} {J : Nat → Value}
set_option maxRecDepth 100000 in
set_option maxHeartbeats 16000000 in
theorem exitWalk (hi : i ≤ 30) (hend : len ≤ i ∨ i = 30) (hlen : len ≤ maxLen) (hH : H7 W0 v w) (hS : S7 W0 w Shun Lw) :
    ∀ y, Conc.AtRel w y → Goes Try.prog true Conc.AtRel (DF Shun (fun _ => True)) (Fz Shun (fun _ => True) (AtTrue W0 Shun) 2) 1000
      (G ((base 7).at ⟨T7 a0 len cap W0.heap.size v i x7 x45 x46 J, []⟩ [.code loop7, .inLoop loop7, .inBlock 0, .code tail7]) []) y := by
  intro y hF
  have hMn : ∀ b, w.heap.size ≤ b → May Shun (fun _ => True) b := fun b hb => hS.may (by have := hH.size; omega) (.inr hb) (fun _ _ => trivial)
  have HH := Lib.hid hH; have HM := Lib.hid hMn; clear hH hMn hS
  simp only [T7, loop7, tail7, body7, cL, cR, cB, Try.f7, Option.getD_some]
  unfold maxLen at hlen
  rcases Nat.lt_or_ge i len with hl | hl
  · obtain rfl : i = 30 := by omega
    have d1 : decide (((30 : Nat) : Int) < (len : Int)) = true := decide_eq_true (by omega)
    have d3 : decide ((30 : Int) < (len : Int)) = true := decide_eq_true (by omega)
    have d2 : decide (((30 : Nat) : Int) < 30) = false := decide_eq_false (by omega)
    clear hi hend
    u_c stepG_seq at_rely hF
    u_c stepG_seq at_rely hF
    u_reg at_rely hF
    u_op at_rely hF
    u_op at_rely hF
    u_op at_rely hF
    u_op at_rely hF
    u_op at_rely hF
    u_op at_rely hF
    u_op at_rely hF
    u_op at_rely hF
    u_c stepG_region_end at_rely hF
    u_cond false at_rely hF
    u_exit at_rely hF
    u_c stepG_seq at_rely hF
    u_reg at_rely hF
    u_in at_rely hF
    refine goes_call rfl rfl (by k_ne) rfl Try.func13 x13 rfl ⟨by u_nil, ?_⟩
    have hA := @awakeC Shun (fun _ => True)
    simp only [Try.f13, Option.getD_some, Array.replicate_succ, Array.replicate_zero, List.push_toArray, List.append_toArray, List.nil_append, List.cons_append] at hA
    walk_nrmf Try.f13
    refine Goes.mono (hA (W := w) (Stop := AtTrue W0 Shun) (m := 0) (mT := 200) HM.out (fun W' hW y hF => ?_) _ hF) (by omega)
    clear hA
    have o9 := HH.out.only.trans hW
    clear hW
    walk_nrm
    u_op at_rely hF
    u_c stepG_region_end at_rely hF
    u_c stepG_ret' at_rely hF
    refine Goes.stop fun w3 h3 => ?_
    replace hF := at_rely hF h3
    clear h3
    intro d'
    refine ⟨rfl, .bool true, #[], ?_, by simp, rfl, ?_⟩
    · simp [G, stepG, unwind, doReturn, results, Frame.at, base, Try.func7, Try.f7, seen, GStep.after]
    · obtain ⟨d, rfl⟩ := hF
      exact ⟨o9.os, o9.tape, o9.output, o9.size, o9.block⟩
  · have d1 : decide ((i : Int) < (len : Int)) = false := decide_eq_false (by omega)
    have d1n : decide (i < len) = false := decide_eq_false (by omega)
    clear hi hend
    u_c stepG_seq at_rely hF
    u_c stepG_seq at_rely hF
    u_reg at_rely hF
    u_op at_rely hF
    u_op at_rely hF
    u_op at_rely hF
    u_op at_rely hF
    u_op at_rely hF
    u_skip at_rely hF
    u_skip at_rely hF
    u_op at_rely hF
    u_c stepG_region_end at_rely hF
    u_cond false at_rely hF
    u_exit at_rely hF
    u_c stepG_seq at_rely hF
    u_reg at_rely hF
    u_in at_rely hF
    refine goes_call rfl rfl (by k_ne) rfl Try.func13 x13 rfl ⟨by u_nil, ?_⟩
    have hA := @awakeC Shun (fun _ => True)
    simp only [Try.f13, Option.getD_some, Array.replicate_succ, Array.replicate_zero, List.push_toArray, List.append_toArray, List.nil_append, List.cons_append] at hA
    walk_nrmf Try.f13
    refine Goes.mono (hA (W := w) (Stop := AtTrue W0 Shun) (m := 0) (mT := 200) HM.out (fun W' hW y hF => ?_) _ hF) (by omega)
    clear hA
    have o9 := HH.out.only.trans hW
    clear hW
    walk_nrm
    u_op at_rely hF
    u_c stepG_region_end at_rely hF
    u_c stepG_ret' at_rely hF
    refine Goes.stop fun w3 h3 => ?_
    replace hF := at_rely hF h3
    clear h3
    intro d'
    refine ⟨rfl, .bool true, #[], ?_, by simp, rfl, ?_⟩
    · simp [G, stepG, unwind, doReturn, results, Frame.at, base, Try.func7, Try.f7, seen, GStep.after]
    · obtain ⟨d, rfl⟩ := hF
      exact ⟨o9.os, o9.tape, o9.output, o9.size, o9.block⟩

set_option maxRecDepth 100000 in
set_option maxHeartbeats 16000000 in
theorem roundTail (hi : i < 30) (hH : H7 W0 v w) (hL : ∀ a : Addr, a.block < w.heap.size → Lw (.cell a)) :
    ∀ y, Conc.AtRel w y → Goes Try.prog true Conc.AtRel (DF Shun Lw) (NextHead W0 a0 len cap v (i + 1) w.heap.size) 400
      (G ((base 7).at ⟨T7 a0 len cap W0.heap.size v i x7 x45 x46 J, []⟩ [.code code20, .inBlock 1, .code code6, .inLoop loop7, .inBlock 0, .code tail7]) []) y := by
  intro y hF
  have hsz := hH.size
  have t1 : Tells Lw (.pointer (some ⟨W0.heap.size, 0, none⟩)) v w := .inr ⟨_, rfl, cnt_cell hH.cnt, hL _ (by simp; omega)⟩
  have t2 : Tells Lw (.pointer (some ⟨W0.heap.size + 1, 0, none⟩)) 0 w := .inr ⟨_, rfl, cnt_cell hH.dnt, hL _ (by simp; omega)⟩
  have ew : IntKind.i64.wrap ((i : Int) + 1) = (i : Int) + 1 := by rw [IntKind.wrap_i64]; omega
  have ec : ((i + 1 : Nat) : Int) = (i : Int) + 1 := by omega
  have HH := Lib.hid hH; have T1 := Lib.hid t1; have T2 := Lib.hid t2; clear hH hL t1 t2 hsz
  simp only [T7, code20, code6, loop7, tail7, body7, cL, cR, cB, Try.f7, Option.getD_some]
  u_c stepG_seq at_rely hF
  u_reg at_rely hF
  u_op at_rely hF
  u_in at_rely hF
  refine goes_call rfl rfl (by k_ne) rfl Try.func27 x27 rfl ⟨by u_nil, ?_⟩
  have hA := @valueC Shun Lw
  simp only [Try.f27, Option.getD_some, Array.replicate_succ, Array.replicate_zero, List.push_toArray, List.append_toArray, List.nil_append, List.cons_append] at hA
  walk_nrmf Try.f27
  refine Goes.mono (hA (mT := 300) T1.out (fun y hF => ?_) _ hF) (by omega)
  clear hA
  walk_nrm
  u_op at_rely hF
  u_op at_rely hF
  u_op at_rely hF
  u_op at_rely hF
  u_in at_rely hF
  refine goes_call rfl rfl (by k_ne) rfl Try.func27 x27 rfl ⟨by u_nil, ?_⟩
  have hA := @valueC Shun Lw
  simp only [Try.f27, Option.getD_some, Array.replicate_succ, Array.replicate_zero, List.push_toArray, List.append_toArray, List.nil_append, List.cons_append] at hA
  walk_nrmf Try.f27
  refine Goes.mono (hA (mT := 200) T2.out (fun y hF => ?_) _ hF) (by omega)
  clear hA
  walk_nrm
  u_op at_rely hF
  u_op at_rely hF
  u_c stepG_region_end at_rely hF
  u_cond false at_rely hF
  u_c stepG_skip at_rely hF
  u_c stepG_inBlock at_rely hF
  u_reg at_rely hF
  u_op at_rely hF
  u_op at_rely hF
  u_op at_rely hF
  u_c stepG_region_end at_rely hF
  u_c stepG_inLoop at_rely hF
  refine Goes.stop fun w3 h3 => ?_
  replace hF := at_rely hF h3
  clear h3
  obtain ⟨d, rfl⟩ := hF
  refine ⟨?_, HH.out.at d, rfl⟩
  refine head_lit ?_
  simp only [T7, loop7, tail7, body7, cL, cR, cB, Try.f7, Option.getD_some, ec]
  rfl
end
end Go.Proofs.Ytdkbkocklnnmdaa.counts
