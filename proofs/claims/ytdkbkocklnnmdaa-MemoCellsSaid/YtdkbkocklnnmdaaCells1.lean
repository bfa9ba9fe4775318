/-
  MemoCells beside goroutines that only leave: its slots; its entry; its exit; a round's head and tail. Conditions: the argument leads to a row of numbers; what is held of the world at the loop's head.
-/
import Derived.Test.YtdkbkocklnnmdaaIAlone
import Derived.Test.YtdkbkocklnnmdaaIDrive
import Derived.Test.YtdkbkocklnnmdaaIEnter
set_option linter.unusedSimpArgs false
set_option linter.unusedVariables false
namespace Go.Proofs.Ytdkbkocklnnmdaa.cells
open Go Go.Conc Go.RowKit Go.ConcR.Gen Go.ConcN.Gen Go.Proofs.Ytdkbkocklnnmdaa.crew Go.Proofs.Ytdkbkocklnnmdaa.wg Go.Proofs.Ytdkbkocklnnmdaa.free
open Go.Proofs.Ytdkbkocklnnmdaa.kid (opsOf cL cR cB hmf2 hmf3)
open Go.Proofs.Ytdkbkocklnnmdaa.tog (Tp Cs AtCs cblk cs0 cs1 cs3 cs4 cs5 cs6 csz Atom)
open Go.Proofs.Ytdkbkocklnnmdaa.itog (Fb noVal)
open Go.Proofs.Ytdkbkocklnnmdaa.itgm (Low)
open Go.Proofs.Ytdkbkocklnnmdaa.tgs (Gam Done Idle TW rest_zero)
open Go.ConcX.Gen (setCell_at alloc_at)
open Go.ConcR (WgAt)

def cE : Code → Code
  | .cond _ _ y => y
  | c => c
/-- MemoCells' slots. -/
def S5 (sl : Value) (s : Nat) (want : Int) (ran : Bool) (i : Int) (x12 x13 x14 x37 x43 x49 x50 x51 : Value) (J : Nat → Value) : Array Value := #[J 0, J 1, sl, (.pointer (some ⟨s, 0, none⟩)), (.pointer (some ⟨s + 1, 0, none⟩)), J 5, (.bool false), (.pointer (some ⟨s + 2, 0, none⟩)), (.pointer (some ⟨s + 3, 0, none⟩)), (.int .i64 want), (.bool ran), (.int .i64 i), x12, x13, x14, J 15, J 16, J 17, J 18, J 19, J 20, J 21, J 22, J 23, J 24, J 25, J 26, J 27, J 28, J 29, J 30, J 31, J 32, J 33, J 34, J 35, J 36, x37, J 38, J 39, J 40, J 41, J 42, x43, J 44, J 45, J 46, J 47, J 48, x49, x50, x51, J 52, J 53, J 54, J 55, J 56, J 57, J 58, J 59, J 60, J 61, J 62, J 63, J 64, J 65, J 66, J 67, J 68, J 69, J 70, J 71, J 72, J 73, J 74, J 75, J 76, J 77, J 78, J 79, J 80, J 81, J 82, J 83, J 84, J 85, J 86, J 87, J 88, J 89, J 90, J 91, J 92, J 93, J 94, J 95, J 96]
noncomputable def body5 : Code := Try.f5.body.getD .skip
noncomputable def Z5 : Code := cR (cR (cR (cR (cR (cR body5)))))
noncomputable def loop5 : Code := cB (cB (cR (cL Z5)))
noncomputable def tail5 : Code := cR Z5
noncomputable def blk5 : Code := cB (cL (cR loop5))
noncomputable def code36 : Code := cR blk5
noncomputable def code10 : Code := cR (cR loop5)
noncomputable def sw5 : Code := cB (cR (cR (cL blk5)))
noncomputable def e1 : Code := cE (cR sw5)
noncomputable def e2 : Code := cE (cR e1)
noncomputable def e3 : Code := cE (cR e2)
noncomputable def chain16 : Code := cR (cR e3)
noncomputable def ops16 : Array Oper := opsOf (cL chain16)
noncomputable def x17c : Code := cR chain16
noncomputable def loop3 : Code := cB (cB (cR (cL (cR x17c))))
noncomputable def code25 : Code := cR (cR x17c)
noncomputable def K36 : List Item := [.inBlock 2, .code code36, .inBlock 1, .code code10, .inLoop loop5, .inBlock 0, .code tail5]
/-- At the loop's head. -/
def AtHead5 (sl : Value) (s : Nat) (want : Int) (ran : Bool) (i : Nat) (g : Goroutine) : Prop :=
  ∃ x12 x13 x14 x37 x43 x49 x50 x51 J, g = G ((base 5).at ⟨S5 sl s want ran i x12 x13 x14 x37 x43 x49 x50 x51 J, []⟩ [.code loop5, .inLoop loop5, .inBlock 0, .code tail5]) []
theorem head_lit {sl : Value} {s : Nat} {want : Int} {ran : Bool} {i : Nat} {g : Goroutine}
    (hg : g = G ((base 5).at ⟨S5 sl s want ran i (g.frame.tmps.getD 12 undef) (g.frame.tmps.getD 13 undef) (g.frame.tmps.getD 14 undef) (g.frame.tmps.getD 37 undef) (g.frame.tmps.getD 43 undef) (g.frame.tmps.getD 49 undef) (g.frame.tmps.getD 50 undef) (g.frame.tmps.getD 51 undef) (fun k => g.frame.tmps.getD k undef), []⟩ [.code loop5, .inLoop loop5, .inBlock 0, .code tail5]) []) : AtHead5 sl s want ran i g := ⟨_, _, _, _, _, _, _, _, _, hg⟩

/-- The call of Together's, the law's blocks counted from s, the call's own from h. -/
def tpI (s h : Nat) (v0 : Int) (fl : Bool) : Tp :=
  { C := s + 3, fC := .func (.func 17) #[] #[.pointer (some ⟨s + 2, 0, none⟩), .pointer (some ⟨s + 1, 0, none⟩), .pointer (some ⟨s, 0, none⟩)], ty := 86, Wg := h + 3, Rn := s + 2, Ot := h + 1, tb := 24, fin := .int .i64 (if fl then 0 else v0), Ro := fun b => b = s ∨ b = s + 1 ∨ b = h ∨ b = h + 2, Bd := s, vd := .int .i64 v0, eb := fun _ => #[] }
def fbI (s : Nat) (v0 : Int) (fl : Bool) : Fb := { bf := s + 1, bv := s, fl, v := v0 }
def c0 : Cs := { d := 0, m := ⟨0, 0, 0, 0⟩, s := 0, v := .int .i64 0, cd := 0, r := 0 }
/-- What the cell's words are, by whether it has run. -/
def Told (fin : Value) (ran : Bool) (c : Cs) : Prop := if ran then c.d = 1 ∧ c.cd = 1 ∧ c.r = 1 ∧ c.v = fin ∧ tgs.Rest c.m c.s else c = c0
/-- What is held of the world at the loop's head. -/
structure H5 (W0 : World) (v0 : Int) (fl ran : Bool) (sz : Nat) (w : World) : Prop where
  wd : ∃ c, Wd W0 (tpI W0.heap.size 0 v0 fl) (fbI W0.heap.size v0 fl) c (if ran then 1 else 0) sz w ∧ Told (.int .i64 (if fl then 0 else v0)) ran c
  size : W0.heap.size + 4 ≤ sz
theorem OnlyT.at {W0 w : World} (h : OnlyT W0 w) (d : Nat) : OnlyT W0 (w.at d) := ⟨h.os, h.tape, h.output, h.size, h.block⟩
theorem OnlyT.un {W0 w : World} {d : Nat} (h : OnlyT W0 (w.at d)) : OnlyT W0 w := ⟨h.os, h.tape, h.output, h.size, h.block⟩
theorem H5.at {W0 w : World} {v0 : Int} {fl ran : Bool} {sz : Nat} (h : H5 W0 v0 fl ran sz w) (d : Nat) : H5 W0 v0 fl ran sz (w.at d) := by
  obtain ⟨⟨c, h1, h2⟩, h3⟩ := h
  exact ⟨⟨c, ⟨h1.only.at d, h1.cs, h1.rn, h1.bv, h1.bf, h1.size⟩, h2⟩, h3⟩
theorem H5.un {W0 w : World} {v0 : Int} {fl ran : Bool} {sz d : Nat} (h : H5 W0 v0 fl ran sz (w.at d)) : H5 W0 v0 fl ran sz w := by
  obtain ⟨⟨c, h1, h2⟩, h3⟩ := h
  exact ⟨⟨c, ⟨h1.only.un, h1.cs, h1.rn, h1.bv, h1.bf, h1.size⟩, h2⟩, h3⟩
theorem sp5 (W0 : World) (h : Nat) (v0 : Int) (fl : Bool) : Sp W0 (tpI W0.heap.size h v0 fl) (fbI W0.heap.size v0 fl) := by
  refine ⟨?_, ?_, ?_, ?_, ?_, ?_, ?_⟩ <;> simp only [tpI, fbI] <;> omega
/-- The shunned places: the cell's five words, and what earlier groups left. -/
structure Sh5 (s sz : Nat) (Shun : Loc → Prop) : Prop where
  own : ∀ i, i = 0 ∨ i = 1 ∨ i = 2 ∨ i = 5 ∨ i = 6 → Shun (.cell ⟨s + 3, i, none⟩)
  out : ∀ l, Shun l → (∃ i, (i = 0 ∨ i = 1 ∨ i = 2 ∨ i = 5 ∨ i = 6) ∧ l = .cell ⟨s + 3, i, none⟩) ∨ ∃ a : Addr, l = .cell a ∧ s + 4 ≤ a.block ∧ a.block < sz
theorem Sh5.may {s sz sz' : Nat} {Shun : Loc → Prop} (h : Sh5 s sz Shun) {b : Nat} (hb : b < s + 3 ∨ (s + 4 ≤ b ∧ sz ≤ b)) (hl : b < sz') : May Shun (Low sz') b := fun a ha => by
  refine ⟨fun hs => ?_, fun a' e => by cases e; omega⟩
  rcases h.out _ hs with ⟨i, _, e⟩ | ⟨a', e, h1, h2⟩
  · cases e; simp at ha; omega
  · cases e; omega
theorem Sh5.no {s sz : Nat} {Shun : Loc → Prop} (h : Sh5 s sz Shun) {i : Nat} (hi : i = 3 ∨ i = 4) : ¬ Shun (.cell ⟨s + 3, i, none⟩) := fun hs => by
  rcases h.out _ hs with ⟨j, hj, e⟩ | ⟨a', e, h1, h2⟩
  · cases e; omega
  · cases e; simp at h1
theorem Sh5.own5 {W0 : World} {sz sz' h : Nat} {v0 : Int} {fl : Bool} {Shun : Loc → Prop} (H : Sh5 W0.heap.size sz Shun) (hs : W0.heap.size + 4 ≤ sz') : Own Shun (Low sz') (tpI W0.heap.size h v0 fl) (fbI W0.heap.size v0 fl) := by
  refine ⟨fun i a e => ?_, H.no (.inl rfl), H.no (.inr rfl), H.may (.inl ?_) ?_, H.may (.inl ?_) ?_, H.may (.inl ?_) ?_⟩
  · cases e; simp only [tog.cA, tpI]; omega
  all_goals (simp only [tpI, fbI]; omega)
theorem Sh5.mono {s sz sz' : Nat} {Shun : Loc → Prop} (h : Sh5 s sz Shun) (hs : sz ≤ sz') : Sh5 s sz' Shun := ⟨h.own, fun l hl => (h.out l hl).imp id fun ⟨a, e, h1, h2⟩ => ⟨a, e, h1, by omega⟩⟩
def NextHead (W0 : World) (sl : Value) (want : Int) (v0 : Int) (fl ran : Bool) (i : Nat) (sz : Nat) (g : Goroutine) (w : World) : Prop := AtHead5 sl W0.heap.size want ran i g ∧ H5 W0 v0 fl ran sz w
/-- The argument: a row of numbers. -/
def IsOps (W : World) (a : Option Addr) (len : Nat) : Prop :=
  len = 0 ∨ ∃ b off, a = some ⟨b, off, none⟩ ∧ b < W.heap.size ∧ len ≤ maxLen ∧ ∀ i, i < len → ∃ k : Int, W.cell? ⟨b, off + i, none⟩ = some (.int .i64 k)
theorem cell_old {w w' : World} (h : OnlyT w w') {a : Addr} {v : Value} (hc : w.cell? a = some v) : w'.cell? a = some v := by
  have hlt : a.block < w.heap.size := by
    obtain ⟨e, n, hsh, _, _⟩ := World.shape?_of_cell? hc
    unfold World.shape? at hsh
    split at hsh
    · rename_i c e fr hb; exact lt_of_block hb
    · cases hsh
  unfold World.cell? at hc ⊢
  rw [h.block _ hlt]; exact hc
theorem run_nbq (a b : Bool) (w : World) : (binOp .neq 4 (.bool a) (.bool b)).run Try.prog w = .ok (.bool (a != b)) w := by
  unfold binOp Op.equal Op.maxDepth
  unfold Op.equalIn
  simp [go_sem, run_underlying Try.underlying4]
  try (cases a <;> cases b <;> rfl)
theorem ev_nbq (a b : Bool) (w : World) (es : Array Event) : (binOp .neq 4 (.bool a) (.bool b)).events Try.prog w es = es := by
  unfold binOp Op.equal Op.maxDepth
  unfold Op.equalIn
  simp [go_sem, run_underlying Try.underlying4, Result.evThen]
theorem q5 : (Try.prog.funcs[(base 5).fn]?).any (·.norace) = false := by kernel_rfl

section
variable {W0 w : World} {sl : Value} {a0 : Option Addr} {len cap i sz sz' : Nat} {want v0 k : Int} {fl ran : Bool} {Shun Lw : Loc → Prop} {St : Goroutine → World → Prop} {x12 x13 x14 x37 x43 x49 x50 x51 : Value} {J : Nat → Value} {mT : Nat}
set_option maxRecDepth 100000 in
set_option maxHeartbeats 16000000 in
/-- Out of the loop. -/
theorem exit5 (hi : i ≤ 40) (hend : len ≤ i ∨ i = 40) (hlen : len ≤ maxLen) (hO : OnlyT W0 w) (hMn : ∀ b, w.heap.size ≤ b → May Shun (fun _ => True) b) :
    ∀ y, Conc.AtRel w y → Goes Try.prog true Conc.AtRel (DF Shun (fun _ => True)) (Fz Shun (fun _ => True) (AtTrue W0 Shun) 2) 1000
      (G ((base 5).at ⟨S5 (.slice a0 len cap) W0.heap.size want ran i x12 x13 x14 x37 x43 x49 x50 x51 J, []⟩ [.code loop5, .inLoop loop5, .inBlock 0, .code tail5]) []) y := by
  intro y hF
  have HO := Lib.hid hO; have HM := Lib.hid hMn; clear hO hMn
  simp only [S5, loop5, tail5, Z5, body5, cL, cR, cB, Try.f5, Option.getD_some]
  unfold maxLen at hlen
  rcases Nat.lt_or_ge i len with hl | hl
  · obtain rfl : i = 40 := by omega
    have d1 : decide (((40 : Nat) : Int) < (len : Int)) = true := decide_eq_true (by omega)
    have d3 : decide ((40 : Int) < (len : Int)) = true := decide_eq_true (by omega)
    have d2 : decide (((40 : Nat) : Int) < 40) = false := decide_eq_false (by omega)
    clear hi hend
    u_c stepG_seq at_rely hF
    u_c stepG_seq at_rely hF
    u_reg at_rely hF
    u_op at_rely hF
    u_op at_rely hF
    u_op at_rely hF
    u_op at_rely hF
    u_op at_rely hF
    u_op at_rely hF
    u_op at_rely hF
    u_op at_rely hF
    u_c stepG_region_end at_rely hF
    u_cond false at_rely hF
    u_exit at_rely hF
    u_c stepG_seq at_rely hF
    u_reg at_rely hF
    u_in at_rely hF
    refine goes_call rfl rfl (by k_ne) rfl Try.func13 free.x13 rfl ⟨by u_nil, ?_⟩
    have hA := @awakeC Shun (fun _ => True)
    simp only [Try.f13, Option.getD_some, Array.replicate_succ, Array.replicate_zero, List.push_toArray, List.append_toArray, List.nil_append, List.cons_append] at hA
    walk_nrmf Try.f13
    refine Goes.mono (hA (W := w) (Stop := AtTrue W0 Shun) (m := 0) (mT := 200) HM.out (fun W' hW y hF => ?_) _ hF) (by omega)
    clear hA
    have o9 := HO.out.trans (OnlyT.of hW)
    clear hW
    walk_nrm
    u_op at_rely hF
    u_c stepG_region_end at_rely hF
    u_c stepG_ret' at_rely hF
    refine Goes.stop fun w3 h3 => ?_
    replace hF := at_rely hF h3
    clear h3
    intro d'
    refine ⟨rfl, .bool true, #[], ?_, by simp, rfl, ?_⟩
    · simp [G, stepG, unwind, doReturn, results, Frame.at, base, Try.func5, Try.f5, seen, GStep.after]
    · obtain ⟨d, rfl⟩ := hF
      exact ⟨o9.os, o9.tape, o9.output, o9.size, o9.block⟩
  · have d1 : decide ((i : Int) < (len : Int)) = false := decide_eq_false (by omega)
    have d1n : decide (i < len) = false := decide_eq_false (by omega)
    clear hi hend
    u_c stepG_seq at_rely hF
    u_c stepG_seq at_rely hF
    u_reg at_rely hF
    u_op at_rely hF
    u_op at_rely hF
    u_op at_rely hF
    u_op at_rely hF
    u_op at_rely hF
    u_skip at_rely hF
    u_skip at_rely hF
    u_op at_rely hF
    u_c stepG_region_end at_rely hF
    u_cond false at_rely hF
    u_exit at_rely hF
    u_c stepG_seq at_rely hF
    u_reg at_rely hF
    u_in at_rely hF
    refine goes_call rfl rfl (by k_ne) rfl Try.func13 free.x13 rfl ⟨by u_nil, ?_⟩
    have hA := @awakeC Shun (fun _ => True)
    simp only [Try.f13, Option.getD_some, Array.replicate_succ, Array.replicate_zero, List.push_toArray, List.append_toArray, List.nil_append, List.cons_append] at hA
    walk_nrmf Try.f13
    refine Goes.mono (hA (W := w) (Stop := AtTrue W0 Shun) (m := 0) (mT := 200) HM.out (fun W' hW y hF => ?_) _ hF) (by omega)
    clear hA
    have o9 := HO.out.trans (OnlyT.of hW)
    clear hW
    walk_nrm
    u_op at_rely hF
    u_c stepG_region_end at_rely hF
    u_c stepG_ret' at_rely hF
    refine Goes.stop fun w3 h3 => ?_
    replace hF := at_rely hF h3
    clear h3
    intro d'
    refine ⟨rfl, .bool true, #[], ?_, by simp, rfl, ?_⟩
    · simp [G, stepG, unwind, doReturn, results, Frame.at, base, Try.func5, Try.f5, seen, GStep.after]
    · obtain ⟨d, rfl⟩ := hF
      exact ⟨o9.os, o9.tape, o9.output, o9.size, o9.block⟩
set_option maxRecDepth 100000 in
set_option maxHeartbeats 16000000 in
/-- A round's end. -/
theorem tail36 (hi : i < 40) (h : H5 W0 v0 fl ran sz w) (hS : Sh5 W0.heap.size sz' Shun) (hl : sz ≤ sz') :
    ∀ y, Conc.AtRel w y → Goes Try.prog true Conc.AtRel (DF Shun (Low sz')) (NextHead W0 sl want v0 fl ran (i + 1) sz) 400
      (G ((base 5).at ⟨S5 sl W0.heap.size want ran i x12 x13 x14 x37 x43 x49 x50 x51 J, []⟩ K36) []) y := by
  intro y hF
  have hsz := h.size
  have ew : IntKind.i64.wrap ((i : Int) + 1) = (i : Int) + 1 := by rw [IntKind.wrap_i64]; omega
  have ec : ((i + 1 : Nat) : Int) = (i : Int) + 1 := by omega
  have hMR : May Shun (Low sz') (W0.heap.size + 2) := hS.may (.inl (by omega)) (by omega)
  have hr : w.cell? ⟨W0.heap.size + 2, 0, none⟩ = some (.int .i64 (if ran then 1 else 0)) := by obtain ⟨⟨c, h1, h2⟩, _⟩ := h; exact cell_of_one h1.rn
  have hnr := run_nbq
  have hne := ev_nbq
  have HH := Lib.hid h; clear h hsz
  simp only [S5, K36, code36, code10, blk5, sw5, e1, e2, e3, chain16, ops16, x17c, loop3, code25, loop5, tail5, Z5, body5, opsOf, cL, cR, cB, cE, Try.f5, Option.getD_some]
  cases ran
  all_goals (simp only [Bool.false_eq_true, if_false, if_true] at hr)
  · u_c stepG_inBlock at_rely hF
    u_c stepG_seq at_rely hF
    u_reg at_rely hF
    u_in at_rely hF
    refine goes_oper_k rfl rfl (by k_ne) (fun K hK => ?_)
    have hcl := free.at_cell hF
    have hfz := free.at_frozen hF
    have hsz := free.at_size hF
    go_simp
    refine hK _ _ ⟨fun e he => ?_, ?_⟩
    · (have hm := mem_listed he; simp [go_sem, storedEv, *] at hm; try (subst hm; refine free.evS_may ?_ (Eq.refl _); assumption))
    clear hK K hcl hfz hsz
    u_op at_rely hF
    u_op at_rely hF
    u_in at_rely hF
    have hcell := (at_cell hF _).trans hr
    rw [tog.stepG_loadE (ty := 3) (by simp [tog.one]) rfl rfl (by k_ne) rfl rfl hcell q5]
    simp only [goes_go]
    refine ⟨evs1 (hMR _ rfl), ?_⟩
    walk_nrm
    clear hcell
    u_op at_rely hF
    u_op at_rely hF
    u_op at_rely hF
    u_op at_rely hF
    u_c stepG_region_end at_rely hF
    u_cond false at_rely hF
    u_c stepG_skip at_rely hF
    u_c stepG_inBlock at_rely hF
    u_reg at_rely hF
    u_op at_rely hF
    u_op at_rely hF
    u_op at_rely hF
    u_c stepG_region_end at_rely hF
    u_c stepG_inLoop at_rely hF
    refine Goes.stop fun w3 h3 => ?_
    replace hF := at_rely hF h3
    clear h3
    obtain ⟨d, rfl⟩ := hF
    refine ⟨?_, HH.out.at d⟩
    refine head_lit ?_
    simp only [S5, loop5, tail5, Z5, body5, cL, cR, cB, Try.f5, Option.getD_some, ec]
    rfl
  · u_c stepG_inBlock at_rely hF
    u_c stepG_seq at_rely hF
    u_reg at_rely hF
    u_in at_rely hF
    refine goes_oper_k rfl rfl (by k_ne) (fun K hK => ?_)
    have hcl := free.at_cell hF
    have hfz := free.at_frozen hF
    have hsz := free.at_size hF
    go_simp
    refine hK _ _ ⟨fun e he => ?_, ?_⟩
    · (have hm := mem_listed he; simp [go_sem, storedEv, *] at hm; try (subst hm; refine free.evS_may ?_ (Eq.refl _); assumption))
    clear hK K hcl hfz hsz
    u_op at_rely hF
    u_op at_rely hF
    u_in at_rely hF
    have hcell := (at_cell hF _).trans hr
    rw [tog.stepG_loadE (ty := 3) (by simp [tog.one]) rfl rfl (by k_ne) rfl rfl hcell q5]
    simp only [goes_go]
    refine ⟨evs1 (hMR _ rfl), ?_⟩
    walk_nrm
    clear hcell
    u_op at_rely hF
    u_op at_rely hF
    u_op at_rely hF
    u_op at_rely hF
    u_c stepG_region_end at_rely hF
    u_cond false at_rely hF
    u_c stepG_skip at_rely hF
    u_c stepG_inBlock at_rely hF
    u_reg at_rely hF
    u_op at_rely hF
    u_op at_rely hF
    u_op at_rely hF
    u_c stepG_region_end at_rely hF
    u_c stepG_inLoop at_rely hF
    refine Goes.stop fun w3 h3 => ?_
    replace hF := at_rely hF h3
    clear h3
    obtain ⟨d, rfl⟩ := hF
    refine ⟨?_, HH.out.at d⟩
    refine head_lit ?_
    simp only [S5, loop5, tail5, Z5, body5, cL, cR, cB, Try.f5, Option.getD_some, ec]
    rfl
set_option maxRecDepth 100000 in
set_option maxHeartbeats 16000000 in
/-- A round's head: the element is loaded. -/
theorem head5 {b off : Nat} (hi : i < 40) (hil : i < len) (hlen : len ≤ maxLen) (hk : w.cell? ⟨b, off + i, none⟩ = some (.int .i64 k)) (hMb : May Shun Lw b)
    (hT : ∀ x13 x14 x43 x49 x50 x51 J y, Conc.AtRel w y → Goes Try.prog true Conc.AtRel (DF Shun Lw) St mT (G ((base 5).at ⟨S5 (.slice (some ⟨b, off, none⟩) len cap) W0.heap.size want ran i (.int .i64 k) x13 x14 (.int .i64 k) x43 x49 x50 x51 J, []⟩ (.code sw5 :: K36)) []) y) :
    ∀ y, Conc.AtRel w y → Goes Try.prog true Conc.AtRel (DF Shun Lw) St (mT + 100)
      (G ((base 5).at ⟨S5 (.slice (some ⟨b, off, none⟩) len cap) W0.heap.size want ran i x12 x13 x14 x37 x43 x49 x50 x51 J, []⟩ [.code loop5, .inLoop loop5, .inBlock 0, .code tail5]) []) y := by
  intro y hF
  unfold maxLen at hlen
  have d1 : decide ((i : Int) < (len : Int)) = true := decide_eq_true (by omega)
  have d1n : decide (i < len) = true := decide_eq_true hil
  have d2 : decide ((i : Int) < 40) = true := decide_eq_true (by omega)
  have hi0 : (0 : Int) ≤ i := by omega
  have hil2 : (i : Int) < len := by omega
  have hlit : ∀ g w1, g = G ((base 5).at ⟨S5 (.slice (some ⟨b, off, none⟩) len cap) W0.heap.size want ran i (.int .i64 k) (g.frame.tmps.getD 13 undef) (g.frame.tmps.getD 14 undef) (.int .i64 k) (g.frame.tmps.getD 43 undef) (g.frame.tmps.getD 49 undef) (g.frame.tmps.getD 50 undef) (g.frame.tmps.getD 51 undef) (fun k => g.frame.tmps.getD k undef), []⟩ (.code sw5 :: K36)) [] → Conc.AtRel w w1 → Goes Try.prog true Conc.AtRel (DF Shun Lw) St mT g w1 := fun g w1 hg hw => by
    rw [hg]; exact hT _ _ _ _ _ _ _ _ hw
  have HM := Lib.hid hlit
  clear hlit
  clear hT
  simp only [S5, loop5, tail5, Z5, body5, cL, cR, cB, Try.f5, Option.getD_some]
  u_c stepG_seq at_rely hF
  u_c stepG_seq at_rely hF
  u_reg at_rely hF
  u_op at_rely hF
  u_op at_rely hF
  u_op at_rely hF
  u_op at_rely hF
  u_op at_rely hF
  u_op at_rely hF
  u_op at_rely hF
  u_op at_rely hF
  u_c stepG_region_end at_rely hF
  u_cond true at_rely hF
  u_c stepG_skip at_rely hF
  u_c stepG_seq at_rely hF
  u_c stepG_block at_rely hF
  u_c stepG_seq at_rely hF
  u_c stepG_seq at_rely hF
  u_reg at_rely hF
  u_op at_rely hF
  u_op at_rely hF
  u_op at_rely hF
  u_in at_rely hF
  refine goes_oper_k rfl rfl (by k_ne) (fun K hK => ?_)
  have hcl := free.at_cell hF
  have hfz := free.at_frozen hF
  have hsz := free.at_size hF
  go_simp
  refine hK _ _ ⟨fun e he => ?_, ?_⟩
  · (have hm := mem_listed he; simp [go_sem, storedEv, *] at hm; try (subst hm; refine free.evS_may ?_ (Eq.refl _); assumption))
  clear hK K hcl hfz hsz
  u_op at_rely hF
  u_c stepG_region_end at_rely hF
  u_c stepG_seq at_rely hF
  u_reg at_rely hF
  u_op at_rely hF
  u_c stepG_region_end at_rely hF
  u_c stepG_block at_rely hF
  refine Goes.mono (HM.out _ _ ?_ hF) (by omega)
  simp only [S5, K36, code36, code10, blk5, sw5, e1, e2, e3, chain16, ops16, x17c, loop3, code25, loop5, tail5, Z5, body5, opsOf, cL, cR, cB, cE, Try.f5, Option.getD_some]
  rfl
end
section
variable {W0 : World} {v0 : Int} {fl : Bool} {a0 : Option Addr} {len cap : Nat}
/-- The shunned places ahead of the first group. -/
def Of5 (s : Nat) : Loc → Prop := fun l => ∃ i, (i = 0 ∨ i = 1 ∨ i = 2 ∨ i = 5 ∨ i = 6) ∧ l = .cell ⟨s + 3, i, none⟩
theorem of5 (s sz : Nat) : Sh5 s sz (Of5 s) := ⟨fun i hi => ⟨i, hi, rfl⟩, fun l h => .inl h⟩
theorem x5 : (Try.f5.name == "runtime.NumGoroutine") = false := by kernel_rfl
set_option maxRecDepth 100000 in
set_option maxHeartbeats 16000000 in
/-- To the loop's head. -/
theorem enter5 :
    ∀ y, Conc.AtRel W0 y → Goes Try.prog true Conc.AtRel (DF (Of5 W0.heap.size) (Low (W0.heap.size + 4))) (NextHead W0 (.slice a0 len cap) (if fl then 0 else v0) v0 fl false 0 (W0.heap.size + 4)) 300
      (G ((base 5).at { tmps := #[.int .i64 v0, .bool fl, .slice a0 len cap] ++ Array.replicate 94 undef, defers := [] } [.code (Try.f5.body.getD .skip)]) []) y := by
  intro y hF
  have hS := of5 W0.heap.size (W0.heap.size + 4)
  have hM0 : May (Of5 W0.heap.size) (Low (W0.heap.size + 4)) W0.heap.size := hS.may (.inl (by omega)) (by omega)
  have hM1 : May (Of5 W0.heap.size) (Low (W0.heap.size + 4)) (W0.heap.size + 1) := hS.may (.inl (by omega)) (by omega)
  have hM2 : May (Of5 W0.heap.size) (Low (W0.heap.size + 4)) (W0.heap.size + 2) := hS.may (.inl (by omega)) (by omega)
  have hep := ev_eql_nil p24
  have hmf := hmf2
  have hme := hmf3
  have fin : ∀ w, w = ((((W0.alloc (.cells #[.int .i64 v0] 3)).alloc (.cells #[.bool fl] 4)).alloc (.cells #[.int .i64 0] 3)).setCell ⟨W0.heap.size + 2, 0, none⟩ (.int .i64 0)).alloc (cblk (tpI W0.heap.size 0 v0 fl) c0) → H5 W0 v0 fl false (W0.heap.size + 4) w ∧ w.cell? ⟨W0.heap.size, 0, none⟩ = some (.int .i64 v0) ∧ w.cell? ⟨W0.heap.size + 1, 0, none⟩ = some (.bool fl) := by
    rintro w rfl
    have n1 := box_new W0 (.cells #[.int .i64 v0] 3)
    have s1 : (W0.alloc (.cells #[.int .i64 v0] 3)).heap.size = W0.heap.size + 1 := by simp
    have o1 : OnlyT W0 (W0.alloc (.cells #[.int .i64 v0] 3)) := OnlyT.of ((Only.refl _ W0).alloc _)
    generalize W0.alloc (.cells #[.int .i64 v0] 3) = W1 at n1 s1 o1 ⊢
    have n2 := box_new W1 (.cells #[.bool fl] 4)
    rw [s1] at n2
    have n1 := box_old (x := .cells #[.bool fl] 4) n1
    have s2 : (W1.alloc (.cells #[.bool fl] 4)).heap.size = W0.heap.size + 2 := by simp [s1]
    have o2 : OnlyT W0 (W1.alloc (.cells #[.bool fl] 4)) := o1.trans (OnlyT.of ((Only.refl _ W1).alloc _))
    generalize W1.alloc (.cells #[.bool fl] 4) = W2 at n1 n2 s2 o2 ⊢
    have n3 := box_new W2 (.cells #[.int .i64 0] 3)
    rw [s2] at n3
    have n1 := box_old (x := .cells #[.int .i64 0] 3) n1
    have n2 := box_old (x := .cells #[.int .i64 0] 3) n2
    have s3 : (W2.alloc (.cells #[.int .i64 0] 3)).heap.size = W0.heap.size + 3 := by simp [s2]
    have o3 : OnlyT W0 (W2.alloc (.cells #[.int .i64 0] 3)) := o2.trans (OnlyT.of ((Only.refl _ W2).alloc _))
    generalize W2.alloc (.cells #[.int .i64 0] 3) = W3 at n1 n2 n3 s3 o3 ⊢
    have A := aside_setCell W3 ⟨W0.heap.size + 2, 0, none⟩ (.int .i64 0)
    have n3' : (W3.setCell ⟨W0.heap.size + 2, 0, none⟩ (.int .i64 0)).heap[W0.heap.size + 2]? = some (.cells #[.int .i64 0] 3) := by simp [World.setCell, Array.getElem?_modify, n3]
    have n1 := (A.block W0.heap.size (by simp)).trans n1
    have n2 := (A.block (W0.heap.size + 1) (by simp)).trans n2
    have s4 := A.size.trans s3
    have o4 : OnlyT W0 (W3.setCell ⟨W0.heap.size + 2, 0, none⟩ (.int .i64 0)) := o3.aside (by simp)
    generalize W3.setCell ⟨W0.heap.size + 2, 0, none⟩ (.int .i64 0) = W4 at n1 n2 n3' s4 o4 ⊢
    have n5 := box_new W4 (cblk (tpI W0.heap.size 0 v0 fl) c0)
    rw [s4] at n5
    have n1 := box_old (x := cblk (tpI W0.heap.size 0 v0 fl) c0) n1
    have n2 := box_old (x := cblk (tpI W0.heap.size 0 v0 fl) c0) n2
    have n3 := box_old (x := cblk (tpI W0.heap.size 0 v0 fl) c0) n3'
    exact ⟨⟨⟨c0, ⟨o4.trans (OnlyT.of ((Only.refl _ W4).alloc _)), n5, n3, n1, n2, by simp [s4]⟩, rfl⟩, Nat.le_refl _⟩, cell_of_one n1, cell_of_one n2⟩
  have HF := Lib.hid fin
  clear fin
  simp only [Try.f5, Option.getD_some]
  walk_nrm
  u_c stepG_seq at_rely hF
  u_reg at_rely hF
  u_in at_rely hF
  refine goes_oper_k rfl rfl (by k_ne) (fun K hK => ?_)
  have hcl := free.at_cell hF
  have hfz := free.at_frozen hF
  have hsz := free.at_size hF
  go_simp
  refine hK _ _ ⟨fun e he => ?_, ?_⟩
  · (have hm := mem_listed he; simp [go_sem, storedEv, *] at hm; try (subst hm; refine free.evS_may ?_ (Eq.refl _); assumption))
  clear hK K hcl hfz hsz
  refine free.next_alloc hF (fun _ hF => ?_)
  u_in at_rely hF
  refine goes_oper_k rfl rfl (by k_ne) (fun K hK => ?_)
  have hcl := free.at_cell hF
  have hfz := free.at_frozen hF
  have hsz := free.at_size hF
  go_simp
  refine hK _ _ ⟨fun e he => ?_, ?_⟩
  · (have hm := mem_listed he; simp [go_sem, storedEv, *] at hm; try (subst hm; refine free.evS_may ?_ (Eq.refl _); assumption))
  clear hK K hcl hfz hsz
  refine free.next_alloc hF (fun _ hF => ?_)
  u_op at_rely hF
  u_c stepG_region_end at_rely hF
  u_c stepG_seq at_rely hF
  u_reg at_rely hF
  u_in at_rely hF
  refine goes_oper_k rfl rfl (by k_ne) (fun K hK => ?_)
  have hcl := free.at_cell hF
  have hfz := free.at_frozen hF
  have hsz := free.at_size hF
  go_simp
  refine hK _ _ ⟨fun e he => ?_, ?_⟩
  · (have hm := mem_listed he; simp [go_sem, storedEv, *] at hm; try (subst hm; refine free.evS_may ?_ (Eq.refl _); assumption))
  clear hK K hcl hfz hsz
  refine free.next_alloc hF (fun _ hF => ?_)
  u_in at_rely hF
  refine goes_oper_k rfl rfl (by k_ne) (fun K hK => ?_)
  have hcl := free.at_cell hF
  have hfz := free.at_frozen hF
  have hsz := free.at_size hF
  go_simp
  refine hK _ _ ⟨fun e he => ?_, ?_⟩
  · (have hm := mem_listed he; simp [go_sem, storedEv, *] at hm; try (subst hm; refine free.evS_may ?_ (Eq.refl _); assumption))
  clear hK K hcl hfz hsz
  refine free.next_set hF (fun _ hF => ?_)
  u_c stepG_region_end at_rely hF
  u_c stepG_seq at_rely hF
  u_reg at_rely hF
  u_op at_rely hF
  u_call Try.func9 x9 Try.f9 at_rely hF
  u_c stepG_seq at_rely hF
  u_reg at_rely hF
  u_op at_rely hF
  u_c stepG_region_end at_rely hF
  u_c stepG_seq at_rely hF
  u_reg at_rely hF
  u_op at_rely hF
  u_op at_rely hF
  u_in at_rely hF
  refine goes_oper_k rfl rfl (by k_ne) (fun K hK => ?_)
  have hcl := free.at_cell hF
  have hfz := free.at_frozen hF
  have hsz := free.at_size hF
  go_simp
  refine hK _ _ ⟨fun e he => ?_, ?_⟩
  · (have hm := mem_listed he; simp [go_sem, storedEv, *] at hm; try (subst hm; refine free.evS_may ?_ (Eq.refl _); assumption))
  clear hK K hcl hfz hsz
  refine free.next_alloc hF (fun _ hF => ?_)
  u_op at_rely hF
  u_c stepG_region_end at_rely hF
  u_c stepG_ret' at_rely hF
  u_leave1 Try.func9 at_rely hF
  obtain ⟨hH, hc1, hc2⟩ := HF.out _ rfl
  replace hF : Conc.AtRel (((((W0.alloc (.cells #[.int .i64 v0] 3)).alloc (.cells #[.bool fl] 4)).alloc (.cells #[.int .i64 0] 3)).setCell ⟨W0.heap.size + 2, 0, none⟩ (.int .i64 0)).alloc (cblk (tpI W0.heap.size 0 v0 fl) c0)) _ := hF
  generalize ((((W0.alloc (.cells #[.int .i64 v0] 3)).alloc (.cells #[.bool fl] 4)).alloc (.cells #[.int .i64 0] 3)).setCell ⟨W0.heap.size + 2, 0, none⟩ (.int .i64 0)).alloc (cblk (tpI W0.heap.size 0 v0 fl) c0) = W5 at hF hH hc1 hc2
  clear HF
  have HH := Lib.hid hH
  clear hH
  u_op at_rely hF
  u_c stepG_region_end at_rely hF
  u_c stepG_seq at_rely hF
  u_c stepG_seq at_rely hF
  u_reg at_rely hF
  u_op at_rely hF
  u_op at_rely hF
  u_c stepG_region_end at_rely hF
  u_cond false at_rely hF
  u_c stepG_skip at_rely hF
  u_c stepG_seq at_rely hF
  u_reg at_rely hF
  u_in at_rely hF
  refine goes_oper_k rfl rfl (by k_ne) (fun K hK => ?_)
  have hcl := free.at_cell hF
  have hfz := free.at_frozen hF
  have hsz := free.at_size hF
  go_simp
  refine hK _ _ ⟨fun e he => ?_, ?_⟩
  · (have hm := mem_listed he; simp [go_sem, storedEv, *] at hm; try (subst hm; refine free.evS_may ?_ (Eq.refl _); assumption))
  clear hK K hcl hfz hsz
  u_op at_rely hF
  u_op at_rely hF
  u_c stepG_region_end at_rely hF
  u_c stepG_seq at_rely hF
  u_c stepG_seq at_rely hF
  u_reg at_rely hF
  u_in at_rely hF
  refine goes_oper_k rfl rfl (by k_ne) (fun K hK => ?_)
  have hcl := free.at_cell hF
  have hfz := free.at_frozen hF
  have hsz := free.at_size hF
  go_simp
  refine hK _ _ ⟨fun e he => ?_, ?_⟩
  · (have hm := mem_listed he; simp [go_sem, storedEv, *] at hm; try (subst hm; refine free.evS_may ?_ (Eq.refl _); assumption))
  clear hK K hcl hfz hsz
  u_c stepG_region_end at_rely hF
  clear hc1 hc2
  have hFF := hF
  clear hF
  cases fl
  · have hF := hFF
    u_cond false at_rely hF
    u_c stepG_skip at_rely hF
    u_c stepG_seq at_rely hF
    u_c stepG_seq at_rely hF
    u_reg at_rely hF
    u_op at_rely hF
    u_c stepG_region_end at_rely hF
    u_c stepG_block at_rely hF
    u_c stepG_loop at_rely hF
    refine Goes.stop fun w3 h3 => ?_
    replace hF := at_rely hF h3
    clear h3
    obtain ⟨d, rfl⟩ := hF
    refine ⟨?_, HH.out.at d⟩
    refine head_lit ?_
    simp only [S5, loop5, tail5, Z5, body5, cL, cR, cB, Try.f5, Option.getD_some]
    rfl
  · have hF := hFF
    u_cond true at_rely hF
    u_reg at_rely hF
    u_op at_rely hF
    u_c stepG_region_end at_rely hF
    u_c stepG_seq at_rely hF
    u_c stepG_seq at_rely hF
    u_reg at_rely hF
    u_op at_rely hF
    u_c stepG_region_end at_rely hF
    u_c stepG_block at_rely hF
    u_c stepG_loop at_rely hF
    refine Goes.stop fun w3 h3 => ?_
    replace hF := at_rely hF h3
    clear h3
    obtain ⟨d, rfl⟩ := hF
    refine ⟨?_, HH.out.at d⟩
    refine head_lit ?_
    simp only [S5, loop5, tail5, Z5, body5, cL, cR, cB, Try.f5, Option.getD_some]
    rfl
end
end Go.Proofs.Ytdkbkocklnnmdaa.cells
