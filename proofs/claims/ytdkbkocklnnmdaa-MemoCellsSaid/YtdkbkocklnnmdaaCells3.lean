/-
  MemoCells beside goroutines that only leave: a round in which many ask: to Together's loop's head, and from behind its Wait to the next round's head. Conditions: what is held of the world at the loop's head.
-/
import Derived.Test.YtdkbkocklnnmdaaCells2
set_option linter.unusedSimpArgs false
set_option linter.unusedVariables false
namespace Go.Proofs.Ytdkbkocklnnmdaa.cells
open Go Go.Conc Go.RowKit Go.ConcR.Gen Go.ConcN.Gen Go.Proofs.Ytdkbkocklnnmdaa.crew Go.Proofs.Ytdkbkocklnnmdaa.wg Go.Proofs.Ytdkbkocklnnmdaa.free
open Go.Proofs.Ytdkbkocklnnmdaa.kid (opsOf cL cR cB hmf2 hmf3)
open Go.Proofs.Ytdkbkocklnnmdaa.tog (Tp Cs AtCs cblk cs0 cs1 cs3 cs4 cs5 cs6 csz Atom)
open Go.Proofs.Ytdkbkocklnnmdaa.itog (Fb noVal)
open Go.Proofs.Ytdkbkocklnnmdaa.itgm (Low AtTog TAfter TgIn T19 loop19 tail19 togWorld togEnter togTail)
open Go.Proofs.Ytdkbkocklnnmdaa.tgs (Gam Done Idle TW rest_zero)
open Go.ConcX.Gen (setCell_at alloc_at)
open Go.ConcR (WgAt)

noncomputable def KT : List Item := .inRegion ops16 [2, 3] :: .code x17c :: K36
/-- The shunned places behind the group. -/
def Sh2 (Shun : Loc → Prop) (h : Nat) : Loc → Prop := fun l => Shun l ∨ ∃ a : Addr, l = .cell a ∧ a.block = h + 3
/-- The caller's frame at Together. -/
noncomputable def caller5 (W0 : World) (sl : Value) (want : Int) (ran : Bool) (i N : Nat) (x12 x14 x37 x43 x49 x50 x51 : Value) (J : Nat → Value) : Frame := (base 5).at ⟨S5 sl W0.heap.size want ran i x12 (.int .i64 N) x14 x37 x43 x49 x50 x51 J, []⟩ KT
/-- Main stands at Together's loop's head. -/
def StopT (W0 : World) (h : Nat) (sl : Value) (want v0 : Int) (fl ran : Bool) (i N : Nat) (Shun : Loc → Prop) (g : Goroutine) (w' : World) : Prop :=
  ∃ x12 x14 x37 x43 x49 x50 x51 J c, AtTog Shun (Low (h + 3)) (Sh2 Shun h) N (tpI W0.heap.size h v0 fl) ⟨c, if ran then 1 else 0⟩ (fbI W0.heap.size v0 fl) h (h + 2) [caller5 W0 sl want ran i N x12 x14 x37 x43 x49 x50 x51 J] g w' ∧ OnlyT W0 w' ∧ w'.heap.size = h + 4

theorem only_tog {W : World} {C N : Nat} : OnlyT W (togWorld W C N) ∧ (togWorld W C N).heap.size = W.heap.size + 4 ∧ (togWorld W C N).heap[W.heap.size]? = some (.cells #[.pointer (some ⟨C, 0, none⟩)] 24) ∧ (togWorld W C N).heap[W.heap.size + 1]? = some (.cells (Array.replicate N (.int .i64 0)) 3) ∧
    (togWorld W C N).heap[W.heap.size + 2]? = some (.cells #[.slice (some ⟨W.heap.size + 1, 0, none⟩) N N] 22) ∧ WgAt 96 (W.heap.size + 3) (togWorld W C N) 0 0 := by
  have o1 : Only (fun _ => False) W (W.alloc (.cells #[.pointer (some ⟨C, 0, none⟩)] 24)) := (Only.refl _ W).alloc _
  have e1 : (W.alloc (.cells #[.pointer (some ⟨C, 0, none⟩)] 24)).heap.size = W.heap.size + 1 := by simp
  have n1 := box_new W (.cells #[.pointer (some ⟨C, 0, none⟩)] 24)
  unfold togWorld
  generalize W.alloc (.cells #[.pointer (some ⟨C, 0, none⟩)] 24) = W1 at o1 e1 n1 ⊢
  have o2 := o1.alloc (.cells (Array.replicate N (.int .i64 0)) 3)
  have e2 : (W1.alloc (.cells (Array.replicate N (.int .i64 0)) 3)).heap.size = W.heap.size + 2 := by simp [e1]
  have n2 := box_new W1 (.cells (Array.replicate N (.int .i64 0)) 3)
  rw [e1] at n2
  replace n1 := box_old (x := .cells (Array.replicate N (.int .i64 0)) 3) n1
  generalize W1.alloc (.cells (Array.replicate N (.int .i64 0)) 3) = W2 at o2 e2 n1 n2 ⊢
  have o3 := o2.alloc (.cells #[.slice none 0 0] 22)
  have e3 : (W2.alloc (.cells #[.slice none 0 0] 22)).heap.size = W.heap.size + 3 := by simp [e2]
  have n3 := box_new W2 (.cells #[.slice none 0 0] 22)
  rw [e2] at n3
  replace n1 := box_old (x := .cells #[.slice none 0 0] 22) n1
  replace n2 := box_old (x := .cells #[.slice none 0 0] 22) n2
  generalize W2.alloc (.cells #[.slice none 0 0] 22) = W3 at o3 e3 n1 n2 n3 ⊢
  have A := aside_setCell W3 ⟨W.heap.size + 2, 0, none⟩ (.slice (some ⟨W.heap.size + 1, 0, none⟩) N N)
  have o4 := o3.set ⟨W.heap.size + 2, 0, none⟩ (.slice (some ⟨W.heap.size + 1, 0, none⟩) N N) (.inl (Nat.le_add_right _ _))
  have n3' : (W3.setCell ⟨W.heap.size + 2, 0, none⟩ (.slice (some ⟨W.heap.size + 1, 0, none⟩) N N)).heap[W.heap.size + 2]? = some (.cells #[.slice (some ⟨W.heap.size + 1, 0, none⟩) N N] 22) := by simp [World.setCell, Array.getElem?_modify, n3]
  have n1' := (A.block W.heap.size (by simp)).trans n1
  have n2' := (A.block (W.heap.size + 1) (by simp)).trans n2
  have e4 := A.size.trans e3
  generalize W3.setCell ⟨W.heap.size + 2, 0, none⟩ (.slice (some ⟨W.heap.size + 1, 0, none⟩) N N) = W4 at o4 n1' n2' n3' e4 ⊢
  have n5 := box_new W4 (.cells #[.int .u64 0, .int .u32 0] 96)
  rw [e4] at n5
  exact ⟨OnlyT.of (o4.alloc _), by simp [e4], box_old n1', box_old n2', box_old n3', n5⟩

section
variable {W0 w : World} {sl : Value} {i sz N : Nat} {want v0 : Int} {fl ran : Bool} {Shun : Loc → Prop} {x12 x13 x14 x37 x43 x49 x50 x51 : Value} {J J' : Nat → Value}
/-- Together's world meets what it asks. -/
theorem stopT (h : H5 W0 v0 fl ran sz w) (hS : Sh5 W0.heap.size sz Shun) {g : Goroutine} {d : Nat}
    (hg : g = G ((base 19).at ⟨T19 (W0.heap.size + 3) (w.heap.size + 3) w.heap.size (w.heap.size + 2) N 0 J', []⟩ [.code loop19, .inLoop loop19, .inBlock 0, .code tail19]) [caller5 W0 sl want ran i N x12 x14 x37 x43 x49 x50 x51 J]) :
    StopT W0 sz sl want v0 fl ran i N Shun g ((togWorld w (W0.heap.size + 3) N).at d) := by
  obtain ⟨⟨c, hwd, htold⟩, hsz⟩ := h
  obtain ⟨t1, t2, t3, t4, t5, t6⟩ := only_tog (W := w) (C := W0.heap.size + 3) (N := N)
  rw [hwd.size] at t2 t3 t4 t5 t6 hg
  have keep : ∀ b, b < sz → (togWorld w (W0.heap.size + 3) N).heap[b]? = w.heap[b]? := fun b hb => t1.block b (by rw [hwd.size]; exact hb)
  have hcs : AtCs (tpI W0.heap.size sz v0 fl) c (togWorld w (W0.heap.size + 3) N) := (keep (W0.heap.size + 3) (by omega)).trans hwd.cs
  have hrest : tgs.Rest c.m c.s := by
    cases ran
    · obtain rfl : c = c0 := htold; exact rest_zero
    · exact htold.2.2.2.2
  have hidle : Idle (tpI W0.heap.size sz v0 fl) ⟨c, if ran then 1 else 0⟩ := by
    cases ran
    · obtain rfl : c = c0 := htold; exact .inl ⟨rfl, rfl, rfl, rfl⟩
    · exact .inr ⟨htold.1, htold.2.1, htold.2.2.1, rfl, htold.2.2.2.1⟩
  have no : ∀ {l : Addr}, (l.block < W0.heap.size + 3 ∨ (sz ≤ l.block ∧ l.block ≠ sz + 3)) → ¬ Sh2 Shun sz (.cell l) := fun {l} hl hs => by
    rcases hs with hs | ⟨a, e, ha⟩
    · rcases hS.out _ hs with ⟨j, _, e⟩ | ⟨a, e, h1, h2⟩
      · cases e; simp at hl; omega
      · cases e; omega
    · cases e; omega
  refine ⟨x12, x14, x37, x43, x49, x50, x51, J, c, ⟨fun l hl => .inl hl, fun l hl => ?_, fun a ha => ?_, fun l hl => ?_, ⟨J', hg⟩, ?_, t6, hcs, hrest, hidle, ?_, ⟨_, t4, by simp⟩, ?_, fun a ha => .inr ⟨a, rfl, ha⟩, ?_, fun b hb a ha => ?_, ?_, ?_⟩, ?_, t2⟩
  · rcases hl with hs | ⟨a, rfl, _⟩
    · rcases hS.out _ hs with ⟨j, _, rfl⟩ | ⟨a, rfl, _, _⟩ <;> rfl
    · rfl
  · have hb : a.block < sz + 3 := ha a rfl
    show a.block < (togWorld w (W0.heap.size + 3) N).heap.size
    rw [t2]; omega
  · rcases hl with hs | ⟨a, rfl, ha⟩
    · exact .inl hs
    · exact .inr fun hL => by have := hL a rfl; omega
  · refine ⟨fun b => Iff.rfl, (keep W0.heap.size (by omega)).trans hwd.bv, (keep (W0.heap.size + 1) (by omega)).trans hwd.bf, t3, t5, rfl, rfl, rfl, rfl, rfl, rfl, ?_, ?_, ?_, ?_, ?_, ?_, ?_, ?_, ?_, ?_, ?_⟩ <;> simp only [tpI] <;> omega
  · exact (keep (W0.heap.size + 2) (by omega)).trans hwd.rn
  · simp only [tpI]; omega
  · exact ⟨.inl (hS.own 0 (.inl rfl)), .inl (hS.own 1 (.inr (.inl rfl))), .inl (hS.own 2 (.inr (.inr (.inl rfl)))), .inl (hS.own 5 (.inr (.inr (.inr (.inl rfl))))), .inl (hS.own 6 (.inr (.inr (.inr (.inr rfl)))))⟩
  · refine no ?_
    rw [ha]
    rcases hb with hb | hb | hb | hb
    · simp only [tpI] at hb; omega
    · simp only [tpI] at hb; omega
    · simp only [tpI] at hb; omega
    · have : (togWorld w (W0.heap.size + 3) N).heap.size ≤ b := hb
      rw [t2] at this; omega
  · rintro (hs | ⟨a, e, ha⟩)
    · exact hS.no (.inl rfl) hs
    · cases e; simp [tog.cA, tpI] at ha; omega
  · rintro (hs | ⟨a, e, ha⟩)
    · exact hS.no (.inr rfl) hs
    · cases e; simp [tog.cA, tpI] at ha; omega
  · exact (hwd.only.trans t1).at d
set_option maxRecDepth 100000 in
set_option maxHeartbeats 16000000 in
/-- To Together's loop's head. -/
theorem armTog {k : Int} (h : H5 W0 v0 fl ran sz w) (hS : Sh5 W0.heap.size sz Shun) (hk : 3 ≤ k) (hN : (if 200 < k then 200 else k) = (N : Int)) :
    ∀ y, Conc.AtRel w y → Goes Try.prog true Conc.AtRel (DF Shun (Low (sz + 3))) (StopT W0 sz sl want v0 fl ran i N Shun) 400
      (G ((base 5).at ⟨S5 sl W0.heap.size want ran i (.int .i64 k) x13 x14 (.int .i64 k) x43 x49 x50 x51 J, []⟩ (.code sw5 :: K36)) []) y := by
  intro y hF
  have hsz := h.size
  have hw : w.heap.size = sz := by obtain ⟨⟨c, hwd, _⟩, _⟩ := h; exact hwd.size
  have hM : ∀ b, w.heap.size ≤ b → b < w.heap.size + 3 → May Shun (Low (sz + 3)) b := fun b h1 h2 => hS.may (.inr ⟨by omega, by omega⟩) (by omega)
  have hN1 : 1 ≤ N ∧ N ≤ 200 := by split at hN <;> omega
  have hlit : ∀ g y, g = G ((base 19).at { tmps := #[.pointer (some ⟨W0.heap.size + 3, 0, none⟩), .int .i64 N] ++ Array.replicate 25 undef, defers := [] } [.code (Try.f19.body.getD .skip)]) (caller5 W0 sl want ran i N ((g.callers.getD 0 default).tmps.getD 12 undef) ((g.callers.getD 0 default).tmps.getD 14 undef) ((g.callers.getD 0 default).tmps.getD 37 undef) ((g.callers.getD 0 default).tmps.getD 43 undef) ((g.callers.getD 0 default).tmps.getD 49 undef) ((g.callers.getD 0 default).tmps.getD 50 undef) ((g.callers.getD 0 default).tmps.getD 51 undef) (fun k => (g.callers.getD 0 default).tmps.getD k undef) :: []) →
      Conc.AtRel w y → Goes Try.prog true Conc.AtRel (DF Shun (Low (sz + 3))) (StopT W0 sz sl want v0 fl ran i N Shun) 200 g y := fun g y hg hy => by
    obtain ⟨y12, y14, y37, y43, y49, y50, y51, J2, rfl⟩ : ∃ y12 y14 y37 y43 y49 y50 y51 J2, g = G ((base 19).at { tmps := #[.pointer (some ⟨W0.heap.size + 3, 0, none⟩), .int .i64 N] ++ Array.replicate 25 undef, defers := [] } [.code (Try.f19.body.getD .skip)]) (caller5 W0 sl want ran i N y12 y14 y37 y43 y49 y50 y51 J2 :: []) := ⟨_, _, _, _, _, _, _, _, hg⟩
    clear hg
    refine togEnter (n := (N : Int)) (N := N) (by omega) (by split <;> omega) hM (fun g d hg => ?_) y hy
    exact stopT h hS hg
  have HM := Lib.hid hlit
  clear hlit hM h hS
  have d0 : (k == 0) = false := by simp; omega
  have d1 : (k == 1) = false := by simp; omega
  have d2 : (k == 2) = false := by simp; omega
  have g0 : decide (k = 0) = false := decide_eq_false (by omega)
  have g1' : decide (k = 1) = false := decide_eq_false (by omega)
  have g2' : decide (k = 2) = false := decide_eq_false (by omega)
  have f0 : ¬ k = 0 := by omega
  have f1 : ¬ k = 1 := by omega
  have f2 : ¬ k = 2 := by omega
  rcases Int.lt_or_le 200 k with hc | hc
  · have d3 : decide (200 < k) = true := decide_eq_true hc
    have hN' : N = 200 := by rw [if_pos hc] at hN; omega
    subst hN'
    clear hN hN1 hc hk
    simp only [S5, K36, code36, code10, blk5, sw5, e1, e2, e3, chain16, ops16, x17c, loop3, code25, loop5, tail5, Z5, body5, opsOf, cL, cR, cB, cE, Try.f5, Option.getD_some]
    u_c stepG_seq at_rely hF
    u_reg at_rely hF
    u_op at_rely hF
    u_op at_rely hF
    u_c stepG_region_end at_rely hF
    u_cond false at_rely hF
    u_c stepG_seq at_rely hF
    u_reg at_rely hF
    u_op at_rely hF
    u_op at_rely hF
    u_c stepG_region_end at_rely hF
    u_cond false at_rely hF
    u_c stepG_seq at_rely hF
    u_reg at_rely hF
    u_op at_rely hF
    u_op at_rely hF
    u_c stepG_region_end at_rely hF
    u_cond false at_rely hF
    u_c stepG_seq at_rely hF
    u_reg at_rely hF
    u_op at_rely hF
    u_op at_rely hF
    u_c stepG_region_end at_rely hF
    u_c stepG_seq at_rely hF
    u_c stepG_seq at_rely hF
    u_reg at_rely hF
    u_op at_rely hF
    u_op at_rely hF
    u_c stepG_region_end at_rely hF
    u_cond true at_rely hF
    u_reg at_rely hF
    u_op at_rely hF
    u_c stepG_region_end at_rely hF
    u_c stepG_seq at_rely hF
    u_reg at_rely hF
    u_op at_rely hF
    u_op at_rely hF
    u_call Try.func19 x19 Try.f19 at_rely hF
    refine Goes.mono (HM.out _ _ ?_ hF) (by omega)
    simp only [S5, K36, code36, code10, blk5, sw5, e1, e2, e3, chain16, ops16, x17c, loop3, code25, loop5, tail5, Z5, body5, opsOf, cL, cR, cB, cE, Try.f5, Option.getD_some, caller5, KT, Try.f19]
    walk_nrm
    rfl
  · have d3 : decide (200 < k) = false := decide_eq_false (by omega)
    have hN' : k = (N : Int) := by rw [if_neg (by omega)] at hN; exact hN
    subst hN'
    clear hN hN1 hc hk
    simp only [S5, K36, code36, code10, blk5, sw5, e1, e2, e3, chain16, ops16, x17c, loop3, code25, loop5, tail5, Z5, body5, opsOf, cL, cR, cB, cE, Try.f5, Option.getD_some]
    u_c stepG_seq at_rely hF
    u_reg at_rely hF
    u_op at_rely hF
    u_op at_rely hF
    u_c stepG_region_end at_rely hF
    u_cond false at_rely hF
    u_c stepG_seq at_rely hF
    u_reg at_rely hF
    u_op at_rely hF
    u_op at_rely hF
    u_c stepG_region_end at_rely hF
    u_cond false at_rely hF
    u_c stepG_seq at_rely hF
    u_reg at_rely hF
    u_op at_rely hF
    u_op at_rely hF
    u_c stepG_region_end at_rely hF
    u_cond false at_rely hF
    u_c stepG_seq at_rely hF
    u_reg at_rely hF
    u_op at_rely hF
    u_op at_rely hF
    u_c stepG_region_end at_rely hF
    u_c stepG_seq at_rely hF
    u_c stepG_seq at_rely hF
    u_reg at_rely hF
    u_op at_rely hF
    u_op at_rely hF
    u_c stepG_region_end at_rely hF
    u_cond false at_rely hF
    u_c stepG_skip at_rely hF
    u_c stepG_seq at_rely hF
    u_reg at_rely hF
    u_op at_rely hF
    u_op at_rely hF
    u_call Try.func19 x19 Try.f19 at_rely hF
    refine Goes.mono (HM.out _ _ ?_ hF) (by omega)
    simp only [S5, K36, code36, code10, blk5, sw5, e1, e2, e3, chain16, ops16, x17c, loop3, code25, loop5, tail5, Z5, body5, opsOf, cL, cR, cB, cE, Try.f5, Option.getD_some, caller5, KT, Try.f19]
    walk_nrm
    rfl
end
section
variable {W0 w : World} {sl : Value} {i sz N Ot : Nat} {want v0 : Int} {fl ran : Bool} {Shun Lw : Loc → Prop} {St : Goroutine → World → Prop} {x12 x13 x14 x37 x43 x49 x50 x51 : Value} {J : Nat → Value} {mT : Nat}
set_option maxRecDepth 100000 in
set_option maxHeartbeats 16000000 in
/-- It has run, then. -/
theorem ranTrue (hN : 1 ≤ N) (h : H5 W0 v0 fl true sz w) (hT : Ahead W0 sl want v0 fl true i sz Shun Lw St mT) :
    ∀ x12 x14 x37 x43 x49 x50 x51 J y, Conc.AtRel w y → Goes Try.prog true Conc.AtRel (DF Shun Lw) St (mT + 30) (G ((base 5).at ⟨S5 sl W0.heap.size want ran i x12 (.int .i64 N) x14 x37 x43 x49 x50 x51 J, []⟩ (.code code25 :: K36)) []) y := by
  intro x12 x14 x37 x43 x49 x50 x51 J y hF
  have d1 : decide ((0 : Int) < (N : Int)) = true := decide_eq_true (by omega)
  have d2 : decide (0 < N) = true := decide_eq_true (by omega)
  have hlit : ∀ X, H5 W0 v0 fl true (sz) X → ∀ g y, g = G ((base 5).at ⟨S5 sl W0.heap.size want true i (g.frame.tmps.getD 12 undef) (g.frame.tmps.getD 13 undef) (g.frame.tmps.getD 14 undef) (g.frame.tmps.getD 37 undef) (g.frame.tmps.getD 43 undef) (g.frame.tmps.getD 49 undef) (g.frame.tmps.getD 50 undef) (g.frame.tmps.getD 51 undef) (fun k => g.frame.tmps.getD k undef), []⟩ K36) [] → Conc.AtRel X y → Goes Try.prog true Conc.AtRel (DF Shun Lw) St mT g y := fun X hX g y hg hw => by rw [hg]; exact hT X hX _ _ _ _ _ _ _ _ _ y hw
  have HM := Lib.hid hlit
  clear hlit hT
  have HX := Lib.hid h
  clear h hN
  simp only [S5, K36, code36, code10, blk5, sw5, e1, e2, e3, chain16, ops16, x17c, loop3, code25, loop5, tail5, Z5, body5, opsOf, cL, cR, cB, cE, Try.f5, Option.getD_some]
  cases ran
  · u_reg at_rely hF
    u_op at_rely hF
    u_op at_rely hF
    u_op at_rely hF
    u_op at_rely hF
    u_op at_rely hF
    u_op at_rely hF
    u_c stepG_region_end at_rely hF
    refine Goes.mono (HM.out _ (HX.out) _ _ ?_ hF) (by omega)
    simp only [S5, K36, code36, code10, blk5, sw5, e1, e2, e3, chain16, ops16, x17c, loop3, code25, loop5, tail5, Z5, body5, opsOf, cL, cR, cB, cE, Try.f5, Option.getD_some]
    rfl
  · u_reg at_rely hF
    u_op at_rely hF
    u_op at_rely hF
    u_skip at_rely hF
    u_skip at_rely hF
    u_op at_rely hF
    u_op at_rely hF
    u_c stepG_region_end at_rely hF
    refine Goes.mono (HM.out _ (HX.out) _ _ ?_ hF) (by omega)
    simp only [S5, K36, code36, code10, blk5, sw5, e1, e2, e3, chain16, ops16, x17c, loop3, code25, loop5, tail5, Z5, body5, opsOf, cL, cR, cB, cE, Try.f5, Option.getD_some]
    rfl
set_option maxRecDepth 100000 in
set_option maxHeartbeats 16000000 in
/-- The comparisons. -/
theorem cellsLoop {o : Array Value} (ho : w.heap[Ot]? = some (.cells o 3)) (hsz : o.size = N) (hall : ∀ j, j < N → o[j]? = some (.int .i64 want)) (hN : N ≤ 2000) (hMo : May Shun Lw Ot)
    (hT : ∀ x12 x14 x37 x43 x49 x50 x51 J y, Conc.AtRel w y → Goes Try.prog true Conc.AtRel (DF Shun Lw) St mT (G ((base 5).at ⟨S5 sl W0.heap.size want ran i x12 (.int .i64 N) x14 x37 x43 x49 x50 x51 J, []⟩ (.code code25 :: K36)) []) y) :
    ∀ r j, j + r = N → ∀ x12 x14 x37 x43 J y, Conc.AtRel w y → Goes Try.prog true Conc.AtRel (DF Shun Lw) St (60 * r + 40 + mT) (G ((base 5).at ⟨S5 sl W0.heap.size want ran i x12 (.int .i64 N) x14 x37 x43 (.slice (some ⟨Ot, 0, none⟩) N N) (.int .i64 N) (.int .i64 j) J, []⟩ (.code loop3 :: .inLoop loop3 :: .inBlock 3 :: .code code25 :: K36)) []) y := by
  intro r
  induction r with
  | zero =>
    intro j hj x12 x14 x37 x43 J y hF
    obtain rfl : j = N := by omega
    have q1 : decide ((j : Int) < (j : Int)) = false := decide_eq_false (by omega)
    have hlit : ∀ g y, g = G ((base 5).at ⟨S5 sl W0.heap.size want ran i (g.frame.tmps.getD 12 undef) (.int .i64 j) (g.frame.tmps.getD 14 undef) (g.frame.tmps.getD 37 undef) (g.frame.tmps.getD 43 undef) (g.frame.tmps.getD 49 undef) (g.frame.tmps.getD 50 undef) (g.frame.tmps.getD 51 undef) (fun k => g.frame.tmps.getD k undef), []⟩ (.code code25 :: K36)) [] → Conc.AtRel w y → Goes Try.prog true Conc.AtRel (DF Shun Lw) St mT g y := fun g y hg hw => by rw [hg]; exact hT _ _ _ _ _ _ _ _ y hw
    have HM := Lib.hid hlit
    clear hlit hT
    refine Goes.mono (n := mT + 30) ?_ (by omega)
    simp only [S5, K36, code36, code10, blk5, sw5, e1, e2, e3, chain16, ops16, x17c, loop3, code25, loop5, tail5, Z5, body5, opsOf, cL, cR, cB, cE, Try.f5, Option.getD_some]
    u_c stepG_seq at_rely hF
    u_reg at_rely hF
    u_op at_rely hF
    u_c stepG_region_end at_rely hF
    u_c stepG_seq at_rely hF
    u_cond false at_rely hF
    u_exit at_rely hF
    refine Goes.mono (HM.out _ _ ?_ hF) (by omega)
    simp only [S5, K36, code36, code10, blk5, sw5, e1, e2, e3, chain16, ops16, x17c, loop3, code25, loop5, tail5, Z5, body5, opsOf, cL, cR, cB, cE, Try.f5, Option.getD_some]
    rfl
  | succ r ih =>
    intro j hj x12 x14 x37 x43 J y hF
    have q1 : decide ((j : Int) < (N : Int)) = true := decide_eq_true (by omega)
    have q2 : decide (j < N) = true := decide_eq_true (by omega)
    have hiN : (j : Int) < N := by omega
    have hiN2 : j < N := by omega
    have hi0 : (0 : Int) ≤ j := by omega
    have ew : IntKind.i64.wrap ((j : Int) + 1) = (j : Int) + 1 := by rw [IntKind.wrap_i64]; omega
    have ec : ((j + 1 : Nat) : Int) = (j : Int) + 1 := by omega
    have hlit : ∀ g y, g = G ((base 5).at ⟨S5 sl W0.heap.size want ran i (g.frame.tmps.getD 12 undef) (.int .i64 N) (g.frame.tmps.getD 14 undef) (g.frame.tmps.getD 37 undef) (g.frame.tmps.getD 43 undef) (.slice (some ⟨Ot, 0, none⟩) N N) (.int .i64 N) (.int .i64 (j + 1 : Nat)) (fun k => g.frame.tmps.getD k undef), []⟩ (.code loop3 :: .inLoop loop3 :: .inBlock 3 :: .code code25 :: K36)) [] → Conc.AtRel w y → Goes Try.prog true Conc.AtRel (DF Shun Lw) St (60 * r + 40 + mT) g y := fun g y hg hw => by rw [hg]; exact ih (j + 1) (by omega) _ _ _ _ _ y hw
    have HM := Lib.hid hlit
    clear hlit hT ih
    have hlt : j < o.size := by omega
    have hoi := hall j hiN2
    have hcell : w.cell? ⟨Ot, j, none⟩ = some (.int .i64 want) := by simp only [World.cell?, ho]; simpa using hoi
    clear hall
    refine Goes.mono (n := 60 * r + 40 + mT + 60) ?_ (by omega)
    simp only [S5, K36, code36, code10, blk5, sw5, e1, e2, e3, chain16, ops16, x17c, loop3, code25, loop5, tail5, Z5, body5, opsOf, cL, cR, cB, cE, Try.f5, Option.getD_some]
    u_c stepG_seq at_rely hF
    u_reg at_rely hF
    u_op at_rely hF
    u_c stepG_region_end at_rely hF
    u_c stepG_seq at_rely hF
    u_cond true at_rely hF
    u_c stepG_skip at_rely hF
    u_c stepG_seq at_rely hF
    u_c stepG_block at_rely hF
    u_c stepG_seq at_rely hF
    u_reg at_rely hF
    u_op at_rely hF
    u_in at_rely hF
    refine goes_oper_k rfl rfl (by k_ne) (fun K hK => ?_)
    have hcl := free.at_cell hF
    have hfz := free.at_frozen hF
    have hsz := free.at_size hF
    go_simp
    refine hK _ _ ⟨fun e he => ?_, ?_⟩
    · (have hm := mem_listed he; simp [go_sem, storedEv, *] at hm; try (subst hm; refine free.evS_may ?_ (Eq.refl _); assumption))
    clear hK K hcl hfz hsz
    u_op at_rely hF
    u_c stepG_region_end at_rely hF
    u_c stepG_seq at_rely hF
    u_reg at_rely hF
    u_op at_rely hF
    u_op at_rely hF
    u_op at_rely hF
    u_c stepG_region_end at_rely hF
    u_cond false at_rely hF
    u_c stepG_skip at_rely hF
    u_c stepG_inBlock at_rely hF
    u_reg at_rely hF
    u_op at_rely hF
    u_op at_rely hF
    u_c stepG_region_end at_rely hF
    u_c stepG_inLoop at_rely hF
    refine Goes.mono (HM.out _ _ ?_ hF) (by omega)
    simp only [S5, K36, code36, code10, blk5, sw5, e1, e2, e3, chain16, ops16, x17c, loop3, code25, loop5, tail5, Z5, body5, opsOf, cL, cR, cB, cE, Try.f5, Option.getD_some, ec, ew]
    rfl
set_option maxRecDepth 100000 in
set_option maxHeartbeats 16000000 in
/-- Behind Together: how many; then the comparisons. -/
theorem cellsChecks {o : Array Value} (hN1 : 1 ≤ N) (ho : w.heap[Ot]? = some (.cells o 3)) (hsz : o.size = N) (hall : ∀ j, j < N → o[j]? = some (.int .i64 want)) (hN : N ≤ 2000) (hMo : May Shun Lw Ot)
    (hT : ∀ x12 x14 x37 x43 x49 x50 x51 J y, Conc.AtRel w y → Goes Try.prog true Conc.AtRel (DF Shun Lw) St mT (G ((base 5).at ⟨S5 sl W0.heap.size want ran i x12 (.int .i64 N) x14 x37 x43 x49 x50 x51 J, []⟩ (.code code25 :: K36)) []) y) :
    ∀ x12 x14 x37 x49 x50 x51 J y, Conc.AtRel w y → Goes Try.prog true Conc.AtRel (DF Shun Lw) St (60 * N + 140 + mT) (G ((base 5).at ⟨S5 sl W0.heap.size want ran i x12 (.int .i64 N) x14 x37 (.slice (some ⟨Ot, 0, none⟩) N N) x49 x50 x51 J, []⟩ (.inRegion ops16 [3] :: .code x17c :: K36)) []) y := by
  intro x12 x14 x37 x49 x50 x51 J y hF
  have hma := ev_max
  have g2 : (if (0 : Int) < (N : Int) then (N : Int) else 0) = N := by split <;> omega
  have g3 : (if 0 < N then (N : Int) else 0) = N := by split <;> omega
  have g4 : ((N : Int) != (N : Int)) = false := by simp
  have g5 : (if (N : Int) < 0 then (0 : Int) else N) = N := by split <;> omega
  have hL := cellsLoop (Ot := Ot) ho hsz hall hN hMo hT N 0 (by omega)
  have hlit : ∀ g y, g = G ((base 5).at ⟨S5 sl W0.heap.size want ran i (g.frame.tmps.getD 12 undef) (.int .i64 N) (g.frame.tmps.getD 14 undef) (g.frame.tmps.getD 37 undef) (g.frame.tmps.getD 43 undef) (.slice (some ⟨Ot, 0, none⟩) N N) (.int .i64 N) (.int .i64 (0 : Nat)) (fun k => g.frame.tmps.getD k undef), []⟩ (.code loop3 :: .inLoop loop3 :: .inBlock 3 :: .code code25 :: K36)) [] → Conc.AtRel w y → Goes Try.prog true Conc.AtRel (DF Shun Lw) St (60 * N + 40 + mT) g y := fun g y hg hw => by rw [hg]; exact hL _ _ _ _ _ y hw
  have HM := Lib.hid hlit
  clear hlit hL hT hall
  refine Goes.mono (n := 60 * N + 40 + mT + 100) ?_ (by omega)
  simp only [S5, K36, code36, code10, blk5, sw5, e1, e2, e3, chain16, ops16, x17c, loop3, code25, loop5, tail5, Z5, body5, opsOf, cL, cR, cB, cE, Try.f5, Option.getD_some]
  u_op at_rely hF
  u_c stepG_region_end at_rely hF
  u_c stepG_seq at_rely hF
  u_c stepG_seq at_rely hF
  u_reg at_rely hF
  u_op at_rely hF
  u_op at_rely hF
  u_op at_rely hF
  u_op at_rely hF
  u_op at_rely hF
  u_c stepG_region_end at_rely hF
  u_cond false at_rely hF
  u_c stepG_skip at_rely hF
  u_c stepG_seq at_rely hF
  u_c stepG_seq at_rely hF
  u_reg at_rely hF
  u_op at_rely hF
  u_op at_rely hF
  u_op at_rely hF
  u_c stepG_region_end at_rely hF
  u_c stepG_block at_rely hF
  u_c stepG_loop at_rely hF
  refine Goes.mono (HM.out _ _ ?_ hF) (by omega)
  simp only [S5, K36, code36, code10, blk5, sw5, e1, e2, e3, chain16, ops16, x17c, loop3, code25, loop5, tail5, Z5, body5, opsOf, cL, cR, cB, cE, Try.f5, Option.getD_some]
  rfl
end
section
variable {W0 w : World} {sl : Value} {i sz N : Nat} {want v0 : Int} {fl ran : Bool} {Shun : Loc → Prop} {x12 x14 x37 x43 x49 x50 x51 : Value} {J J' : Nat → Value}
theorem caller_put {x13 x : Value} : (Act.mk (S5 sl W0.heap.size want ran i x12 x13 x14 x37 x43 x49 x50 x51 J) []).put ((ops16[2]?).bind (·.dst)) x = ⟨S5 sl W0.heap.size want ran i x12 x13 x14 x37 x x49 x50 x51 J, []⟩ := by
  simp only [S5, ops16, chain16, e3, e2, e1, sw5, blk5, loop5, Z5, body5, opsOf, cL, cR, cB, cE, Try.f5, Option.getD_some]
  simp [Act.put]
theorem Sh5.two (hS : Sh5 W0.heap.size sz Shun) (hs : W0.heap.size + 4 ≤ sz) {sz' : Nat} (h' : sz + 4 ≤ sz') : Sh5 W0.heap.size sz' (Sh2 Shun sz) := ⟨fun j hj => .inl (hS.own j hj), fun l hl => by
  rcases hl with hl | ⟨a, e, ha⟩
  · rcases hS.out _ hl with h | ⟨a, e, h1, h2⟩
    · exact .inl h
    · exact .inr ⟨a, e, h1, by omega⟩
  · exact .inr ⟨a, e, by omega, by omega⟩⟩
/-- Behind Together's Wait, as far as the next round's head. -/
theorem behind5 {w' : World} {γ' : Gam} (hw : (if fl then 0 else v0) = want) (hi : i < 40) (hN1 : 1 ≤ N) (hN2 : N ≤ 2000) (hs : W0.heap.size + 4 ≤ sz) (hS : Sh5 W0.heap.size sz Shun) (ho : OnlyT W0 w) (hsz : w.heap.size = sz + 4)
    (hbv : w.heap[W0.heap.size]? = some (.cells #[.int .i64 v0] 3)) (hbf : w.heap[W0.heap.size + 1]? = some (.cells #[.bool fl] 4)) (hbo : w.heap[sz + 2]? = some (.cells #[.slice (some ⟨sz + 1, 0, none⟩) N N] 22))
    {d0 : Prop} (H : TAfter (tpI W0.heap.size sz v0 fl) N d0 w w' γ') :
    ∃ m, Goes Try.prog true Conc.AtRel (DF (Sh2 Shun sz) (Low w'.heap.size)) (NextHead W0 sl want v0 fl true (i + 1) w'.heap.size) m
      (G ((base 19).at ⟨T19 (W0.heap.size + 3) (sz + 3) sz (sz + 2) N N J', []⟩ [.inRegion (opsOf (cL tail19)) [], .code (cR tail19)]) [caller5 W0 sl want ran i N x12 x14 x37 x43 x49 x50 x51 J]) w' := by
  have hd := H.done (.inl hN1)
  have hsz' : sz + 4 ≤ w'.heap.size := by have := H.world.size; omega
  have keep : ∀ b, b < sz + 4 → b ≠ W0.heap.size + 3 → b ≠ sz + 3 → b ≠ W0.heap.size + 2 → b ≠ sz + 1 → w'.heap[b]? = w.heap[b]? := fun b h1 h2 h3 h4 h5 => H.world.blocks b (by omega) h2 h3 h4 h5
  have bbo := (keep (sz + 2) (by omega) (by omega) (by omega) (by omega) (by omega)).trans hbo
  have hrn : w'.heap[W0.heap.size + 2]? = some (.cells #[.int .i64 1] 3) := by have := H.rn; rw [hd.2.2.2.1] at this; exact this
  obtain ⟨o, o1, o2, o3⟩ := H.ot
  replace o1 : w'.heap[sz + 1]? = some (.cells o 3) := o1
  replace o3 : ∀ j, j < N → o[j]? = some (.int .i64 want) := fun j hj => by have := o3 j hj; simpa [tpI, hw] using this
  have honly : OnlyT W0 w' := by
    obtain ⟨d1, e1⟩ := ho.os
    obtain ⟨d2, e2⟩ := H.world.os
    exact ⟨⟨d1 + d2, by rw [e2, e1]; simp [Nat.add_assoc]⟩, H.world.tape.trans ho.tape, H.world.output.trans ho.output, Nat.le_trans ho.size H.world.size, fun b hb => (keep b (by omega) (by omega) (by omega) (by omega) (by omega)).trans (ho.block b hb)⟩
  have hH : H5 W0 v0 fl true w'.heap.size w' := ⟨⟨γ'.c, ⟨honly, H.cs, hrn, (keep W0.heap.size (by omega) (by omega) (by omega) (by omega) (by omega)).trans hbv, (keep (W0.heap.size + 1) (by omega) (by omega) (by omega) (by omega) (by omega)).trans hbf, rfl⟩, hd.1, hd.2.1, hd.2.2.1, hd.2.2.2.2, H.rest⟩, by omega⟩
  have hS2 := hS.two (sz' := w'.heap.size) hs hsz'
  have may : ∀ b, (b = sz + 1 ∨ b = sz + 2) → May (Sh2 Shun sz) (Low w'.heap.size) b := fun b hb a ha => by
    refine ⟨fun h => ?_, fun a' e => by cases e; omega⟩
    rcases h with h | ⟨a', e, h⟩
    · rcases hS.out _ h with ⟨j, _, e⟩ | ⟨a', e, h1, h2⟩
      · cases e; simp at ha; omega
      · cases e; omega
    · cases e; omega
  have hah : Ahead W0 sl want v0 fl true i w'.heap.size (Sh2 Shun sz) (Low w'.heap.size) (NextHead W0 sl want v0 fl true (i + 1) w'.heap.size) 400 := fun X hX x12 x13 x14 x37 x43 x49 x50 x51 J y hy => tail36 hi hX hS2 (Nat.le_refl _) y hy
  have hch := cellsChecks (W0 := W0) (sl := sl) (i := i) (ran := ran) (w := w') (Ot := sz + 1) hN1 o1 o2 o3 hN2 (may _ (.inl rfl)) (ranTrue hN1 hH hah)
  refine ⟨_, togTail (mT := 60 * N + 140 + (400 + 30)) (may _ (.inr rfl)) bbo (fun y hy => ?_) w' (atRel_refl w')⟩
  rw [caller_put]
  exact hch _ _ _ _ _ _ _ y hy
end
end Go.Proofs.Ytdkbkocklnnmdaa.cells
