/-
  MemoMany from its entry to Together's loop's head, where somebody asks; what is behind that. Conditions: those that the theorems name.
-/
import Derived.Test.YtdkbkocklnnmdaaMany
set_option linter.unusedSimpArgs false
set_option linter.unusedVariables false
namespace Go.Proofs.Ytdkbkocklnnmdaa.many
open Go Go.Conc Go.RowKit Go.ConcR.Gen Go.ConcN.Gen Go.Proofs.Ytdkbkocklnnmdaa.crew Go.Proofs.Ytdkbkocklnnmdaa.wg Go.Proofs.Ytdkbkocklnnmdaa.free Go.Proofs.Ytdkbkocklnnmdaa.tgm
open Go.Proofs.Ytdkbkocklnnmdaa.kid (opsOf cL cR cB hmf2 hmf3)
open Go.Proofs.Ytdkbkocklnnmdaa.tog (Tp Cs AtCs cblk p50 cs0 cs4 cT Atom)
open Go.Proofs.Ytdkbkocklnnmdaa.tgs (Gam Done Idle TW rest_zero)
open Go.ConcX.Gen (setCell_at alloc_at)
open Go.ConcR (WgAt)

/-- The call of Together's, its blocks counted from s. -/
def tp (s : Nat) (v : ByteArray) : Tp :=
  { C := s + 2, fC := .func (.func 21) #[] #[.pointer (some ⟨s + 1, 0, none⟩), .pointer (some ⟨s, 0, none⟩)], ty := 98, Wg := s + 6, Rn := s + 1, Ot := s + 4, tb := 50, fin := .string v, Ro := fun b => b = s ∨ b = s + 3 ∨ b = s + 5, Bd := s, vd := .string v, eb := fun _ => #[] }
def c0 : Cs := { d := 0, m := ⟨0, 0, 0, 0⟩, s := 0, v := .string { data := #[] }, cd := 0, r := 0 }
/-- What may be touched ahead of Together, and what is stepped on atomically alone from there on. -/
def Lw1 (s : Nat) : Loc → Prop := fun l => ∃ a : Addr, l = .cell a ∧ a.block < s + 6 ∧ a.block ≠ s + 2
def Sh2 (s : Nat) : Loc → Prop := fun l => (∃ a : Addr, l = .cell a ∧ a.block = s + 6) ∨ l = .cell ⟨s + 2, 0, none⟩ ∨ l = .cell ⟨s + 2, 1, none⟩ ∨ l = .cell ⟨s + 2, 2, none⟩ ∨ l = .cell ⟨s + 2, 5, none⟩ ∨ l = .cell ⟨s + 2, 6, none⟩
theorem x20 : (Try.f20.name == "runtime.NumGoroutine") = false := by kernel_rfl
theorem x22 : (Try.f22.name == "runtime.NumGoroutine") = false := by kernel_rfl
theorem sh2_no {s : Nat} {a : Addr} (h1 : a.block ≠ s + 6) (h2 : a.block ≠ s + 2) : ¬ Sh2 s (.cell a) := by
  rintro (⟨a', e, h⟩ | h | h | h | h | h)
  · cases e; exact h1 h
  all_goals (injection h with h; subst h; exact h2 rfl)

/-- The world ahead of Together's call. -/
structure Pre (W0 : World) (v : ByteArray) (W : World) : Prop where
  only : OnlyT W0 W
  size : W.heap.size = W0.heap.size + 3
  bv : W.heap[W0.heap.size]? = some (.cells #[.string v] 9)
  rn : W.heap[W0.heap.size + 1]? = some (.cells #[.int .i64 0] 3)
  cs : AtCs (tp W0.heap.size v) c0 W

section
variable {W0 : World} {n : Int} {v : ByteArray}
set_option maxRecDepth 100000 in
set_option maxHeartbeats 64000000 in
theorem manyEnter {n' : Int} {Shun Lw : Loc → Prop} {St : Goroutine → World → Prop} (hM : ∀ b, b = W0.heap.size ∨ b = W0.heap.size + 1 → May Shun Lw b) (hn : (if (3000 : Int) < n then (3000 : Int) else n) = n') {mT : Nat}
    (hT : ∀ W, Pre W0 v W → ∀ g, (g = G ((base 22).at { tmps := #[.pointer (some ⟨W0.heap.size + 2, 0, none⟩), .int .i64 n'] ++ Array.replicate 25 undef, defers := [] } [.code (Try.f22.body.getD .skip)])
      ((base 6).at ⟨S6 n' W0.heap.size (W0.heap.size + 1) (W0.heap.size + 2) undef undef undef undef undef (fun k => (g.callers.getD 0 default).tmps.getD k undef), []⟩ [.inRegion ops6 [2, 3], .code X6] :: [])) → ∀ y, Conc.AtRel W y → Goes Try.prog true Conc.AtRel (DF Shun Lw) St mT g y) :
    ∀ y, Conc.AtRel W0 y → Goes Try.prog true Conc.AtRel (DF Shun Lw) St (mT + 100) (G ((base 6).at { tmps := #[.int .i64 n, .string v] ++ Array.replicate 53 undef, defers := [] } [.code (Try.f6.body.getD .skip)]) []) y := by
  intro y hF
  have hmf := hmf2
  have hme := hmf3
  have hM0 := hM _ (.inl rfl)
  have hM1 := hM _ (.inr rfl)
  simp only [Try.f6, Option.getD_some]
  walk_nrm
  u_c stepG_seq at_rely hF
  u_reg at_rely hF
  u_in at_rely hF
  refine goes_oper_k rfl rfl (by k_ne) (fun K hK => ?_)
  have hcl := free.at_cell hF
  have hfz := free.at_frozen hF
  have hsz := free.at_size hF
  go_simp
  refine hK _ _ ⟨fun e he => ?_, ?_⟩
  · (have hm := mem_listed he; simp [go_sem, storedEv, *] at hm; try (subst hm; refine free.evS_may ?_ (Eq.refl _); assumption))
  clear hK K hcl hfz hsz
  refine free.next_alloc hF (fun _ hF => ?_)
  u_op at_rely hF
  u_c stepG_region_end at_rely hF
  u_c stepG_seq at_rely hF
  u_reg at_rely hF
  u_in at_rely hF
  refine goes_oper_k rfl rfl (by k_ne) (fun K hK => ?_)
  have hcl := free.at_cell hF
  have hfz := free.at_frozen hF
  have hsz := free.at_size hF
  go_simp
  refine hK _ _ ⟨fun e he => ?_, ?_⟩
  · (have hm := mem_listed he; simp [go_sem, storedEv, *] at hm; try (subst hm; refine free.evS_may ?_ (Eq.refl _); assumption))
  clear hK K hcl hfz hsz
  refine free.next_alloc hF (fun _ hF => ?_)
  u_in at_rely hF
  refine goes_oper_k rfl rfl (by k_ne) (fun K hK => ?_)
  have hcl := free.at_cell hF
  have hfz := free.at_frozen hF
  have hsz := free.at_size hF
  go_simp
  refine hK _ _ ⟨fun e he => ?_, ?_⟩
  · (have hm := mem_listed he; simp [go_sem, storedEv, *] at hm; try (subst hm; refine free.evS_may ?_ (Eq.refl _); assumption))
  clear hK K hcl hfz hsz
  refine free.next_set hF (fun _ hF => ?_)
  u_c stepG_region_end at_rely hF
  u_c stepG_seq at_rely hF
  u_reg at_rely hF
  u_op at_rely hF
  u_call Try.func20 x20 Try.f20 at_rely hF
  u_c stepG_seq at_rely hF
  u_reg at_rely hF
  u_op at_rely hF
  u_c stepG_region_end at_rely hF
  u_c stepG_seq at_rely hF
  u_reg at_rely hF
  u_op at_rely hF
  u_op at_rely hF
  u_in at_rely hF
  refine goes_oper_k rfl rfl (by k_ne) (fun K hK => ?_)
  have hcl := free.at_cell hF
  have hfz := free.at_frozen hF
  have hsz := free.at_size hF
  go_simp
  refine hK _ _ ⟨fun e he => ?_, ?_⟩
  · (have hm := mem_listed he; simp [go_sem, storedEv, *] at hm; try (subst hm; refine free.evS_may ?_ (Eq.refl _); assumption))
  clear hK K hcl hfz hsz
  refine free.next_alloc hF (fun _ hF => ?_)
  u_op at_rely hF
  u_c stepG_region_end at_rely hF
  u_c stepG_ret' at_rely hF
  u_leave1 Try.func20 at_rely hF
  have es : W0.heap.size + 1 + 1 = W0.heap.size + 2 := rfl
  have P : Pre W0 v ((((W0.alloc (.cells #[.string v] 9)).alloc (.cells #[.int .i64 0] 3)).setCell ⟨W0.heap.size + 1, 0, none⟩ (.int .i64 0)).alloc (cblk (tp W0.heap.size v) c0)) := by
    have e1 : (W0.alloc (.cells #[.string v] 9)).heap.size = W0.heap.size + 1 := by simp
    have e2 : ((W0.alloc (.cells #[.string v] 9)).alloc (.cells #[.int .i64 0] 3)).heap.size = W0.heap.size + 2 := by simp
    have A := aside_setCell ((W0.alloc (.cells #[.string v] 9)).alloc (.cells #[.int .i64 0] 3)) ⟨W0.heap.size + 1, 0, none⟩ (.int .i64 0)
    have n1 := box_new W0 (.cells #[.string v] 9)
    have n2 := box_new (W0.alloc (.cells #[.string v] 9)) (.cells #[.int .i64 0] 3)
    rw [e1] at n2
    have o2 : Only (fun _ => False) W0 ((W0.alloc (.cells #[.string v] 9)).alloc (.cells #[.int .i64 0] 3)) := ((Only.refl _ W0).alloc _).alloc _
    have n1' := box_old (x := .cells #[.int .i64 0] 3) n1
    generalize (W0.alloc (.cells #[.string v] 9)).alloc (.cells #[.int .i64 0] 3) = W1 at e2 A n2 o2 n1' ⊢
    have o3 : Only (fun _ => False) W0 (W1.setCell ⟨W0.heap.size + 1, 0, none⟩ (.int .i64 0)) := o2.set _ _ (.inl (Nat.le_succ _))
    have n3 : (W1.setCell ⟨W0.heap.size + 1, 0, none⟩ (.int .i64 0)).heap[W0.heap.size + 1]? = some (.cells #[.int .i64 0] 3) := by simp [World.setCell, Array.getElem?_modify, n2]
    have n4 := (A.block W0.heap.size (by simp)).trans n1'
    have e3 := A.size.trans e2
    generalize W1.setCell ⟨W0.heap.size + 1, 0, none⟩ (.int .i64 0) = W2 at o3 n3 n4 e3 ⊢
    have n5 := box_new W2 (cblk (tp W0.heap.size v) c0)
    rw [e3] at n5
    exact ⟨OnlyT.of (o3.alloc _), by simp [e3], box_old n4, box_old n3, n5⟩
  have hF' := hF
  replace hF : Conc.AtRel ((((W0.alloc (.cells #[.string v] 9)).alloc (.cells #[.int .i64 0] 3)).setCell ⟨W0.heap.size + 1, 0, none⟩ (.int .i64 0)).alloc (cblk (tp W0.heap.size v) c0)) _ := hF
  generalize (((W0.alloc (.cells #[.string v] 9)).alloc (.cells #[.int .i64 0] 3)).setCell ⟨W0.heap.size + 1, 0, none⟩ (.int .i64 0)).alloc (cblk (tp W0.heap.size v) c0) = W at hF P
  clear hF'
  have HT := Lib.hid (hT W P)
  clear hT P
  by_cases h3 : (3000 : Int) < n
  · have q1 : decide ((3000 : Int) < n) = true := decide_eq_true h3
    rw [if_pos h3] at hn
    subst hn
    u_op at_rely hF
    u_c stepG_region_end at_rely hF
    u_c stepG_seq at_rely hF
    u_c stepG_seq at_rely hF
    u_reg at_rely hF
    u_op at_rely hF
    u_op at_rely hF
    u_c stepG_region_end at_rely hF
    u_cond true at_rely hF
    u_reg at_rely hF
    u_op at_rely hF
    u_c stepG_region_end at_rely hF
    u_c stepG_seq at_rely hF
    u_reg at_rely hF
    u_op at_rely hF
    u_op at_rely hF
    u_call Try.func22 x22 Try.f22 at_rely hF
    refine Goes.mono (HT.out _ ?_ _ hF) (by omega)
    simp only [S6, ops6, X6, body6, opsOf, cL, cR, Try.f6, Try.f22, Option.getD_some]
    walk_nrm
    rfl
  · have q1 : decide ((3000 : Int) < n) = false := decide_eq_false h3
    rw [if_neg h3] at hn
    subst hn
    u_op at_rely hF
    u_c stepG_region_end at_rely hF
    u_c stepG_seq at_rely hF
    u_c stepG_seq at_rely hF
    u_reg at_rely hF
    u_op at_rely hF
    u_op at_rely hF
    u_c stepG_region_end at_rely hF
    u_cond false at_rely hF
    u_c stepG_skip at_rely hF
    u_c stepG_seq at_rely hF
    u_reg at_rely hF
    u_op at_rely hF
    u_op at_rely hF
    u_call Try.func22 x22 Try.f22 at_rely hF
    refine Goes.mono (HT.out _ ?_ _ hF) (by omega)
    simp only [S6, ops6, X6, body6, opsOf, cL, cR, Try.f6, Try.f22, Option.getD_some]
    walk_nrm
    rfl

theorem may2 {b : Nat} (h1 : b ≠ W0.heap.size + 6) (h2 : b ≠ W0.heap.size + 2) : May (Sh2 W0.heap.size) (fun _ => True) b := fun a ha => ⟨sh2_no (by rw [ha]; exact h1) (by rw [ha]; exact h2), trivial⟩
theorem only_tog {W : World} {C N : Nat} : OnlyT W (togWorld W C N) ∧ (togWorld W C N).heap.size = W.heap.size + 4 ∧ (togWorld W C N).heap[W.heap.size]? = some (.cells #[.pointer (some ⟨C, 0, none⟩)] 50) ∧ (togWorld W C N).heap[W.heap.size + 1]? = some (.cells (Array.replicate N (.string { data := #[] })) 9) ∧
    (togWorld W C N).heap[W.heap.size + 2]? = some (.cells #[.slice (some ⟨W.heap.size + 1, 0, none⟩) N N] 53) ∧ WgAt 96 (W.heap.size + 3) (togWorld W C N) 0 0 := by
  have o1 : Only (fun _ => False) W (W.alloc (.cells #[.pointer (some ⟨C, 0, none⟩)] 50)) := (Only.refl _ W).alloc _
  have e1 : (W.alloc (.cells #[.pointer (some ⟨C, 0, none⟩)] 50)).heap.size = W.heap.size + 1 := by simp
  have n1 := box_new W (.cells #[.pointer (some ⟨C, 0, none⟩)] 50)
  unfold togWorld
  generalize W.alloc (.cells #[.pointer (some ⟨C, 0, none⟩)] 50) = W1 at o1 e1 n1 ⊢
  have o2 := o1.alloc (.cells (Array.replicate N (.string { data := #[] })) 9)
  have e2 : (W1.alloc (.cells (Array.replicate N (.string { data := #[] })) 9)).heap.size = W.heap.size + 2 := by simp [e1]
  have n2 := box_new W1 (.cells (Array.replicate N (.string { data := #[] })) 9)
  rw [e1] at n2
  replace n1 := box_old (x := .cells (Array.replicate N (.string { data := #[] })) 9) n1
  generalize W1.alloc (.cells (Array.replicate N (.string { data := #[] })) 9) = W2 at o2 e2 n1 n2 ⊢
  have o3 := o2.alloc (.cells #[.slice none 0 0] 53)
  have e3 : (W2.alloc (.cells #[.slice none 0 0] 53)).heap.size = W.heap.size + 3 := by simp [e2]
  have n3 := box_new W2 (.cells #[.slice none 0 0] 53)
  rw [e2] at n3
  replace n1 := box_old (x := .cells #[.slice none 0 0] 53) n1
  replace n2 := box_old (x := .cells #[.slice none 0 0] 53) n2
  generalize W2.alloc (.cells #[.slice none 0 0] 53) = W3 at o3 e3 n1 n2 n3 ⊢
  have A := aside_setCell W3 ⟨W.heap.size + 2, 0, none⟩ (.slice (some ⟨W.heap.size + 1, 0, none⟩) N N)
  have o4 := o3.set ⟨W.heap.size + 2, 0, none⟩ (.slice (some ⟨W.heap.size + 1, 0, none⟩) N N) (.inl (Nat.le_add_right _ _))
  have n3' : (W3.setCell ⟨W.heap.size + 2, 0, none⟩ (.slice (some ⟨W.heap.size + 1, 0, none⟩) N N)).heap[W.heap.size + 2]? = some (.cells #[.slice (some ⟨W.heap.size + 1, 0, none⟩) N N] 53) := by simp [World.setCell, Array.getElem?_modify, n3]
  have n1' := (A.block W.heap.size (by simp)).trans n1
  have n2' := (A.block (W.heap.size + 1) (by simp)).trans n2
  have e4 := A.size.trans e3
  generalize W3.setCell ⟨W.heap.size + 2, 0, none⟩ (.slice (some ⟨W.heap.size + 1, 0, none⟩) N N) = W4 at o4 n1' n2' n3' e4 ⊢
  have n5 := box_new W4 (.cells #[.int .u64 0, .int .u32 0] 96)
  rw [e4] at n5
  exact ⟨OnlyT.of (o4.alloc _), by simp [e4], box_old n1', box_old n2', box_old n3', n5⟩

theorem callers_put {b : Frame} {T : Array Value} {J : Nat → Value} {n' : Int} {s : Nat} {x : Value} :
    (Act.mk (S6 n' s (s + 1) (s + 2) undef undef undef undef undef J) []).put ((ops6[2]?).bind (·.dst)) x = ⟨S6 n' s (s + 1) (s + 2) undef x undef undef undef J, []⟩ := by
  simp only [S6, ops6, body6, opsOf, cL, cR, Try.f6, Option.getD_some]
  simp [Act.put]

set_option maxRecDepth 100000 in
set_option maxHeartbeats 16000000 in
/-- Behind Together's Wait, as far as the return of true. -/
theorem manyBehind {n' : Int} {N : Nat} {W w' : World} {γ' : Gam} {J J' : Nat → Value} (hn : 1 ≤ n') (eN : (if (1024 : Int) < n' then (1024 : Int) else n') = (N : Int)) (P : Pre W0 v W)
    (H : TAfter (tp W0.heap.size v) N (c0.d = 1) 9 3 (togWorld W (W0.heap.size + 2) N) w' γ') :
    ∃ m, Goes Try.prog true Conc.AtRel (DF (Sh2 W0.heap.size) (fun _ => True)) (Fz (Sh2 W0.heap.size) (fun _ => True) (AtTrue W0 (Sh2 W0.heap.size)) 2) m
      (G ((base 22).at ⟨T22 (W0.heap.size + 2) (W0.heap.size + 6) (W0.heap.size + 3) (W0.heap.size + 5) N N J, []⟩ [.inRegion (opsOf (cL tail22)) [], .code (cR tail22)])
        ((base 6).at ⟨S6 n' W0.heap.size (W0.heap.size + 1) (W0.heap.size + 2) undef undef undef undef undef J', []⟩ [.inRegion ops6 [2, 3], .code X6] :: [])) w' := by
  obtain ⟨t1, t2, t3, t4, t5, t6⟩ := only_tog (W := W) (C := W0.heap.size + 2) (N := N)
  rw [P.size] at t2 t3 t4 t5 t6
  have hN0 : 0 < N := by
    have : (0 : Int) < N := by rw [← eN]; split <;> omega
    omega
  have hd := H.done (.inl hN0)
  have keep : ∀ b, b < W0.heap.size + 7 → b ≠ W0.heap.size + 2 → b ≠ W0.heap.size + 6 → b ≠ W0.heap.size + 1 → b ≠ W0.heap.size + 4 → w'.heap[b]? = (togWorld W (W0.heap.size + 2) N).heap[b]? := fun b h1 h2 h3 h4 h5 => H.world.blocks b (by rw [t2]; omega) h2 h3 h4 h5
  have bbo := (keep (W0.heap.size + 5) (by omega) (by omega) (by omega) (by omega) (by omega)).trans t5
  have bbv : w'.heap[W0.heap.size]? = some (.cells #[.string v] 9) := (keep W0.heap.size (by omega) (by omega) (by omega) (by omega) (by omega)).trans ((t1.block W0.heap.size (by rw [P.size]; omega)).trans P.bv)
  have brn : w'.heap[W0.heap.size + 1]? = some (.cells #[.int .i64 1] 3) := by have := H.rn; rw [hd.2.2.2.1] at this; exact this
  obtain ⟨o, o1, o2, o3⟩ := H.ot
  have hsz : W0.heap.size + 7 ≤ w'.heap.size := by have := H.world.size; rw [t2] at this; omega
  replace o1 : w'.heap[W0.heap.size + 4]? = some (.cells o 9) := o1
  have honly : OnlyT W0 w' := by
    have A := P.only.trans t1
    obtain ⟨d1, e1⟩ := A.os
    obtain ⟨d2, e2⟩ := H.world.os
    exact ⟨⟨d1 + d2, by rw [e2, e1]; simp [Nat.add_assoc]⟩, H.world.tape.trans A.tape, H.world.output.trans A.output, Nat.le_trans A.size H.world.size, fun b hb => (keep b (by omega) (by omega) (by omega) (by omega) (by omega)).trans (A.block b hb)⟩
  have hG : Gets (Sh2 W0.heap.size) (fun _ => True) (AtTrue W0 (Sh2 W0.heap.size)) 2 (W0.heap.size + 2) v w' (fun X => X = w') := by
    intro b₀ a₀ ops₀ i₀ rest₀ k₀ cs hT y hy
    have hv : γ'.c.v = .string v := hd.2.2.2.2
    refine Goes.mono (getDone (p := tp W0.heap.size v) (c := γ'.c) (mT := 600) H.cs (by rw [hd.1]; decide) trivial ⟨?_, trivial⟩ (fun y hy => by rw [hv]; exact hT _ rfl y hy) y hy) (by omega)
    rintro (⟨a', e, h⟩ | h | h | h | h | h)
    · injection e with e; subst e; simp [tog.cA, tp] at h
    all_goals (simp [tog.cA, tp] at h)
  have hfin := manyTail (n := n') (Bv := W0.heap.size) (Rn := W0.heap.size + 1) (C := W0.heap.size + 2) (l := .slice (some ⟨W0.heap.size + 4, 0, none⟩) N N) (x16 := .slice (some ⟨W0.heap.size + 4, 0, none⟩) N N) (x34 := .slice (some ⟨W0.heap.size + 4, 0, none⟩) N N) (x35 := .int .i64 N) (x36 := .int .i64 N) hG (cell_of_one bbv) (may2 (by omega) (by omega)) (may2 (by omega) (by omega)) (fun X hX => by subst hX; exact ⟨cell_of_one bbv, cell_of_one brn, fun b hb => may2 (by omega) (by omega), honly⟩)
  have hch := manyChecks (l := undef) (x34 := undef) (x35 := undef) (x36 := undef) hn eN o1 o2 o3 (cell_of_one bbv) (cell_of_one brn) (may2 (by omega) (by omega)) (may2 (by omega) (by omega)) (may2 (by omega) (by omega)) hfin
  refine ⟨_, togTail (mT := 60 * N + 140 + 1000) (may2 (by omega) (by omega)) bbo (fun y hy => ?_) w' (atRel_refl w')⟩
  rw [callers_put (b := default) (T := #[])]
  exact hch J' y hy

theorem tafter_at {p : Tp} {N : Nat} {d0 : Prop} {tyO tyR : TypeId} {X w' : World} {γ' : Gam} {d : Nat} (H : TAfter p N d0 tyO tyR (X.at d) w' γ') : TAfter p N d0 tyO tyR X w' γ' :=
  ⟨⟨H.world.blocks, H.world.size, H.world.tape, H.world.os, H.world.output⟩, H.cs, H.rest, H.idle, H.done, H.rn, H.ot⟩
set_option maxRecDepth 100000 in
set_option maxHeartbeats 16000000 in
/-- MemoMany where somebody asks: to Together's loop's head, with what is behind its Wait. -/
theorem walkA {n' : Int} {N : Nat} (hn0 : (if (3000 : Int) < n then (3000 : Int) else n) = n') (hn : 1 ≤ n') (eN : (if (1024 : Int) < n' then (1024 : Int) else n') = (N : Int)) :
    ∀ y, Conc.AtRel W0 y → Goes Try.prog true Conc.AtRel (DF (fun _ => False) (Lw1 W0.heap.size)) (Fz (fun _ => False) (Lw1 W0.heap.size) (AtTog (fun _ => False) (Lw1 W0.heap.size) (Sh2 W0.heap.size) (fun _ => True) N (AtTrue W0 (Sh2 W0.heap.size)) 2) 0) 300
      (G ((base 6).at { tmps := #[.int .i64 n, .string v] ++ Array.replicate 53 undef, defers := [] } [.code (Try.f6.body.getD .skip)]) []) y := by
  have hM : ∀ b, b < W0.heap.size + 6 → b ≠ W0.heap.size + 2 → May (fun _ => False) (Lw1 W0.heap.size) b := fun b h1 h2 a ha => ⟨fun h => h, a, rfl, by omega, by omega⟩
  intro y hF
  refine manyEnter (mT := 200) (fun b hb => hM b (by omega) (by omega)) hn0 (fun W P g hg y hF => ?_) y hF
  obtain ⟨J0, rfl⟩ : ∃ J, g = G ((base 22).at { tmps := #[.pointer (some ⟨W0.heap.size + 2, 0, none⟩), .int .i64 n'] ++ Array.replicate 25 undef, defers := [] } [.code (Try.f22.body.getD .skip)])
      ((base 6).at ⟨S6 n' W0.heap.size (W0.heap.size + 1) (W0.heap.size + 2) undef undef undef undef undef J, []⟩ [.inRegion ops6 [2, 3], .code X6] :: []) := ⟨_, hg⟩
  clear hg
  refine togEnter hn eN (fun b h1 h2 => hM b (by rw [P.size] at h2; omega) (by rw [P.size] at h1; omega)) (fun g d hg => ?_) y hF
  obtain ⟨t1, t2, t3, t4, t5, t6⟩ := only_tog (W := W) (C := W0.heap.size + 2) (N := N)
  rw [P.size] at t2 t3 t4 t5 t6 hg
  have keep : ∀ b, b < W0.heap.size + 3 → (togWorld W (W0.heap.size + 2) N).heap[b]? = W.heap[b]? := fun b hb => t1.block b (by rw [P.size]; exact hb)
  have hcs : AtCs (tp W0.heap.size v) c0 (togWorld W (W0.heap.size + 2) N) := (keep (W0.heap.size + 2) (by omega)).trans P.cs
  refine ⟨fun l h => h.elim, fun l _ => trivial, fun l _ => trivial, fun l h => ?_, fun a h => ?_, fun l h => .inr ?_, _, tp W0.heap.size v, ⟨c0, 0⟩, W0.heap.size, W0.heap.size + 3, W0.heap.size + 5, 9, 3, _, hg, ?_, t6, hcs, rest_zero, .inl ⟨rfl, rfl, rfl, rfl⟩, (keep (W0.heap.size + 1) (by omega)).trans P.rn, ⟨_, t4, by simp⟩, by simp [tp], fun a ha => .inl ⟨a, rfl, ha⟩, ?_, fun b hb a ha => ⟨?_, trivial⟩, ⟨?_, trivial⟩, ⟨?_, trivial⟩, fun w' γ' J H => manyBehind hn eN P (tafter_at H)⟩
  · rcases h with ⟨a, rfl, _⟩ | rfl | rfl | rfl | rfl | rfl <;> rfl
  · obtain ⟨a', e, h1, h2⟩ := h
    cases e
    show a.block < (togWorld W (W0.heap.size + 2) N).heap.size
    rw [t2]; omega
  · rintro ⟨a, rfl, h1, h2⟩
    exact sh2_no (by omega) h2 h
  · refine ⟨fun b => Iff.rfl, (keep W0.heap.size (by omega)).trans P.bv, t3, t5, rfl, rfl, rfl, .inr (.inl ⟨_, rfl⟩), rfl, rfl, ?_, ?_, ?_, ?_, ?_, ?_, ?_, ?_, ?_, ?_, ?_⟩ <;> simp only [tp] <;> omega
  · exact ⟨.inr (.inl rfl), .inr (.inr (.inl rfl)), .inr (.inr (.inr (.inl rfl))), .inr (.inr (.inr (.inr (.inl rfl)))), .inr (.inr (.inr (.inr (.inr rfl))))⟩
  · have hb' : b ≠ W0.heap.size + 6 ∧ b ≠ W0.heap.size + 2 := by
      rcases hb with hb | hb | hb | hb
      · rcases hb with rfl | rfl | rfl <;> omega
      · simp only [tp] at hb; omega
      · simp only [tp] at hb; omega
      · have : (togWorld W (W0.heap.size + 2) N).heap.size ≤ b := hb
        rw [t2] at this; omega
    exact sh2_no (by rw [ha]; exact hb'.1) (by rw [ha]; exact hb'.2)
  · rintro (⟨a', e, h⟩ | h | h | h | h | h)
    · injection e with e; subst e; simp [tog.cA, tp] at h
    all_goals (simp [tog.cA, tp] at h)
  · rintro (⟨a', e, h⟩ | h | h | h | h | h)
    · injection e with e; subst e; simp [tog.cA, tp] at h
    all_goals (simp [tog.cA, tp] at h)
end
end Go.Proofs.Ytdkbkocklnnmdaa.many
