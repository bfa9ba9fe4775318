/-
  Beside goroutines that only leave: MemoMany's ways: Get of a cell that has run; the comparisons behind Together; the last line. Conditions: those that the theorems name.
-/
import Derived.Test.YtdkbkocklnnmdaaTogEnter
import Derived.Test.YtdkbkocklnnmdaaTogDrive
set_option linter.unusedSimpArgs false
set_option linter.unusedVariables false
namespace Go.Proofs.Ytdkbkocklnnmdaa.many
open Go Go.Conc Go.RowKit Go.ConcR.Gen Go.ConcN.Gen Go.Proofs.Ytdkbkocklnnmdaa.crew Go.Proofs.Ytdkbkocklnnmdaa.wg Go.Proofs.Ytdkbkocklnnmdaa.free Go.Proofs.Ytdkbkocklnnmdaa.tgm
open Go.Proofs.Ytdkbkocklnnmdaa.kid (opsOf cL cR cB hmf2 hmf3)
open Go.Proofs.Ytdkbkocklnnmdaa.tog (Tp Cs AtCs p50 cs0 cs4 cT)
open Go.ConcX.Gen (setCell_at alloc_at)
open Go.ConcR (WgAt)

/-- Old blocks stand; time may have passed. -/
structure OnlyT (w w' : World) : Prop where
  os : ∃ d, w'.os = { w.os with wall := w.os.wall + d, mono := w.os.mono + d }
  tape : w'.tape = w.tape
  output : w'.output = w.output
  size : w.heap.size ≤ w'.heap.size
  block : ∀ k, k < w.heap.size → w'.heap[k]? = w.heap[k]?
theorem OnlyT.of {w w' : World} (h : Only (fun _ => False) w w') : OnlyT w w' := ⟨⟨0, by rw [h.os]; rfl⟩, h.tape, h.output, h.size, fun k hk => h.block k hk (fun x => x)⟩
theorem OnlyT.trans {a b c : World} (h : OnlyT a b) (k : OnlyT b c) : OnlyT a c := by
  refine ⟨?_, k.tape.trans h.tape, k.output.trans h.output, Nat.le_trans h.size k.size, fun i hi => (k.block i (Nat.lt_of_lt_of_le hi h.size)).trans (h.block i hi)⟩
  obtain ⟨d, e⟩ := h.os
  obtain ⟨d', e'⟩ := k.os
  exact ⟨d + d', by rw [e', e]; simp [Nat.add_assoc]⟩
/-- The return of true. -/
def AtTrue (W : World) (Shun : Loc → Prop) : Goroutine → World → Prop := fun g w => ∀ d, AtEnd Try.prog Shun 0 (fun v w => v = .bool true ∧ OnlyT W w) g (w.at d)

theorem evS_pl {Shun Lw : Loc → Prop} {a : Addr} {wr : Bool} (h : ¬ Shun (.cell a) ∧ Lw (.cell a)) : EvS Shun Lw ⟨.cell a, wr, false⟩ := by
  refine ⟨⟨fun x hx => ?_, fun ar e => by cases e⟩, by simp, by simp⟩
  have : x = ⟨.cell a, wr, .plain⟩ := (Option.some.inj hx).symm
  subst this
  exact ⟨h.2, fun hs => absurd hs h.1⟩

section
variable {Shun Lw : Loc → Prop} {St : Goroutine → World → Prop} {b₀ : Frame} {a₀ : Act} {ops₀ : Array Oper} {i₀ : Nat} {rest₀ : List Nat} {k₀ : List Item} {cs : List Frame} {mT : Nat}
set_option maxRecDepth 100000 in
set_option maxHeartbeats 16000000 in
/-- Get of a cell that has run. -/
theorem getDone {p : Tp} {c : Cs} {W : World} (h : AtCs p c W) (hd : c.d ≠ 0) (hL : Lw (.cell (tog.cA p 0))) (h4 : ¬ Shun (.cell (tog.cA p 4)) ∧ Lw (.cell (tog.cA p 4)))
    (hT : ∀ y, Conc.AtRel W y → Goes Try.prog true Conc.AtRel (DF Shun Lw) St mT (G (b₀.at (a₀.put ((ops₀[i₀]?).bind (·.dst)) c.v) (.inRegion ops₀ rest₀ :: k₀)) cs) y) :
    ∀ y, Conc.AtRel W y → Goes Try.prog true Conc.AtRel (DF Shun Lw) St (mT + 100) (G ((base 23).at { tmps := #[.pointer (some ⟨p.C, 0, none⟩)] ++ Array.replicate 16 undef, defers := [] } [.code (Try.f23.body.getD .skip)]) (b₀.at a₀ (.inRegion ops₀ (i₀ :: rest₀) :: k₀) :: cs)) y := by
  intro y hF
  have hnr := hnot2
  have hne := hnot3
  have hev := ev_eql_nil p50
  have c0 := cs0 h
  have hmf := hmf2
  have hme := hmf3
  have z1 : (c.d != 0) = true := by simpa using hd
  simp only [Try.f23, Option.getD_some]
  walk_nrm
  u_c stepG_seq at_rely hF
  u_reg at_rely hF
  u_op at_rely hF
  u_c stepG_region_end at_rely hF
  u_c stepG_seq at_rely hF
  u_c stepG_seq at_rely hF
  u_reg at_rely hF
  u_op at_rely hF
  u_op at_rely hF
  u_c stepG_region_end at_rely hF
  u_cond false at_rely hF
  u_c stepG_skip at_rely hF
  u_c stepG_seq at_rely hF
  u_reg at_rely hF
  u_op at_rely hF
  u_op at_rely hF
  u_op at_rely hF
  u_op at_rely hF
  u_op at_rely hF
  u_call Try.func33 x33 Try.f33 at_rely hF
  u_c stepG_seq at_rely hF
  u_reg at_rely hF
  u_op at_rely hF
  u_op at_rely hF
  u_op at_rely hF
  u_in at_rely hF
  refine goes_call rfl rfl (by k_ne) rfl Try.func35 x35 rfl ⟨by u_nil, ?_⟩
  have hA := @boolLoad Shun Lw
  simp only [Try.f35, Option.getD_some, Array.replicate_succ, Array.replicate_zero, List.push_toArray, List.append_toArray, List.nil_append, List.cons_append] at hA
  walk_nrmf Try.f35
  refine Goes.mono (hA (mT := mT + 40) c0 hL (fun y hF => ?_) _ hF) (by omega)
  clear hA
  rw [z1]
  walk_nrm
  u_op at_rely hF
  u_c stepG_region_end at_rely hF
  u_cond false at_rely hF
  u_c stepG_skip at_rely hF
  u_c stepG_end at_rely hF
  u_leave0 Try.func33 at_rely hF
  u_c stepG_region_end at_rely hF
  u_c stepG_seq at_rely hF
  u_reg at_rely hF
  u_op at_rely hF
  u_op at_rely hF
  u_op at_rely hF
  u_in at_rely hF
  have hcl := (at_cell hF (tog.cA p 4)).trans (cs4 h)
  rw [tog.stepG_loadE (ty := 9) (by simp [tog.one]) rfl rfl (by k_ne) rfl rfl hcl tog.q23]
  simp only [goes_go]
  refine ⟨fun e he => by simp at he; subst he; exact evS_pl h4, ?_⟩
  walk_nrm
  clear hcl
  u_op at_rely hF
  u_c stepG_region_end at_rely hF
  u_c stepG_ret' at_rely hF
  u_leave1 Try.func23 at_rely hF
  exact Goes.mono (hT _ hF) (by omega)
end

/-- MemoMany's slots. -/
def S6 (n : Int) (Bv Rn C : Nat) (l x16 x34 x35 x36 : Value) (J : Nat → Value) : Array Value := #[.int .i64 n, J 1, J 2, .pointer (some ⟨Bv, 0, none⟩), .bool false, .pointer (some ⟨Rn, 0, none⟩), .pointer (some ⟨C, 0, none⟩), l, J 8, J 9, J 10, J 11, J 12, J 13, J 14, J 15, x16, J 17, J 18, J 19, J 20, J 21, J 22, J 23, J 24, J 25, J 26, J 27, J 28, J 29, J 30, J 31, J 32, J 33, x34, x35, x36, J 37, J 38, J 39, J 40, J 41, J 42, J 43, J 44, J 45, J 46, J 47, J 48, J 49, J 50, J 51, J 52, J 53, J 54]
noncomputable def body6 : Code := Try.f6.body.getD .skip
noncomputable def X6 : Code := cR (cR (cR (cR (cR body6))))
noncomputable def Y6 : Code := cR X6
noncomputable def loop6 : Code := cB (cB (cR (cL Y6)))
noncomputable def tail6 : Code := cR Y6
noncomputable def ops14 : Array Oper := opsOf (cL tail6)
theorem ord14 : orders ops14 12 (Array.replicate 12 false) = [[0, 1, 2, 3, 4, 5, 6, 7, 8, 9, 10, 11], [0, 2, 1, 3, 4, 5, 6, 7, 8, 9, 10, 11], [2, 0, 1, 3, 4, 5, 6, 7, 8, 9, 10, 11]] := by kernel_rfl
theorem q6 : (Try.prog.funcs[(base 6).fn]?).any (·.norace) = false := by kernel_rfl
theorem x13 : (Try.f13.name == "runtime.NumGoroutine") = false := by kernel_rfl
theorem x23 : (Try.f23.name == "runtime.NumGoroutine") = false := by kernel_rfl
theorem at_draw2 {W x : World} (h : Conc.AtRel W x) : Conc.AtRel W { x with drawn := x.drawn + 1 } := at_rely h ⟨_, rfl⟩
theorem run_seq9 (v : ByteArray) (w : World) : (binOp .eql 9 (.string v) (.string v)).run Try.prog w = .ok (.bool true) w := by
  unfold binOp Op.equal Op.maxDepth
  unfold Op.equalIn
  simp [go_sem, run_underlying Try.underlying9, Op.stringOp]
theorem ev_seq9 (v : ByteArray) (w : World) (es : Array Event) : (binOp .eql 9 (.string v) (.string v)).events Try.prog w es = es := by
  unfold binOp Op.equal Op.maxDepth
  unfold Op.equalIn
  simp [go_sem, run_underlying Try.underlying9, Result.evThen, Op.stringOp]
theorem run_snq9 (v : ByteArray) (w : World) : (binOp .neq 9 (.string v) (.string v)).run Try.prog w = .ok (.bool false) w := by
  unfold binOp Op.equal Op.maxDepth
  unfold Op.equalIn
  simp [go_sem, run_underlying Try.underlying9, Op.stringOp]
theorem ev_snq9 (v : ByteArray) (w : World) (es : Array Event) : (binOp .neq 9 (.string v) (.string v)).events Try.prog w es = es := by
  unfold binOp Op.equal Op.maxDepth
  unfold Op.equalIn
  simp [go_sem, run_underlying Try.underlying9, Result.evThen, Op.stringOp]

theorem run_nb4 (a b : Bool) (w : World) : (binOp .neq 4 (.bool a) (.bool b)).run Try.prog w = .ok (.bool (a != b)) w := by
  unfold binOp Op.equal Op.maxDepth
  unfold Op.equalIn
  simp [go_sem, run_underlying Try.underlying4]
  try (cases a <;> cases b <;> rfl)
theorem ev_nb4 (a b : Bool) (w : World) (es : Array Event) : (binOp .neq 4 (.bool a) (.bool b)).events Try.prog w es = es := by
  unfold binOp Op.equal Op.maxDepth
  unfold Op.equalIn
  simp [go_sem, run_underlying Try.underlying4, Result.evThen]

/-- What the last Get does: from W to X, and tells v. -/
def Gets (Shun Lw : Loc → Prop) (Stop : Goroutine → World → Prop) (kG C : Nat) (v : ByteArray) (W : World) (Q : World → Prop) : Prop := ∀ (b₀ : Frame) (a₀ : Act) (ops₀ : Array Oper) (i₀ : Nat) (rest₀ : List Nat) (k₀ : List Item) (cs : List Frame),
  (∀ X, Q X → ∀ y, Conc.AtRel X y → Goes Try.prog true Conc.AtRel (DF Shun Lw) (Fz Shun Lw Stop 2) 600 (G (b₀.at (a₀.put ((ops₀[i₀]?).bind (·.dst)) (.string v)) (.inRegion ops₀ rest₀ :: k₀)) cs) y) →
  ∀ y, Conc.AtRel W y → Goes Try.prog true Conc.AtRel (DF Shun Lw) (Fz Shun Lw Stop kG) 900 (G ((base 23).at { tmps := #[.pointer (some ⟨C, 0, none⟩)] ++ Array.replicate 16 undef, defers := [] } [.code (Try.f23.body.getD .skip)]) (b₀.at a₀ (.inRegion ops₀ (i₀ :: rest₀) :: k₀) :: cs)) y

section
variable {Shun Lw : Loc → Prop}
set_option maxRecDepth 100000 in
set_option maxHeartbeats 16000000 in
/-- The last line. -/
theorem manyTail {kG : Nat} {n : Int} {Bv Rn C : Nat} {l x16 x34 x35 x36 : Value} {v : ByteArray} {W0 W : World} {Q : World → Prop} (hG : Gets Shun Lw (AtTrue W0 Shun) kG C v W Q) (hv : W.cell? ⟨Bv, 0, none⟩ = some (.string v))
    (hMv : May Shun Lw Bv) (hMr : May Shun Lw Rn) (hQ : ∀ X, Q X → X.cell? ⟨Bv, 0, none⟩ = some (.string v) ∧ X.cell? ⟨Rn, 0, none⟩ = some (.int .i64 1) ∧ (∀ b, X.heap.size ≤ b → May Shun Lw b) ∧ OnlyT W0 X) :
    ∀ J y, Conc.AtRel W y → Goes Try.prog true Conc.AtRel (DF Shun Lw) (Fz Shun Lw (AtTrue W0 Shun) kG) 1000 (G ((base 6).at ⟨S6 n Bv Rn C l x16 x34 x35 x36 J, []⟩ [.code tail6]) []) y := by
  intro J y hF
  have hse := run_seq9 v
  have hsv := ev_seq9 v
  have ho14 := fun t => schedule_orders ops14 t
  simp only [show ops14.size = 12 from by kernel_rfl, ord14] at ho14
  simp only [ops14, tail6, Y6, X6, body6, opsOf, cL, cR, Try.f6, Option.getD_some] at ho14
  have HO := Lib.hid ho14
  clear ho14
  simp only [S6, tail6, Y6, X6, body6, cL, cR, Try.f6, Option.getD_some]
  u_c stepG_seq at_rely hF
  u_in at_rely hF
  rw [stepG_region_draw]
  simp only [goes_go]
  refine ⟨fun e he => by simp at he, ?_⟩
  replace hF := at_draw2 hF
  generalize hs : Region.schedule _ _ _ = sched
  obtain ⟨t, ht⟩ := Exists.intro (p := fun t => Region.schedule _ _ t = sched) _ hs
  have ho14 := HO.out t
  rw [ht] at ho14
  clear ht hs HO
  simp only [List.mem_cons, List.not_mem_nil, or_false] at ho14
  rcases ho14 with rfl | rfl | rfl
  · u_op at_rely hF
    u_in at_rely hF
    refine goes_call rfl rfl (by k_ne) rfl Try.func23 x23 rfl ⟨by u_nil, ?_⟩
    have hA := hG
    simp only [Gets, Try.f23, Option.getD_some, Array.replicate_succ, Array.replicate_zero, List.push_toArray, List.append_toArray, List.nil_append, List.cons_append] at hA
    walk_nrmf Try.f23
    refine Goes.mono (hA _ _ _ _ _ _ _ (fun X hX y hF => ?_) _ hF) (by omega)
    clear hA hv
    obtain ⟨hv2, hr, hMx, ho⟩ := hQ X hX
    clear hX
    have hv := hv2
    walk_nrm
    u_in at_rely hF
    refine goes_oper_k rfl rfl (by k_ne) (fun K hK => ?_)
    have hcl := free.at_cell hF
    have hfz := free.at_frozen hF
    have hsz := free.at_size hF
    go_simp
    refine hK _ _ ⟨fun e he => ?_, ?_⟩
    · (have hm := mem_listed he; simp [go_sem, storedEv, *] at hm; try (subst hm; refine free.evS_may ?_ (Eq.refl _); assumption))
    clear hK K hcl hfz hsz
    u_op at_rely hF
    u_op at_rely hF
    u_in at_rely hF
    have hcl := (at_cell hF ⟨Rn, 0, none⟩).trans hr
    rw [tog.stepG_loadE (ty := 3) (by simp [tog.one]) rfl rfl (by k_ne) rfl rfl hcl q6]
    simp only [goes_go]
    refine ⟨fun e he => by simp at he; subst he; exact evS_may hMr rfl, ?_⟩
    walk_nrm
    clear hcl
    u_op at_rely hF
    u_op at_rely hF
    u_op at_rely hF
    u_in at_rely hF
    refine goes_call rfl rfl (by k_ne) rfl Try.func13 x13 rfl ⟨by u_nil, ?_⟩
    have hA := @awakeC Shun Lw
    simp only [Try.f13, Option.getD_some, Array.replicate_succ, Array.replicate_zero, List.push_toArray, List.append_toArray, List.nil_append, List.cons_append] at hA
    walk_nrmf Try.f13
    refine Goes.mono (hA (W := X) (Stop := AtTrue W0 Shun) (m := 0) (mT := 100) hMx (fun W' hW y hF => ?_) _ hF) (by omega)
    clear hA
    have o9 := ho.trans (OnlyT.of hW)
    clear hW
    walk_nrm
    u_op at_rely hF
    u_op at_rely hF
    u_c stepG_region_end at_rely hF
    u_c stepG_ret' at_rely hF
    refine Goes.stop fun w3 h3 => ?_
    replace hF := at_rely hF h3
    clear h3
    intro d'
    refine ⟨rfl, .bool true, #[], ?_, by simp, rfl, ?_⟩
    · simp [G, stepG, unwind, doReturn, results, Frame.at, base, Try.func6, Try.f6, seen, GStep.after]
    · obtain ⟨d, rfl⟩ := hF
      exact ⟨o9.os, o9.tape, o9.output, o9.size, o9.block⟩
  · u_op at_rely hF
    u_in at_rely hF
    refine goes_oper_k rfl rfl (by k_ne) (fun K hK => ?_)
    have hcl := free.at_cell hF
    have hfz := free.at_frozen hF
    have hsz := free.at_size hF
    go_simp
    refine hK _ _ ⟨fun e he => ?_, ?_⟩
    · (have hm := mem_listed he; simp [go_sem, storedEv, *] at hm; try (subst hm; refine free.evS_may ?_ (Eq.refl _); assumption))
    clear hK K hcl hfz hsz
    u_in at_rely hF
    refine goes_call rfl rfl (by k_ne) rfl Try.func23 x23 rfl ⟨by u_nil, ?_⟩
    have hA := hG
    simp only [Gets, Try.f23, Option.getD_some, Array.replicate_succ, Array.replicate_zero, List.push_toArray, List.append_toArray, List.nil_append, List.cons_append] at hA
    walk_nrmf Try.f23
    refine Goes.mono (hA _ _ _ _ _ _ _ (fun X hX y hF => ?_) _ hF) (by omega)
    clear hA hv
    obtain ⟨hv2, hr, hMx, ho⟩ := hQ X hX
    clear hX
    have hv := hv2
    walk_nrm
    u_op at_rely hF
    u_op at_rely hF
    u_in at_rely hF
    have hcl := (at_cell hF ⟨Rn, 0, none⟩).trans hr
    rw [tog.stepG_loadE (ty := 3) (by simp [tog.one]) rfl rfl (by k_ne) rfl rfl hcl q6]
    simp only [goes_go]
    refine ⟨fun e he => by simp at he; subst he; exact evS_may hMr rfl, ?_⟩
    walk_nrm
    clear hcl
    u_op at_rely hF
    u_op at_rely hF
    u_op at_rely hF
    u_in at_rely hF
    refine goes_call rfl rfl (by k_ne) rfl Try.func13 x13 rfl ⟨by u_nil, ?_⟩
    have hA := @awakeC Shun Lw
    simp only [Try.f13, Option.getD_some, Array.replicate_succ, Array.replicate_zero, List.push_toArray, List.append_toArray, List.nil_append, List.cons_append] at hA
    walk_nrmf Try.f13
    refine Goes.mono (hA (W := X) (Stop := AtTrue W0 Shun) (m := 0) (mT := 100) hMx (fun W' hW y hF => ?_) _ hF) (by omega)
    clear hA
    have o9 := ho.trans (OnlyT.of hW)
    clear hW
    walk_nrm
    u_op at_rely hF
    u_op at_rely hF
    u_c stepG_region_end at_rely hF
    u_c stepG_ret' at_rely hF
    refine Goes.stop fun w3 h3 => ?_
    replace hF := at_rely hF h3
    clear h3
    intro d'
    refine ⟨rfl, .bool true, #[], ?_, by simp, rfl, ?_⟩
    · simp [G, stepG, unwind, doReturn, results, Frame.at, base, Try.func6, Try.f6, seen, GStep.after]
    · obtain ⟨d, rfl⟩ := hF
      exact ⟨o9.os, o9.tape, o9.output, o9.size, o9.block⟩
  · u_in at_rely hF
    refine goes_oper_k rfl rfl (by k_ne) (fun K hK => ?_)
    have hcl := free.at_cell hF
    have hfz := free.at_frozen hF
    have hsz := free.at_size hF
    go_simp
    refine hK _ _ ⟨fun e he => ?_, ?_⟩
    · (have hm := mem_listed he; simp [go_sem, storedEv, *] at hm; try (subst hm; refine free.evS_may ?_ (Eq.refl _); assumption))
    clear hK K hcl hfz hsz
    u_op at_rely hF
    u_in at_rely hF
    refine goes_call rfl rfl (by k_ne) rfl Try.func23 x23 rfl ⟨by u_nil, ?_⟩
    have hA := hG
    simp only [Gets, Try.f23, Option.getD_some, Array.replicate_succ, Array.replicate_zero, List.push_toArray, List.append_toArray, List.nil_append, List.cons_append] at hA
    walk_nrmf Try.f23
    refine Goes.mono (hA _ _ _ _ _ _ _ (fun X hX y hF => ?_) _ hF) (by omega)
    clear hA hv
    obtain ⟨hv2, hr, hMx, ho⟩ := hQ X hX
    clear hX
    have hv := hv2
    walk_nrm
    u_op at_rely hF
    u_op at_rely hF
    u_in at_rely hF
    have hcl := (at_cell hF ⟨Rn, 0, none⟩).trans hr
    rw [tog.stepG_loadE (ty := 3) (by simp [tog.one]) rfl rfl (by k_ne) rfl rfl hcl q6]
    simp only [goes_go]
    refine ⟨fun e he => by simp at he; subst he; exact evS_may hMr rfl, ?_⟩
    walk_nrm
    clear hcl
    u_op at_rely hF
    u_op at_rely hF
    u_op at_rely hF
    u_in at_rely hF
    refine goes_call rfl rfl (by k_ne) rfl Try.func13 x13 rfl ⟨by u_nil, ?_⟩
    have hA := @awakeC Shun Lw
    simp only [Try.f13, Option.getD_some, Array.replicate_succ, Array.replicate_zero, List.push_toArray, List.append_toArray, List.nil_append, List.cons_append] at hA
    walk_nrmf Try.f13
    refine Goes.mono (hA (W := X) (Stop := AtTrue W0 Shun) (m := 0) (mT := 100) hMx (fun W' hW y hF => ?_) _ hF) (by omega)
    clear hA
    have o9 := ho.trans (OnlyT.of hW)
    clear hW
    walk_nrm
    u_op at_rely hF
    u_op at_rely hF
    u_c stepG_region_end at_rely hF
    u_c stepG_ret' at_rely hF
    refine Goes.stop fun w3 h3 => ?_
    replace hF := at_rely hF h3
    clear h3
    intro d'
    refine ⟨rfl, .bool true, #[], ?_, by simp, rfl, ?_⟩
    · simp [G, stepG, unwind, doReturn, results, Frame.at, base, Try.func6, Try.f6, seen, GStep.after]
    · obtain ⟨d, rfl⟩ := hF
      exact ⟨o9.os, o9.tape, o9.output, o9.size, o9.block⟩

set_option maxRecDepth 100000 in
set_option maxHeartbeats 16000000 in
/-- The comparisons, from the loop's head. -/
theorem manyLoop {St : Goroutine → World → Prop} {n : Int} {Bv Rn C Ot N : Nat} {l x16 : Value} {v : ByteArray} {W : World} {o : Array Value} (ho : W.heap[Ot]? = some (.cells o 9)) (hsz : o.size = N) (hall : ∀ i, i < N → o[i]? = some (.string v)) (hv : W.cell? ⟨Bv, 0, none⟩ = some (.string v)) (hN : N ≤ 2000)
    (hMv : May Shun Lw Bv) (hMo : May Shun Lw Ot) {mT : Nat}
    (hT : ∀ J y, Conc.AtRel W y → Goes Try.prog true Conc.AtRel (DF Shun Lw) St mT (G ((base 6).at ⟨S6 n Bv Rn C l x16 (.slice (some ⟨Ot, 0, none⟩) N N) (.int .i64 N) (.int .i64 N) J, []⟩ [.code tail6]) []) y) :
    ∀ r i, i + r = N → ∀ J y, Conc.AtRel W y → Goes Try.prog true Conc.AtRel (DF Shun Lw) St (60 * r + 40 + mT) (G ((base 6).at ⟨S6 n Bv Rn C l x16 (.slice (some ⟨Ot, 0, none⟩) N N) (.int .i64 N) (.int .i64 i) J, []⟩ [.code loop6, .inLoop loop6, .inBlock 0, .code tail6]) []) y := by
  intro r
  induction r with
  | zero =>
    intro i hi J y hF
    obtain rfl : i = N := by omega
    have q1 : decide ((i : Int) < (i : Int)) = false := decide_eq_false (by omega)
    have hlit : ∀ g w, g = G ((base 6).at ⟨S6 n Bv Rn C l x16 (.slice (some ⟨Ot, 0, none⟩) i i) (.int .i64 i) (.int .i64 i) (fun k => g.frame.tmps.getD k undef), []⟩ [.code tail6]) [] → Conc.AtRel W w → Goes Try.prog true Conc.AtRel (DF Shun Lw) St mT g w := fun g w hg hw => by
      obtain ⟨J, rfl⟩ : ∃ J, g = G ((base 6).at ⟨S6 n Bv Rn C l x16 (.slice (some ⟨Ot, 0, none⟩) i i) (.int .i64 i) (.int .i64 i) J, []⟩ [.code tail6]) [] := ⟨_, hg⟩
      exact hT J w hw
    have HM := Lib.hid hlit
    clear hlit hT
    refine Goes.mono (n := mT + 30) ?_ (by omega)
    simp only [S6, loop6, tail6, Y6, X6, body6, cL, cR, cB, Try.f6, Option.getD_some]
    u_c stepG_seq at_rely hF
    u_reg at_rely hF
    u_op at_rely hF
    u_c stepG_region_end at_rely hF
    u_c stepG_seq at_rely hF
    u_cond false at_rely hF
    u_exit at_rely hF
    refine Goes.mono (HM.out _ _ ?_ hF) (by omega)
    simp only [S6, loop6, tail6, Y6, X6, body6, cL, cR, cB, Try.f6, Option.getD_some]
    rfl
  | succ r ih =>
    intro i hi J y hF
    have q1 : decide ((i : Int) < (N : Int)) = true := decide_eq_true (by omega)
    have q2 : decide (i < N) = true := decide_eq_true (by omega)
    have hiN : (i : Int) < N := by omega
    have hiN2 : i < N := by omega
    have hi0 : (0 : Int) ≤ i := by omega
    have ew : IntKind.i64.wrap ((i : Int) + 1) = (i : Int) + 1 := by rw [IntKind.wrap_i64]; omega
    have ec : ((i + 1 : Nat) : Int) = (i : Int) + 1 := by omega
    have hlit : ∀ g w, g = G ((base 6).at ⟨S6 n Bv Rn C l x16 (.slice (some ⟨Ot, 0, none⟩) N N) (.int .i64 N) (.int .i64 (i + 1 : Nat)) (fun k => g.frame.tmps.getD k undef), []⟩ [.code loop6, .inLoop loop6, .inBlock 0, .code tail6]) [] → Conc.AtRel W w → Goes Try.prog true Conc.AtRel (DF Shun Lw) St (60 * r + 40 + mT) g w := fun g w hg hw => by
      obtain ⟨J, rfl⟩ : ∃ J, g = G ((base 6).at ⟨S6 n Bv Rn C l x16 (.slice (some ⟨Ot, 0, none⟩) N N) (.int .i64 N) (.int .i64 (i + 1 : Nat)) J, []⟩ [.code loop6, .inLoop loop6, .inBlock 0, .code tail6]) [] := ⟨_, hg⟩
      exact ih (i + 1) (by omega) J w hw
    have HM := Lib.hid hlit
    clear hlit hT ih
    have hlt : i < o.size := by omega
    have hoi := hall i hiN2
    have hcell : W.cell? ⟨Ot, i, none⟩ = some (.string v) := by simp only [World.cell?, ho]; simpa using hoi
    clear hall
    refine Goes.mono (n := 60 * r + 40 + mT + 60) ?_ (by omega)
    simp only [S6, loop6, tail6, Y6, X6, body6, cL, cR, cB, Try.f6, Option.getD_some]
    have hnq := run_snq9 v
    have hnv := ev_snq9 v
    u_c stepG_seq at_rely hF
    u_reg at_rely hF
    u_op at_rely hF
    u_c stepG_region_end at_rely hF
    u_c stepG_seq at_rely hF
    u_cond true at_rely hF
    u_c stepG_skip at_rely hF
    u_c stepG_seq at_rely hF
    u_c stepG_block at_rely hF
    u_c stepG_seq at_rely hF
    u_reg at_rely hF
    u_op at_rely hF
    u_in at_rely hF
    refine goes_oper_k rfl rfl (by k_ne) (fun K hK => ?_)
    have hcl := free.at_cell hF
    have hfz := free.at_frozen hF
    have hsz := free.at_size hF
    go_simp
    refine hK _ _ ⟨fun e he => ?_, ?_⟩
    · (have hm := mem_listed he; simp [go_sem, storedEv, *] at hm; try (subst hm; refine free.evS_may ?_ (Eq.refl _); assumption))
    clear hK K hcl hfz hsz
    u_op at_rely hF
    u_c stepG_region_end at_rely hF
    u_c stepG_seq at_rely hF
    u_reg at_rely hF
    u_op at_rely hF
    u_in at_rely hF
    refine goes_oper_k rfl rfl (by k_ne) (fun K hK => ?_)
    have hcl := free.at_cell hF
    have hfz := free.at_frozen hF
    have hsz := free.at_size hF
    go_simp
    refine hK _ _ ⟨fun e he => ?_, ?_⟩
    · (have hm := mem_listed he; simp [go_sem, storedEv, *] at hm; try (subst hm; refine free.evS_may ?_ (Eq.refl _); assumption))
    clear hK K hcl hfz hsz
    u_op at_rely hF
    u_c stepG_region_end at_rely hF
    u_cond false at_rely hF
    u_c stepG_skip at_rely hF
    u_c stepG_inBlock at_rely hF
    u_reg at_rely hF
    u_op at_rely hF
    u_op at_rely hF
    u_c stepG_region_end at_rely hF
    u_c stepG_inLoop at_rely hF
    refine Goes.mono (HM.out _ _ ?_ hF) (by omega)
    simp only [S6, loop6, tail6, Y6, X6, body6, cL, cR, cB, Try.f6, Option.getD_some, ec, ew]
    rfl

noncomputable def ops6 : Array Oper := opsOf (cL (cR (cR (cR (cR body6)))))
set_option maxRecDepth 100000 in
set_option maxHeartbeats 16000000 in
/-- Behind Together: how many, and how often it has run; then the comparisons. -/
theorem manyChecks {St : Goroutine → World → Prop} {n : Int} {Bv Rn C Ot N : Nat} {l x34 x35 x36 : Value} {v : ByteArray} {W : World} {o : Array Value} (hn : 1 ≤ n) (eN : (if (1024 : Int) < n then (1024 : Int) else n) = N) (ho : W.heap[Ot]? = some (.cells o 9)) (hsz : o.size = N) (hall : ∀ i, i < N → o[i]? = some (.string v)) (hv : W.cell? ⟨Bv, 0, none⟩ = some (.string v)) (hr : W.cell? ⟨Rn, 0, none⟩ = some (.int .i64 1))
    (hMv : May Shun Lw Bv) (hMo : May Shun Lw Ot) (hMr : May Shun Lw Rn) {mT : Nat}
    (hT : ∀ J y, Conc.AtRel W y → Goes Try.prog true Conc.AtRel (DF Shun Lw) St mT (G ((base 6).at ⟨S6 n Bv Rn C (.slice (some ⟨Ot, 0, none⟩) N N) (.slice (some ⟨Ot, 0, none⟩) N N) (.slice (some ⟨Ot, 0, none⟩) N N) (.int .i64 N) (.int .i64 N) J, []⟩ [.code tail6]) []) y) :
    ∀ J y, Conc.AtRel W y → Goes Try.prog true Conc.AtRel (DF Shun Lw) St (60 * N + 140 + mT) (G ((base 6).at ⟨S6 n Bv Rn C l (.slice (some ⟨Ot, 0, none⟩) N N) x34 x35 x36 J, []⟩ [.inRegion ops6 [3], .code X6]) []) y := by
  intro J y hF
  have hmi := ev_min
  have hma := ev_max
  have e2 : (if (0 : Int) < (N : Int) then (N : Int) else 0) = N := by split <;> omega
  have e3 : (if 0 < N then (N : Int) else 0) = N := by split <;> omega
  have e4 : ((N : Int) != (N : Int)) = false := by simp
  have hnr := run_nb4
  have hne := ev_nb4
  have p1 : decide (0 < n) = true := decide_eq_true (by omega)
  have hL := manyLoop (n := n) (Bv := Bv) (Rn := Rn) (C := C) (l := .slice (some ⟨Ot, 0, none⟩) N N) (x16 := .slice (some ⟨Ot, 0, none⟩) N N) ho hsz hall hv (by omega) hMv hMo hT N 0 (by omega)
  have hlit : ∀ g w, g = G ((base 6).at ⟨S6 n Bv Rn C (.slice (some ⟨Ot, 0, none⟩) N N) (.slice (some ⟨Ot, 0, none⟩) N N) (.slice (some ⟨Ot, 0, none⟩) N N) (.int .i64 N) (.int .i64 (0 : Nat)) (fun k => g.frame.tmps.getD k undef), []⟩ [.code loop6, .inLoop loop6, .inBlock 0, .code tail6]) [] → Conc.AtRel W w → Goes Try.prog true Conc.AtRel (DF Shun Lw) St (60 * N + 40 + mT) g w := fun g w hg hw => by
    obtain ⟨J, rfl⟩ : ∃ J, g = G ((base 6).at ⟨S6 n Bv Rn C (.slice (some ⟨Ot, 0, none⟩) N N) (.slice (some ⟨Ot, 0, none⟩) N N) (.slice (some ⟨Ot, 0, none⟩) N N) (.int .i64 N) (.int .i64 (0 : Nat)) J, []⟩ [.code loop6, .inLoop loop6, .inBlock 0, .code tail6]) [] := ⟨_, hg⟩
    exact hL J w hw
  have HM := Lib.hid hlit
  clear hlit hL hT hall
  refine Goes.mono (n := 60 * N + 40 + mT + 100) ?_ (by omega)
  simp only [S6, ops6, loop6, tail6, Y6, X6, body6, opsOf, cL, cR, cB, Try.f6, Option.getD_some]
  u_op at_rely hF
  u_c stepG_region_end at_rely hF
  u_c stepG_seq at_rely hF
  u_c stepG_seq at_rely hF
  u_reg at_rely hF
  u_op at_rely hF
  u_op at_rely hF
  u_op at_rely hF
  u_op at_rely hF
  u_op at_rely hF
  u_op at_rely hF
  u_op at_rely hF
  u_in at_rely hF
  have hcl := (at_cell hF ⟨Rn, 0, none⟩).trans hr
  rw [tog.stepG_loadE (ty := 3) (by simp [tog.one]) rfl rfl (by k_ne) rfl rfl hcl q6]
  simp only [goes_go]
  refine ⟨fun e he => by simp at he; subst he; exact evS_may hMr rfl, ?_⟩
  walk_nrm
  clear hcl
  u_op at_rely hF
  u_op at_rely hF
  u_op at_rely hF
  u_op at_rely hF
  u_op at_rely hF
  u_op at_rely hF
  u_in at_rely hF
  have hcl := (at_cell hF ⟨Rn, 0, none⟩).trans hr
  rw [tog.stepG_loadE (ty := 3) (by simp [tog.one]) rfl rfl (by k_ne) rfl rfl hcl q6]
  simp only [goes_go]
  refine ⟨fun e he => by simp at he; subst he; exact evS_may hMr rfl, ?_⟩
  walk_nrm
  clear hcl
  u_op at_rely hF
  u_op at_rely hF
  u_c stepG_region_end at_rely hF
  u_cond false at_rely hF
  u_c stepG_skip at_rely hF
  u_c stepG_seq at_rely hF
  u_c stepG_seq at_rely hF
  u_reg at_rely hF
  u_op at_rely hF
  u_op at_rely hF
  u_op at_rely hF
  u_c stepG_region_end at_rely hF
  u_c stepG_block at_rely hF
  u_c stepG_loop at_rely hF
  refine Goes.mono (HM.out _ _ ?_ hF) (by omega)
  simp only [S6, loop6, tail6, Y6, X6, body6, cL, cR, cB, Try.f6, Option.getD_some]
  rfl
end
end Go.Proofs.Ytdkbkocklnnmdaa.many
