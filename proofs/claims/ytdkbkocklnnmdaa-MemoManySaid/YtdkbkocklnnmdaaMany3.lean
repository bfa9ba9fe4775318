/-
  MemoMany where nobody asks, from its entry to its return. Conditions: those that the theorems name.
-/
import Derived.Test.YtdkbkocklnnmdaaMany2
set_option linter.unusedSimpArgs false
set_option linter.unusedVariables false
namespace Go.Proofs.Ytdkbkocklnnmdaa.many
open Go Go.Conc Go.RowKit Go.ConcR.Gen Go.ConcN.Gen Go.Proofs.Ytdkbkocklnnmdaa.crew Go.Proofs.Ytdkbkocklnnmdaa.wg Go.Proofs.Ytdkbkocklnnmdaa.free
open Go.Proofs.Ytdkbkocklnnmdaa.kid (opsOf cL cR cB hmf2 hmf3)
open Go.Proofs.Ytdkbkocklnnmdaa.tog (Tp Cs AtCs cblk p50 cs0 cs1 cs3 cs4 cs5 cs6 csz set0 set1 set4 set5 set6 Atom ops47 ord47 x47 x21 x82 q47 q21 q82 q23 body82)
open Go.ConcX.Gen (setCell_at alloc_at)

section
variable {Stop : Goroutine → World → Prop}
set_option maxRecDepth 100000 in
set_option maxHeartbeats 16000000 in
/-- Get, asked first. -/
theorem getFirst {p : Tp} {c : Cs} {Bv : Nat} {v : ByteArray} {W0 W : World} (ho : OnlyT W0 W) (hC0 : W0.heap.size ≤ p.C) (hR0 : W0.heap.size ≤ p.Rn) (h : AtCs p c W) (hd : c.d = 0) (hm : c.m = ⟨0, 0, 0, 0⟩) (hr0 : c.r = 0) (hfC : p.fC = .func (.func 21) #[] #[.pointer (some ⟨p.Rn, 0, none⟩), .pointer (some ⟨Bv, 0, none⟩)]) (hcr : p.C ≠ p.Rn) (hcv : p.C ≠ Bv) (hrv : p.Rn ≠ Bv) (hr : W.heap[p.Rn]? = some (.cells #[.int .i64 0] 3)) (hv : W.heap[Bv]? = some (.cells #[.string v] 9)) :
    Gets NoS AllL Stop 4 p.C v W (fun X => OnlyT W0 X ∧ X.heap[p.Rn]? = some (.cells #[.int .i64 1] 3) ∧ X.heap[Bv]? = some (.cells #[.string v] 9)) := by
  intro b₀ a₀ ops₀ i₀ rest₀ k₀ cs hT y hF
  have hMC := may_all p.C
  have hnr := hnot2
  have hne := hnot3
  have hev := ev_eql_nil p50
  have c0 : W.cell? (tog.cA p 0) = some (.int .u32 0) := by have := cs0 h; rw [hd] at this; exact this
  have c1 : W.cell? (tog.cA p 1) = some (.int .i32 0) := by have := cs1 h; rw [hm] at this; exact this
  have z1 := csz h 1
  have e1 : AtCs p { c with m := ⟨1, 0, 0, 0⟩ } (W.setCell (tog.cA p 1) (.int .i32 1)) := set1 h ⟨1, 0, 0, 0⟩
  have A1 := aside_setCell W (tog.cA p 1) (.int .i32 1)
  have o1 := ho.aside (ad := tog.cA p 1) (v := .int .i32 1) hC0
  have r1 := (A1.block p.Rn (fun e => hcr e.symm)).trans hr
  have v1 := (A1.block Bv (fun e => hcv e.symm)).trans hv
  have hmf := hmf2
  have hme := hmf3
  simp only [Try.f23, Option.getD_some]
  walk_nrm
  u_c stepG_seq at_rely hF
  u_reg at_rely hF
  u_op at_rely hF
  u_c stepG_region_end at_rely hF
  u_c stepG_seq at_rely hF
  u_c stepG_seq at_rely hF
  u_reg at_rely hF
  u_op at_rely hF
  u_op at_rely hF
  u_c stepG_region_end at_rely hF
  u_cond false at_rely hF
  u_c stepG_skip at_rely hF
  u_c stepG_seq at_rely hF
  u_reg at_rely hF
  u_op at_rely hF
  u_op at_rely hF
  u_op at_rely hF
  u_op at_rely hF
  u_op at_rely hF
  u_call Try.func33 x33 Try.f33 at_rely hF
  u_c stepG_seq at_rely hF
  u_reg at_rely hF
  u_op at_rely hF
  u_op at_rely hF
  u_op at_rely hF
  u_in at_rely hF
  refine goes_call rfl rfl (by k_ne) rfl Try.func35 x35 rfl ⟨by u_nil, ?_⟩
  have hA := @boolLoad NoS AllL
  simp only [Try.f35, Option.getD_some, Array.replicate_succ, Array.replicate_zero, List.push_toArray, List.append_toArray, List.nil_append, List.cons_append] at hA
  walk_nrmf Try.f35
  refine Goes.mono (hA (mT := 120) c0 trivial (fun y hF => ?_) _ hF) (by omega)
  clear hA
  walk_nrm
  u_op at_rely hF
  u_c stepG_region_end at_rely hF
  u_cond true at_rely hF
  u_reg at_rely hF
  u_op at_rely hF
  u_op at_rely hF
  u_call Try.func55 x55 Try.f55 at_rely hF
  u_c stepG_seq at_rely hF
  u_reg at_rely hF
  u_op at_rely hF
  u_op at_rely hF
  u_op at_rely hF
  u_in at_rely hF
  refine goes_call rfl rfl (by k_ne) rfl Try.func84 x84 rfl ⟨by u_nil, ?_⟩
  have hA := @lockC NoS AllL Stop (2 + 1)
  simp only [Try.f84, Option.getD_some, Array.replicate_succ, Array.replicate_zero, List.push_toArray, List.append_toArray, List.nil_append, List.cons_append] at hA
  walk_nrmf Try.f84
  refine Goes.mono (hA (mT := 800) c1 z1 (cs1 e1) trivial (fun y hF => ?_) _ hF) (by omega)
  clear hA c0 c1 z1 A1
  generalize W.setCell (tog.cA p 1) (.int .i32 1) = W1 at hF e1 o1 r1 v1
  have c0 : W1.cell? (tog.cA p 0) = some (.int .u32 0) := by have := cs0 e1; rw [hd] at this; exact this
  walk_nrm
  u_c stepG_region_end at_rely hF
  u_c stepG_seq at_rely hF
  u_reg at_rely hF
  u_op at_rely hF
  u_op at_rely hF
  u_op at_rely hF
  u_defer at_rely hF
  u_c stepG_region_end at_rely hF
  u_c stepG_seq at_rely hF
  u_reg at_rely hF
  u_op at_rely hF
  u_op at_rely hF
  u_op at_rely hF
  u_in at_rely hF
  refine goes_call rfl rfl (by k_ne) rfl Try.func35 x35 rfl ⟨by u_nil, ?_⟩
  have hA := @boolLoad NoS AllL
  simp only [Try.f35, Option.getD_some, Array.replicate_succ, Array.replicate_zero, List.push_toArray, List.append_toArray, List.nil_append, List.cons_append] at hA
  walk_nrmf Try.f35
  refine Goes.mono (hA (mT := 600) c0 trivial (fun y hF => ?_) _ hF) (by omega)
  clear hA
  walk_nrm
  u_op at_rely hF
  u_c stepG_region_end at_rely hF
  u_cond true at_rely hF
  u_c stepG_seq at_rely hF
  u_reg at_rely hF
  u_op at_rely hF
  u_op at_rely hF
  u_op at_rely hF
  u_defer at_rely hF
  u_c stepG_region_end at_rely hF
  u_reg at_rely hF
  u_op at_rely hF
  u_in at_rely hF
  refine goes_callv rfl rfl (by k_ne) rfl rfl Try.func47 x47 rfl ⟨by u_nil, ?_⟩
  have hA := @runN
  simp only [Try.f47, Option.getD_some, Array.replicate_succ, Array.replicate_zero, List.push_toArray, List.append_toArray, List.nil_append, List.cons_append] at hA
  walk_nrmf Try.f47
  refine Goes.mono (hA (mT := 200) o1 hC0 hR0 e1 hr0 hfC hcr hcv hrv r1 v1 (fun X oX eX rX vX y hF => ?_) _ hF) (by omega)
  clear hA c0 e1 o1 r1 v1
  walk_nrm
  u_c stepG_region_end at_rely hF
  u_c stepG_end at_rely hF
  have c0 := cs0 eX
  have z0 := csz eX 0
  have e2 := set0 eX 1
  have A2 := aside_setCell X (tog.cA p 0) (.int .u32 1)
  have o2 := oX.aside (ad := tog.cA p 0) (v := .int .u32 1) hC0
  have r2 := (A2.block p.Rn (fun e => hcr e.symm)).trans rX
  have v2 := (A2.block Bv (fun e => hcv e.symm)).trans vX
  u_in at_rely hF
  rw [stepG_unwind_enter rfl Try.func57 x57 rfl]
  simp only [goes_go]
  refine ⟨by u_nil, ?_⟩
  have hA := @storeD NoS AllL
  simp only [Try.f57, Option.getD_some, Array.replicate_succ, Array.replicate_zero, List.push_toArray, List.append_toArray, List.nil_append, List.cons_append] at hA
  walk_nrmf Try.f57
  refine Goes.mono (hA (mT := 100) rfl c0 z0 trivial (fun y hF => ?_) _ hF) (by omega)
  clear hA c0 z0 A2 eX oX rX vX
  generalize X.setCell (tog.cA p 0) (.int .u32 1) = W2 at hF e2 o2 r2 v2
  have c1 := cs1 e2
  have z1 := csz e2 1
  have e3 := set1 e2 ⟨0, 0, 0, 0⟩
  have A3 := aside_setCell W2 (tog.cA p 1) (.int .i32 0)
  have o3 := o2.aside (ad := tog.cA p 1) (v := .int .i32 0) hC0
  have r3 := (A3.block p.Rn (fun e => hcr e.symm)).trans r2
  have v3 := (A3.block Bv (fun e => hcv e.symm)).trans v2
  u_in at_rely hF
  rw [stepG_unwind_enter rfl Try.func85 x85 rfl]
  simp only [goes_go]
  refine ⟨by u_nil, ?_⟩
  have hA := @unlockD NoS AllL Stop 2
  simp only [Try.f85, Option.getD_some, Array.replicate_succ, Array.replicate_zero, List.push_toArray, List.append_toArray, List.nil_append, List.cons_append] at hA
  walk_nrmf Try.f85
  refine Goes.mono (hA (a := tog.cA p 1) (mT := 700) rfl c1 z1 hMC (fun y hF => ?_) _ hF) (by omega)
  clear hA c1 z1 A3
  replace e3 : AtCs p _ (W2.setCell (tog.cA p 1) (.int .i32 0)) := e3
  have hQ := hT _ ⟨o3, r3, v3⟩
  generalize W2.setCell (tog.cA p 1) (.int .i32 0) = W3 at hF e3 hQ
  have c4 := cs4 e3
  u_leave0 Try.func55 at_rely hF
  u_c stepG_region_end at_rely hF
  u_c stepG_end at_rely hF
  u_leave0 Try.func33 at_rely hF
  u_c stepG_region_end at_rely hF
  u_c stepG_seq at_rely hF
  u_reg at_rely hF
  u_op at_rely hF
  u_op at_rely hF
  u_op at_rely hF
  u_in at_rely hF
  have hcl := (at_cell hF (tog.cA p 4)).trans c4
  rw [tog.stepG_loadE (ty := 9) (by simp [tog.one]) rfl rfl (by k_ne) rfl rfl hcl q23]
  simp only [goes_go]
  refine ⟨evS_all, ?_⟩
  walk_nrm
  clear hcl
  u_op at_rely hF
  u_c stepG_region_end at_rely hF
  u_c stepG_ret' at_rely hF
  u_leave1 Try.func23 at_rely hF
  exact Goes.mono (hQ _ hF) (by omega)
end

section
variable {Shun Lw : Loc → Prop}
set_option maxRecDepth 100000 in
set_option maxHeartbeats 16000000 in
/-- Behind Together that nobody asked for. -/
theorem manyNone {St : Goroutine → World → Prop} {n : Int} {Bv Rn C : Nat} {l x34 x35 x36 : Value} {W : World} (hn : ¬ 1 ≤ n) (hr : W.cell? ⟨Rn, 0, none⟩ = some (.int .i64 0)) (hMr : May Shun Lw Rn) {mT : Nat}
    (hT : ∀ J y, Conc.AtRel W y → Goes Try.prog true Conc.AtRel (DF Shun Lw) St mT (G ((base 6).at ⟨S6 n Bv Rn C (.slice none 0 0) (.slice none 0 0) (.slice none 0 0) (.int .i64 0) (.int .i64 0) J, []⟩ [.code tail6]) []) y) :
    ∀ J y, Conc.AtRel W y → Goes Try.prog true Conc.AtRel (DF Shun Lw) St (200 + mT) (G ((base 6).at ⟨S6 n Bv Rn C l (.slice none 0 0) x34 x35 x36 J, []⟩ [.inRegion ops6 [3], .code X6]) []) y := by
  intro J y hF
  have hmi := ev_min
  have hma := ev_max
  have eN : (if (1024 : Int) < n then (1024 : Int) else n) = n := by split <;> omega
  have e2 : (if (0 : Int) < n then n else 0) = 0 := by split <;> omega
  have hnr := run_nb4
  have hne := ev_nb4
  have p1 : decide (0 < n) = false := decide_eq_false (by omega)
  have q1 : decide ((0 : Int) < 0) = false := by decide
  have hlit : ∀ g w, g = G ((base 6).at ⟨S6 n Bv Rn C (.slice none 0 0) (.slice none 0 0) (.slice none 0 0) (.int .i64 0) (.int .i64 0) (fun k => g.frame.tmps.getD k undef), []⟩ [.code tail6]) [] → Conc.AtRel W w → Goes Try.prog true Conc.AtRel (DF Shun Lw) St mT g w := fun g w hg hw => by
    obtain ⟨J, rfl⟩ : ∃ J, g = G ((base 6).at ⟨S6 n Bv Rn C (.slice none 0 0) (.slice none 0 0) (.slice none 0 0) (.int .i64 0) (.int .i64 0) J, []⟩ [.code tail6]) [] := ⟨_, hg⟩
    exact hT J w hw
  have HM := Lib.hid hlit
  clear hlit hT
  refine Goes.mono (n := mT + 200) ?_ (by omega)
  simp only [S6, ops6, loop6, tail6, Y6, X6, body6, opsOf, cL, cR, cB, Try.f6, Option.getD_some]
  u_op at_rely hF
  u_c stepG_region_end at_rely hF
  u_c stepG_seq at_rely hF
  u_c stepG_seq at_rely hF
  u_reg at_rely hF
  u_op at_rely hF
  u_op at_rely hF
  u_op at_rely hF
  u_op at_rely hF
  u_op at_rely hF
  u_op at_rely hF
  u_op at_rely hF
  u_in at_rely hF
  have hcl := (at_cell hF ⟨Rn, 0, none⟩).trans hr
  rw [tog.stepG_loadE (ty := 3) (by simp [tog.one]) rfl rfl (by k_ne) rfl rfl hcl q6]
  simp only [goes_go]
  refine ⟨fun e he => by simp at he; subst he; exact evS_may hMr rfl, ?_⟩
  walk_nrm
  clear hcl
  u_op at_rely hF
  u_op at_rely hF
  u_op at_rely hF
  u_op at_rely hF
  u_op at_rely hF
  u_op at_rely hF
  u_in at_rely hF
  have hcl := (at_cell hF ⟨Rn, 0, none⟩).trans hr
  rw [tog.stepG_loadE (ty := 3) (by simp [tog.one]) rfl rfl (by k_ne) rfl rfl hcl q6]
  simp only [goes_go]
  refine ⟨fun e he => by simp at he; subst he; exact evS_may hMr rfl, ?_⟩
  walk_nrm
  clear hcl
  u_op at_rely hF
  u_op at_rely hF
  u_c stepG_region_end at_rely hF
  u_cond false at_rely hF
  u_c stepG_skip at_rely hF
  u_c stepG_seq at_rely hF
  u_c stepG_seq at_rely hF
  u_reg at_rely hF
  u_op at_rely hF
  u_op at_rely hF
  u_op at_rely hF
  u_c stepG_region_end at_rely hF
  u_c stepG_block at_rely hF
  u_c stepG_loop at_rely hF
  u_c stepG_seq at_rely hF
  u_reg at_rely hF
  u_op at_rely hF
  u_c stepG_region_end at_rely hF
  u_c stepG_seq at_rely hF
  u_cond false at_rely hF
  u_exit at_rely hF
  refine Goes.mono (HM.out _ _ ?_ hF) (by omega)
  simp only [S6, loop6, tail6, Y6, X6, body6, cL, cR, cB, Try.f6, Option.getD_some]
  rfl

set_option maxRecDepth 100000 in
set_option maxHeartbeats 16000000 in
/-- Together that nobody asks for. -/
theorem togNone {St : Goroutine → World → Prop} {C : Nat} {n : Int} {W : World} {b₀ : Frame} {a₀ : Act} {ops₀ : Array Oper} {i₀ : Nat} {rest₀ : List Nat} {k₀ : List Item} {cs : List Frame} {mT : Nat} (hn : ¬ 1 ≤ n) (hM : May Shun Lw W.heap.size)
    (hT : ∀ y, Conc.AtRel (W.alloc (.cells #[.pointer (some ⟨C, 0, none⟩)] 50)) y → Goes Try.prog true Conc.AtRel (DF Shun Lw) St mT (G (b₀.at (a₀.put ((ops₀[i₀]?).bind (·.dst)) (.slice none 0 0)) (.inRegion ops₀ rest₀ :: k₀)) cs) y) :
    ∀ y, Conc.AtRel W y → Goes Try.prog true Conc.AtRel (DF Shun Lw) St (mT + 60)
      (G ((base 22).at { tmps := #[.pointer (some ⟨C, 0, none⟩), .int .i64 n] ++ Array.replicate 25 undef, defers := [] } [.code (Try.f22.body.getD .skip)]) (b₀.at a₀ (.inRegion ops₀ (i₀ :: rest₀) :: k₀) :: cs)) y := by
  intro y hF
  have hep := ev_eql_nil p50
  have q1 : decide (n < 1) = true := decide_eq_true (by omega)
  have c1 : (W.alloc (.cells #[.pointer (some ⟨C, 0, none⟩)] 50)).cell? ⟨W.heap.size, 0, none⟩ = some (.pointer (some ⟨C, 0, none⟩)) := cell_of_one (box_new _ _)
  simp only [Try.f22, Option.getD_some]
  walk_nrm
  u_c stepG_seq at_rely hF
  u_reg at_rely hF
  u_in at_rely hF
  refine goes_oper_k rfl rfl (by k_ne) (fun K hK => ?_)
  have hcl := free.at_cell hF
  have hfz := free.at_frozen hF
  have hsz := free.at_size hF
  go_simp
  refine hK _ _ ⟨fun e he => ?_, ?_⟩
  · (have hm := mem_listed he; simp [go_sem, storedEv, *] at hm; try (subst hm; refine free.evS_may ?_ (Eq.refl _); assumption))
  clear hK K hcl hfz hsz
  refine free.next_alloc hF (fun _ hF => ?_)
  u_op at_rely hF
  u_c stepG_region_end at_rely hF
  u_c stepG_seq at_rely hF
  u_c stepG_seq at_rely hF
  u_reg at_rely hF
  u_in at_rely hF
  refine goes_oper_k rfl rfl (by k_ne) (fun K hK => ?_)
  have hcl := free.at_cell hF
  have hfz := free.at_frozen hF
  have hsz := free.at_size hF
  go_simp
  refine hK _ _ ⟨fun e he => ?_, ?_⟩
  · (have hm := mem_listed he; simp [go_sem, storedEv, *] at hm; try (subst hm; refine free.evS_may ?_ (Eq.refl _); assumption))
  clear hK K hcl hfz hsz
  u_op at_rely hF
  u_op at_rely hF
  u_op at_rely hF
  u_op at_rely hF
  u_op at_rely hF
  u_c stepG_region_end at_rely hF
  u_cond true at_rely hF
  u_c stepG_seq at_rely hF
  u_reg at_rely hF
  u_op at_rely hF
  u_c stepG_region_end at_rely hF
  u_c stepG_ret' at_rely hF
  u_leave1 Try.func22 at_rely hF
  exact Goes.mono (hT _ hF) (by omega)
end

section
variable {W0 : World} {n : Int} {v : ByteArray}
set_option maxRecDepth 100000 in
set_option maxHeartbeats 16000000 in
/-- MemoMany where nobody asks. -/
theorem walkB {n' : Int} (hn0 : (if (3000 : Int) < n then (3000 : Int) else n) = n') (hn : ¬ 1 ≤ n') :
    ∀ y, Conc.AtRel W0 y → Goes Try.prog true Conc.AtRel (DF NoS AllL) (Fz NoS AllL (AtTrue W0 NoS) 4) 2000
      (G ((base 6).at { tmps := #[.int .i64 n, .string v] ++ Array.replicate 53 undef, defers := [] } [.code (Try.f6.body.getD .skip)]) []) y := by
  intro y hF
  refine Goes.mono (manyEnter (mT := 1300) (fun b _ => may_all b) hn0 (fun W P g hg y hF => ?_) y hF) (by omega)
  obtain ⟨J0, rfl⟩ : ∃ J, g = G ((base 22).at { tmps := #[.pointer (some ⟨W0.heap.size + 2, 0, none⟩), .int .i64 n'] ++ Array.replicate 25 undef, defers := [] } [.code (Try.f22.body.getD .skip)])
      ((base 6).at ⟨S6 n' W0.heap.size (W0.heap.size + 1) (W0.heap.size + 2) undef undef undef undef undef J, []⟩ [.inRegion ops6 [2, 3], .code X6] :: []) := ⟨_, hg⟩
  clear hg
  have ho : OnlyT W0 (W.alloc (.cells #[.pointer (some ⟨W0.heap.size + 2, 0, none⟩)] 50)) := P.only.trans (OnlyT.of ((Only.refl _ W).alloc _))
  have bv := box_old (x := .cells #[.pointer (some ⟨W0.heap.size + 2, 0, none⟩)] 50) P.bv
  have rn := box_old (x := .cells #[.pointer (some ⟨W0.heap.size + 2, 0, none⟩)] 50) P.rn
  have cs : AtCs (tp W0.heap.size v) c0 (W.alloc (.cells #[.pointer (some ⟨W0.heap.size + 2, 0, none⟩)] 50)) := box_old (show W.heap[W0.heap.size + 2]? = _ from P.cs)
  refine Goes.mono (togNone (mT := 1200) hn (may_all _) (fun y hF => ?_) y hF) (by omega)
  generalize W.alloc (.cells #[.pointer (some ⟨W0.heap.size + 2, 0, none⟩)] 50) = W1 at hF ho bv rn cs
  rw [callers_put (b := default) (T := #[])]
  have hG := getFirst (Stop := AtTrue W0 NoS) ho (by simp only [tp]; omega) (by simp only [tp]; omega) cs rfl rfl rfl rfl (by simp only [tp]; omega) (by simp only [tp]; omega) (by simp only [tp]; omega) rn bv
  have hfin := manyTail (n := n') (Bv := W0.heap.size) (Rn := W0.heap.size + 1) (C := W0.heap.size + 2) (l := .slice none 0 0) (x16 := .slice none 0 0) (x34 := .slice none 0 0) (x35 := .int .i64 0) (x36 := .int .i64 0) hG (cell_of_one bv) (may_all _) (may_all _) (fun X hX => ⟨cell_of_one hX.2.2, cell_of_one hX.2.1, fun b _ => may_all b, hX.1⟩)
  exact manyNone (mT := 1000) (l := undef) (x34 := undef) (x35 := undef) (x36 := undef) hn (cell_of_one rn) (may_all _) hfin J0 y hF
end
end Go.Proofs.Ytdkbkocklnnmdaa.many
