/-
  MemoNone, beside goroutines that only leave: it returns true. No condition.
-/
import Derived.Test.YtdkbkocklnnmdaaFreeAwake
import Derived.Test.YtdkbkocklnnmdaaFreeTail
set_option linter.unusedSimpArgs false
set_option linter.unusedVariables false
namespace Go.Proofs.Ytdkbkocklnnmdaa.none
open Go Go.Conc Go.RowKit Go.ConcR.Gen Go.ConcN.Gen Go.Proofs.Ytdkbkocklnnmdaa.crew Go.Proofs.Ytdkbkocklnnmdaa.kid Go.Proofs.Ytdkbkocklnnmdaa.wg Go.Proofs.Ytdkbkocklnnmdaa.free
open Go.ConcX.Gen (setCell_at alloc_at)
open Go.ConcR (WgAt)

/-- A cell in a block below s. -/
def Low (s : Nat) : Loc → Prop := fun l => ∃ a : Addr, l = .cell a ∧ a.block < s
/-- A cell of block s. -/
def Of (s : Nat) : Loc → Prop := fun l => ∃ a : Addr, l = .cell a ∧ a.block = s

theorem x26 : (Try.f26.name == "runtime.NumGoroutine") = false := by kernel_rfl

theorem x28 : (Try.f28.name == "runtime.NumGoroutine") = false := by kernel_rfl
theorem x29 : (Try.f29.name == "runtime.NumGoroutine") = false := by kernel_rfl
theorem x30 : (Try.f30.name == "runtime.NumGoroutine") = false := by kernel_rfl
theorem x52 : (Try.f52.name == "runtime.NumGoroutine") = false := by kernel_rfl
theorem x23 : (Try.f23.name == "runtime.NumGoroutine") = false := by kernel_rfl
theorem x31 : (Try.f31.name == "runtime.NumGoroutine") = false := by kernel_rfl
theorem x32 : (Try.f32.name == "runtime.NumGoroutine") = false := by kernel_rfl
theorem x22 : (Try.f22.name == "runtime.NumGoroutine") = false := by kernel_rfl
theorem p69 : Try.prog.underlying 69 = some (.pointer (Try.prog.pointee 69)) := by kernel_rfl
theorem p100 : Try.prog.underlying 100 = some (.pointer (Try.prog.pointee 100)) := by kernel_rfl
theorem p50 : Try.prog.underlying 50 = some (.pointer (Try.prog.pointee 50)) := by kernel_rfl
theorem rm_only {W X w' : World} {Wg Cn : Nat} (h : Only (fun _ => False) W X) (hr : Rm Wg Cn X w') (h1 : W.heap.size ≤ Wg) (h2 : W.heap.size ≤ Cn) : Only (fun _ => False) W w' :=
  ⟨hr.os.trans h.os, hr.tape.trans h.tape, hr.output.trans h.output, by rw [hr.size]; exact h.size, fun b hb hs => (hr.blocks b (by omega) (by omega)).trans (h.block b hb hs)⟩
theorem cw_old {W : World} {cv : Value} {bv : Int} {b : Nat} {o : Obj} (h : W.heap[b]? = some o) : (crowdWorld W cv bv).heap[b]? = some o := box_old (box_old (box_old h))
theorem cw_only {W0 W : World} {cv : Value} {bv : Int} (h : Only (fun _ => False) W0 W) : Only (fun _ => False) W0 (crowdWorld W cv bv) := ((h.alloc _).alloc _).alloc _
theorem cell_blk {w w' : World} {b i : Nat} {v : Value} (h : w'.heap[b]? = w.heap[b]?) (hc : w.cell? ⟨b, i, none⟩ = some v) : w'.cell? ⟨b, i, none⟩ = some v := by simp only [World.cell?, h]; exact hc
def Of2 (s r : Nat) : Loc → Prop := fun l => Of s l ∨ Of r l
/-- The return of true. -/
def AtTrue (W : World) (Shun : Loc → Prop) : Goroutine → World → Prop := fun g w => ∀ d, AtEnd Try.prog Shun 0 (fun v w => v = .bool true ∧ Only (fun _ => False) W w) g (w.at d)
def Stop2 (W : World) (n50 : Int) : Goroutine → World → Prop := AtCrowd (Of (W.heap.size + 5)) (Low (W.heap.size + 11)) (Of2 (W.heap.size + 5) (W.heap.size + 11)) (fun _ => True) n50.toNat (AtTrue W (Of2 (W.heap.size + 5) (W.heap.size + 11))) 2
def Stop1 (W : World) (n50 : Int) : Goroutine → World → Prop := AtCrowd (fun _ => False) (Low (W.heap.size + 5)) (Of (W.heap.size + 5)) (Low (W.heap.size + 11)) 0 (Stop2 W n50) 0
set_option maxRecDepth 100000 in
set_option maxHeartbeats 64000000 in
theorem walk1 {W : World} {n bv v n1 n50 : Int} (h1 : n1 ≤ 0) (e41 : (if (0 : Int) < n then (0 : Int) else n) = n1) (e50 : (if (50 : Int) < n then (50 : Int) else n) = n50) (h50 : n50 ≤ 50) :
    ∀ y, Conc.AtRel W y → Goes Try.prog true Conc.AtRel (DF (fun _ => False) (Low (W.heap.size + 5))) (Fz (fun _ => False) (Low (W.heap.size + 5)) (Stop1 W n50) 2) 1000
      (G ((base 8).at { tmps := #[.int .i64 n, .int .i64 bv, .int .i64 v] ++ Array.replicate 120 undef, defers := [] } [.code (Try.f8.body.getD .skip)]) []) y := by
  intro y hF
  have hM : ∀ b, b < W.heap.size + 5 → May (fun _ => False) (Low (W.heap.size + 5)) b := fun b hb a ha => ⟨fun h => h, a, rfl, by omega⟩
  have hM0 := hM W.heap.size (by omega)
  have hep := ev_eql_nil p24
  have hnr := hnot2
  have hne := hnot3
  simp only [Try.f8, Option.getD_some]
  walk_nrm
  u_c stepG_seq at_rely hF
  u_reg at_rely hF
  u_op at_rely hF
  u_c stepG_region_end at_rely hF
  u_c stepG_seq at_rely hF
  u_reg at_rely hF
  u_in at_rely hF
  refine goes_call rfl rfl (by k_ne) rfl Try.func9 x9 rfl ⟨by u_nil, ?_⟩
  have hA := @newC (fun _ => False) (Low (W.heap.size + 5))
  simp only [Try.f9, Option.getD_some, Array.replicate_succ, Array.replicate_zero, List.push_toArray, List.append_toArray, List.nil_append, List.cons_append] at hA
  walk_nrmf Try.f9
  refine Goes.mono (hA (mT := 950) (.inl rfl) hM0 (fun y hF => ?_) _ hF) (by omega)
  clear hA
  have h0 := box_new W (blk 0 0 .nilFunc 0 0 0)
  have o0 : Only (fun _ => False) W (W.alloc (blk 0 0 .nilFunc 0 0 0)) := (Only.refl _ W).alloc _
  have hsz : (W.alloc (blk 0 0 .nilFunc 0 0 0)).heap.size = W.heap.size + 1 := by simp
  generalize hW0 : W.alloc (blk 0 0 .nilFunc 0 0 0) = W0 at hF h0 o0 hsz
  clear hW0
  have H0 := Lib.hid h0; have O0 := Lib.hid o0; have HZ := Lib.hid hsz; clear h0 o0 hsz
  walk_nrm
  u_op at_rely hF
  u_c stepG_region_end at_rely hF
  u_c stepG_seq at_rely hF
  u_c stepG_seq at_rely hF
  u_reg at_rely hF
  u_op at_rely hF
  u_op at_rely hF
  u_op at_rely hF
  u_op at_rely hF
  u_in at_rely hF
  refine goes_call rfl rfl (by k_ne) rfl Try.func12 x12 rfl ⟨by u_nil, ?_⟩
  have hA := @doneC (fun _ => False) (Low (W.heap.size + 5))
  simp only [Try.f12, Option.getD_some, Array.replicate_succ, Array.replicate_zero, List.push_toArray, List.append_toArray, List.nil_append, List.cons_append] at hA
  walk_nrmf Try.f12
  refine Goes.mono (hA (mT := 800) H0.out hM0 (fun y hF => ?_) _ hF) (by omega)
  clear hA
  walk_nrm
  u_op at_rely hF
  u_op at_rely hF
  u_op at_rely hF
  have hr : Runs (fun _ => False) (Low (W.heap.size + 5)) W.heap.size (W0.setCell ⟨W.heap.size, 1, none⟩ (.int .i32 1)) (((W0.setCell ⟨W.heap.size, 1, none⟩ (.int .i32 1)).alloc (.cells #[.pointer (some ⟨W.heap.size, 0, none⟩)] 24)).setCell ⟨W.heap.size, 5, none⟩ (.int .u32 1)) :=
    fun St b₀ a₀ ops₀ i₀ rest₀ k₀ cs mT hT y hy => Goes.mono (runNil (blkset H0.out 1 _ (blk 0 1 .nilFunc 0 0 0) rfl) hM0 (hM _ (by simp; have := HZ.out; omega)) hT y hy) (by omega)
  have hX := blkset (box_old (x := .cells #[.pointer (some ⟨W.heap.size, 0, none⟩)] 24) (blkset H0.out 1 (.int .i32 1) (blk 0 1 .nilFunc 0 0 0) rfl)) 5 (.int .u32 1) (blk 0 1 .nilFunc 0 1 0) rfl
  have oX : Only (fun _ => False) W (((W0.setCell ⟨W.heap.size, 1, none⟩ (.int .i32 1)).alloc (.cells #[.pointer (some ⟨W.heap.size, 0, none⟩)] 24)).setCell ⟨W.heap.size, 5, none⟩ (.int .u32 1)) := ((O0.out.set _ _ (.inl (Nat.le_refl _))).alloc _).set _ _ (.inl (Nat.le_refl _))
  have hXs : (((W0.setCell ⟨W.heap.size, 1, none⟩ (.int .i32 1)).alloc (.cells #[.pointer (some ⟨W.heap.size, 0, none⟩)] 24)).setCell ⟨W.heap.size, 5, none⟩ (.int .u32 1)).heap.size = W.heap.size + 2 := by simp; have := HZ.out; omega
  generalize ((W0.setCell ⟨W.heap.size, 1, none⟩ (.int .i32 1)).alloc (.cells #[.pointer (some ⟨W.heap.size, 0, none⟩)] 24)).setCell ⟨W.heap.size, 5, none⟩ (.int .u32 1) = X at hr hX oX hXs
  have HX := Lib.hid hX; have OX := Lib.hid oX; have HR := Lib.hid hr; have HXS := Lib.hid hXs; clear hX oX hr hXs
  u_in at_rely hF
  refine goes_call rfl rfl (by k_ne) rfl Try.func11 x11 rfl ⟨by u_nil, ?_⟩
  have hA := @getC (fun _ => False) (Low (W.heap.size + 5)) (Stop1 W n50) 0
  simp only [Try.f11, Option.getD_some, Array.replicate_succ, Array.replicate_zero, List.push_toArray, List.append_toArray, List.nil_append, List.cons_append] at hA
  walk_nrmf Try.f11
  refine Goes.mono (hA (mT := 700) H0.out HX.out hM0 HR.out (fun y hF => ?_) _ hF) (by omega)
  clear hA
  have h2 := blkset (blkset HX.out 0 (.int .u32 1) (blk 1 1 .nilFunc 0 1 0) rfl) 1 (.int .i32 0) (blk 1 0 .nilFunc 0 1 0) rfl
  have o2 : Only (fun _ => False) W ((X.setCell ⟨W.heap.size, 0, none⟩ (.int .u32 1)).setCell ⟨W.heap.size, 1, none⟩ (.int .i32 0)) := (OX.out.set _ _ (.inl (Nat.le_refl _))).set _ _ (.inl (Nat.le_refl _))
  have s2 : ((X.setCell ⟨W.heap.size, 0, none⟩ (.int .u32 1)).setCell ⟨W.heap.size, 1, none⟩ (.int .i32 0)).heap.size = W.heap.size + 2 := by simp; have := HXS.out; omega
  generalize (X.setCell ⟨W.heap.size, 0, none⟩ (.int .u32 1)).setCell ⟨W.heap.size, 1, none⟩ (.int .i32 0) = W2 at hF h2 o2 s2
  have H2 := Lib.hid h2; have O2 := Lib.hid o2; have S2 := Lib.hid s2; clear h2 o2 s2
  walk_nrm
  u_op at_rely hF
  u_op at_rely hF
  u_op at_rely hF
  u_op at_rely hF
  u_in at_rely hF
  refine goes_call rfl rfl (by k_ne) rfl Try.func12 x12 rfl ⟨by u_nil, ?_⟩
  have hA := @doneC (fun _ => False) (Low (W.heap.size + 5))
  simp only [Try.f12, Option.getD_some, Array.replicate_succ, Array.replicate_zero, List.push_toArray, List.append_toArray, List.nil_append, List.cons_append] at hA
  walk_nrmf Try.f12
  refine Goes.mono (hA (mT := 600) H2.out hM0 (fun y hF => ?_) _ hF) (by omega)
  clear hA
  walk_nrm
  u_op at_rely hF
  u_op at_rely hF
  u_op at_rely hF
  u_op at_rely hF
  u_in at_rely hF
  refine goes_call rfl rfl (by k_ne) rfl Try.func18 x18 rfl ⟨by u_nil, ?_⟩
  have hA := @runsC (fun _ => False) (Low (W.heap.size + 5))
  simp only [Try.f18, Option.getD_some, Array.replicate_succ, Array.replicate_zero, List.push_toArray, List.append_toArray, List.nil_append, List.cons_append] at hA
  walk_nrmf Try.f18
  refine Goes.mono (hA (mT := 500) H2.out hM0 (fun y hF => ?_) _ hF) (by omega)
  clear hA
  walk_nrm
  u_op at_rely hF
  u_op at_rely hF
  u_c stepG_region_end at_rely hF
  u_cond false at_rely hF
  u_c stepG_skip at_rely hF
  u_c stepG_seq at_rely hF
  u_reg at_rely hF
  u_in at_rely hF
  refine goes_oper_k rfl rfl (by k_ne) (fun K hK => ?_)
  have hcl := free.at_cell hF
  have hfz := free.at_frozen hF
  have hsz := free.at_size hF
  go_simp
  refine hK _ _ ⟨fun e he => ?_, ?_⟩
  · (have hm := mem_listed he; simp [go_sem, storedEv, *] at hm; try (subst hm; refine free.evS_may ?_ (Eq.refl _); assumption))
  clear hK K hcl hfz hsz
  refine free.next_alloc hF (fun _ hF => ?_)
  u_op at_rely hF
  u_c stepG_region_end at_rely hF
  u_c stepG_seq at_rely hF
  u_c stepG_seq at_rely hF
  u_reg at_rely hF
  u_op at_rely hF
  u_op at_rely hF
  have hmi := ev_min
  u_op at_rely hF
  u_op at_rely hF
  have h3 := box_new W2 (.cells #[.int .i64 0] 62)
  have o3 : Only (fun _ => False) W (W2.alloc (.cells #[.int .i64 0] 62)) := O2.out.alloc _
  have s3 : (W2.alloc (.cells #[.int .i64 0] 62)).heap.size = W.heap.size + 3 := by simp; have := S2.out; omega
  rw [S2.out] at h3
  generalize W2.alloc (.cells #[.int .i64 0] 62) = W3 at hF h3 o3 s3
  have H3 := Lib.hid h3; have O3 := Lib.hid o3; have S3 := Lib.hid s3; clear h3 o3 s3
  have es2 := S2.out
  simp only [es2]
  clear es2
  u_in at_rely hF
  refine goes_call rfl rfl (by k_ne) rfl Try.func26 x26 rfl ⟨by u_nil, ?_⟩
  have hA := @crowdEnter (fun _ => False) (Low (W.heap.size + 5)) (Of (W.heap.size + 5)) (Low (W.heap.size + 11)) 0 0 (Stop2 W n50)
  simp only [Try.f26, Option.getD_some, Array.replicate_succ, Array.replicate_zero, List.push_toArray, List.append_toArray, List.nil_append, List.cons_append] at hA
  walk_nrmf Try.f26
  have hs3 := S3.out
  show Goes _ _ _ _ (Fz (fun _ => False) (Low (W.heap.size + 5)) (AtCrowd (fun _ => False) (Low (W.heap.size + 5)) (Of (W.heap.size + 5)) (Low (W.heap.size + 11)) 0 (Stop2 W n50) 0) 0) _ _ _
  refine Goes.mono (hA (W := W3) (x9 := n1) (.inr ⟨_, rfl⟩) (by rw [if_neg (by omega)]) (by rw [if_neg (by omega)]; rfl) (by omega) (by simp) (fun l h => h.elim) ?_ ?_ ?_ ?_ ?_ (fun w' hr hw => ?_) _ hF) (by omega)
  · rintro l ⟨a, rfl, ha⟩; exact ⟨a, rfl, by omega⟩
  · rintro l ⟨a, rfl, ha⟩; exact ⟨a, rfl, by omega⟩
  · intro a ha; exact ⟨a, rfl, by omega⟩
  · rintro l ⟨a, rfl, ha⟩; exact .inr ⟨fun ⟨a', e, ha'⟩ => by cases e; omega, a, rfl, by omega⟩
  · intro a ha; exact ⟨fun ⟨a', e, ha'⟩ => by cases e; omega, a, rfl, by omega⟩
  clear hA
  have hne2 : (W3.heap.size : Nat) ≠ W3.heap.size + 2 ∧ W3.heap.size ≠ W3.heap.size + 4 := ⟨by omega, by omega⟩
  obtain ⟨f1, f2, f3, f4⟩ := crowdWorld_facts W3 (.pointer (some ⟨W.heap.size + 2, 0, none⟩)) bv
  have g1 := cell_blk (hr.blocks W3.heap.size hne2.1 hne2.2) f2
  have g2 := cell_of_one ((hr.blocks (W.heap.size + 2) (by omega) (by omega)).trans (cw_old H3.out))
  have g3 := rm_only (cw_only O3.out) hr (by omega) (by omega)
  have g4 : w'.heap.size = W.heap.size + 6 := by rw [hr.size, f4, hs3]
  clear f1 f2 f3 f4 hne2 hr hw hF
  rw [hs3] at g1
  have G2 := Lib.hid g2; have G3 := Lib.hid g3; have G4 := Lib.hid g4; clear g2 g3 g4
  have hM2 : ∀ b, b < W.heap.size + 11 → b ≠ W.heap.size + 5 → May (Of (W.heap.size + 5)) (Low (W.heap.size + 11)) b := fun b hb hn a ha => ⟨fun ⟨a', e, ha'⟩ => by cases e; omega, a, rfl, by omega⟩
  have hT2 : Tells (Low (W.heap.size + 11)) (.pointer (some ⟨W.heap.size + 2, 0, none⟩)) 0 w' := .inr ⟨_, rfl, G2.out, _, rfl, by simp⟩
  refine ⟨1000, ?_⟩
  rw [hs3]
  refine Goes.mono (crowdTail (mT := 800) g1 (hM2 _ (by omega) (by omega)) hT2 (fun y hF => ?_) w' (atRel_refl w')) (by omega)
  clear g1 hs3
  walk_nrm
  u_op at_rely hF
  u_op at_rely hF
  u_op at_rely hF
  u_in at_rely hF
  refine goes_call rfl rfl (by k_ne) rfl Try.func27 x27 rfl ⟨by u_nil, ?_⟩
  have hA := @valueC (Of (W.heap.size + 5)) (Low (W.heap.size + 11))
  simp only [Try.f27, Option.getD_some, Array.replicate_succ, Array.replicate_zero, List.push_toArray, List.append_toArray, List.nil_append, List.cons_append] at hA
  walk_nrmf Try.f27
  refine Goes.mono (hA (mT := 700) hT2 (fun y hF => ?_) _ hF) (by omega)
  clear hA hT2
  walk_nrm
  have hn69 := ev_neq_ptr p69
  have he69 := ev_eql_nil p69
  have he100 := ev_eql_nil p100
  have hn50 := ev_neq_ptr p50
  have he50 := ev_eql_nil p50
  have he57 := ev_eql_nil p57
  have g4 := G4.out
  have hMt : May (Of (W.heap.size + 5)) (Low (W.heap.size + 11)) (w'.heap.size + 1 + 1) := hM2 _ (by omega) (by omega)
  clear g4
  u_op at_rely hF
  u_op at_rely hF
  u_c stepG_region_end at_rely hF
  u_cond false at_rely hF
  u_c stepG_skip at_rely hF
  u_c stepG_seq at_rely hF
  u_reg at_rely hF
  u_op at_rely hF
  u_c stepG_region_end at_rely hF
  u_c stepG_seq at_rely hF
  u_reg at_rely hF
  u_op at_rely hF
  u_c stepG_region_end at_rely hF
  u_c stepG_seq at_rely hF
  u_reg at_rely hF
  u_op at_rely hF
  u_c stepG_region_end at_rely hF
  u_c stepG_seq at_rely hF
  u_reg at_rely hF
  u_op at_rely hF
  u_op at_rely hF
  u_call Try.func28 x28 Try.f28 at_rely hF
  u_c stepG_seq at_rely hF
  u_reg at_rely hF
  u_in at_rely hF
  refine goes_oper_k rfl rfl (by k_ne) (fun K hK => ?_)
  have hcl := free.at_cell hF
  have hfz := free.at_frozen hF
  have hsz := free.at_size hF
  go_simp
  refine hK _ _ ⟨fun e he => ?_, ?_⟩
  · (have hm := mem_listed he; simp [go_sem, storedEv, *] at hm; try (subst hm; refine free.evS_may ?_ (Eq.refl _); assumption))
  clear hK K hcl hfz hsz
  refine free.next_alloc hF (fun _ hF => ?_)
  u_c stepG_region_end at_rely hF
  u_c stepG_seq at_rely hF
  u_reg at_rely hF
  u_op at_rely hF
  u_op at_rely hF
  u_c stepG_region_end at_rely hF
  u_cond false at_rely hF
  u_c stepG_skip at_rely hF
  u_c stepG_end at_rely hF
  u_leave0 Try.func28 at_rely hF
  u_c stepG_region_end at_rely hF
  u_c stepG_seq at_rely hF
  u_reg at_rely hF
  u_op at_rely hF
  u_call Try.func29 x29 Try.f29 at_rely hF
  u_c stepG_seq at_rely hF
  u_reg at_rely hF
  u_op at_rely hF
  u_op at_rely hF
  u_c stepG_region_end at_rely hF
  u_c stepG_seq at_rely hF
  u_c stepG_seq at_rely hF
  u_reg at_rely hF
  u_op at_rely hF
  u_op at_rely hF
  u_c stepG_region_end at_rely hF
  u_cond true at_rely hF
  u_c stepG_seq at_rely hF
  u_reg at_rely hF
  u_call Try.func52 x52 Try.f52 at_rely hF
  u_c stepG_seq at_rely hF
  u_reg at_rely hF
  u_op at_rely hF
  u_op at_rely hF
  u_c stepG_region_end at_rely hF
  u_c stepG_seq at_rely hF
  u_c stepG_seq at_rely hF
  u_reg at_rely hF
  u_op at_rely hF
  u_op at_rely hF
  u_c stepG_region_end at_rely hF
  u_cond true at_rely hF
  u_c stepG_seq at_rely hF
  u_reg at_rely hF
  u_op at_rely hF
  u_c stepG_region_end at_rely hF
  u_c stepG_seq at_rely hF
  u_reg at_rely hF
  u_op at_rely hF
  u_op at_rely hF
  u_op at_rely hF
  u_c stepG_region_end at_rely hF
  u_c stepG_ret' at_rely hF
  u_in at_rely hF
  refine goes_leave2 rfl rfl Try.func52 rfl ⟨by u_nil, ?_⟩
  walk_nrm
  u_op at_rely hF
  u_op at_rely hF
  u_op at_rely hF
  u_op at_rely hF
  u_c stepG_region_end at_rely hF
  u_c stepG_ret' at_rely hF
  u_in at_rely hF
  refine goes_leave2 rfl rfl Try.func29 rfl ⟨by u_nil, ?_⟩
  walk_nrm
  u_op at_rely hF
  u_op at_rely hF
  u_op at_rely hF
  u_op at_rely hF
  u_op at_rely hF
  u_c stepG_region_end at_rely hF
  u_c stepG_seq at_rely hF
  u_reg at_rely hF
  u_op at_rely hF
  u_op at_rely hF
  u_call Try.func30 x30 Try.f30 at_rely hF
  u_c stepG_seq at_rely hF
  u_reg at_rely hF
  u_in at_rely hF
  refine goes_oper_k rfl rfl (by k_ne) (fun K hK => ?_)
  have hcl := free.at_cell hF
  have hfz := free.at_frozen hF
  have hsz := free.at_size hF
  go_simp
  refine hK _ _ ⟨fun e he => ?_, ?_⟩
  · (have hm := mem_listed he; simp [go_sem, storedEv, *] at hm; try (subst hm; refine free.evS_may ?_ (Eq.refl _); assumption))
  clear hK K hcl hfz hsz
  refine free.next_alloc hF (fun _ hF => ?_)
  u_op at_rely hF
  u_op at_rely hF
  u_c stepG_region_end at_rely hF
  u_c stepG_seq at_rely hF
  u_c stepG_seq at_rely hF
  u_reg at_rely hF
  u_op at_rely hF
  u_op at_rely hF
  u_c stepG_region_end at_rely hF
  u_cond true at_rely hF
  u_c stepG_seq at_rely hF
  u_reg at_rely hF
  u_call Try.func52 x52 Try.f52 at_rely hF
  u_c stepG_seq at_rely hF
  u_reg at_rely hF
  u_op at_rely hF
  u_op at_rely hF
  u_c stepG_region_end at_rely hF
  u_c stepG_seq at_rely hF
  u_c stepG_seq at_rely hF
  u_reg at_rely hF
  u_op at_rely hF
  u_op at_rely hF
  u_c stepG_region_end at_rely hF
  u_cond true at_rely hF
  u_c stepG_seq at_rely hF
  u_reg at_rely hF
  u_op at_rely hF
  u_c stepG_region_end at_rely hF
  u_c stepG_seq at_rely hF
  u_reg at_rely hF
  u_op at_rely hF
  u_op at_rely hF
  u_op at_rely hF
  u_c stepG_region_end at_rely hF
  u_c stepG_ret' at_rely hF
  u_in at_rely hF
  refine goes_leave2 rfl rfl Try.func52 rfl ⟨by u_nil, ?_⟩
  walk_nrm
  u_op at_rely hF
  u_op at_rely hF
  u_op at_rely hF
  u_op at_rely hF
  u_c stepG_region_end at_rely hF
  u_c stepG_ret' at_rely hF
  u_in at_rely hF
  refine goes_leave2 rfl rfl Try.func30 rfl ⟨by u_nil, ?_⟩
  walk_nrm
  u_op at_rely hF
  u_op at_rely hF
  u_op at_rely hF
  u_op at_rely hF
  u_op at_rely hF
  u_c stepG_region_end at_rely hF
  u_c stepG_seq at_rely hF
  u_reg at_rely hF
  u_op at_rely hF
  u_call Try.func23 x23 Try.f23 at_rely hF
  u_c stepG_seq at_rely hF
  u_reg at_rely hF
  u_op at_rely hF
  u_c stepG_region_end at_rely hF
  u_c stepG_seq at_rely hF
  u_c stepG_seq at_rely hF
  u_reg at_rely hF
  u_op at_rely hF
  u_op at_rely hF
  u_c stepG_region_end at_rely hF
  u_cond true at_rely hF
  u_c stepG_seq at_rely hF
  u_reg at_rely hF
  u_op at_rely hF
  u_c stepG_region_end at_rely hF
  u_c stepG_seq at_rely hF
  u_reg at_rely hF
  u_op at_rely hF
  u_op at_rely hF
  u_c stepG_region_end at_rely hF
  u_c stepG_ret' at_rely hF
  u_leave1 Try.func23 at_rely hF
  u_op at_rely hF
  u_op at_rely hF
  u_op at_rely hF
  u_call Try.func31 x31 Try.f31 at_rely hF
  u_c stepG_seq at_rely hF
  u_reg at_rely hF
  u_op at_rely hF
  u_c stepG_region_end at_rely hF
  u_c stepG_seq at_rely hF
  u_reg at_rely hF
  u_op at_rely hF
  u_op at_rely hF
  u_op at_rely hF
  u_skip at_rely hF
  u_skip at_rely hF
  u_skip at_rely hF
  u_skip at_rely hF
  u_op at_rely hF
  u_op at_rely hF
  u_c stepG_region_end at_rely hF
  u_c stepG_ret' at_rely hF
  u_leave1 Try.func31 at_rely hF
  u_op at_rely hF
  u_op at_rely hF
  u_op at_rely hF
  u_op at_rely hF
  u_call Try.func32 x32 Try.f32 at_rely hF
  u_c stepG_seq at_rely hF
  u_reg at_rely hF
  u_op at_rely hF
  u_c stepG_region_end at_rely hF
  u_c stepG_seq at_rely hF
  u_c stepG_seq at_rely hF
  u_reg at_rely hF
  u_op at_rely hF
  u_op at_rely hF
  u_c stepG_region_end at_rely hF
  u_cond true at_rely hF
  u_c stepG_seq at_rely hF
  u_reg at_rely hF
  u_op at_rely hF
  u_c stepG_region_end at_rely hF
  u_c stepG_ret' at_rely hF
  u_leave1 Try.func32 at_rely hF
  u_op at_rely hF
  u_op at_rely hF
  u_op at_rely hF
  u_op at_rely hF
  u_op at_rely hF
  u_op at_rely hF
  u_call Try.func22 x22 Try.f22 at_rely hF
  u_c stepG_seq at_rely hF
  u_reg at_rely hF
  u_in at_rely hF
  refine goes_oper_k rfl rfl (by k_ne) (fun K hK => ?_)
  have hcl := free.at_cell hF
  have hfz := free.at_frozen hF
  have hsz := free.at_size hF
  go_simp
  refine hK _ _ ⟨fun e he => ?_, ?_⟩
  · (have hm := mem_listed he; simp [go_sem, storedEv, *] at hm; try (subst hm; refine free.evS_may ?_ (Eq.refl _); assumption))
  clear hK K hcl hfz hsz
  refine free.next_alloc hF (fun _ hF => ?_)
  u_op at_rely hF
  u_c stepG_region_end at_rely hF
  u_c stepG_seq at_rely hF
  u_c stepG_seq at_rely hF
  u_reg at_rely hF
  u_in at_rely hF
  refine goes_oper_k rfl rfl (by k_ne) (fun K hK => ?_)
  have hcl := free.at_cell hF
  have hfz := free.at_frozen hF
  have hsz := free.at_size hF
  go_simp
  refine hK _ _ ⟨fun e he => ?_, ?_⟩
  · (have hm := mem_listed he; simp [go_sem, storedEv, *] at hm; try (subst hm; refine free.evS_may ?_ (Eq.refl _); assumption))
  clear hK K hcl hfz hsz
  u_op at_rely hF
  u_op at_rely hF
  u_skip at_rely hF
  u_skip at_rely hF
  u_op at_rely hF
  u_c stepG_region_end at_rely hF
  u_cond true at_rely hF
  u_c stepG_seq at_rely hF
  u_reg at_rely hF
  u_op at_rely hF
  u_c stepG_region_end at_rely hF
  u_c stepG_ret' at_rely hF
  u_leave1 Try.func22 at_rely hF
  u_op at_rely hF
  u_op at_rely hF
  u_op at_rely hF
  u_op at_rely hF
  u_op at_rely hF
  u_op at_rely hF
  u_call Try.func25 x25 Try.f25 at_rely hF
  u_c stepG_seq at_rely hF
  u_reg at_rely hF
  u_op at_rely hF
  u_c stepG_region_end at_rely hF
  u_c stepG_seq at_rely hF
  u_c stepG_seq at_rely hF
  u_reg at_rely hF
  u_op at_rely hF
  u_op at_rely hF
  u_c stepG_region_end at_rely hF
  u_cond true at_rely hF
  u_c stepG_seq at_rely hF
  u_reg at_rely hF
  u_op at_rely hF
  u_c stepG_region_end at_rely hF
  u_c stepG_ret' at_rely hF
  u_leave1 Try.func25 at_rely hF
  u_op at_rely hF
  u_op at_rely hF
  u_op at_rely hF
  u_op at_rely hF
  u_call Try.func27 x27 Try.f27 at_rely hF
  u_c stepG_seq at_rely hF
  u_reg at_rely hF
  u_op at_rely hF
  u_c stepG_region_end at_rely hF
  u_c stepG_seq at_rely hF
  u_c stepG_seq at_rely hF
  u_reg at_rely hF
  u_op at_rely hF
  u_op at_rely hF
  u_c stepG_region_end at_rely hF
  u_cond true at_rely hF
  u_c stepG_seq at_rely hF
  u_reg at_rely hF
  u_op at_rely hF
  u_c stepG_region_end at_rely hF
  u_c stepG_ret' at_rely hF
  u_leave1 Try.func27 at_rely hF
  u_op at_rely hF
  u_op at_rely hF
  u_op at_rely hF
  u_op at_rely hF
  u_op at_rely hF
  u_op at_rely hF
  u_op at_rely hF
  have o6 : Only (fun _ => False) W (((w'.alloc (.cells #[.int .i64 v] 3)).alloc (.cells #[.int .i64 v] 3)).alloc (.cells #[.pointer none] 50)) := ((G3.out.alloc _).alloc _).alloc _
  have s6 : (((w'.alloc (.cells #[.int .i64 v] 3)).alloc (.cells #[.int .i64 v] 3)).alloc (.cells #[.pointer none] 50)).heap.size = W.heap.size + 9 := by simp; have := G4.out; omega
  generalize ((w'.alloc (.cells #[.int .i64 v] 3)).alloc (.cells #[.int .i64 v] 3)).alloc (.cells #[.pointer none] 50) = W6 at hF o6 s6
  have O6 := Lib.hid o6; have S6 := Lib.hid s6; clear o6 s6
  u_in at_rely hF
  refine goes_call rfl rfl (by k_ne) rfl Try.func26 x26 rfl ⟨by u_nil, ?_⟩
  have hA := @crowdEnter (Of (W.heap.size + 5)) (Low (W.heap.size + 11)) (Of2 (W.heap.size + 5) (W.heap.size + 11)) (fun _ => True) n50.toNat 2 (AtTrue W (Of2 (W.heap.size + 5) (W.heap.size + 11)))
  simp only [Try.f26, Option.getD_some, Array.replicate_succ, Array.replicate_zero, List.push_toArray, List.append_toArray, List.nil_append, List.cons_append] at hA
  walk_nrmf Try.f26
  have hs6 := S6.out
  show Goes _ _ _ _ (Fz (Of (W.heap.size + 5)) (Low (W.heap.size + 11)) (AtCrowd (Of (W.heap.size + 5)) (Low (W.heap.size + 11)) (Of2 (W.heap.size + 5) (W.heap.size + 11)) (fun _ => True) n50.toNat (AtTrue W (Of2 (W.heap.size + 5) (W.heap.size + 11))) 2) 0) _ _ _
  refine Goes.mono (hA (W := W6) (x9 := n50) (.inl rfl) (by rw [if_neg (by omega)]) (by split <;> omega) (by omega) (.inr rfl) (fun l h => .inl h) (fun _ _ => trivial) (fun _ _ => trivial) ?_ ?_ ?_ (fun w2 hr hw => ?_) _ hF) (by omega)
  · intro a ha; exact .inr ⟨a, rfl, by omega⟩
  · rintro l (h | ⟨a, rfl, ha⟩)
    · exact .inl h
    · exact .inr ⟨fun ⟨a', e, ha'⟩ => by cases e; omega, a, rfl, by omega⟩
  · intro a ha; exact ⟨fun h => by rcases h with ⟨a', e, ha'⟩ | ⟨a', e, ha'⟩ <;> cases e <;> omega, trivial⟩
  clear hA
  obtain ⟨f1, f2, f3, f4⟩ := crowdWorld_facts W6 (.pointer none) bv
  have g1 := cell_blk (hr.blocks W6.heap.size (by omega) (by omega)) f2
  have g3 := rm_only (cw_only O6.out) hr (by omega) (by omega)
  have g4 : w2.heap.size = W.heap.size + 12 := by rw [hr.size, f4, hs6]
  clear f1 f2 f3 f4 hr hw hF
  rw [hs6] at g1
  have K3 := Lib.hid g3; have K4 := Lib.hid g4; clear g3 g4
  have hM3 : ∀ b, b ≠ W.heap.size + 5 → b ≠ W.heap.size + 11 → May (Of2 (W.heap.size + 5) (W.heap.size + 11)) (fun _ => True) b := fun b h1 h2 a ha => ⟨fun h => by rcases h with ⟨a', e, ha'⟩ | ⟨a', e, ha'⟩ <;> cases e <;> omega, trivial⟩
  refine ⟨1000, ?_⟩
  rw [hs6]
  refine Goes.mono (crowdTail (mT := 800) g1 (hM3 _ (by omega) (by omega)) (.inl ⟨rfl, rfl⟩) (fun y hF => ?_) w2 (atRel_refl w2)) (by omega)
  clear g1 hs6
  walk_nrm
  u_op at_rely hF
  u_op at_rely hF
  u_op at_rely hF
  u_op at_rely hF
  u_op at_rely hF
  u_op at_rely hF
  u_op at_rely hF
  u_op at_rely hF
  u_op at_rely hF
  u_op at_rely hF
  u_op at_rely hF
  u_op at_rely hF
  u_op at_rely hF
  u_op at_rely hF
  u_op at_rely hF
  u_op at_rely hF
  u_op at_rely hF
  u_op at_rely hF
  u_op at_rely hF
  u_in at_rely hF
  refine goes_call rfl rfl (by k_ne) rfl Try.func13 x13 rfl ⟨by u_nil, ?_⟩
  have hA := @awakeC (Of2 (W.heap.size + 5) (W.heap.size + 11)) (fun _ => True)
  simp only [Try.f13, Option.getD_some, Array.replicate_succ, Array.replicate_zero, List.push_toArray, List.append_toArray, List.nil_append, List.cons_append] at hA
  walk_nrmf Try.f13
  refine Goes.mono (hA (W := w2) (Stop := AtTrue W (Of2 (W.heap.size + 5) (W.heap.size + 11))) (m := 0) (mT := 200) (fun b hb => hM3 b (by have := K4.out; omega) (by have := K4.out; omega)) (fun W' hW y hF => ?_) _ hF) (by omega)
  clear hA
  have o9 := K3.out.trans hW
  clear hW
  walk_nrm
  u_op at_rely hF
  u_op at_rely hF
  u_c stepG_region_end at_rely hF
  u_c stepG_ret' at_rely hF
  refine Goes.stop fun w3 h3 => ?_
  replace hF := at_rely hF h3
  clear h3
  intro d'
  refine ⟨rfl, .bool true, #[], ?_, by simp, rfl, ?_⟩
  · simp [G, stepG, unwind, doReturn, results, Frame.at, base, Try.func8, Try.f8, seen, GStep.after]
  · obtain ⟨d, rfl⟩ := hF
    exact ⟨o9.os, o9.tape, o9.output, o9.size, o9.block⟩
end Go.Proofs.Ytdkbkocklnnmdaa.none
