/-
  Beside goroutines that only leave: main's walks through New, Done, Runs of memo.Cell[int], and through the laws' common word, awake: it is true, and nothing that was there has changed. Conditions: new blocks may be touched.
-/
import Derived.Test.YtdkbkocklnnmdaaFreeGet
import Derived.Test.YtdkbkocklnnmdaaFreeRun7
import Derived.Test.YtdkbkocklnnmdaaAwake
set_option linter.unusedSimpArgs false
set_option linter.unusedVariables false
namespace Go.Proofs.Ytdkbkocklnnmdaa.free
open Go Go.Conc Go.RowKit Go.ConcR.Gen Go.ConcN.Gen Go.Proofs.Ytdkbkocklnnmdaa.crew Go.Proofs.Ytdkbkocklnnmdaa.kid Go.Proofs.Ytdkbkocklnnmdaa.wg
open Go.ConcX.Gen (setCell_at alloc_at)

theorem x9 : (Try.f9.name == "runtime.NumGoroutine") = false := by kernel_rfl
theorem x11 : (Try.f11.name == "runtime.NumGoroutine") = false := by kernel_rfl
theorem x12 : (Try.f12.name == "runtime.NumGoroutine") = false := by kernel_rfl
theorem x13 : (Try.f13.name == "runtime.NumGoroutine") = false := by kernel_rfl
theorem x18 : (Try.f18.name == "runtime.NumGoroutine") = false := by kernel_rfl
theorem x41 : (Try.f41.name == "runtime.NumGoroutine") = false := by kernel_rfl
theorem x63 : (Try.f63.name == "runtime.NumGoroutine") = false ∧ Try.f63.body.isNone = true ∧ Extern.findNext Try.f63 = none := ⟨by kernel_rfl, by kernel_rfl, by kernel_rfl⟩
theorem e63 : Extern.find Try.f63 = some (Extern.Atomic.loadT (.int .i64)) := by kernel_rfl
theorem ev_neq_ptr {t : TypeId} (h : Try.prog.underlying t = some (.pointer (Try.prog.pointee t))) (p : Option Addr) (w : World) (es : Array Event) : (binOp .neq t (.pointer p) (.pointer none)).events Try.prog w es = es := by
  cases p <;> (unfold binOp Op.equal Op.maxDepth Op.equalIn; simp [go_sem, run_underlying h, Result.evThen])

section
variable {Shun Lw : Loc → Prop} {St : Goroutine → World → Prop} {b₀ : Frame} {a₀ : Act} {ops₀ : Array Oper} {i₀ : Nat} {rest₀ : List Nat} {k₀ : List Item} {cs : List Frame} {mT : Nat}

set_option maxRecDepth 100000 in
set_option maxHeartbeats 8000000 in
theorem int64Load {a : Addr} {d : Int} {W : World} (c0 : W.cell? a = some (.int .i64 d)) (hL : Lw (.cell a))
    (hT : ∀ y, Conc.AtRel W y → Goes Try.prog true Conc.AtRel (DF Shun Lw) St mT (G (b₀.at (a₀.put ((ops₀[i₀]?).bind (·.dst)) (.int .i64 d)) (.inRegion ops₀ rest₀ :: k₀)) cs) y) :
    ∀ y, Conc.AtRel W y → Goes Try.prog true Conc.AtRel (DF Shun Lw) St (mT + 20) (G ((base 41).at { tmps := #[.pointer (some a)] ++ Array.replicate 6 undef, defers := [] } [.code (Try.f41.body.getD .skip)]) (b₀.at a₀ (.inRegion ops₀ (i₀ :: rest₀) :: k₀) :: cs)) y := by
  intro y hF
  simp only [Try.f41, Option.getD_some]
  walk_nrm
  u_c stepG_seq at_rely hF
  u_reg at_rely hF
  u_op at_rely hF
  u_c stepG_region_end at_rely hF
  u_c stepG_seq at_rely hF
  u_reg at_rely hF
  u_op at_rely hF
  u_op at_rely hF
  u_op at_rely hF
  u_in at_rely hF
  have c0 := (at_cell hF _).trans c0
  rw [stepG_load_atomic (v := d) rfl rfl (by k_ne) rfl Try.func63 x63.1 x63.2.1 x63.2.2 .i64 e63 rfl c0]
  simp only [goes_go]
  refine ⟨ev1 hL, ?_⟩
  walk_nrm
  u_op at_rely hF
  u_c stepG_region_end at_rely hF
  u_c stepG_ret' at_rely hF
  u_leave1 Try.func41 at_rely hF
  exact Goes.mono (hT _ hF) (by omega)

set_option maxRecDepth 100000 in
set_option maxHeartbeats 8000000 in
theorem newC {fv : Value} {W : World} (hfv : fv = .nilFunc ∨ ∃ fn first cap, fv = .func fn first cap) (hM : May Shun Lw W.heap.size)
    (hT : ∀ y, Conc.AtRel (W.alloc (blk 0 0 fv 0 0 0)) y → Goes Try.prog true Conc.AtRel (DF Shun Lw) St mT (G (b₀.at (a₀.put ((ops₀[i₀]?).bind (·.dst)) (.pointer (some ⟨W.heap.size, 0, none⟩))) (.inRegion ops₀ rest₀ :: k₀)) cs) y) :
    ∀ y, Conc.AtRel W y → Goes Try.prog true Conc.AtRel (DF Shun Lw) St (mT + 20) (G ((base 9).at { tmps := #[fv] ++ Array.replicate 5 undef, defers := [] } [.code (Try.f9.body.getD .skip)]) (b₀.at a₀ (.inRegion ops₀ (i₀ :: rest₀) :: k₀) :: cs)) y := by
  intro y hF
  simp only [Try.f9, Option.getD_some]
  walk_nrm
  rcases hfv with rfl | ⟨fn, first, cap, rfl⟩
  · u_c stepG_seq at_rely hF
    u_reg at_rely hF
    u_op at_rely hF
    u_c stepG_region_end at_rely hF
    u_c stepG_seq at_rely hF
    u_reg at_rely hF
    u_op at_rely hF
    u_op at_rely hF
    u_in at_rely hF
    refine goes_oper_k rfl rfl (by k_ne) (fun K hK => ?_)
    have hcl := free.at_cell hF
    have hfz := free.at_frozen hF
    have hsz := free.at_size hF
    go_simp
    refine hK _ _ ⟨fun e he => ?_, ?_⟩
    · (have hm := mem_listed he; simp [go_sem, storedEv, *] at hm; try (subst hm; refine free.evS_may ?_ (Eq.refl _); assumption))
    clear hK K hcl hfz hsz
    refine free.next_alloc hF (fun _ hF => ?_)
    u_op at_rely hF
    u_c stepG_region_end at_rely hF
    u_c stepG_ret' at_rely hF
    u_leave1 Try.func9 at_rely hF
    exact Goes.mono (hT _ hF) (by omega)
  · u_c stepG_seq at_rely hF
    u_reg at_rely hF
    u_op at_rely hF
    u_c stepG_region_end at_rely hF
    u_c stepG_seq at_rely hF
    u_reg at_rely hF
    u_op at_rely hF
    u_op at_rely hF
    u_in at_rely hF
    refine goes_oper_k rfl rfl (by k_ne) (fun K hK => ?_)
    have hcl := free.at_cell hF
    have hfz := free.at_frozen hF
    have hsz := free.at_size hF
    go_simp
    refine hK _ _ ⟨fun e he => ?_, ?_⟩
    · (have hm := mem_listed he; simp [go_sem, storedEv, *] at hm; try (subst hm; refine free.evS_may ?_ (Eq.refl _); assumption))
    clear hK K hcl hfz hsz
    refine free.next_alloc hF (fun _ hF => ?_)
    u_op at_rely hF
    u_c stepG_region_end at_rely hF
    u_c stepG_ret' at_rely hF
    u_leave1 Try.func9 at_rely hF
    exact Goes.mono (hT _ hF) (by omega)

set_option maxRecDepth 100000 in
set_option maxHeartbeats 8000000 in
theorem doneC {b : Nat} {od mu v dn rn : Int} {fv : Value} {W : World} (h : W.heap[b]? = some (blk od mu fv v dn rn)) (hM : May Shun Lw b)
    (hT : ∀ y, Conc.AtRel W y → Goes Try.prog true Conc.AtRel (DF Shun Lw) St mT (G (b₀.at (a₀.put ((ops₀[i₀]?).bind (·.dst)) (.bool (dn != 0))) (.inRegion ops₀ rest₀ :: k₀)) cs) y) :
    ∀ y, Conc.AtRel W y → Goes Try.prog true Conc.AtRel (DF Shun Lw) St (mT + 60) (G ((base 12).at { tmps := #[.pointer (some ⟨b, 0, none⟩)] ++ Array.replicate 10 undef, defers := [] } [.code (Try.f12.body.getD .skip)]) (b₀.at a₀ (.inRegion ops₀ (i₀ :: rest₀) :: k₀) :: cs)) y := by
  intro y hF
  have c5 := blk5 h
  have hep := ev_neq_ptr p24
  simp only [Try.f12, Option.getD_some]
  walk_nrm
  u_c stepG_seq at_rely hF
  u_reg at_rely hF
  u_op at_rely hF
  u_c stepG_region_end at_rely hF
  u_c stepG_seq at_rely hF
  u_reg at_rely hF
  u_op at_rely hF
  u_op at_rely hF
  u_op at_rely hF
  u_op at_rely hF
  u_op at_rely hF
  u_op at_rely hF
  u_in at_rely hF
  refine goes_call rfl rfl (by k_ne) rfl Try.func35 x35 rfl ⟨by u_nil, ?_⟩
  have hA := @boolLoad Shun Lw
  simp only [Try.f35, Option.getD_some, Array.replicate_succ, Array.replicate_zero, List.push_toArray, List.append_toArray, List.nil_append, List.cons_append] at hA
  walk_nrmf Try.f35
  refine Goes.mono (hA (mT := mT + 20) c5 (hM _ rfl).2 (fun y hF => ?_) _ hF) (by omega)
  clear hA
  walk_nrm
  u_op at_rely hF
  u_op at_rely hF
  u_c stepG_region_end at_rely hF
  u_c stepG_ret' at_rely hF
  u_leave1 Try.func12 at_rely hF
  exact Goes.mono (hT _ hF) (by omega)

set_option maxRecDepth 100000 in
set_option maxHeartbeats 8000000 in
theorem runsC {b : Nat} {od mu v dn rn : Int} {fv : Value} {W : World} (h : W.heap[b]? = some (blk od mu fv v dn rn)) (hM : May Shun Lw b)
    (hT : ∀ y, Conc.AtRel W y → Goes Try.prog true Conc.AtRel (DF Shun Lw) St mT (G (b₀.at (a₀.put ((ops₀[i₀]?).bind (·.dst)) (.int .i64 rn)) (.inRegion ops₀ rest₀ :: k₀)) cs) y) :
    ∀ y, Conc.AtRel W y → Goes Try.prog true Conc.AtRel (DF Shun Lw) St (mT + 60) (G ((base 18).at { tmps := #[.pointer (some ⟨b, 0, none⟩)] ++ Array.replicate 8 undef, defers := [] } [.code (Try.f18.body.getD .skip)]) (b₀.at a₀ (.inRegion ops₀ (i₀ :: rest₀) :: k₀) :: cs)) y := by
  intro y hF
  have c6 := blk6 h
  have hev := ev_eql_nil p24
  simp only [Try.f18, Option.getD_some]
  walk_nrm
  u_c stepG_seq at_rely hF
  u_reg at_rely hF
  u_op at_rely hF
  u_c stepG_region_end at_rely hF
  u_c stepG_seq at_rely hF
  u_c stepG_seq at_rely hF
  u_reg at_rely hF
  u_op at_rely hF
  u_op at_rely hF
  u_c stepG_region_end at_rely hF
  u_cond false at_rely hF
  u_c stepG_skip at_rely hF
  u_c stepG_seq at_rely hF
  u_reg at_rely hF
  u_op at_rely hF
  u_op at_rely hF
  u_op at_rely hF
  u_in at_rely hF
  refine goes_call rfl rfl (by k_ne) rfl Try.func41 x41 rfl ⟨by u_nil, ?_⟩
  have hA := @int64Load Shun Lw
  simp only [Try.f41, Option.getD_some, Array.replicate_succ, Array.replicate_zero, List.push_toArray, List.append_toArray, List.nil_append, List.cons_append] at hA
  walk_nrmf Try.f41
  refine Goes.mono (hA (mT := mT + 20) c6 (hM _ rfl).2 (fun y hF => ?_) _ hF) (by omega)
  clear hA
  walk_nrm
  u_op at_rely hF
  u_c stepG_region_end at_rely hF
  u_c stepG_ret' at_rely hF
  u_leave1 Try.func18 at_rely hF
  exact Goes.mono (hT _ hF) (by omega)

set_option maxRecDepth 100000 in
set_option maxHeartbeats 8000000 in
theorem awakeC {Stop : Goroutine → World → Prop} {m : Nat} {W : World} (hM : ∀ b, W.heap.size ≤ b → May Shun Lw b)
    (hT : ∀ W', Only (fun _ => False) W W' → ∀ y, Conc.AtRel W' y → Goes Try.prog true Conc.AtRel (DF Shun Lw) (Fz Shun Lw Stop m) mT (G (b₀.at (a₀.put ((ops₀[i₀]?).bind (·.dst)) (.bool true)) (.inRegion ops₀ rest₀ :: k₀)) cs) y) :
    ∀ y, Conc.AtRel W y → Goes Try.prog true Conc.AtRel (DF Shun Lw) (Fz Shun Lw Stop (m + 2)) 400 (G ((base 13).at { tmps := Array.replicate 20 undef, defers := [] } [.code (Try.f13.body.getD .skip)]) (b₀.at a₀ (.inRegion ops₀ (i₀ :: rest₀) :: k₀) :: cs)) y := by
  intro y hF
  have hep := ev_neq_ptr p24
  have hnr := hnot2
  have hne := hnot3
  simp only [Try.f13, Option.getD_some]
  walk_nrm
  u_c stepG_seq at_rely hF
  u_reg at_rely hF
  u_op at_rely hF
  u_c stepG_region_end at_rely hF
  u_c stepG_seq at_rely hF
  u_reg at_rely hF
  u_in at_rely hF
  refine goes_call rfl rfl (by k_ne) rfl Try.func9 x9 rfl ⟨by u_nil, ?_⟩
  have hA := @newC Shun Lw
  simp only [Try.f9, Option.getD_some, Array.replicate_succ, Array.replicate_zero, List.push_toArray, List.append_toArray, List.nil_append, List.cons_append] at hA
  walk_nrmf Try.f9
  refine Goes.mono (hA (mT := 350) (.inr ⟨_, _, _, rfl⟩) (hM _ (Nat.le_refl _)) (fun y hF => ?_) _ hF) (by omega)
  clear hA
  have h0 := box_new W (blk 0 0 f36 0 0 0)
  have o0 : Only (fun _ => False) W (W.alloc (blk 0 0 f36 0 0 0)) := (Only.refl _ W).alloc _
  have hsz : (W.alloc (blk 0 0 f36 0 0 0)).heap.size = W.heap.size + 1 := by simp
  generalize hW0 : W.alloc (blk 0 0 f36 0 0 0) = W0 at hF h0 o0 hsz
  clear hW0
  have H0 := Lib.hid h0; have O0 := Lib.hid o0; have HZ := Lib.hid hsz; clear h0 o0 hsz
  walk_nrm
  u_op at_rely hF
  u_c stepG_region_end at_rely hF
  u_c stepG_seq at_rely hF
  u_reg at_rely hF
  u_op at_rely hF
  u_op at_rely hF
  u_op at_rely hF
  u_op at_rely hF
  u_in at_rely hF
  refine goes_call rfl rfl (by k_ne) rfl Try.func12 x12 rfl ⟨by u_nil, ?_⟩
  have hA := @doneC Shun Lw
  simp only [Try.f12, Option.getD_some, Array.replicate_succ, Array.replicate_zero, List.push_toArray, List.append_toArray, List.nil_append, List.cons_append] at hA
  walk_nrmf Try.f12
  refine Goes.mono (hA (mT := 270) H0.out (hM _ (Nat.le_refl _)) (fun y hF => ?_) _ hF) (by omega)
  clear hA
  walk_nrm
  u_op at_rely hF
  u_op at_rely hF
  u_op at_rely hF
  u_op at_rely hF
  u_in at_rely hF
  refine goes_call rfl rfl (by k_ne) rfl Try.func11 x11 rfl ⟨by u_nil, ?_⟩
  have hr : Runs Shun Lw W.heap.size (W0.setCell ⟨W.heap.size, 1, none⟩ (.int .i32 1)) ((((((W0.setCell ⟨W.heap.size, 1, none⟩ (.int .i32 1)).alloc (.cells #[.pointer (some ⟨W.heap.size, 0, none⟩)] 24)).setCell ⟨W.heap.size, 6, none⟩ (.int .i64 1)).setCell ⟨W.heap.size, 4, none⟩ (.int .i64 7)).setCell ⟨W.heap.size, 5, none⟩ (.int .u32 1))) :=
    fun St b₀ a₀ ops₀ i₀ rest₀ k₀ cs mT hT => runSeven (blkset H0.out 1 _ (blk 0 1 f36 0 0 0) rfl) (hM _ (Nat.le_refl _)) (hM _ (by simp; have := HZ.out; omega)) hT
  have hX := blkset (blkset (blkset (box_old (x := .cells #[.pointer (some ⟨W.heap.size, 0, none⟩)] 24) (blkset H0.out 1 (.int .i32 1) (blk 0 1 f36 0 0 0) rfl)) 6 (.int .i64 1) (blk 0 1 f36 0 0 1) rfl) 4 (.int .i64 7) (blk 0 1 f36 7 0 1) rfl) 5 (.int .u32 1) (blk 0 1 f36 7 1 1) rfl
  have oX : Only (fun _ => False) W ((((((W0.setCell ⟨W.heap.size, 1, none⟩ (.int .i32 1)).alloc (.cells #[.pointer (some ⟨W.heap.size, 0, none⟩)] 24)).setCell ⟨W.heap.size, 6, none⟩ (.int .i64 1)).setCell ⟨W.heap.size, 4, none⟩ (.int .i64 7)).setCell ⟨W.heap.size, 5, none⟩ (.int .u32 1))) :=
    ((((O0.out.set _ _ (.inl (Nat.le_refl _))).alloc _).set _ _ (.inl (Nat.le_refl _))).set _ _ (.inl (Nat.le_refl _))).set _ _ (.inl (Nat.le_refl _))
  generalize ((((((W0.setCell ⟨W.heap.size, 1, none⟩ (.int .i32 1)).alloc (.cells #[.pointer (some ⟨W.heap.size, 0, none⟩)] 24)).setCell ⟨W.heap.size, 6, none⟩ (.int .i64 1)).setCell ⟨W.heap.size, 4, none⟩ (.int .i64 7)).setCell ⟨W.heap.size, 5, none⟩ (.int .u32 1))) = X at hr hX oX
  have HX := Lib.hid hX; have OX := Lib.hid oX; have HR := Lib.hid hr; clear hX oX hr
  have hA := @getC Shun Lw Stop m
  simp only [Try.f11, Option.getD_some, Array.replicate_succ, Array.replicate_zero, List.push_toArray, List.append_toArray, List.nil_append, List.cons_append] at hA
  walk_nrmf Try.f11
  refine Goes.mono (hA (mT := mT + 200) H0.out HX.out (hM _ (Nat.le_refl _)) HR.out (fun y hF => ?_) _ hF) (by omega)
  clear hA
  have h2 := blkset (blkset HX.out 0 (.int .u32 1) (blk 1 1 f36 7 1 1) rfl) 1 (.int .i32 0) (blk 1 0 f36 7 1 1) rfl
  have o2 : Only (fun _ => False) W ((X.setCell ⟨W.heap.size, 0, none⟩ (.int .u32 1)).setCell ⟨W.heap.size, 1, none⟩ (.int .i32 0)) := (OX.out.set _ _ (.inl (Nat.le_refl _))).set _ _ (.inl (Nat.le_refl _))
  generalize (X.setCell ⟨W.heap.size, 0, none⟩ (.int .u32 1)).setCell ⟨W.heap.size, 1, none⟩ (.int .i32 0) = W2 at hF h2 o2
  have H2 := Lib.hid h2; have O2 := Lib.hid o2; clear h2 o2
  walk_nrm
  u_op at_rely hF
  u_op at_rely hF
  u_op at_rely hF
  u_op at_rely hF
  u_in at_rely hF
  refine goes_call rfl rfl (by k_ne) rfl Try.func18 x18 rfl ⟨by u_nil, ?_⟩
  have hA := @runsC Shun Lw
  simp only [Try.f18, Option.getD_some, Array.replicate_succ, Array.replicate_zero, List.push_toArray, List.append_toArray, List.nil_append, List.cons_append] at hA
  walk_nrmf Try.f18
  refine Goes.mono (hA (mT := mT + 40) H2.out (hM _ (Nat.le_refl _)) (fun y hF => ?_) _ hF) (by omega)
  clear hA
  walk_nrm
  u_op at_rely hF
  u_op at_rely hF
  u_op at_rely hF
  u_c stepG_region_end at_rely hF
  u_c stepG_ret' at_rely hF
  u_leave1 Try.func13 at_rely hF
  exact Goes.mono (hT _ O2.out _ hF) (by omega)
end
end Go.Proofs.Ytdkbkocklnnmdaa.free
