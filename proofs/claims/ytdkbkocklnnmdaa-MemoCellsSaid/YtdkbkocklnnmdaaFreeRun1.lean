/-
  Beside goroutines that only leave: main's walk through memo.Cell[int].run when the cell has no function, with what is behind it as it goes on; laws of a closure's call and of its defer. Conditions: the cell holds what is said and may be touched.
-/
import Derived.Test.YtdkbkocklnnmdaaFreeCatch
import Derived.Test.YtdkbkocklnnmdaaGet
set_option linter.unusedSimpArgs false
set_option linter.unusedVariables false
namespace Go.Proofs.Ytdkbkocklnnmdaa.free
open Go Go.Conc Go.RowKit Go.ConcR.Gen Go.ConcN.Gen Go.Proofs.Ytdkbkocklnnmdaa.crew Go.Proofs.Ytdkbkocklnnmdaa.kid Go.Proofs.Ytdkbkocklnnmdaa.wg
open Go.ConcX.Gen (setCell_at alloc_at)

section
variable {P : Program} {main : Bool} {b : Frame} {a : Act} {k : List Item} {cs : List Frame} {w : World} {ops : Array Oper} {i : Nat} {rest : List Nat} {o : Oper}
/-- A closure's defer. -/
theorem stepG_defer_clo {x : Operand} {f : FuncId} {caps : Array Value} {ats : Array TypeId} (ho : ops[i]? = some o) (hw : Region.wanted o (yielded ops a.tmps) = true) (hk : b.kind ≠ .early)
    (hop : o.op = .defer { callee := .value x, args := #[], argTypes := ats }) (hx : a.eval x = .func (.func f) #[] caps) :
    stepG P main (G (b.at a (.inRegion ops (i :: rest) :: k)) cs) w = .go (G (b.at (Act.put ⟨a.tmps, { target := .fn (.func f) caps, args := #[] } :: a.defers⟩ o.dst undef) (.inRegion ops rest :: k)) cs) w #[] := by
  have hr : (execOp a.eval o).run P w = .ok (.defer { target := .fn (.func f) caps, args := #[] }) w := by
    unfold execOp
    simp [hop, resolve, Deferred.ofValue, hx]
  have he : (execOp a.eval o).events P w #[] = #[] := by
    unfold execOp
    simp [hop, resolve, Deferred.ofValue, hx]
  have hfin : (b.at ⟨a.tmps, { target := .fn (.func f) caps, args := #[] } :: a.defers⟩ (.inRegion ops (i :: rest) :: k)).finish undef = b.at (Act.put ⟨a.tmps, { target := .fn (.func f) caps, args := #[] } :: a.defers⟩ o.dst undef) (.inRegion ops rest :: k) := by rw [Frame.finish_at, ho]; rfl
  have hk' : (b.kind == CallKind.early) = false := by simpa using hk
  rw [stepG_oper ho hw, ← hfin]
  simp [stepG.apply, hr, G, Frame.at, hk', GStep.after, listed, he, seen_none]

/-- A closure is called. -/
theorem goes_callv {x : Operand} {f : FuncId} {fn : Func} {c : Code} {first caps : Array Value} {ats : Array TypeId} {K : Goroutine → World → Array Event → Prop} (ho : ops[i]? = some o) (hw : Region.wanted o (yielded ops a.tmps) = true) (hk : b.kind ≠ .early)
    (hop : o.op = .call { callee := .value x, args := #[], argTypes := ats }) (hx : a.eval x = .func (.func f) first caps)
    (hf : P.funcs[f]? = some fn) (hname : (fn.name == "runtime.NumGoroutine") = false) (hb : fn.body = some c)
    (h : K (G ((base f).at { tmps := (first ++ caps) ++ Array.replicate (fn.ntmps - (first ++ caps).size) undef, defers := [] } [.code c]) (b.at a (.inRegion ops (i :: rest) :: k) :: cs)) w #[]) :
    (stepG P main (G (b.at a (.inRegion ops (i :: rest) :: k)) cs) w).goes K := by
  have h1 : ¬ fn.name = "runtime.NumGoroutine" := by simpa using hname
  have h2 : ¬ fn.body = none := by rw [hb]; simp
  have hr : (execOp a.eval o).run P w = .ok (.enter f (first ++ caps)) w := by
    unfold execOp
    simp [hop, resolve, Deferred.ofValue, invoke, callFunc, hf, h1, h2, hx]
  have he : (execOp a.eval o).events P w #[] = #[] := by
    unfold execOp
    simp [hop, resolve, Deferred.ofValue, invoke, callFunc, hf, h1, h2, hx]
  rw [stepG_enter ho hw hk hr, enter_at _ hf hb]
  have : listed P b.fn a o w = #[] := by unfold listed; rw [he]; exact seen_none P _
  rw [this]
  exact h
end

theorem x34 : (Try.f34.name == "runtime.NumGoroutine") = false := by kernel_rfl
theorem ev_feq_nil (w : World) (es : Array Event) : (binOp .eql 26 .nilFunc .nilFunc).events Try.prog w es = es := by kernel_rfl
theorem run_feq_nil (w : World) : (binOp .eql 26 .nilFunc .nilFunc).run Try.prog w = .ok (.bool true) w := by kernel_rfl

section
variable {Shun Lw : Loc → Prop} {St : Goroutine → World → Prop} {b₀ : Frame} {a₀ : Act} {ops₀ : Array Oper} {i₀ : Nat} {rest₀ : List Nat} {k₀ : List Item} {cs : List Frame} {mT : Nat}
set_option maxRecDepth 100000 in
set_option maxHeartbeats 16000000 in
theorem runNil {b : Nat} {W : World} (h : W.heap[b]? = some (blk 0 1 .nilFunc 0 0 0)) (hM : May Shun Lw b) (hMx : May Shun Lw W.heap.size)
    (hT : ∀ y, Conc.AtRel ((W.alloc (.cells #[.pointer (some ⟨b, 0, none⟩)] 24)).setCell ⟨b, 5, none⟩ (.int .u32 1)) y → Goes Try.prog true Conc.AtRel (DF Shun Lw) St mT (G (b₀.at (a₀.put ((ops₀[i₀]?).bind (·.dst)) (.tuple #[])) (.inRegion ops₀ rest₀ :: k₀)) cs) y) :
    ∀ y, Conc.AtRel W y → Goes Try.prog true Conc.AtRel (DF Shun Lw) St (mT + 160) (G ((base 34).at { tmps := #[.pointer (some ⟨b, 0, none⟩)] ++ Array.replicate 19 undef, defers := [] } [.code (Try.f34.body.getD .skip)]) (b₀.at a₀ (.inRegion ops₀ (i₀ :: rest₀) :: k₀) :: cs)) y := by
  intro y hF
  have hbl := lt_of_block h
  have e0 := box_old (x := .cells #[.pointer (some ⟨b, 0, none⟩)] 24) h
  have eb := cell_of_one (box_new W (.cells #[.pointer (some ⟨b, 0, none⟩)] 24))
  have c3 := blk3 e0
  have c5 := blk5 e0
  have z5 := blkz e0 5
  have hmf := hmf2
  have hme := hmf3
  have hfr := run_feq_nil
  have hfe := ev_feq_nil
  simp only [Try.f34, Option.getD_some]
  walk_nrm
  u_c stepG_seq at_rely hF
  u_reg at_rely hF
  u_in at_rely hF
  refine goes_oper_k rfl rfl (by k_ne) (fun K hK => ?_)
  have hcl := free.at_cell hF
  have hfz := free.at_frozen hF
  have hsz := free.at_size hF
  go_simp
  refine hK _ _ ⟨fun e he => ?_, ?_⟩
  · (have hm := mem_listed he; simp [go_sem, storedEv, *] at hm; try (subst hm; refine free.evS_may ?_ (Eq.refl _); assumption))
  clear hK K hcl hfz hsz
  refine free.next_alloc hF (fun _ hF => ?_)
  u_c stepG_region_end at_rely hF
  u_c stepG_seq at_rely hF
  u_reg at_rely hF
  u_op at_rely hF
  u_in at_rely hF
  rw [stepG_defer_clo rfl rfl (by k_ne) rfl rfl]
  simp only [goes_go]
  refine ⟨by u_nil, ?_⟩
  walk_nrm
  u_c stepG_region_end at_rely hF
  u_c stepG_seq at_rely hF
  u_c stepG_seq at_rely hF
  u_reg at_rely hF
  u_in at_rely hF
  refine goes_oper_k rfl rfl (by k_ne) (fun K hK => ?_)
  have hcl := free.at_cell hF
  have hfz := free.at_frozen hF
  have hsz := free.at_size hF
  go_simp
  refine hK _ _ ⟨fun e he => ?_, ?_⟩
  · (have hm := mem_listed he; simp [go_sem, storedEv, *] at hm; try (subst hm; refine free.evS_may ?_ (Eq.refl _); assumption))
  clear hK K hcl hfz hsz
  u_op at_rely hF
  u_op at_rely hF
  u_in at_rely hF
  refine goes_oper_k rfl rfl (by k_ne) (fun K hK => ?_)
  have hcl := free.at_cell hF
  have hfz := free.at_frozen hF
  have hsz := free.at_size hF
  go_simp
  refine hK _ _ ⟨fun e he => ?_, ?_⟩
  · (have hm := mem_listed he; simp [go_sem, storedEv, *] at hm; try (subst hm; refine free.evS_may ?_ (Eq.refl _); assumption))
  clear hK K hcl hfz hsz
  u_op at_rely hF
  u_c stepG_region_end at_rely hF
  u_cond true at_rely hF
  u_c stepG_ret' at_rely hF
  u_in at_rely hF
  rw [stepG_unwind_clo rfl Try.func56 x56 rfl]
  simp only [goes_go]
  refine ⟨by u_nil, ?_⟩
  have hA := @catchD Shun Lw St
  simp only [Try.f56, Option.getD_some, Array.replicate_succ, Array.replicate_zero, List.push_toArray, List.append_toArray, List.nil_append, List.cons_append] at hA
  walk_nrmf Try.f56
  refine Goes.mono (hA (mT := mT + 5) rfl eb c5 z5 hM hMx (fun y hF => ?_) _ hF) (by omega)
  clear hA
  u_leave0 Try.func34 at_rely hF
  exact Goes.mono (hT _ hF) (by omega)
end
end Go.Proofs.Ytdkbkocklnnmdaa.free
