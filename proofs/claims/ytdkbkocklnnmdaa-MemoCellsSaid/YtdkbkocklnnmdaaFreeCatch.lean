/-
  Beside goroutines that only leave: main's walk through run's deferred closure when nothing has panicked, with what is behind it as it goes on. Conditions: the closure's box and the cell hold what is said and may be touched.
-/
import Derived.Recover
import Derived.Test.YtdkbkocklnnmdaaFreeStore
import Derived.Test.YtdkbkocklnnmdaaCell
set_option linter.unusedSimpArgs false
set_option linter.unusedVariables false
namespace Go.Proofs.Ytdkbkocklnnmdaa.free
open Go Go.Conc Go.RowKit Go.ConcR.Gen Go.ConcN.Gen Go.Proofs.Ytdkbkocklnnmdaa.crew Go.Proofs.Ytdkbkocklnnmdaa.kid Go.Proofs.Ytdkbkocklnnmdaa.wg
open Go.ConcX.Gen (setCell_at alloc_at)

section
variable {P : Program} {main : Bool} {b : Frame} {a : Act} {k : List Item} {c : Frame} {cs : List Frame} {w : World} {ops : Array Oper} {i : Nat} {rest : List Nat} {o : Oper}
/-- recover where nothing has panicked. -/
theorem stepG_recover_idle (ho : ops[i]? = some o) (hw : Region.wanted o (yielded ops a.tmps) = true) (hk : b.kind = .deferred) (hop : o.op = .call { callee := .builtin .recover, args := #[], argTypes := #[] }) (hro : (b.at a (.inRegion ops (i :: rest) :: k)).roundOf = none) (hc : c.mode = .returning) :
    stepG P main (G (b.at a (.inRegion ops (i :: rest) :: k)) (c :: cs)) w = .go (G (b.at (a.put o.dst .nilIface) (.inRegion ops rest :: k)) (c :: cs)) w := by
  have hfin : (b.at a (.inRegion ops (i :: rest) :: k)).finish .nilIface = b.at (a.put o.dst .nilIface) (.inRegion ops rest :: k) := by rw [Frame.finish_at, ho]; rfl
  rw [stepG_oper ho hw, ← hfin]
  have hr : (execOp a.eval o).run P w = .ok .recover w := by unfold execOp; simp [hop, go_sem]
  have he : (execOp a.eval o).events P w #[] = #[] := by unfold execOp; simp [hop, go_sem]
  have ht : tryRecover (b.at a (.inRegion ops (i :: rest) :: k)) (c :: cs) = none := by
    rw [tryRecover_deferred (show (b.at a (.inRegion ops (i :: rest) :: k)).kind = .deferred from hk)]
    simp [recoverD, hc]
  have hr2 : (b.at a (.inRegion ops (i :: rest) :: k)).roundOf = none := hro
  simp [stepG.apply, hr, ht, hr2, he, G, GStep.after, listed, seen_none]
/-- A deferred closure is entered. -/
theorem stepG_unwind_clo {todo : List Item} {f : FuncId} {fn : Func} {caps args : Array Value} {ds : List Deferred} {c : Code} (hd : a.defers = { target := .fn (.func f) caps, args } :: ds) (hf : P.funcs[f]? = some fn) (hname : (fn.name == "runtime.NumGoroutine") = false) (hb : fn.body = some c) :
    stepG P main (G { b.at a todo with mode := .returning } cs) w =
      .go (G ((baseD f).at { tmps := (args ++ caps) ++ Array.replicate (fn.ntmps - (args ++ caps).size) undef, defers := [] } [.code c]) ({ b.at ⟨a.tmps, ds⟩ todo with mode := .returning } :: cs)) w #[] := by
  have h1 : ¬ fn.name = "runtime.NumGoroutine" := by simpa using hname
  rw [← enter_atD (args ++ caps) hf hb]
  simp [G, stepG, unwind, callDeferred, Frame.at, hd, invoke, callFunc, hf, h1, hb, GStep.after, seen_none]
end

theorem x56 : (Try.f56.name == "runtime.NumGoroutine") = false := by kernel_rfl
theorem x57 : (Try.f57.name == "runtime.NumGoroutine") = false := by kernel_rfl
theorem ev_neq_nil (w : World) (es : Array Event) : (binOp .neq 20 .nilIface .nilIface).events Try.prog w es = es := by kernel_rfl
theorem run_neq_nil (w : World) : (binOp .neq 20 .nilIface .nilIface).run Try.prog w = .ok (.bool false) w := by kernel_rfl

section
variable {Shun Lw : Loc → Prop} {St : Goroutine → World → Prop} {cs : List Frame} {mT : Nat}
set_option maxRecDepth 100000 in
set_option maxHeartbeats 16000000 in
theorem catchD {b bx : Nat} {u : Value} {c₀ : Frame} {W : World} (hcm : c₀.mode = .returning) (hx : W.cell? ⟨bx, 0, none⟩ = some (.pointer (some ⟨b, 0, none⟩))) (c5 : W.cell? ⟨b, 5, none⟩ = some u) (z5 : W.frozen? ⟨b, 5, none⟩ = false) (hM : May Shun Lw b) (hMx : May Shun Lw bx)
    (hT : ∀ y, Conc.AtRel (W.setCell ⟨b, 5, none⟩ (.int .u32 1)) y → Goes Try.prog true Conc.AtRel (DF Shun Lw) St mT (G c₀ cs) y) :
    ∀ y, Conc.AtRel W y → Goes Try.prog true Conc.AtRel (DF Shun Lw) St (mT + 80) (G ((baseD 56).at { tmps := #[.pointer (some ⟨bx, 0, none⟩)] ++ Array.replicate 13 undef, defers := [] } [.code (Try.f56.body.getD .skip)]) (c₀ :: cs)) y := by
  intro y hF
  simp only [Try.f56, Option.getD_some]
  walk_nrm
  u_c stepG_seq at_rely hF
  u_c stepG_seq at_rely hF
  u_reg at_rely hF
  u_in at_rely hF
  rw [stepG_recover_idle rfl rfl rfl rfl rfl hcm]
  simp only [goes_go]
  refine ⟨by u_nil, ?_⟩
  walk_nrm
  have hnn := run_neq_nil
  have hne := ev_neq_nil
  u_op at_rely hF
  u_c stepG_region_end at_rely hF
  u_c stepG_seq at_rely hF
  u_reg at_rely hF
  u_op at_rely hF
  u_op at_rely hF
  u_c stepG_region_end at_rely hF
  u_cond false at_rely hF
  u_c stepG_skip at_rely hF
  u_reg at_rely hF
  u_in at_rely hF
  refine goes_oper_k rfl rfl (by k_ne) (fun K hK => ?_)
  have hcl := free.at_cell hF
  have hfz := free.at_frozen hF
  have hsz := free.at_size hF
  go_simp
  refine hK _ _ ⟨fun e he => ?_, ?_⟩
  · (have hm := mem_listed he; simp [go_sem, storedEv, *] at hm; try (subst hm; refine free.evS_may ?_ (Eq.refl _); assumption))
  clear hK K hcl hfz hsz
  u_op at_rely hF
  u_op at_rely hF
  u_in at_rely hF
  refine goes_call rfl rfl (by k_ne) rfl Try.func57 x57 rfl ⟨by u_nil, ?_⟩
  have hA := @storeC Shun Lw St
  simp only [Try.f57, Option.getD_some, Array.replicate_succ, Array.replicate_zero, List.push_toArray, List.append_toArray, List.nil_append, List.cons_append] at hA
  walk_nrmf Try.f57
  refine Goes.mono (hA (mT := mT + 20) c5 z5 (hM _ rfl).2 (fun y hF => ?_) _ hF) (by omega)
  clear hA
  walk_nrm
  u_c stepG_region_end at_rely hF
  u_c stepG_end at_rely hF
  u_in at_rely hF
  rw [stepG_leave_deferred rfl rfl Try.func56 (results_none rfl _ _ _) (events_results_none rfl _ _) hcm]
  simp only [goes_go]
  refine ⟨by u_nil, ?_⟩
  exact Goes.mono (hT _ hF) (by omega)
end
end Go.Proofs.Ytdkbkocklnnmdaa.free
