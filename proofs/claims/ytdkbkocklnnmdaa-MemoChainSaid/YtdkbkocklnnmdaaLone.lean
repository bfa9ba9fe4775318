/-
  From a contract of the ordinary walk (a run of one goroutine) to the row that says 'leaving' and 'timePasses': a call that starts no goroutine meets that row whenever it meets its contract and leaves the outside as it was. No condition of its own.
-/
import Derived.Conc.HoldsTime
import Derived.Conc.LeavingOf
import Derived.Below
import Derived.LoneHanded
namespace Go.Proofs.Ytdkbkocklnnmdaa.lone
open Go Go.Conc

theorem solo_eq_lone (fr : Frame) (w : World) : solo (G fr []) w = lone fr [] w := rfl

section
variable {H : Type} {enc : TypeId × Value → H}

theorem good_of_lone {P : Program} {n : Nat} {m : Machine} {fr : Frame} {w w' : World} {v : Value} {Post : Value → World → Prop}
    (h : runN P n m = .next (lone fr [] w)) (hp : Post v w') : Conc.Good P Post (lone fr [] w) (.done v) w' (runNT P (n + 1) m #[]).2 := by
  refine ⟨v, rfl, hp, fun said => (no_race_of_lone (said := said) P n m _ h (by simp [lone]) rfl).2, handedOver_of_lone h, ⟨?_, rfl⟩, ?_⟩
  · intro g hg; simp [lone] at hg
  · intro i g hg hi
    cases i with
    | zero => exact absurd rfl hi
    | succ k => simp [lone] at hg

/-- One good run from a contract of the ordinary walk. -/
theorem run_of_calls {P : Program} {f : FuncId} {args : Array Value} {W : World} {Post : Value → World → Prop}
    (noInit : P.inits.idxOf? f = none) (contract : Calls P f args W fun e W' => ∃ v, e = .returned v ∧ Post v W') :
    ∃ M last o w' t', runNT P (M + 1) (solo (G (Frame.enter P f args .normal) []) W) #[] = (.ended o w', t') ∧ runN P M (solo (G (Frame.enter P f args .normal) []) W) = .next last ∧
      step P last = .ended o w' ∧ Conc.Good P Post last o w' t' := by
  have hc : Calls P f args W fun | .returned v, w' => Post v w' | _, _ => False := contract.mono fun e W' ⟨v, he, hp⟩ => by subst he; exact hp
  obtain ⟨n, v, w', fr, hn, hend, hp⟩ := hc.done_lone noInit
  refine ⟨n, lone fr [] w', .done v, w', (runNT P (n + 1) (lone (Frame.enter P f args .normal) [] W) #[]).2, ?_, hn, step_of_runs hn hend, good_of_lone hn hp⟩
  rw [solo_eq_lone]
  refine Prod.ext ?_ rfl
  rw [runNT_fst]; exact hend

/-- From a contract of the ordinary walk, at every start, to the row's contract with 'leaving' and 'timePasses'. -/
theorem leaving_of_calls {a : Assume} {C : Checked} {os : Os} {f : FuncId} {fn : Func} {s : ChangeSpec} {F : Stop.Interp} {conds : List PathCond} {apart fresh handsOn : Bool}
    (own : ownKnob C.prog.godebug = none) (started : os.Started) (noInit : C.prog.inits.idxOf? f = none) (hfn : C.prog.funcs[f]? = some fn)
    (witness : ∃ (w : World) (tape : Tape) (i : Input), w.os = os ∧ (w.forCall tape i).Shaped C.prog ∧ i.vars = [] ∧ Input.okWide C.prog (w.forCall tape i) .any w.heap.size f i ∧
      s.pre6 enc C.prog fn conds apart (w.forCall tape i).memory i.args ∧ a.holds C.prog (lone (Frame.enter C.prog f i.args .normal) [] (w.forCall tape i)))
    (contract : ∀ (W : World) (base : Nat) (args : Array Value) (ds gs : List (DataW H)) (before : List MemPlace),
      (∀ (j : Nat) t v, fn.params[j]? = some t → args[j]? = some v → Value.okWide C.prog W .any base t v) →
      DataW.Whole enc C.prog fn.params.toList s.vars apart W args.toList ds gs before →
      Calls C.prog f args W fun e W' => ∃ v, e = .returned v ∧ s.post enc C.prog fn apart fresh handsOn false W args v W' ∧ W'.os = W.os) :
    ReturnsInLeavingWide a C os f .any (s.pre6 enc C.prog fn conds apart) ((OpenSpec.ofChange s).postWith enc C.prog fn F (outsideKept [.timePasses]) apart fresh handsOn) := by
  refine returnsInLeavingWide_of_change_time own started hfn witness ?_
  intro W base args ds gs before hval hW _ _ _
  refine run_of_calls noInit ((contract W base args ds gs before hval hW).mono ?_)
  rintro e W' ⟨v, he, hp, hos⟩
  refine ⟨v, he, ?_, ?_⟩
  · have : ({ W' with os := W.os } : World) = W' := by rw [← hos]
    rw [this]; exact hp
  · rw [hos]; exact ⟨0, by simp⟩
end
end Go.Proofs.Ytdkbkocklnnmdaa.lone
