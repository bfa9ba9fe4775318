/-
  A panic, a frame at a time: its raising, its way up, the deferred closure that it enters, its recovery, the return behind it. Conditions: those that the theorems name.
-/
import Derived.Recover
import Derived.Conc.DeferLaws
import Derived.RowKit
set_option linter.unusedVariables false
set_option linter.unusedSimpArgs false
namespace Go.Proofs.Ytdkbkocklnnmdaa.pan
open Go Go.Conc Go.RowKit

section
variable {P : Program} {main : Bool} {b : Frame} {a : Act} {k todo : List Item} {c : Frame} {cs : List Frame} {w w' : World} {ops : Array Oper} {i : Nat} {rest : List Nat} {o : Oper} {v : Value} {ch : List PanicEntry}
/-- An operation that yields a value and lists nothing. -/
theorem stepG_val0 (ho : ops[i]? = some o) (hw : Region.wanted o (yielded ops a.tmps) = true) (hk : b.kind ≠ .early) (hr : (execOp a.eval o).run P w = .ok (.value v) w) (he : (execOp a.eval o).events P w #[] = #[]) :
    stepG P main (G (b.at a (.inRegion ops (i :: rest) :: k)) cs) w = .go (G (b.at (a.put o.dst v) (.inRegion ops rest :: k)) cs) w := by
  rw [stepG_value ho hw hk hr]
  unfold listed
  rw [he, seen_none]
/-- An operation panics. -/
theorem stepG_raise (ho : ops[i]? = some o) (hw : Region.wanted o (yielded ops a.tmps) = true) (hk : b.kind ≠ .early) (hr : (execOp a.eval o).run P w = .halt (.panic v) w') (he : (execOp a.eval o).events P w #[] = #[]) :
    stepG P main (G (b.at a (.inRegion ops (i :: rest) :: k)) cs) w = .go (G { b.at a (.inRegion ops (i :: rest) :: k) with mode := .panicking [{ v, recovered := false }] } cs) w' := by
  have hk' : (b.kind == CallKind.early) = false := by simpa using hk
  rw [stepG_oper ho hw]
  simp [stepG.apply, hr, he, G, Frame.at, Frame.raise, hk', GStep.after, seen_none]
/-- It goes up to the caller. -/
theorem stepG_panic_up {fn : Func} (hd : a.defers = []) (hf : P.funcs[b.fn]? = some fn) (hc : c.mode = .run) :
    stepG P main (G { b.at a todo with mode := .panicking ch } (c :: cs)) w = .go (G { c with mode := .panicking ch } cs) w := by
  simp [G, stepG, unwind, Frame.at, hd, hf, Frame.catches, Frame.raise, hc]
/-- A deferred closure is entered while it goes. -/
theorem stepG_unwind_cloP {f : FuncId} {fn : Func} {caps args : Array Value} {ds : List Deferred} {c : Code} (hd : a.defers = { target := .fn (.func f) caps, args } :: ds) (hf : P.funcs[f]? = some fn) (hname : (fn.name == "runtime.NumGoroutine") = false) (hb : fn.body = some c) :
    stepG P main (G { b.at a todo with mode := .panicking ch } cs) w =
      .go (G ((baseD f).at { tmps := (args ++ caps) ++ Array.replicate (fn.ntmps - (args ++ caps).size) undef, defers := [] } [.code c]) ({ b.at ⟨a.tmps, ds⟩ todo with mode := .panicking ch } :: cs)) w #[] := by
  have h1 : ¬ fn.name = "runtime.NumGoroutine" := by simpa using hname
  rw [← enter_atD (args ++ caps) hf hb]
  simp [G, stepG, unwind, callDeferred, Frame.at, hd, invoke, callFunc, hf, h1, hb, GStep.after, seen_none]
/-- recover ends it. -/
theorem stepG_recover_live {older : List PanicEntry} (ho : ops[i]? = some o) (hw : Region.wanted o (yielded ops a.tmps) = true) (hk : b.kind = .deferred) (hop : o.op = .call { callee := .builtin .recover, args := #[], argTypes := #[] }) (hro : (b.at a (.inRegion ops (i :: rest) :: k)).roundOf = none)
    (hc : c.mode = .panicking ({ v, recovered := false } :: older)) :
    stepG P main (G (b.at a (.inRegion ops (i :: rest) :: k)) (c :: cs)) w = .go (G (b.at (a.put o.dst v) (.inRegion ops rest :: k)) ({ c with mode := .panicking ({ v, recovered := true } :: older) } :: cs)) w := by
  have hfin : (b.at a (.inRegion ops (i :: rest) :: k)).finish v = b.at (a.put o.dst v) (.inRegion ops rest :: k) := by rw [Frame.finish_at, ho]; rfl
  rw [stepG_oper ho hw, ← hfin]
  have hr : (execOp a.eval o).run P w = .ok .recover w := by unfold execOp; simp [hop, go_sem]
  have he : (execOp a.eval o).events P w #[] = #[] := by unfold execOp; simp [hop, go_sem]
  have ht : tryRecover (b.at a (.inRegion ops (i :: rest) :: k)) (c :: cs) = some (v, { c with mode := .panicking ({ v, recovered := true } :: older) } :: cs) := by
    rw [tryRecover_deferred (show (b.at a (.inRegion ops (i :: rest) :: k)).kind = .deferred from hk)]
    simp [recoverD, hc]
  have hr2 : (b.at a (.inRegion ops (i :: rest) :: k)).roundOf = none := hro
  simp [stepG.apply, hr, ht, hr2, he, G, GStep.after, listed, seen_none]
/-- The return of a deferred call to a frame whose panic is recovered. -/
theorem stepG_leave_recovered {fn : Func} {u : Value} (hn : b.kind = .deferred) (hd : a.defers = []) (hf : P.funcs[b.fn]? = some fn)
    (hr : (results fn a.tmps).run P w = .ok u w) (he : (results fn a.tmps).events P w #[] = #[]) (hc : c.mode = .panicking [{ v, recovered := true }]) :
    stepG P main (G { b.at a todo with mode := .returning } (c :: cs)) w = .go (G { c with mode := .returning } cs) w := by
  simp [G, stepG, unwind, doReturn, Frame.at, hn, hd, hf, hr, he, hc, seen, GStep.after]
end
end Go.Proofs.Ytdkbkocklnnmdaa.pan
