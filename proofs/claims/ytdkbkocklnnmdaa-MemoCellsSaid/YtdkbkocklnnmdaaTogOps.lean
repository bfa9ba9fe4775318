/-
  Plain accesses of one of many, each as one step with what the trace keeps of it: loads, stores, the boxing of a pointer. Conditions: those that the theorems name.
-/
import Derived.Test.YtdkbkocklnnmdaaTogLock7
set_option linter.unusedSimpArgs false
set_option linter.unusedVariables false
namespace Go.Proofs.Ytdkbkocklnnmdaa.tog
open Go Go.Conc Go.RowKit Go.ConcR.Gen Go.ConcN.Gen Go.Proofs.Ytdkbkocklnnmdaa.wg Go.Proofs.Ytdkbkocklnnmdaa.kid Go.Proofs.Ytdkbkocklnnmdaa.lock Go.Proofs.Ytdkbkocklnnmdaa.free
open Go.ConcR (KK WgAt stA smA rd wr mk DC0)
open Go.ConcN (WgLive RW AtR0)
open Go.Conc.Lib

theorem seen_one {f : FuncId} {ad : Addr} {wr : Bool} (hq : (Try.prog.funcs[f]?).any (·.norace) = false) : seen Try.prog f #[⟨.cell ad, wr, false⟩] = #[⟨.cell ad, wr, false⟩] := by
  rw [seen_def, hq]
  simp [seenStep]
theorem events_store_str (P : Program) (w : World) (es : Array Event) (a : Addr) (m : Mode) (s : ByteArray) : (store a (.string s) m).events P w es = storedEv P w es a (.string s) m := events_store P w es a _ m rfl
theorem events_store_ptr (P : Program) (w : World) (es : Array Event) (a : Addr) (m : Mode) (p : Option Addr) : (store a (.pointer p) m).events P w es = storedEv P w es a (.pointer p) m := events_store P w es a _ m rfl
section
variable {main : Bool} {b : Frame} {a : Act} {kk : List Item} {cs : List Frame} {w : World} {ops : Array Oper} {i : Nat} {rest : List Nat} {o : Oper}
/-- The types whose values lie in one cell. -/
def one (ty : TypeId) : Prop := ty = 3 ∨ ty = 9 ∨ ty = 24 ∨ ty = 50 ∨ ty = 26 ∨ ty = 52 ∨ ty = 53 ∨ ty = 25 ∨ ty = 2
theorem stepG_loadE {ty : TypeId} {x : Operand} (ht : one ty) (ho : ops[i]? = some o) (hw : Region.wanted o (yielded ops a.tmps) = true) (hk : b.kind ≠ .early) (hop : o.op = .load ty x)
    {ad : Addr} {v : Value} (hx : a.eval x = .pointer (some ad)) (hc : w.cell? ad = some v) (hq : (Try.prog.funcs[b.fn]?).any (·.norace) = false) :
    stepG Try.prog main (G (b.at a (.inRegion ops (i :: rest) :: kk)) cs) w = .go (G (b.at (a.put o.dst v) (.inRegion ops rest :: kk)) cs) w #[⟨.cell ad, false, false⟩] := by
  have hr : (execOp a.eval o).run Try.prog w = .ok (.value v) w := by
    unfold execOp
    simp only [hop, hx]
    rcases ht with rfl | rfl | rfl | rfl | rfl | rfl | rfl | rfl | rfl <;> simp [go_sem, hc]
  have he : (execOp a.eval o).events Try.prog w #[] = #[⟨.cell ad, false, false⟩] := by
    unfold execOp
    simp only [hop, hx]
    rcases ht with rfl | rfl | rfl | rfl | rfl | rfl | rfl | rfl | rfl <;> simp [go_sem, hc]
  rw [stepG_value ho hw hk hr]
  unfold listed
  rw [he, seen_one hq]
theorem stepG_storeE {ty : TypeId} {x y : Operand} (ht : one ty) (ho : ops[i]? = some o) (hw : Region.wanted o (yielded ops a.tmps) = true) (hk : b.kind ≠ .early) (hop : o.op = .store ty x y)
    {ad : Addr} {v u : Value} (hx : a.eval x = .pointer (some ad)) (hy : a.eval y = v) (hv : Atom v) (hc : w.cell? ad = some u) (hz : w.frozen? ad = false) (hq : (Try.prog.funcs[b.fn]?).any (·.norace) = false) :
    stepG Try.prog main (G (b.at a (.inRegion ops (i :: rest) :: kk)) cs) w = .go (G (b.at (a.put o.dst undef) (.inRegion ops rest :: kk)) cs) (w.setCell ad v) #[⟨.cell ad, true, false⟩] := by
  have hr : (execOp a.eval o).run Try.prog w = .ok .skip (w.setCell ad v) := by
    unfold execOp
    simp only [hop, hx, hy]
    clear hy
    rcases ht with rfl | rfl | rfl | rfl | rfl | rfl | rfl | rfl | rfl <;> rcases hv with ⟨k, n, rfl⟩ | ⟨s, rfl⟩ | ⟨p, rfl⟩ <;> simp [go_sem, hc, hz]
  have he : (execOp a.eval o).events Try.prog w #[] = #[⟨.cell ad, true, false⟩] := by
    unfold execOp
    simp only [hop, hx, hy]
    clear hy hr
    rcases ht with rfl | rfl | rfl | rfl | rfl | rfl | rfl | rfl | rfl <;> rcases hv with ⟨k, n, rfl⟩ | ⟨s, rfl⟩ | ⟨p, rfl⟩ <;> simp [go_sem, hc, hz, storedEv, events_store_str, events_store_ptr]
  rw [stepG_none ho hw hk hr]
  unfold listed
  rw [he, seen_one hq]
theorem stepG_boxE {x : Operand} {v : Value} (ho : ops[i]? = some o) (hw : Region.wanted o (yielded ops a.tmps) = true) (hk : b.kind ≠ .early) (hop : o.op = .box 50 x) (hx : a.eval x = v) (hv : Atom v) (hq : (Try.prog.funcs[b.fn]?).any (·.norace) = false) :
    stepG Try.prog main (G (b.at a (.inRegion ops (i :: rest) :: kk)) cs) w = .go (G (b.at (a.put o.dst (.pointer (some ⟨w.heap.size, 0, none⟩))) (.inRegion ops rest :: kk)) cs) (w.alloc (.cells #[v] 50)) #[] := by
  have hr : (execOp a.eval o).run Try.prog w = .ok (.value (.pointer (some ⟨w.heap.size, 0, none⟩))) (w.alloc (.cells #[v] 50)) := by
    unfold execOp
    simp only [hop, hx]
    clear hx
    rcases hv with ⟨k, n, rfl⟩ | ⟨s, rfl⟩ | ⟨p, rfl⟩ <;> simp [go_sem]
  have he : (execOp a.eval o).events Try.prog w #[] = #[] := by
    unfold execOp
    simp only [hop, hx]
    clear hx hr
    rcases hv with ⟨k, n, rfl⟩ | ⟨s, rfl⟩ | ⟨p, rfl⟩ <;> simp [go_sem, storedEv]
  rw [stepG_value ho hw hk hr]
  unfold listed
  rw [he]
  simp [seen]
end
end Go.Proofs.Ytdkbkocklnnmdaa.tog
