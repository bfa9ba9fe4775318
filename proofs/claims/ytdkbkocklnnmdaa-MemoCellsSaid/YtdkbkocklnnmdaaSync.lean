/-
  Contracts, for a run of one goroutine, of the atomic types' methods, of sync.Once (its function given by a contract of its own) and of memo.Cell's methods at int. Conditions: the cells named hold what is said, and are not frozen.
-/
import Derived.Test.YtdkbkocklnnmdaaProg
import Derived.Conc.MuLone
import Derived.Conc.MuData
import Derived.WalkKit
import Derived.Defers
import Derived.Recover
import Derived.RegionCalls
import Derived.Laws.LoneSync
import Derived.Laws.NewBlocks
import Derived.BigQuiet
import Derived.Deep.QuietTactic
import Derived.Outline
set_option linter.unusedSimpArgs false
set_option linter.unusedVariables false
namespace Go.Proofs.Ytdkbkocklnnmdaa
open Go Go.MuLone

abbrev Try.muLink : Go.Conc.Locks.MuLink := { lock := 84, unlock := 85, ilock := 94, iunlock := 95, lockSlow := 97, unlockSlow := 99, disable := 65, enable := 66, acquire := 77, relMerge := 64, cas32 := 96, add32 := 98, tMutex := 82, tIMutex := 80, tPMutex := 147, tPIMutex := 148, tPI32 := 150, tUP := 35, tNoCopy := 75, tU32 := 76 }
theorem Try.muLib : Go.Conc.Locks.MuLib Try.prog Try.muLink :=
  ⟨Try.func84, Try.func85, Try.func94, Try.func95, Try.func65, Try.func66, Try.func77, Try.func64, Try.func96, Try.func98, Try.underlying80, Try.runUnderlying80, Try.sizeOf80, Try.isAgg80, Try.zeroValue80, Try.underlying82, Try.runUnderlying82, Try.sizeOf82, Try.isAgg82, Try.zeroValue82, Try.underlying147, Try.runUnderlying147, Try.sizeOf147, Try.isAgg147, Try.zeroValue147, Try.underlying148, Try.runUnderlying148, Try.sizeOf148, Try.isAgg148, Try.zeroValue148, Try.underlying150, Try.runUnderlying150, Try.sizeOf150, Try.isAgg150, Try.zeroValue150, Try.underlying35, Try.runUnderlying35, Try.sizeOf35, Try.isAgg35, Try.zeroValue35, Try.underlying75, Try.runUnderlying75, Try.sizeOf75, Try.isAgg75, Try.zeroValue75, Try.underlying21, Try.runUnderlying21, Try.sizeOf21, Try.isAgg21, Try.zeroValue21, (by kernel_rfl)⟩

theorem hmf (fn : Fn) (first cap : Array Value) (w : World) : (Instr.makeFunc fn first cap).run Try.prog w = .ok (.func fn first cap) w := rfl
theorem hnot (x : Bool) (w : World) : (Op.unary .not (.bool x)).run Try.prog w = .ok (.bool (!x)) w := rfl

/-- '(*atomic.Bool).Load'. -/
theorem bload (a : Addr) (d : Int) (w : World) (h : w.cell? a = some (.int .u32 d)) :
    Calls Try.prog 35 #[.pointer (some a)] w fun e w' => e = .returned (.bool (d != 0)) ∧ w' = w := by
  have hl := run_call_load (P := Try.prog) Try.func59 (by kernel_rfl) (by kernel_rfl) (by kernel_rfl) .u32 (by kernel_rfl) h
  go_enter Try.func35, Try.ntmps35
  go_wp2
  go_ret
  exact ⟨rfl, rfl⟩

/-- '(*atomic.Int64).Load'. -/
theorem iload (a : Addr) (d : Int) (w : World) (h : w.cell? a = some (.int .i64 d)) :
    Calls Try.prog 41 #[.pointer (some a)] w fun e w' => e = .returned (.int .i64 d) ∧ w' = w := by
  have hl := run_call_load (P := Try.prog) Try.func63 (by kernel_rfl) (by kernel_rfl) (by kernel_rfl) .i64 (by kernel_rfl) h
  go_enter Try.func41, Try.ntmps41
  go_wp2
  go_ret
  exact ⟨rfl, rfl⟩

/-- '(*atomic.Int64).Add(1)' on 0. -/
theorem iadd (a : Addr) (w : World) (h : w.cell? a = some (.int .i64 0)) (hz : w.frozen? a = false) :
    Calls Try.prog 58 #[.pointer (some a), .int .i64 1] w fun e w' => e = .returned (.int .i64 1) ∧ w' = w.setCell a (.int .i64 1) := by
  have hadd := run_call_add (P := Try.prog) Try.func88 (by kernel_rfl) (by kernel_rfl) (by kernel_rfl) .i64 (by kernel_rfl) (y := 1) (s := 1) h hz (by simp [go_sem]; rfl)
  go_enter Try.func58, Try.ntmps58
  go_wp2
  go_ret
  exact ⟨rfl, rfl⟩
end Go.Proofs.Ytdkbkocklnnmdaa
