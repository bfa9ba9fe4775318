/-
  What some operations list in company: nothing. No condition beside the types' own.
-/
import Derived.WalkKit
import Derived.Conc.CompanyMem
import Derived.Conc.SmallLaws
import Derived.Test.YtdkbkocklnnmdaaProg
import Derived.KernelRfl
namespace Go.Proofs.Ytdkbkocklnnmdaa.wg
open Go Go.Conc

theorem ev_eql_nil {t : TypeId} (h : Try.prog.underlying t = some (.pointer (Try.prog.pointee t))) (p : Option Addr) (w : World) (es : Array Event) : (binOp .eql t (.pointer p) (.pointer none)).events Try.prog w es = es := by
  cases p <;> (unfold binOp Op.equal Op.maxDepth Op.equalIn; simp [go_sem, run_underlying h, Result.evThen])
theorem ev_min (ts : Array TypeId) (t : TypeId) (k k' : IntKind) (x y : Int) (w : World) (es : Array Event) : (Builtin.min_ ts t #[.int k x, .int k' y]).events Try.prog w es = es := by
  simp [Builtin.min_, Builtin.min2]
theorem ev_max (ts : Array TypeId) (t : TypeId) (k k' : IntKind) (x y : Int) (w : World) (es : Array Event) : (Builtin.max_ ts t #[.int k x, .int k' y]).events Try.prog w es = es := by
  simp [Builtin.max_, Builtin.max2]
theorem p57 : Try.prog.underlying 57 = some (.pointer (Try.prog.pointee 57)) := by kernel_rfl
end Go.Proofs.Ytdkbkocklnnmdaa.wg
