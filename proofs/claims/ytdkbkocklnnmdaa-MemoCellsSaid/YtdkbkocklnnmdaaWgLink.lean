/-
  The link of the library's walks through sync.WaitGroup to this program; the payload's cells are of type 2. No condition.
-/
import Derived.Test.YtdkbkocklnnmdaaProg
import Derived.Conc.WgGenN3
import Derived.KernelRfl
namespace Go.Proofs.Ytdkbkocklnnmdaa.wg
open Go Go.Conc Go.Conc.Lib
open Go.ConcR (Payload)
abbrev link : WgLink := { add := 42, done := 44, wait := 45, relMerge := 64, disable := 65, enable := 66, inBubble := 67, associate := 68, fatal := 69, uOr := 70, uAdd := 71, raceRead := 72, uLoad := 73, uStore := 74, disassociate := 75, semrelease := 76, acquire := 77, isAssociated := 78, uCas := 79, raceWrite := 80, semacquire := 81, orU64 := 89, addU64 := 90, loadU64 := 91, storeU64 := 92, casU64 := 93, tWgP := 123, tUP := 35, tAssoc := 125, tWg := 96, tAU := 94, tU64 := 92, tUint := 128, tU32 := 76, tPU32 := 114, tPAU := 141, tPU64 := 143, tNoCopy := 75, tANoCopy := 34, tAlign64 := 58 }
theorem wgLib : WgLib Try.prog link :=
  ⟨Try.func42, Try.func44, Try.func45, Try.func64, Try.func65, Try.func66, Try.func67, Try.func68, Try.func69, Try.func70, Try.func71, Try.func72, Try.func73, Try.func74, Try.func75, Try.func76, Try.func77, Try.func78, Try.func79, Try.func80, Try.func81, Try.func89, Try.func90, Try.func91, Try.func92, Try.func93, Try.underlying123, Try.runUnderlying123, Try.sizeOf123, Try.isAgg123, Try.zeroValue123, Try.underlying35, Try.runUnderlying35, Try.sizeOf35, Try.isAgg35, Try.zeroValue35, Try.underlying125, Try.runUnderlying125, Try.sizeOf125, Try.isAgg125, Try.zeroValue125, Try.underlying96, Try.runUnderlying96, Try.sizeOf96, Try.isAgg96, Try.zeroValue96, Try.underlying94, Try.runUnderlying94, Try.sizeOf94, Try.isAgg94, Try.zeroValue94, Try.underlying92, Try.runUnderlying92, Try.sizeOf92, Try.isAgg92, Try.zeroValue92, Try.underlying128, Try.runUnderlying128, Try.sizeOf128, Try.isAgg128, Try.zeroValue128, Try.underlying76, Try.runUnderlying76, Try.sizeOf76, Try.isAgg76, Try.zeroValue76, Try.underlying114, Try.runUnderlying114, Try.sizeOf114, Try.isAgg114, Try.zeroValue114, Try.underlying141, Try.runUnderlying141, Try.sizeOf141, Try.isAgg141, Try.zeroValue141, Try.underlying143, Try.runUnderlying143, Try.sizeOf143, Try.isAgg143, Try.zeroValue143, Try.underlying0, Try.runUnderlying0, Try.sizeOf0, Try.isAgg0, Try.zeroValue0, Try.underlying3, Try.runUnderlying3, Try.sizeOf3, Try.isAgg3, Try.zeroValue3, Try.underlying4, Try.runUnderlying4, Try.sizeOf4, Try.isAgg4, Try.zeroValue4, Try.underlying9, Try.runUnderlying9, Try.sizeOf9, Try.isAgg9, Try.zeroValue9, Try.underlying20, Try.runUnderlying20, Try.sizeOf20, Try.isAgg20, Try.zeroValue20, Try.underlying21, Try.runUnderlying21, Try.sizeOf21, Try.isAgg21, Try.zeroValue21, (by kernel_rfl), (by kernel_rfl)⟩
instance payload : Payload := ⟨2⟩
end Go.Proofs.Ytdkbkocklnnmdaa.wg
