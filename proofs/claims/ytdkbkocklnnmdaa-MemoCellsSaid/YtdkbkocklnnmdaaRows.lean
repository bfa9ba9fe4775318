/-
  NARROWER THAN 'FOR EVERY INPUT', by the rows' own cells (each row's printed sentence says how): MemoChain: calm · MemoBoxes: calm · MemoCells: calm · MemoMany: calm · MemoCounts: calm · MemoNone: calm.
  DERIVED. THE GIVEN ROWS OF THIS SEAT. 6 by the template 'for every input the law returns true; each argument reads behind the call as it read before'; 0 by the template 'total and deterministic' (their statements: YtdkbkocklnnmdaaTotals.lean).
  GIVEN WITH THE SEED: the statements are not yours to turn. If you find one false, say at which input.
  Laid BY PROGRAM, IN A SANDBOX (cutbox-rows.mjs): the forced cells as the released guide's own fill.sh prints them over the translation 34c6732be194127b… (all of the seat's roots in one cut). By AI agents, Wed Nov 11 2026. No macro, syntax, notation, axiom, sorry.
-/
import Derived.Test.YtdkbkocklnnmdaaChecked
import GoSem.Claim
import GoSem.ClaimJoined
import GoSem.ClaimMapViews
import Derived.JoinedTies
import Derived.KernelRfl
namespace Go.Proofs.Ytdkbkocklnnmdaa
/- THE CELL 'sum', in the pinned program and in every row, IS THE sha256 OF THE DUMP (.gsa) THAT YtdkbkocklnnmdaaProg.lean LOADS. Nothing in Lean hashes anything: it is a label: what it is worth is what the hold of that sum in a sandbox is worth. -/
noncomputable def Try.pinned : Pinned := { name := "ytdkbkocklnnmdaa", sum := "34c6732be194127b9277610130a6875759f01a0d7ee3860efcfa92feddbb2079", checked := Try.checked }
namespace Rows
def none {H : Type} : Left H := { results := [], args := [] }

/-- 'jalousielaw7.MemoChain': WHATEVER THE INPUT: true; the input reads as it did. -/
def memoChainSpec : ChangeSpec := { name := "memoChain", fn := fun _ => fun
  | [d1, d2] => { results := [.lit (.bool true)], args := [d1, d2] }
  | _ => none }
def memoChainRow : OpenClaim := { program := "ytdkbkocklnnmdaa", sum := "34c6732be194127b9277610130a6875759f01a0d7ee3860efcfa92feddbb2079", func := "jalousie/jalousielaw7.MemoChain", spec := "memoChain", inPlace := ["sync/atomic.StoreUint32", "sync/atomic.AddInt64", "sync/atomic.LoadUint32", "(*internal/sync.Mutex).Lock", "internal/race.Disable", "sync/atomic.CompareAndSwapInt32", "internal/race.Enable", "internal/race.Acquire", "(*internal/sync.Mutex).lockSlow", "internal/sync.runtime_canSpin", "internal/sync.runtime_doSpin", "internal/sync.throw", "internal/sync.runtime_nanotime", "internal/sync.runtime_SemacquireMutex", "sync/atomic.AddInt32", "(*internal/sync.Mutex).Unlock", "internal/race.ReleaseMerge", "(*internal/sync.Mutex).unlockSlow", "internal/sync.fatal", "internal/sync.runtime_Semrelease", "sync/atomic.LoadInt64"], unfollowed := true, recurses := true, leaving := true, apart := false, calm := true, outside := [.timePasses] }
def MemoChainSaid : Prop := memoChainRow.holds Try.pinned (OpenSpec.ofChange memoChainSpec)

/-- ITS FALSE NEIGHBOUR: 'it returns false'. Refute it at one input. -/
def memoChainWrong : ChangeSpec := { name := "memoChain", fn := fun _ => fun
  | [d1, d2] => { results := [.lit (.bool false)], args := [d1, d2] }
  | _ => none }
def MemoChainWrongFalsely : Prop := memoChainRow.holds Try.pinned (OpenSpec.ofChange memoChainWrong)

/-- 'jalousielaw7.MemoBoxes': WHATEVER THE INPUT: true; the input reads as it did. -/
def memoBoxesSpec : ChangeSpec := { name := "memoBoxes", fn := fun _ => fun
  | [d] => { results := [.lit (.bool true)], args := [d] }
  | _ => none }
def memoBoxesRow : OpenClaim := { program := "ytdkbkocklnnmdaa", sum := "34c6732be194127b9277610130a6875759f01a0d7ee3860efcfa92feddbb2079", func := "jalousie/jalousielaw7.MemoBoxes", spec := "memoBoxes", inPlace := ["sync/atomic.StorePointer", "sync/atomic.LoadPointer", "sync/atomic.SwapPointer", "sync/atomic.LoadUint32", "sync/atomic.StoreUint32", "sync/atomic.AddInt64", "(*internal/sync.Mutex).Lock", "internal/race.Disable", "sync/atomic.CompareAndSwapInt32", "internal/race.Enable", "internal/race.Acquire", "(*internal/sync.Mutex).lockSlow", "internal/sync.runtime_canSpin", "internal/sync.runtime_doSpin", "internal/sync.throw", "internal/sync.runtime_nanotime", "internal/sync.runtime_SemacquireMutex", "sync/atomic.AddInt32", "(*internal/sync.Mutex).Unlock", "internal/race.ReleaseMerge", "(*internal/sync.Mutex).unlockSlow", "internal/sync.fatal", "internal/sync.runtime_Semrelease", "sync/atomic.LoadInt64"], unfollowed := true, recurses := true, leaving := true, apart := false, calm := true, outside := [.timePasses] }
def MemoBoxesSaid : Prop := memoBoxesRow.holds Try.pinned (OpenSpec.ofChange memoBoxesSpec)

/-- ITS FALSE NEIGHBOUR: 'it returns false'. Refute it at one input. -/
def memoBoxesWrong : ChangeSpec := { name := "memoBoxes", fn := fun _ => fun
  | [d] => { results := [.lit (.bool false)], args := [d] }
  | _ => none }
def MemoBoxesWrongFalsely : Prop := memoBoxesRow.holds Try.pinned (OpenSpec.ofChange memoBoxesWrong)

/-- 'jalousielaw7.MemoCells': WHATEVER THE INPUT: true; the input reads as it did. -/
def memoCellsSpec : ChangeSpec := { name := "memoCells", fn := fun _ => fun
  | [d1, d2, d3] => { results := [.lit (.bool true)], args := [d1, d2, d3] }
  | _ => none }
def memoCellsRow : OpenClaim := { program := "ytdkbkocklnnmdaa", sum := "34c6732be194127b9277610130a6875759f01a0d7ee3860efcfa92feddbb2079", func := "jalousie/jalousielaw7.MemoCells", spec := "memoCells", inPlace := ["sync/atomic.StoreUint32", "sync/atomic.AddInt64", "sync/atomic.LoadUint32", "(*internal/sync.Mutex).Lock", "internal/race.Disable", "sync/atomic.CompareAndSwapInt32", "internal/race.Enable", "internal/race.Acquire", "(*internal/sync.Mutex).lockSlow", "internal/sync.runtime_canSpin", "internal/sync.runtime_doSpin", "internal/sync.throw", "internal/sync.runtime_nanotime", "internal/sync.runtime_SemacquireMutex", "sync/atomic.AddInt32", "(*internal/sync.Mutex).Unlock", "internal/race.ReleaseMerge", "(*internal/sync.Mutex).unlockSlow", "internal/sync.fatal", "internal/sync.runtime_Semrelease", "sync/atomic.LoadInt64", "(*sync.WaitGroup).Add", "internal/synctest.IsInBubble", "internal/synctest.Associate[sync.WaitGroup]", "sync.fatal", "sync/atomic.OrUint64", "sync/atomic.AddUint64", "internal/race.Read", "sync/atomic.LoadUint64", "sync/atomic.StoreUint64", "internal/synctest.Disassociate[sync.WaitGroup]", "sync.runtime_Semrelease", "(*sync.WaitGroup).Done", "(*sync.WaitGroup).Wait", "internal/synctest.IsAssociated[sync.WaitGroup]", "sync/atomic.CompareAndSwapUint64", "internal/race.Write", "sync.runtime_SemacquireWaitGroup"], unfollowed := true, recurses := true, leaving := true, apart := false, calm := true, outside := [.timePasses] }
def MemoCellsSaid : Prop := memoCellsRow.holds Try.pinned (OpenSpec.ofChange memoCellsSpec)

/-- ITS FALSE NEIGHBOUR: 'it returns false'. Refute it at one input. -/
def memoCellsWrong : ChangeSpec := { name := "memoCells", fn := fun _ => fun
  | [d1, d2, d3] => { results := [.lit (.bool false)], args := [d1, d2, d3] }
  | _ => none }
def MemoCellsWrongFalsely : Prop := memoCellsRow.holds Try.pinned (OpenSpec.ofChange memoCellsWrong)

/-- 'jalousielaw7.MemoMany': WHATEVER THE INPUT: true; the input reads as it did. -/
def memoManySpec : ChangeSpec := { name := "memoMany", fn := fun _ => fun
  | [d1, d2] => { results := [.lit (.bool true)], args := [d1, d2] }
  | _ => none }
def memoManyRow : OpenClaim := { program := "ytdkbkocklnnmdaa", sum := "34c6732be194127b9277610130a6875759f01a0d7ee3860efcfa92feddbb2079", func := "jalousie/jalousielaw7.MemoMany", spec := "memoMany", inPlace := ["(*sync.WaitGroup).Add", "internal/race.ReleaseMerge", "internal/race.Disable", "internal/race.Enable", "internal/synctest.IsInBubble", "internal/synctest.Associate[sync.WaitGroup]", "sync.fatal", "sync/atomic.OrUint64", "sync/atomic.AddUint64", "internal/race.Read", "sync/atomic.LoadUint64", "sync/atomic.StoreUint64", "internal/synctest.Disassociate[sync.WaitGroup]", "sync.runtime_Semrelease", "(*sync.WaitGroup).Done", "sync/atomic.StoreUint32", "sync/atomic.AddInt64", "sync/atomic.LoadUint32", "(*internal/sync.Mutex).Lock", "sync/atomic.CompareAndSwapInt32", "internal/race.Acquire", "(*internal/sync.Mutex).lockSlow", "internal/sync.runtime_canSpin", "internal/sync.runtime_doSpin", "internal/sync.throw", "internal/sync.runtime_nanotime", "internal/sync.runtime_SemacquireMutex", "sync/atomic.AddInt32", "(*internal/sync.Mutex).Unlock", "(*internal/sync.Mutex).unlockSlow", "internal/sync.fatal", "internal/sync.runtime_Semrelease", "(*sync.WaitGroup).Wait", "internal/synctest.IsAssociated[sync.WaitGroup]", "sync/atomic.CompareAndSwapUint64", "internal/race.Write", "sync.runtime_SemacquireWaitGroup", "sync/atomic.LoadInt64"], unfollowed := true, recurses := true, leaving := true, apart := false, calm := true, outside := [.timePasses] }
def MemoManySaid : Prop := memoManyRow.holds Try.pinned (OpenSpec.ofChange memoManySpec)

/-- ITS FALSE NEIGHBOUR: 'it returns false'. Refute it at one input. -/
def memoManyWrong : ChangeSpec := { name := "memoMany", fn := fun _ => fun
  | [d1, d2] => { results := [.lit (.bool false)], args := [d1, d2] }
  | _ => none }
def MemoManyWrongFalsely : Prop := memoManyRow.holds Try.pinned (OpenSpec.ofChange memoManyWrong)

/-- 'jalousielaw7.MemoCounts': WHATEVER THE INPUT: true; the input reads as it did. -/
def memoCountsSpec : ChangeSpec := { name := "memoCounts", fn := fun _ => fun
  | [d] => { results := [.lit (.bool true)], args := [d] }
  | _ => none }
def memoCountsRow : OpenClaim := { program := "ytdkbkocklnnmdaa", sum := "34c6732be194127b9277610130a6875759f01a0d7ee3860efcfa92feddbb2079", func := "jalousie/jalousielaw7.MemoCounts", spec := "memoCounts", inPlace := ["sync/atomic.LoadInt64", "sync/atomic.CompareAndSwapInt64", "(*sync.WaitGroup).Add", "internal/race.ReleaseMerge", "internal/race.Disable", "internal/race.Enable", "internal/synctest.IsInBubble", "internal/synctest.Associate[sync.WaitGroup]", "sync.fatal", "sync/atomic.OrUint64", "sync/atomic.AddUint64", "internal/race.Read", "sync/atomic.LoadUint64", "sync/atomic.StoreUint64", "internal/synctest.Disassociate[sync.WaitGroup]", "sync.runtime_Semrelease", "(*sync.WaitGroup).Done", "(*sync.WaitGroup).Wait", "internal/race.Acquire", "internal/synctest.IsAssociated[sync.WaitGroup]", "sync/atomic.CompareAndSwapUint64", "internal/race.Write", "sync.runtime_SemacquireWaitGroup", "sync/atomic.LoadUint32", "sync/atomic.StoreUint32", "sync/atomic.AddInt64", "(*internal/sync.Mutex).Lock", "sync/atomic.CompareAndSwapInt32", "(*internal/sync.Mutex).lockSlow", "internal/sync.runtime_canSpin", "internal/sync.runtime_doSpin", "internal/sync.throw", "internal/sync.runtime_nanotime", "internal/sync.runtime_SemacquireMutex", "sync/atomic.AddInt32", "(*internal/sync.Mutex).Unlock", "(*internal/sync.Mutex).unlockSlow", "internal/sync.fatal", "internal/sync.runtime_Semrelease"], unfollowed := true, recurses := true, leaving := true, apart := false, calm := true, outside := [.timePasses] }
def MemoCountsSaid : Prop := memoCountsRow.holds Try.pinned (OpenSpec.ofChange memoCountsSpec)

/-- ITS FALSE NEIGHBOUR: 'it returns false'. Refute it at one input. -/
def memoCountsWrong : ChangeSpec := { name := "memoCounts", fn := fun _ => fun
  | [d] => { results := [.lit (.bool false)], args := [d] }
  | _ => none }
def MemoCountsWrongFalsely : Prop := memoCountsRow.holds Try.pinned (OpenSpec.ofChange memoCountsWrong)

/-- 'jalousielaw7.MemoNone': WHATEVER THE INPUT: true; the input reads as it did. -/
def memoNoneSpec : ChangeSpec := { name := "memoNone", fn := fun _ => fun
  | [d1, d2, d3] => { results := [.lit (.bool true)], args := [d1, d2, d3] }
  | _ => none }
def memoNoneRow : OpenClaim := { program := "ytdkbkocklnnmdaa", sum := "34c6732be194127b9277610130a6875759f01a0d7ee3860efcfa92feddbb2079", func := "jalousie/jalousielaw7.MemoNone", spec := "memoNone", inPlace := ["sync/atomic.LoadUint32", "sync/atomic.StoreUint32", "sync/atomic.AddInt64", "(*internal/sync.Mutex).Lock", "internal/race.Disable", "sync/atomic.CompareAndSwapInt32", "internal/race.Enable", "internal/race.Acquire", "(*internal/sync.Mutex).lockSlow", "internal/sync.runtime_canSpin", "internal/sync.runtime_doSpin", "internal/sync.throw", "internal/sync.runtime_nanotime", "internal/sync.runtime_SemacquireMutex", "sync/atomic.AddInt32", "(*internal/sync.Mutex).Unlock", "internal/race.ReleaseMerge", "(*internal/sync.Mutex).unlockSlow", "internal/sync.fatal", "internal/sync.runtime_Semrelease", "sync/atomic.LoadInt64", "(*sync.WaitGroup).Add", "internal/synctest.IsInBubble", "internal/synctest.Associate[sync.WaitGroup]", "sync.fatal", "sync/atomic.OrUint64", "sync/atomic.AddUint64", "internal/race.Read", "sync/atomic.LoadUint64", "sync/atomic.StoreUint64", "internal/synctest.Disassociate[sync.WaitGroup]", "sync.runtime_Semrelease", "(*sync.WaitGroup).Done", "sync/atomic.CompareAndSwapInt64", "(*sync.WaitGroup).Wait", "internal/synctest.IsAssociated[sync.WaitGroup]", "sync/atomic.CompareAndSwapUint64", "internal/race.Write", "sync.runtime_SemacquireWaitGroup", "sync/atomic.StorePointer", "sync/atomic.LoadPointer", "sync/atomic.SwapPointer"], unfollowed := true, recurses := true, leaving := true, apart := false, calm := true, outside := [.timePasses] }
def MemoNoneSaid : Prop := memoNoneRow.holds Try.pinned (OpenSpec.ofChange memoNoneSpec)

/-- ITS FALSE NEIGHBOUR: 'it returns false'. Refute it at one input. -/
def memoNoneWrong : ChangeSpec := { name := "memoNone", fn := fun _ => fun
  | [d1, d2, d3] => { results := [.lit (.bool false)], args := [d1, d2, d3] }
  | _ => none }
def MemoNoneWrongFalsely : Prop := memoNoneRow.holds Try.pinned (OpenSpec.ofChange memoNoneWrong)

/- THE SECOND FORM. 'bulk': how many values and letters a reading holds, each counted each time it is reached (what is shared counts as often as it is met; a slice's spare places count too). A statement '..UptoSaid' is the law's where the arguments, and the package variables that the reading takes, are together of bulk at most 1048576: NARROWER than '..Said'. Prove '..Said' where nothing that the law and all that it calls make is longer than what came in: it says more and counts as full. Else prove '..UptoSaid'. A law counts once. -/
mutual
def uptoBulk {H : Type} : DataW H → Nat
  | .lit (.string bytes) => bytes.length + 1
  | .lit _ => 1
  | .nil => 1
  | .ptr d => uptoBulk d + 1
  | .slice elems spare => uptoBulkAll elems + uptoBulkAll spare + 1
  | .agg parts => uptoBulkAll parts + 1
  | .iface _ d => uptoBulk d + 1
  | .map entries => uptoBulkEntries entries + 1
  | .held _ => 1
def uptoBulkAll {H : Type} : List (DataW H) → Nat
  | [] => 0
  | d :: r => uptoBulk d + uptoBulkAll r
def uptoBulkEntries {H : Type} : List (Lit × DataW H) → Nat
  | [] => 0
  | x :: r => uptoBulkEntry x + uptoBulkEntries r
def uptoBulkEntry {H : Type} : Lit × DataW H → Nat
  | (.string bytes, d) => bytes.length + uptoBulk d + 1
  | (_, d) => uptoBulk d + 1
 end
def uptoSmall : (H : Type) → List (DataW H) → Bool := fun _ ds => decide (uptoBulkAll ds ≤ 1048576)
def OpenSpec.upto (s : _root_.Go.ChangeSpec) : _root_.Go.OpenSpec := { _root_.Go.OpenSpec.ofChange s with cond := some uptoSmall }

/-- 'jalousielaw7.MemoChain', WHERE WHAT IT READS IS OF BULK AT MOST 1048576: true; the input reads as it did. -/
def memoChainUptoRow : OpenClaim := { program := "ytdkbkocklnnmdaa", sum := "34c6732be194127b9277610130a6875759f01a0d7ee3860efcfa92feddbb2079", func := "jalousie/jalousielaw7.MemoChain", spec := "memoChain", inPlace := ["sync/atomic.StoreUint32", "sync/atomic.AddInt64", "sync/atomic.LoadUint32", "(*internal/sync.Mutex).Lock", "internal/race.Disable", "sync/atomic.CompareAndSwapInt32", "internal/race.Enable", "internal/race.Acquire", "(*internal/sync.Mutex).lockSlow", "internal/sync.runtime_canSpin", "internal/sync.runtime_doSpin", "internal/sync.throw", "internal/sync.runtime_nanotime", "internal/sync.runtime_SemacquireMutex", "sync/atomic.AddInt32", "(*internal/sync.Mutex).Unlock", "internal/race.ReleaseMerge", "(*internal/sync.Mutex).unlockSlow", "internal/sync.fatal", "internal/sync.runtime_Semrelease", "sync/atomic.LoadInt64"], unfollowed := true, recurses := true, leaving := true, apart := false, calm := true, outside := [.timePasses], narrowed := true }
def MemoChainUptoSaid : Prop := memoChainUptoRow.holds Try.pinned (OpenSpec.upto memoChainSpec)

/-- 'jalousielaw7.MemoBoxes', WHERE WHAT IT READS IS OF BULK AT MOST 1048576: true; the input reads as it did. -/
def memoBoxesUptoRow : OpenClaim := { program := "ytdkbkocklnnmdaa", sum := "34c6732be194127b9277610130a6875759f01a0d7ee3860efcfa92feddbb2079", func := "jalousie/jalousielaw7.MemoBoxes", spec := "memoBoxes", inPlace := ["sync/atomic.StorePointer", "sync/atomic.LoadPointer", "sync/atomic.SwapPointer", "sync/atomic.LoadUint32", "sync/atomic.StoreUint32", "sync/atomic.AddInt64", "(*internal/sync.Mutex).Lock", "internal/race.Disable", "sync/atomic.CompareAndSwapInt32", "internal/race.Enable", "internal/race.Acquire", "(*internal/sync.Mutex).lockSlow", "internal/sync.runtime_canSpin", "internal/sync.runtime_doSpin", "internal/sync.throw", "internal/sync.runtime_nanotime", "internal/sync.runtime_SemacquireMutex", "sync/atomic.AddInt32", "(*internal/sync.Mutex).Unlock", "internal/race.ReleaseMerge", "(*internal/sync.Mutex).unlockSlow", "internal/sync.fatal", "internal/sync.runtime_Semrelease", "sync/atomic.LoadInt64"], unfollowed := true, recurses := true, leaving := true, apart := false, calm := true, outside := [.timePasses], narrowed := true }
def MemoBoxesUptoSaid : Prop := memoBoxesUptoRow.holds Try.pinned (OpenSpec.upto memoBoxesSpec)

/-- 'jalousielaw7.MemoCells', WHERE WHAT IT READS IS OF BULK AT MOST 1048576: true; the input reads as it did. -/
def memoCellsUptoRow : OpenClaim := { program := "ytdkbkocklnnmdaa", sum := "34c6732be194127b9277610130a6875759f01a0d7ee3860efcfa92feddbb2079", func := "jalousie/jalousielaw7.MemoCells", spec := "memoCells", inPlace := ["sync/atomic.StoreUint32", "sync/atomic.AddInt64", "sync/atomic.LoadUint32", "(*internal/sync.Mutex).Lock", "internal/race.Disable", "sync/atomic.CompareAndSwapInt32", "internal/race.Enable", "internal/race.Acquire", "(*internal/sync.Mutex).lockSlow", "internal/sync.runtime_canSpin", "internal/sync.runtime_doSpin", "internal/sync.throw", "internal/sync.runtime_nanotime", "internal/sync.runtime_SemacquireMutex", "sync/atomic.AddInt32", "(*internal/sync.Mutex).Unlock", "internal/race.ReleaseMerge", "(*internal/sync.Mutex).unlockSlow", "internal/sync.fatal", "internal/sync.runtime_Semrelease", "sync/atomic.LoadInt64", "(*sync.WaitGroup).Add", "internal/synctest.IsInBubble", "internal/synctest.Associate[sync.WaitGroup]", "sync.fatal", "sync/atomic.OrUint64", "sync/atomic.AddUint64", "internal/race.Read", "sync/atomic.LoadUint64", "sync/atomic.StoreUint64", "internal/synctest.Disassociate[sync.WaitGroup]", "sync.runtime_Semrelease", "(*sync.WaitGroup).Done", "(*sync.WaitGroup).Wait", "internal/synctest.IsAssociated[sync.WaitGroup]", "sync/atomic.CompareAndSwapUint64", "internal/race.Write", "sync.runtime_SemacquireWaitGroup"], unfollowed := true, recurses := true, leaving := true, apart := false, calm := true, outside := [.timePasses], narrowed := true }
def MemoCellsUptoSaid : Prop := memoCellsUptoRow.holds Try.pinned (OpenSpec.upto memoCellsSpec)

/-- 'jalousielaw7.MemoMany', WHERE WHAT IT READS IS OF BULK AT MOST 1048576: true; the input reads as it did. -/
def memoManyUptoRow : OpenClaim := { program := "ytdkbkocklnnmdaa", sum := "34c6732be194127b9277610130a6875759f01a0d7ee3860efcfa92feddbb2079", func := "jalousie/jalousielaw7.MemoMany", spec := "memoMany", inPlace := ["(*sync.WaitGroup).Add", "internal/race.ReleaseMerge", "internal/race.Disable", "internal/race.Enable", "internal/synctest.IsInBubble", "internal/synctest.Associate[sync.WaitGroup]", "sync.fatal", "sync/atomic.OrUint64", "sync/atomic.AddUint64", "internal/race.Read", "sync/atomic.LoadUint64", "sync/atomic.StoreUint64", "internal/synctest.Disassociate[sync.WaitGroup]", "sync.runtime_Semrelease", "(*sync.WaitGroup).Done", "sync/atomic.StoreUint32", "sync/atomic.AddInt64", "sync/atomic.LoadUint32", "(*internal/sync.Mutex).Lock", "sync/atomic.CompareAndSwapInt32", "internal/race.Acquire", "(*internal/sync.Mutex).lockSlow", "internal/sync.runtime_canSpin", "internal/sync.runtime_doSpin", "internal/sync.throw", "internal/sync.runtime_nanotime", "internal/sync.runtime_SemacquireMutex", "sync/atomic.AddInt32", "(*internal/sync.Mutex).Unlock", "(*internal/sync.Mutex).unlockSlow", "internal/sync.fatal", "internal/sync.runtime_Semrelease", "(*sync.WaitGroup).Wait", "internal/synctest.IsAssociated[sync.WaitGroup]", "sync/atomic.CompareAndSwapUint64", "internal/race.Write", "sync.runtime_SemacquireWaitGroup", "sync/atomic.LoadInt64"], unfollowed := true, recurses := true, leaving := true, apart := false, calm := true, outside := [.timePasses], narrowed := true }
def MemoManyUptoSaid : Prop := memoManyUptoRow.holds Try.pinned (OpenSpec.upto memoManySpec)

/-- 'jalousielaw7.MemoCounts', WHERE WHAT IT READS IS OF BULK AT MOST 1048576: true; the input reads as it did. -/
def memoCountsUptoRow : OpenClaim := { program := "ytdkbkocklnnmdaa", sum := "34c6732be194127b9277610130a6875759f01a0d7ee3860efcfa92feddbb2079", func := "jalousie/jalousielaw7.MemoCounts", spec := "memoCounts", inPlace := ["sync/atomic.LoadInt64", "sync/atomic.CompareAndSwapInt64", "(*sync.WaitGroup).Add", "internal/race.ReleaseMerge", "internal/race.Disable", "internal/race.Enable", "internal/synctest.IsInBubble", "internal/synctest.Associate[sync.WaitGroup]", "sync.fatal", "sync/atomic.OrUint64", "sync/atomic.AddUint64", "internal/race.Read", "sync/atomic.LoadUint64", "sync/atomic.StoreUint64", "internal/synctest.Disassociate[sync.WaitGroup]", "sync.runtime_Semrelease", "(*sync.WaitGroup).Done", "(*sync.WaitGroup).Wait", "internal/race.Acquire", "internal/synctest.IsAssociated[sync.WaitGroup]", "sync/atomic.CompareAndSwapUint64", "internal/race.Write", "sync.runtime_SemacquireWaitGroup", "sync/atomic.LoadUint32", "sync/atomic.StoreUint32", "sync/atomic.AddInt64", "(*internal/sync.Mutex).Lock", "sync/atomic.CompareAndSwapInt32", "(*internal/sync.Mutex).lockSlow", "internal/sync.runtime_canSpin", "internal/sync.runtime_doSpin", "internal/sync.throw", "internal/sync.runtime_nanotime", "internal/sync.runtime_SemacquireMutex", "sync/atomic.AddInt32", "(*internal/sync.Mutex).Unlock", "(*internal/sync.Mutex).unlockSlow", "internal/sync.fatal", "internal/sync.runtime_Semrelease"], unfollowed := true, recurses := true, leaving := true, apart := false, calm := true, outside := [.timePasses], narrowed := true }
def MemoCountsUptoSaid : Prop := memoCountsUptoRow.holds Try.pinned (OpenSpec.upto memoCountsSpec)

/-- 'jalousielaw7.MemoNone', WHERE WHAT IT READS IS OF BULK AT MOST 1048576: true; the input reads as it did. -/
def memoNoneUptoRow : OpenClaim := { program := "ytdkbkocklnnmdaa", sum := "34c6732be194127b9277610130a6875759f01a0d7ee3860efcfa92feddbb2079", func := "jalousie/jalousielaw7.MemoNone", spec := "memoNone", inPlace := ["sync/atomic.LoadUint32", "sync/atomic.StoreUint32", "sync/atomic.AddInt64", "(*internal/sync.Mutex).Lock", "internal/race.Disable", "sync/atomic.CompareAndSwapInt32", "internal/race.Enable", "internal/race.Acquire", "(*internal/sync.Mutex).lockSlow", "internal/sync.runtime_canSpin", "internal/sync.runtime_doSpin", "internal/sync.throw", "internal/sync.runtime_nanotime", "internal/sync.runtime_SemacquireMutex", "sync/atomic.AddInt32", "(*internal/sync.Mutex).Unlock", "internal/race.ReleaseMerge", "(*internal/sync.Mutex).unlockSlow", "internal/sync.fatal", "internal/sync.runtime_Semrelease", "sync/atomic.LoadInt64", "(*sync.WaitGroup).Add", "internal/synctest.IsInBubble", "internal/synctest.Associate[sync.WaitGroup]", "sync.fatal", "sync/atomic.OrUint64", "sync/atomic.AddUint64", "internal/race.Read", "sync/atomic.LoadUint64", "sync/atomic.StoreUint64", "internal/synctest.Disassociate[sync.WaitGroup]", "sync.runtime_Semrelease", "(*sync.WaitGroup).Done", "sync/atomic.CompareAndSwapInt64", "(*sync.WaitGroup).Wait", "internal/synctest.IsAssociated[sync.WaitGroup]", "sync/atomic.CompareAndSwapUint64", "internal/race.Write", "sync.runtime_SemacquireWaitGroup", "sync/atomic.StorePointer", "sync/atomic.LoadPointer", "sync/atomic.SwapPointer"], unfollowed := true, recurses := true, leaving := true, apart := false, calm := true, outside := [.timePasses], narrowed := true }
def MemoNoneUptoSaid : Prop := memoNoneUptoRow.holds Try.pinned (OpenSpec.upto memoNoneSpec)

end Rows
end Go.Proofs.Ytdkbkocklnnmdaa
