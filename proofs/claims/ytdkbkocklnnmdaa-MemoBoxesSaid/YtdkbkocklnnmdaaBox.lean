/-
  Contracts, for a run of one goroutine, of memo.Box[string]'s methods: a box that holds nothing or a string. Conditions: the box's one cell points to nothing or to a block with that string.
-/
import Derived.Test.YtdkbkocklnnmdaaAwake
set_option linter.unusedSimpArgs false
set_option linter.unusedVariables false
namespace Go.Proofs.Ytdkbkocklnnmdaa
open Go Go.MuLone

theorem back_some (k : Nat) (s : ByteArray) (w : World) (h : w.heap[k]? = some (.cells #[.string s] 9 (0, 0))) : (convert 35 31 (.pointer (some ⟨k, 0, none⟩))).run Try.prog w = .ok (.pointer (some ⟨k, 0, none⟩)) w := by
  have hsh : w.shape? k = some (9, 1) := by simp [World.shape?, h]
  have hl : liesAt Try.prog Try.prog.depth 9 (1 / Try.prog.cellsOf 9) 0 9 1 = true := by kernel_rfl
  have hv : (variablesAt ⟨k, 0, none⟩ 9 1).run Try.prog w = .ok true w := by
    simp only [variablesAt]
    simp [hsh, hl]
  simp [convert, Conv.unsafePointer, Conv.seenAt, viewAt, run_underlying Try.underlying35, run_underlying Try.underlying31, Result.andThen, hsh, hv, Try.sizeOf9]

theorem ptr_load {f : FuncId} {fn : Func} {P : Program} (hf : P.funcs[f]? = some fn) (hname : (fn.name == "runtime.NumGoroutine") = false) (hb : fn.body.isNone = true) (hn : Extern.findNext fn = none)
    (he : Extern.find fn = some (Extern.Atomic.loadT .ptr)) {a : Addr} {p : Option Addr} {w : World} (hc : w.cell? a = some (.pointer p)) :
    (callFunc f #[.pointer (some a)]).run P w = .ok (.value (.pointer p)) w := by
  rw [run_callFunc_extern hf hname hb hn he]
  change (Sem.run P (do Extern.Atomic.read .ptr (← asAddr (.pointer (some a)))) w).andThen _ = _
  simp [Extern.Atomic.read, asAddr, hc, Result.andThen]

theorem ptr_store {f : FuncId} {fn : Func} {P : Program} (hf : P.funcs[f]? = some fn) (hname : (fn.name == "runtime.NumGoroutine") = false) (hb : fn.body.isNone = true) (hn : Extern.findNext fn = none)
    (he : Extern.find fn = some Extern.Atomic.storeT) {a : Addr} {p : Option Addr} {u : Value} {w : World} (hc : w.cell? a = some u) (hz : w.frozen? a = false) :
    (callFunc f #[.pointer (some a), .pointer p]).run P w = .ok (.value (.tuple #[])) (w.setCell a (.pointer p)) := by
  rw [run_callFunc_extern hf hname hb hn he]
  change (Sem.run P (do
    store (← asAddr (.pointer (some a))) (.pointer p) .atomic
    pure Extern.Atomic.none_) w).andThen _ = _
  simp [asAddr, hc, hz, run_store P w a (.pointer p) .atomic rfl, Result.andThen, Extern.Atomic.none_]

theorem ptr_swap {f : FuncId} {fn : Func} {P : Program} (hf : P.funcs[f]? = some fn) (hname : (fn.name == "runtime.NumGoroutine") = false) (hb : fn.body.isNone = true) (hn : Extern.findNext fn = none)
    (he : Extern.find fn = some (Extern.Atomic.swapT .ptr)) {a : Addr} {p q : Option Addr} {w : World} (hc : w.cell? a = some (.pointer q)) (hz : w.frozen? a = false) :
    (callFunc f #[.pointer (some a), .pointer p]).run P w = .ok (.value (.pointer q)) (w.setCell a (.pointer p)) := by
  rw [run_callFunc_extern hf hname hb hn he]
  change (Sem.run P (do
    let a' ← asAddr (.pointer (some a))
    let old ← Extern.Atomic.read .ptr a'
    store a' (.pointer p) .atomic
    pure old) w).andThen _ = _
  simp [Extern.Atomic.read, asAddr, hc, hz, run_store P w a (.pointer p) .atomic rfl, Result.andThen]

theorem back_none (w : World) : (convert 35 31 (.pointer none)).run Try.prog w = .ok (.pointer none) w := by
  simp [convert, Conv.unsafePointer, run_underlying Try.underlying35, run_underlying Try.underlying31, Result.andThen]

def boxBlk (p : Option Addr) : Obj := .cells #[.pointer p] 39 (0, 0)
def strBlk (s : ByteArray) : Obj := .cells #[.string s] 9 (0, 0)
/-- The box in block B holds nothing, or the string v. -/
def Holds9 (w : World) (B : Nat) : Option ByteArray → Prop
  | none => w.heap[B]? = some (boxBlk none)
  | some s => ∃ k, k ≠ B ∧ w.heap[B]? = some (boxBlk (some ⟨k, 0, none⟩)) ∧ w.heap[k]? = some (strBlk s)

theorem set_other {w : World} {a : Addr} {v : Value} {k : Nat} {o : Obj} (hne : a.block ≠ k) (h : w.heap[k]? = some o) : (w.setCell a v).heap[k]? = some o := by
  show (w.heap.modify a.block _)[k]? = _
  rw [Array.getElem?_modify]
  simp [hne, h]
theorem set_box {w : World} {B : Nat} {p q : Option Addr} (h : w.heap[B]? = some (boxBlk p)) : (w.setCell ⟨B, 0, none⟩ (.pointer q)).heap[B]? = some (boxBlk q) := one_setCell h

theorem Holds9.kept {S : Nat → Prop} {w w' : World} {B : Nat} {v : Option ByteArray} (h : Holds9 w B v) (ho : Only S w w') (hB : ¬ S B) (hS : ∀ k, S k → ∀ s, w.heap[k]? ≠ some (strBlk s)) : Holds9 w' B v := by
  cases v with
  | none => exact (ho.block B (lt_of_block h) hB).trans h
  | some s =>
    obtain ⟨k, hne, h1, h2⟩ := h
    exact ⟨k, hne, (ho.block B (lt_of_block h1) hB).trans h1, (ho.block k (lt_of_block h2) (fun hk => hS k hk s h2)).trans h2⟩

/-- held[string] of no pointer. -/
theorem held_none (w : World) : Calls Try.prog 38 #[.pointer none] w fun e w' => e = .returned (.tuple #[.string ⟨#[]⟩, .bool false]) ∧ w' = w := by
  go_enter Try.func38, Try.ntmps38
  go_wp2
  go_ret2
  exact ⟨rfl, rfl⟩
theorem held_some (k : Nat) (s : ByteArray) (w : World) (h : w.heap[k]? = some (strBlk s)) : Calls Try.prog 38 #[.pointer (some ⟨k, 0, none⟩)] w fun e w' => e = .returned (.tuple #[.string s, .bool true]) ∧ w' = w := by
  have hc := cell_of_one h
  have HH := Lib.hid h; clear h
  go_enter Try.func38, Try.ntmps38
  go_wp2
  go_ret2
  exact ⟨rfl, rfl⟩

/-- Pointer[string].Load. -/
theorem pload (B : Nat) (p : Option Addr) (w : World) (h : w.heap[B]? = some (boxBlk p)) (hp : (convert 35 31 (.pointer p)).run Try.prog w = .ok (.pointer p) w) :
    Calls Try.prog 39 #[.pointer (some ⟨B, 0, none⟩)] w fun e w' => e = .returned (.pointer p) ∧ w' = w := by
  have hl := ptr_load (P := Try.prog) Try.func61 (by kernel_rfl) (by kernel_rfl) (by kernel_rfl) (by kernel_rfl) (cell_of_one h)
  have HH := Lib.hid h; clear h
  go_enter Try.func39, Try.ntmps39
  go_wp2
  go_ret
  exact ⟨rfl, rfl⟩

/-- Pointer[string].Store. -/
theorem pstore (B k : Nat) (s : ByteArray) (p : Option Addr) (w : World) (h : w.heap[B]? = some (boxBlk p)) (hs : w.heap[k]? = some (strBlk s)) :
    Calls Try.prog 37 #[.pointer (some ⟨B, 0, none⟩), .pointer (some ⟨k, 0, none⟩)] w fun e w' => e = .returned (.tuple #[]) ∧ w' = w.setCell ⟨B, 0, none⟩ (.pointer (some ⟨k, 0, none⟩)) := by
  have hl := ptr_store (P := Try.prog) Try.func60 (by kernel_rfl) (by kernel_rfl) (by kernel_rfl) (by kernel_rfl) (p := some ⟨k, 0, none⟩) (cell_of_one h) (free_of_one h)
  have hcv := run_convert_to_unsafe (P := Try.prog) (src := 31) (dst := 35) Try.underlying31 Try.underlying35 (by kernel_rfl) (cell_of_one hs)
  have HH := Lib.hid h; have HS := Lib.hid hs; clear h hs
  go_enter Try.func37, Try.ntmps37
  go_wp2
  go_end0
  exact ⟨rfl, rfl⟩

/-- Pointer[string].Swap. -/
theorem pswap (B k : Nat) (s : ByteArray) (p : Option Addr) (w : World) (h : w.heap[B]? = some (boxBlk p)) (hs : w.heap[k]? = some (strBlk s))
    (hp : (convert 35 31 (.pointer p)).run Try.prog (w.setCell ⟨B, 0, none⟩ (.pointer (some ⟨k, 0, none⟩))) = .ok (.pointer p) (w.setCell ⟨B, 0, none⟩ (.pointer (some ⟨k, 0, none⟩)))) :
    Calls Try.prog 40 #[.pointer (some ⟨B, 0, none⟩), .pointer (some ⟨k, 0, none⟩)] w fun e w' => e = .returned (.pointer p) ∧ w' = w.setCell ⟨B, 0, none⟩ (.pointer (some ⟨k, 0, none⟩)) := by
  have hl := ptr_swap (P := Try.prog) Try.func62 (by kernel_rfl) (by kernel_rfl) (by kernel_rfl) (by kernel_rfl) (p := some ⟨k, 0, none⟩) (cell_of_one h) (free_of_one h)
  have hcv := run_convert_to_unsafe (P := Try.prog) (src := 31) (dst := 35) Try.underlying31 Try.underlying35 (by kernel_rfl) (cell_of_one hs)
  have HH := Lib.hid h; have HS := Lib.hid hs; clear h hs
  go_enter Try.func40, Try.ntmps40
  go_wp2
  go_ret
  exact ⟨rfl, rfl⟩

/-- Box[string].Get. -/
theorem box_get (B : Nat) (v : Option ByteArray) (w : World) (h : Holds9 w B v) :
    Calls Try.prog 15 #[.pointer (some ⟨B, 0, none⟩)] w fun e w' => e = .returned (.tuple #[.string (v.getD ⟨#[]⟩), .bool v.isSome]) ∧ w' = w := by
  cases v with
  | none =>
    have HH := Lib.hid (show w.heap[B]? = some (boxBlk none) from h); clear h
    go_enter Try.func15, Try.ntmps15
    go_wp2_with (first | (go_at_call 39; refine (pload B none _ HH.out (back_none _)).mono ?_; rintro e w' ⟨rfl, rfl⟩) | (go_at_call 38; refine (held_none _).mono ?_; rintro e w' ⟨rfl, rfl⟩))
    go_ret2
    exact ⟨rfl, rfl⟩
  | some s =>
    obtain ⟨k, hne, h1, h2⟩ := h
    have HH := Lib.hid h1; have HS := Lib.hid h2; clear h1 h2
    go_enter Try.func15, Try.ntmps15
    go_wp2_with (first | (go_at_call 39; refine (pload B _ _ HH.out (back_some k s _ HS.out)).mono ?_; rintro e w' ⟨rfl, rfl⟩) | (go_at_call 38; refine (held_some k s _ HS.out).mono ?_; rintro e w' ⟨rfl, rfl⟩))
    go_ret2
    exact ⟨rfl, rfl⟩

theorem Holds9.box {w : World} {B : Nat} {v : Option ByteArray} (h : Holds9 w B v) : ∃ p, w.heap[B]? = some (boxBlk p) := by
  cases v with
  | none => exact ⟨_, h⟩
  | some s => obtain ⟨k, _, h1, _⟩ := h; exact ⟨_, h1⟩

theorem box_stored (B : Nat) (p : Option Addr) (s : ByteArray) (w : World) (h : w.heap[B]? = some (boxBlk p)) :
    Only (fun i => i = B) w ((w.alloc (strBlk s)).setCell ⟨B, 0, none⟩ (.pointer (some ⟨w.heap.size, 0, none⟩))) ∧ Holds9 ((w.alloc (strBlk s)).setCell ⟨B, 0, none⟩ (.pointer (some ⟨w.heap.size, 0, none⟩))) B (some s) := by
  have hlt := lt_of_block h
  refine ⟨((Only.refl (fun i => i = B) w).alloc _).set _ _ (.inr rfl), w.heap.size, by omega, set_box (box_old h), ?_⟩
  exact set_other (by simp; omega) (box_new w _)

set_option maxRecDepth 100000 in
/-- Box[string].Put. -/
theorem box_put (B : Nat) (v : Option ByteArray) (s : ByteArray) (w : World) (h : Holds9 w B v) :
    Calls Try.prog 14 #[.pointer (some ⟨B, 0, none⟩), .string s] w fun e w' => e = .returned (.tuple #[]) ∧ Only (fun i => i = B) w w' ∧ Holds9 w' B (some s) := by
  obtain ⟨p, hb⟩ := h.box
  have HB := Lib.hid (box_old (x := strBlk s) hb); have HS := Lib.hid (box_new w (strBlk s)); have HF := Lib.hid (box_stored B p s w hb)
  clear h hb
  go_enter Try.func14, Try.ntmps14
  go_wp2_with (go_at_call 37; refine (pstore B _ s p _ HB.out HS.out).mono ?_; rintro e w' ⟨rfl, rfl⟩)
  go_end0
  exact ⟨rfl, HF.out⟩

set_option maxRecDepth 100000 in
/-- Box[string].Swap. -/
theorem box_swap (B : Nat) (v : Option ByteArray) (s : ByteArray) (w : World) (h : Holds9 w B v) :
    Calls Try.prog 16 #[.pointer (some ⟨B, 0, none⟩), .string s] w fun e w' => e = .returned (.tuple #[.string (v.getD ⟨#[]⟩), .bool v.isSome]) ∧ Only (fun i => i = B) w w' ∧ Holds9 w' B (some s) := by
  cases v with
  | none =>
    have hb : w.heap[B]? = some (boxBlk none) := h
    have HB := Lib.hid (box_old (x := strBlk s) hb); have HS := Lib.hid (box_new w (strBlk s)); have HF := Lib.hid (box_stored B none s w hb)
    clear h hb
    go_enter Try.func16, Try.ntmps16
    go_wp2_with (first | (go_at_call 40; refine (pswap B _ s none _ HB.out HS.out (back_none _)).mono ?_; rintro e w' ⟨rfl, rfl⟩) | (go_at_call 38; refine (held_none _).mono ?_; rintro e w' ⟨rfl, rfl⟩))
    go_ret2
    exact ⟨rfl, HF.out⟩
  | some t =>
    obtain ⟨k, hne, hb, hk⟩ := h
    have hk' : ((w.alloc (strBlk s)).setCell ⟨B, 0, none⟩ (.pointer (some ⟨w.heap.size, 0, none⟩))).heap[k]? = some (strBlk t) := set_other (by simpa using hne.symm) (box_old hk)
    have HB := Lib.hid (box_old (x := strBlk s) hb); have HS := Lib.hid (box_new w (strBlk s)); have HF := Lib.hid (box_stored B _ s w hb); have HK := Lib.hid hk'
    clear hb hk hk'
    go_enter Try.func16, Try.ntmps16
    go_wp2_with (first | (go_at_call 40; refine (pswap B _ s _ _ HB.out HS.out (back_some k t _ HK.out)).mono ?_; rintro e w' ⟨rfl, rfl⟩) | (go_at_call 38; refine (held_some k t _ HK.out).mono ?_; rintro e w' ⟨rfl, rfl⟩))
    go_ret2
    exact ⟨rfl, HF.out⟩
end Go.Proofs.Ytdkbkocklnnmdaa
