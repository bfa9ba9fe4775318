/-
  Contracts, for a run of one goroutine, of memo.Cell's methods at int, over a cell whose block is known whole; the cell's function is given by a contract of its own.
-/
import Derived.Test.YtdkbkocklnnmdaaSync
import Derived.OneCell
import Derived.Lib.Hide
set_option linter.unusedSimpArgs false
set_option linter.unusedVariables false
namespace Go.Proofs.Ytdkbkocklnnmdaa
open Go Go.MuLone

/-- But for the blocks of S and for new ones w' is as w was. -/
structure Only (S : Nat → Prop) (w w' : World) : Prop where
  os : w'.os = w.os
  tape : w'.tape = w.tape
  output : w'.output = w.output
  size : w.heap.size ≤ w'.heap.size
  block : ∀ k, k < w.heap.size → ¬ S k → w'.heap[k]? = w.heap[k]?

theorem Only.refl (S : Nat → Prop) (w : World) : Only S w w := ⟨rfl, rfl, rfl, Nat.le_refl _, fun _ _ _ => rfl⟩
theorem Only.trans {S : Nat → Prop} {a b c : World} (h : Only S a b) (k : Only S b c) : Only S a c :=
  ⟨k.os.trans h.os, k.tape.trans h.tape, k.output.trans h.output, Nat.le_trans h.size k.size, fun i hi hs => (k.block i (Nat.lt_of_lt_of_le hi h.size) hs).trans (h.block i hi hs)⟩
theorem Only.mono {S T : Nat → Prop} {a b : World} (h : Only S a b) (hs : ∀ k, k < a.heap.size → S k → T k) : Only T a b :=
  ⟨h.os, h.tape, h.output, h.size, fun i hi ht => h.block i hi fun x => ht (hs i hi x)⟩
/-- What may turn at the second step: S, or what was new behind the first. -/
theorem Only.step {S T : Nat → Prop} {a b c : World} (h : Only S a b) (k : Only T b c) (hs : ∀ i, i < a.heap.size → T i → S i) : Only S a c :=
  ⟨k.os.trans h.os, k.tape.trans h.tape, k.output.trans h.output, Nat.le_trans h.size k.size, fun i hi hn => (k.block i (Nat.lt_of_lt_of_le hi h.size) fun x => hn (hs i hi x)).trans (h.block i hi hn)⟩
theorem Only.drew {S : Nat → Prop} {a b : World} (h : Only S a b) : Only S a b.drew := ⟨h.os, h.tape, h.output, h.size, h.block⟩
theorem Only.alloc {S : Nat → Prop} {a b : World} (h : Only S a b) (o : Obj) : Only S a (b.alloc o) :=
  ⟨h.os, h.tape, h.output, by simp; have := h.size; omega, fun i hi hs => by
    rw [← h.block i hi hs]
    have hlt : i < b.heap.size := Nat.lt_of_lt_of_le hi h.size
    show (b.heap.push o)[i]? = _
    rw [Array.getElem?_push_lt hlt, Array.getElem?_eq_getElem hlt]⟩
theorem Only.set {S : Nat → Prop} {a b : World} (h : Only S a b) (p : Addr) (v : Value) (hp : a.heap.size ≤ p.block ∨ S p.block) : Only S a (b.setCell p v) :=
  ⟨h.os, h.tape, h.output, by simpa using h.size, fun i hi hs => by
    rw [← h.block i hi hs]
    have hne : p.block ≠ i := fun e => by subst e; exact hp.elim (fun x => by omega) hs
    show (b.heap.modify p.block _)[i]? = _
    rw [Array.getElem?_modify]
    simp [hne]⟩

/-- The seven cells of a memo.Cell[int]. -/
def blk (od mu : Int) (fv : Value) (val dn rn : Int) : Obj := .cells #[.int .u32 od, .int .i32 mu, .int .u32 0, fv, .int .i64 val, .int .u32 dn, .int .i64 rn] 86 (0, 0)

section
variable {w : World} {b : Nat} {od mu val dn rn : Int} {fv : Value} (h : w.heap[b]? = some (blk od mu fv val dn rn))
include h
theorem blk0 : w.cell? ⟨b, 0, none⟩ = some (.int .u32 od) := by simp [World.cell?, h, blk]
theorem blk1 : w.cell? ⟨b, 1, none⟩ = some (.int .i32 mu) := by simp [World.cell?, h, blk]
theorem blk3 : w.cell? ⟨b, 3, none⟩ = some fv := by simp [World.cell?, h, blk]
theorem blk4 : w.cell? ⟨b, 4, none⟩ = some (.int .i64 val) := by simp [World.cell?, h, blk]
theorem blk5 : w.cell? ⟨b, 5, none⟩ = some (.int .u32 dn) := by simp [World.cell?, h, blk]
theorem blk6 : w.cell? ⟨b, 6, none⟩ = some (.int .i64 rn) := by simp [World.cell?, h, blk]
theorem blkz (i : Nat) : w.frozen? ⟨b, i, none⟩ = false := by simp [World.frozen?, h, blk]
theorem blkset (i : Nat) (v : Value) (o : Obj) (ho : o = .cells ((#[.int .u32 od, .int .i32 mu, .int .u32 0, fv, .int .i64 val, .int .u32 dn, .int .i64 rn] : Array Value).setIfInBounds i v) 86 (0, 0)) : (w.setCell ⟨b, i, none⟩ v).heap[b]? = some o := by
  have hlt := lt_of_block h
  have h' : w.heap[b] = blk od mu fv val dn rn := by simpa [Array.getElem?_eq_getElem hlt] using h
  show (w.heap.modify b _)[b]? = _
  rw [Array.getElem?_eq_getElem (by simpa using hlt), Array.getElem_modify_self, h', ho]
  simp [blk]
end

theorem drew_heap (w : World) : w.drew.heap = w.heap := rfl

/-- '(*atomic.Bool).Store(true)'. -/
theorem bstore (a : Addr) (x : Value) (w : World) (hc : w.cell? a = some x) (hz : w.frozen? a = false) :
    Calls Try.prog 57 #[.pointer (some a), .bool true] w fun e w' => e = .returned (.tuple #[]) ∧ w' = w.drew.setCell a (.int .u32 1) := by
  have hc' : w.drew.cell? a = some x := by go_simp
  have hz' : w.drew.frozen? a = false := by go_simp
  have hst := run_call_store (P := Try.prog) Try.func86 (by kernel_rfl) (by kernel_rfl) (by kernel_rfl) (by kernel_rfl) (k := .u32) (y := 1) hc' hz'
  go_enter Try.func57, Try.ntmps57
  go_wp2
  go_region_calls
  all_goals (go_end0; exact ⟨rfl, rfl⟩)

theorem bstore_deferred (a : Addr) (x : Value) (u : FrameMode) (w : World) (hc : w.cell? a = some x) (hz : w.frozen? a = false) :
    CallsD Try.prog 57 #[.pointer (some a), .bool true] u w fun e u' w' => u' = u ∧ (e = .returned (.tuple #[]) ∧ w' = w.drew.setCell a (.int .u32 1)) := by
  have hc' : w.drew.cell? a = some x := by go_simp
  have hz' : w.drew.frozen? a = false := by go_simp
  have hst := run_call_store (P := Try.prog) Try.func86 (by kernel_rfl) (by kernel_rfl) (by kernel_rfl) (by kernel_rfl) (k := .u32) (y := 1) hc' hz'
  go_enter_d Try.func57, Try.ntmps57
  go_wp2
  go_region_calls
  all_goals (go_end0; exact ⟨rfl, rfl⟩)

/-- memo.New[int]. -/
theorem new_int (fn : Fn) (first cap : Array Value) (w : World) : Calls Try.prog 9 #[.func fn first cap] w fun e w' => e = .returned (.pointer (some ⟨w.heap.size, 0, none⟩)) ∧ w' = w.alloc (blk 0 0 (.func fn first cap) 0 0 0) := by
  go_enter Try.func9, Try.ntmps9
  go_wp2
  go_ret
  exact ⟨rfl, rfl⟩
theorem new_int_nil (w : World) : Calls Try.prog 9 #[.nilFunc] w fun e w' => e = .returned (.pointer (some ⟨w.heap.size, 0, none⟩)) ∧ w' = w.alloc (blk 0 0 .nilFunc 0 0 0) := by
  go_enter Try.func9, Try.ntmps9
  go_wp2
  go_ret
  exact ⟨rfl, rfl⟩

/-- Cell[int].Done. -/
theorem done_int (b : Nat) (d : Int) (w : World) (h : w.cell? ⟨b, 5, none⟩ = some (.int .u32 d)) :
    Calls Try.prog 12 #[.pointer (some ⟨b, 0, none⟩)] w fun e w' => e = .returned (.bool (d != 0)) ∧ w' = w := by
  go_enter Try.func12, Try.ntmps12
  go_wp2_with (go_at_call 35; refine (bload _ d _ h).mono ?_; rintro e w' ⟨rfl, rfl⟩)
  go_ret
  exact ⟨rfl, rfl⟩

/-- Cell[int].Runs. -/
theorem runs_int (b : Nat) (d : Int) (w : World) (h : w.cell? ⟨b, 6, none⟩ = some (.int .i64 d)) :
    Calls Try.prog 18 #[.pointer (some ⟨b, 0, none⟩)] w fun e w' => e = .returned (.int .i64 d) ∧ w' = w := by
  go_enter Try.func18, Try.ntmps18
  go_wp2_with (go_at_call 41; refine (iload _ d _ h).mono ?_; rintro e w' ⟨rfl, rfl⟩)
  go_ret
  exact ⟨rfl, rfl⟩

/-- run's deferred closure, the frame below returns: nothing is recovered; 'done' is stored. -/
theorem catch_idle (p : Addr) (b : Nat) (d : Int) (w : World) (hp : w.cell? p = some (.pointer (some ⟨b, 0, none⟩))) (h5 : w.cell? ⟨b, 5, none⟩ = some (.int .u32 d)) (z5 : w.frozen? ⟨b, 5, none⟩ = false) :
    CallsD Try.prog 56 #[.pointer (some p)] .returning w fun e u' w' => e = .returned (.tuple #[]) ∧ u' = .returning ∧ w' = w.drew.setCell ⟨b, 5, none⟩ (.int .u32 1) := by
  refine callsD_of_wpS Try.func56 rfl fun c₀ cs hu => ?_
  apply wpS_seq
  apply wpS_seq
  apply wpS_region
  simp [wpOpsS, go_sem, recoverD, hu, Try.ntmps56, Exit.thenS]
  apply wpS_seq
  apply wpS_region
  simp [wpOpsS, go_sem, Exit.thenS]
  refine wpS_cond (t := false) (by simp [Act.eval, Array.replicate]) ?_
  simp only [Bool.false_eq_true, if_false]
  refine wpS_of_wp (wp_skip ?_)
  simp only [Exit.thenS]
  refine wpS_of_wp ?_
  go_wp2_with (go_at_call 57; refine (bstore _ _ _ h5 z5).mono ?_; rintro e w' ⟨rfl, rfl⟩)
  cases c₀
  simp_all [bodyPostS, results, Try.results56]

/-- run's deferred closure, the frame below panics: the panic is recovered; the value is 0; 'done' is stored. -/
theorem catch_panicking (p : Addr) (b : Nat) (d : Int) (x : Int) (u : TypeId) (pv : Value) (older : List PanicEntry) (w : World) (hpb : p.block ≠ b) (hp : w.cell? p = some (.pointer (some ⟨b, 0, none⟩)))
    (h4 : w.cell? ⟨b, 4, none⟩ = some (.int .i64 x)) (z4 : w.frozen? ⟨b, 4, none⟩ = false) (h5 : w.cell? ⟨b, 5, none⟩ = some (.int .u32 d)) (z5 : w.frozen? ⟨b, 5, none⟩ = false) :
    CallsD Try.prog 56 #[.pointer (some p)] (.panicking ({ v := .iface u pv, recovered := false } :: older)) w fun e u' w' => e = .returned (.tuple #[]) ∧ u' = .panicking ({ v := .iface u pv, recovered := true } :: older) ∧
      w' = (w.setCell ⟨b, 4, none⟩ (.int .i64 0)).drew.setCell ⟨b, 5, none⟩ (.int .u32 1) := by
  have hp' : (w.setCell ⟨b, 4, none⟩ (.int .i64 0)).cell? p = some (.pointer (some ⟨b, 0, none⟩)) := (World.cell?_setCell_other _ _ _ _ (fun h => hpb (by rw [← h]))).trans hp
  have h5' : (w.setCell ⟨b, 4, none⟩ (.int .i64 0)).cell? ⟨b, 5, none⟩ = some (.int .u32 d) := (World.cell?_setCell_other _ _ _ _ (by simp)).trans h5
  have z5' : (w.setCell ⟨b, 4, none⟩ (.int .i64 0)).frozen? ⟨b, 5, none⟩ = false := by simp [z5]
  refine callsD_of_wpS Try.func56 rfl fun c₀ cs hu => ?_
  apply wpS_seq
  apply wpS_seq
  apply wpS_region
  simp [wpOpsS, go_sem, recoverD, hu, Try.ntmps56, Exit.thenS]
  apply wpS_seq
  apply wpS_region
  simp [wpOpsS, go_sem, Exit.thenS]
  refine wpS_cond (t := true) (by simp [Act.eval, Array.replicate]) ?_
  simp only [if_true]
  apply wpS_seq
  apply wpS_region
  simp [wpOpsS, go_sem, Exit.thenS]
  apply wpS_region
  simp [wpOpsS, go_sem, Exit.thenS, hp, h4, z4]
  refine wpS_of_wp ?_
  go_wp2_with (go_at_call 57; refine (bstore _ _ _ h5' z5').mono ?_; rintro e w' ⟨rfl, rfl⟩)
  cases c₀
  simp_all [bodyPostS, results, Try.results56]

end Go.Proofs.Ytdkbkocklnnmdaa
