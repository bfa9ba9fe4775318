/-
  Contracts, for a run of one goroutine: memo.Cell[int].run, sync.Once over it, Cell[int].Get; the cell's function is given by a contract of its own.
-/
import Derived.Test.YtdkbkocklnnmdaaCell
import Derived.Deep.RegionWith
import Derived.Deep.DeepFit
set_option linter.unusedSimpArgs false
set_option linter.unusedVariables false
namespace Go.Proofs.Ytdkbkocklnnmdaa
open Go Go.MuLone

theorem hfeq (fn : Fn) (first cap : Array Value) (w : World) : (binOp .eql 26 (.func fn first cap) .nilFunc).run Try.prog w = .ok (.bool false) w := by
  unfold binOp Op.equal Op.maxDepth
  unfold Op.equalIn
  simp [run_underlying Try.underlying26]

theorem box_old {w : World} {b : Nat} {o x : Obj} (h : w.heap[b]? = some o) : (w.alloc x).heap[b]? = some o := by
  have hbl := lt_of_block h
  rw [← h]; show (w.heap.push x)[b]? = _
  rw [Array.getElem?_push_lt hbl, Array.getElem?_eq_getElem hbl]
theorem box_new (w : World) (x : Obj) : (w.alloc x).heap[w.heap.size]? = some x := by
  show (w.heap.push x)[w.heap.size]? = _
  simp

/-- The ends of a piece of code: normally so, by a panic so; what the frame's slots hold at a panic is all one. -/
def OnEnds (N : Act → World → Prop) (R : List PanicEntry → List Deferred → World → Prop) : Exit → Act → World → Prop
  | .normal, a, w => N a w
  | .panic c, a, w => R c a.defers w
  | _, _, _ => False

structure Behind (b : Nat) (fv : Value) (v : Int) (S : Nat → Prop) (Q : World → Prop) (w : World) (ds : List Deferred) (W : World) : Prop where
  defers : ds = [{ target := Target.fn (Fn.func 56) #[.pointer (some ⟨w.heap.size, 0, none⟩)], args := #[] }]
  only : Only (fun i => i = b ∨ S i) w W
  box : W.heap[w.heap.size]? = some (.cells #[.pointer (some ⟨b, 0, none⟩)] 24 (0, 0))
  cell : W.heap[b]? = some (blk 0 1 fv v 0 1)
  q : Q W

theorem Only.b {P : Nat → Prop} {b : Nat} {w w' : World} (h : Only (fun i => i = b) w w') : Only (fun i => i = b ∨ P i) w w' := h.mono fun _ _ e => .inl e

theorem behind_box {b : Nat} {w W' : World} {S : Nat → Prop} (hS : ∀ i, S i → i < w.heap.size)
    (ho : Only S ((w.setCell ⟨b, 6, none⟩ (.int .i64 1)).alloc (.cells #[.pointer (some ⟨b, 0, none⟩)] 24)).drew W') : W'.cell? ⟨w.heap.size, 0, none⟩ = some (.pointer (some ⟨b, 0, none⟩)) := by
  have eb := box_new (w.setCell ⟨b, 6, none⟩ (.int .i64 1)) (.cells #[.pointer (some ⟨b, 0, none⟩)] 24)
  have hsz : (w.setCell ⟨b, 6, none⟩ (.int .i64 1)).heap.size = w.heap.size := by simp
  rw [hsz] at eb
  exact cell_of_one ((ho.block w.heap.size (by simp) (fun x => absurd (hS _ x) (by omega))).trans eb)

/-- What f leaves, with the value laid. -/
theorem behind_set {b k : Nat} {cap : Array Value} {v : Int} {w : World} {S : Nat → Prop} {Q : World → Prop} {W' : World} (hbl : b < w.heap.size) (hSb : ¬ S b)
    (hS : ∀ i, S i → i < w.heap.size)
    (ho : Only S ((w.setCell ⟨b, 6, none⟩ (.int .i64 1)).alloc (.cells #[.pointer (some ⟨b, 0, none⟩)] 24)).drew W')
    (h : w.heap[b]? = some (blk 0 1 (.func (.func k) #[] cap) 0 0 0)) (hq : Q W')
    (hQ : ∀ W W', Q W → Only (fun i => i = b) W W' → Q W') :
    Behind b (.func (.func k) #[] cap) v S Q w [{ target := Target.fn (Fn.func 56) #[.pointer (some ⟨w.heap.size, 0, none⟩)], args := #[] }] (W'.setCell ⟨b, 4, none⟩ (.int .i64 v)) := by
  have o1 : Only (fun i => i = b ∨ S i) w (((w.setCell ⟨b, 6, none⟩ (.int .i64 1)).alloc (.cells #[.pointer (some ⟨b, 0, none⟩)] 24)).drew) := (((Only.refl _ w).set ⟨b, 6, none⟩ _ (.inr (.inl rfl))).alloc _).drew
  have e1 := blkset h 6 (.int .i64 1) (blk 0 1 (.func (.func k) #[] cap) 0 0 1) rfl
  have e2 := box_old (x := .cells #[.pointer (some ⟨b, 0, none⟩)] 24) e1
  have eb := box_new (w.setCell ⟨b, 6, none⟩ (.int .i64 1)) (.cells #[.pointer (some ⟨b, 0, none⟩)] 24)
  have hsz : (w.setCell ⟨b, 6, none⟩ (.int .i64 1)).heap.size = w.heap.size := by simp
  rw [hsz] at eb
  have gb : W'.heap[b]? = _ := (ho.block b (by simp; omega) hSb).trans e2
  have g0 : W'.heap[w.heap.size]? = _ := (ho.block w.heap.size (by simp) (fun x => absurd (hS _ x) (by omega))).trans eb
  have o2 := o1.step ho (S := fun i => i = b ∨ S i) (fun i _ x => .inr x)
  refine ⟨rfl, o2.set ⟨b, 4, none⟩ _ (.inr (.inl rfl)), ?_, blkset gb 4 _ _ rfl, hQ _ _ hq ((Only.refl _ _).set ⟨b, 4, none⟩ _ (.inr rfl))⟩
  show (W'.heap.modify b _)[w.heap.size]? = _
  rw [Array.getElem?_modify]
  have hne : ¬ b = w.heap.size := by omega
  simp [hne, g0]

set_option maxRecDepth 100000 in
set_option maxHeartbeats 1600000 in
theorem run_body (b k : Nat) (cap : Array Value) (v : Int) (w : World) (S : Nat → Prop) (Q : World → Prop) (hSb : ¬ S b) (hS : ∀ i, S i → i < w.heap.size)
    (hent : ∀ W : World, (callFunc k cap).run Try.prog W = .ok (.enter k cap) W)
    (h : w.heap[b]? = some (blk 0 1 (.func (.func k) #[] cap) 0 0 0))
    (hf : ∀ W : World, W.heap[b]? = some (blk 0 1 (.func (.func k) #[] cap) 0 0 1) → Only (fun i => i = b) w W → Calls Try.prog k cap W fun e W' => e = .returned (.int .i64 v) ∧ Only S W W' ∧ Q W')
    (hQ : ∀ W W', Q W → Only (fun i => i = b) W W' → Q W') :
    Calls Try.prog 34 #[.pointer (some ⟨b, 0, none⟩)] w fun e w' => e = .returned (.tuple #[]) ∧ Only (fun i => i = b ∨ S i) w w' ∧ Q w' ∧ w'.heap[b]? = some (blk 0 1 (.func (.func k) #[] cap) v 1 1) := by
  have hmf := hmf
  have hfeq := hfeq
  have hbl := lt_of_block h
  have hne : ¬ w.heap.size = b := by omega
  have e0 := box_old (x := .cells #[.pointer (some ⟨b, 0, none⟩)] 24) h
  have c3 := blk3 e0
  have c6 := blk6 e0
  have z6 := blkz e0 6
  have e1 := blkset h 6 (.int .i64 1) (blk 0 1 (.func (.func k) #[] cap) 0 0 1) rfl
  have e2 := box_old (x := .cells #[.pointer (some ⟨b, 0, none⟩)] 24) e1
  have c3' := blk3 e2
  have e3 : (((w.setCell ⟨b, 6, none⟩ (.int .i64 1)).alloc (.cells #[.pointer (some ⟨b, 0, none⟩)] 24)).drew).heap[b]? = some (blk 0 1 (.func (.func k) #[] cap) 0 0 1) := e2
  have o1 : Only (fun i => i = b) w (((w.setCell ⟨b, 6, none⟩ (.int .i64 1)).alloc (.cells #[.pointer (some ⟨b, 0, none⟩)] 24)).drew) := (((Only.refl (fun i => i = b) w).set ⟨b, 6, none⟩ _ (.inr rfl)).alloc _).drew
  have HF := Lib.hid hf; have HQ := Lib.hid hQ; have HH := Lib.hid h; have H0 := Lib.hid e0; have H1 := Lib.hid e1; have H2 := Lib.hid e2; have H3 := Lib.hid e3; have HO := Lib.hid o1; have HS := Lib.hid hS; clear hf hQ h e0 e1 e2 e3 o1 hS
  go_enter_defers Try.func34, Try.ntmps34
  go_wp2_with (go_at_call 58; refine (iadd _ _ c6 z6).mono ?_; rintro e w' ⟨rfl, rfl⟩)
  refine wp_mono (Q := OnEnds (fun a W => Behind b (.func (.func k) #[] cap) v S Q w a.defers W) (fun _ _ _ => False)) ?_ ?_
  · go_region_with ((with_reducible refine (HF.out _ (by exact H3.out) (by exact HO.out)).mono ?_); rintro e W' ⟨rfl, ho, hq⟩; have g4 := (ho.block b (by simp; omega) hSb).trans H2.out; have c4 := blk4 g4; have z4 := blkz g4 4; have cb := behind_box HS.out ho; have HB := Lib.hid (behind_set (v := v) hbl hSb HS.out ho HH.out hq HQ.out); clear ho hq g4)
    all_goals exact HB.out
  · rintro e a W hX
    cases e with
    | normal =>
      obtain ⟨hd, ho, hbox, hcell, hq⟩ : Behind b (.func (.func k) #[] cap) v S Q w a.defers W := hX
      show Leaves Try.prog Try.f34 a.tmps _ a.defers .returning W
      rw [hd]
      refine leaves_cons (f := 56) (args := #[.pointer (some ⟨w.heap.size, 0, none⟩)]) (by simp) (by simp [go_sem]) ?_
      refine (catch_idle _ b _ _ (cell_of_one hbox) (blk5 hcell) (blkz hcell 5)).mono ?_
      rintro e u' w'' ⟨rfl, rfl, rfl⟩
      refine ⟨_, results_none rfl _ _ _, rfl, (ho.drew).set _ _ (.inr (.inl rfl)), HQ.out _ _ hq ((Only.refl _ _).drew.set _ _ (.inr rfl)), ?_⟩
      exact blkset (w := W.drew) hcell 5 _ _ rfl
    | panic c => exact (hX : False).elim
    | ret => exact (hX : False).elim
    | exit _ => exact (hX : False).elim
    | goto _ => exact (hX : False).elim
    | outgrown => exact (hX : False).elim
end Go.Proofs.Ytdkbkocklnnmdaa
