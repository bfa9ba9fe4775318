/-
  What is asked of awake: that it answers true in whatever world that comes of this one.
-/
import Derived.Test.YthbmnacleneflaaGreatDoorD6
import Derived.Test.YthbmnacleneflaaGreatDoorD2
import Derived.Deep.Slices
import Derived.SizedLaws
import Derived.Handed
import Derived.KernelRfl
set_option linter.unusedSimpArgs false
set_option linter.unusedVariables false
set_option linter.unusedSimpArgs false
set_option linter.unusedVariables false
namespace Go.Proofs.YthbmnacleneflaaGreatDoor
open Go Go.RowKit
open Go.Proofs.YthbmnacleneflaaGreatDoor.dt (Nd fnd pre Deep ups Fits Dist fnd_some fnd_mem fnd_neg fnd_perm pre_congr deep_congr dist_root dist_kid dist_lt deep_of pre_len pre_nodup pre_mem all_dist dist_of_pre oneTree elOk kidOk rootsN kidsN rootOf fits_of root_of_mem cloL Whole clo_count clo_nodup)

def Awakes (w : World) : Prop := ∀ wx, Below w.heap.size w wx → Calls Tryz.prog 8 #[] wx fun e w' => e = .returned (.bool true) ∧ Below wx.heap.size wx w'

end Go.Proofs.YthbmnacleneflaaGreatDoor
/-
  What the readings of the arguments tell: rows of elements, of numbers, of pairs of texts in memory, their lengths within the reach. No condition of its own.
-/
set_option linter.unusedSimpArgs false
set_option linter.unusedVariables false
namespace Go.Proofs.YthbmnacleneflaaGreatDoor
open Go Go.RowKit Go.ChangeShapes Go.WideShapes

theorem len2 {cs : List Value} (h : cs.length = 2) : ∃ a b, cs = [a, b] := by
  match cs, h with
  | [a, b], _ => exact ⟨a, b, rfl⟩
theorem len6 {cs : List Value} (h : cs.length = 6) : ∃ a b c d e f, cs = [a, b, c, d, e, f] := by
  match cs, h with
  | [a, b, c, d, e, f], _ => exact ⟨a, b, c, d, e, f, rfl⟩
theorem len11 {cs : List Value} (h : cs.length = 11) : ∃ a0 a1 a2 a3 a4 a5 a6 a7 a8 a9 a10, cs = [a0, a1, a2, a3, a4, a5, a6, a7, a8, a9, a10] := by
  match cs, h with
  | [a0, a1, a2, a3, a4, a5, a6, a7, a8, a9, a10], _ => exact ⟨a0, a1, a2, a3, a4, a5, a6, a7, a8, a9, a10, rfl⟩
section
variable {H : Type} {enc : TypeId × Value → H} {w : World} {held : Bool}

/-- All that a datum weighs lies within the reach. -/
def Bd (P : Program) (t : TypeId) (d : DataW H) : Prop := ∀ n ∈ d.weights P t, n ≤ reachBytes
theorem weightsAll_mem {P : Program} {e : TypeId} : ∀ {l : List (DataW H)} {d : DataW H}, d ∈ l → ∀ n ∈ d.weights P e, n ∈ DataW.weightsAll P e l
  | [], _, h, _, _ => by cases h
  | a :: l, d, h, n, hn => by
    simp only [DataW.weightsAll, List.mem_append]
    rcases List.mem_cons.1 h with rfl | h
    · exact Or.inl hn
    · exact Or.inr (weightsAll_mem h n hn)
theorem Bd.elem {P : Program} {t e : TypeId} (ht : P.underlying t = some (.slice e)) {l s : List (DataW H)} (h : Bd P t (.slice l s)) {d : DataW H} (hd : d ∈ l) : Bd P e d := fun n hn =>
  h n (by simp only [DataW.weights, ht, List.mem_cons, List.mem_append]; exact Or.inr (Or.inl (weightsAll_mem hd n hn)))
theorem Bd.len {P : Program} {t e : TypeId} (ht : P.underlying t = some (.slice e)) {l s : List (DataW H)} (h : Bd P t (.slice l s)) : (l.length + s.length) * P.bytesOf e ≤ reachBytes :=
  h _ (by simp [DataW.weights, ht])
theorem Bd.field {P : Program} {t : TypeId} {fs : Array Field} {l : List (DataW H)} (ht : P.underlying t = some (.struct fs)) (h : Bd P t (.agg l)) {i : Nat} {f : Field} {d : DataW H} (hf : fs[i]? = some f) (hd : l[i]? = some d) : Bd P f.type d := fun n hn =>
  h n (by
    simp only [DataW.weights, ht]
    exact DataW.weights_mem_each (j := i) (by rw [List.getElem?_map]; simp [hf]) hd n hn)

/-- Where a cell of a row of equal pieces comes from. -/
theorem flat_get {α : Type} {cells : α → List Value} {k : Nat} (hk : 0 < k) (hl : ∀ a, (cells a).length = k) : ∀ {l : List α} {j : Nat} {u : Value}, (l.flatMap cells)[j]? = some u → ∃ i q a, j = i * k + q ∧ q < k ∧ l[i]? = some a ∧ (cells a)[q]? = some u
  | [], j, u, h => by simp at h
  | b :: l, j, u, h => by
    rw [List.flatMap_cons] at h
    by_cases hj : j < k
    · rw [List.getElem?_append_left (by rw [hl]; exact hj)] at h
      exact ⟨0, j, b, by omega, hj, rfl, h⟩
    · rw [List.getElem?_append_right (by rw [hl]; omega), hl] at h
      obtain ⟨i, q, a, h1, h2, h3, h4⟩ := flat_get hk hl h
      exact ⟨i + 1, q, a, by rw [Nat.succ_mul]; omega, h2, h3, h4⟩
theorem add_plain (a : Addr) (n : Nat) (h : a.spot = none) : a.add n = ⟨a.block, a.off + n, none⟩ := by
  unfold Addr.add
  split
  · subst_vars
    cases a
    simp at h ⊢
    exact h
  · rfl
theorem cell_plain {w : World} {a : Addr} {v : Value} (h : w.cell? a = some v) : a.spot = none ∧ a.block < w.heap.size := by
  unfold World.cell? at h
  split at h
  · rename_i hb
    refine ⟨?_, (Array.getElem?_eq_some_iff.1 hb).1⟩
    split at h
    · cases h
    · rename_i hs
      cases hq : a.spot with
      | none => rfl
      | some _ => simp [hq] at hs
  · cases h

/-- A row of data of one kind: its cells in memory, what is known of each, its length. -/
theorem open_row {P : Program} {α : Type} [Inhabited α] (cells : α → List Value) (ok : α → Prop) {k : Nat} (hk : 0 < k) {t e : TypeId} {fuel : Nat} {cs : List Value} {x : DataW H × List MemPlace} (ht : P.underlying t = some (.slice e)) (hc : P.cellsOf e = k)
    (hl : ∀ a, (cells a).length = k) (one : ∀ n cs' y, DataW.trod enc P w 0 (fun _ => true) held n e cs' = some y → Bd P e y.1 → ∃ a, cs' = cells a ∧ ok a)
    (h : DataW.trod enc P w 0 (fun _ => true) held fuel t cs = some x) (hb : Bd P t x.1) : ∃ (v : Value) (l : List α), cs = [v] ∧ RowAt w.heap.size w v l.length (l.flatMap cells) ∧ (∀ a ∈ l, ok a) ∧ l.length * P.bytesOf e ≤ reachBytes := by
  rcases Deep.open_slice ht h with ⟨rfl, rfl⟩ | ⟨a, len, cap, m, n, D, Pl, rfl, _, hle, hcap, hm, rfl, hx⟩
  · exact ⟨_, [], rfl, ⟨none, 0, rfl, Nat.le_refl _, Nat.zero_le _, Or.inl ⟨rfl, rfl, fun _ => rfl⟩⟩, (fun _ h => by cases h), by simp⟩
  · have hlm : len ≤ m := by rw [hm]; split <;> omega
    have each : ∀ i, i < len → ∃ y : α, w.cells? 0 (a.add (i * k)) k = some (cells y) ∧ ok y := fun i hi => by
      obtain ⟨cs', h1, h2⟩ := hx i (by omega)
      obtain ⟨y, rfl, h3⟩ := one _ _ _ h2 (hb.elem ht (List.mem_map.2 ⟨i, List.mem_range.2 hi, rfl⟩))
      rw [hc] at h1
      exact ⟨y, h1, h3⟩
    obtain ⟨A, hA⟩ := Deep.choose_lt each
    have hlen : ((List.range len).map A).length = len := by simp
    refine ⟨_, (List.range len).map A, rfl, ⟨some a, cap, by rw [hlen], by omega, hcap, ?_⟩, fun y hy => ?_, ?_⟩
    · rw [hlen]
      by_cases h0 : len = 0
      · subst h0
        exact Or.inl ⟨rfl, rfl, fun h => by cases h⟩
      · refine Or.inr ⟨by omega, ?_⟩
        have c0 := (World.cells?_some (hA 0 (by omega)).1).2.2 0 hk
        have cA : (cells (A 0))[0]? = some ((cells (A 0))[0]'(by rw [hl]; exact hk)) := List.getElem?_eq_getElem _
        rw [Nat.zero_mul] at c0
        rw [cA] at c0
        have ha : (a.add 0).add 0 = a := rfl
        rw [ha] at c0
        obtain ⟨hs, hbl⟩ := cell_plain c0
        refine ⟨a.block, a.off, by cases a; simp at hs ⊢; exact hs, hbl, fun j u hj => ?_⟩
        obtain ⟨i, q, y, rfl, hq, hi, hy⟩ := flat_get hk hl hj
        have hil : i < len := by
          have := (List.getElem?_eq_some_iff.1 hi).1
          simpa using this
        have := (World.cells?_some (hA i hil).1).2.2 q hq
        rw [Deep.add_add, add_plain _ _ hs] at this
        rw [List.getElem?_map, List.getElem?_range hil] at hi
        obtain rfl : A i = y := by simpa using hi
        rw [this]
        exact hy
    · obtain ⟨i, hi, rfl⟩ := List.mem_map.1 hy
      exact (hA i (List.mem_range.1 hi)).2
    · have := hb.len ht
      rw [hlen]
      simp only [List.length_map, List.length_range] at this
      exact Nat.le_trans (Nat.mul_le_mul_right _ (by omega)) this

variable {n : Nat} {cs : List Value} {y : DataW H × List MemPlace}
theorem struct_open {P : Program} {t : TypeId} {fs : Array Field} {k : Nat} (ht : P.underlying t = some (.struct fs)) (hc : P.cellsOf t = k) (h : DataW.trod enc P w 0 (fun _ => true) held n t cs = some y) :
    ∃ (xs : List (DataW H × List MemPlace)) (m : Nat), y.1 = .agg (xs.map (·.1)) ∧ cs.length = k ∧ xs.length = fs.size ∧
      ∀ (i : Nat) (f : Field), fs[i]? = some f → DataW.trod enc P w 0 (fun _ => true) held m f.type ((cs.drop f.offset).take (P.cellsOf f.type)) = xs[i]? := by
  obtain ⟨xs, m, _, e, hl, hx, hf⟩ := DataW.trod_struct ht h
  exact ⟨xs, m, by rw [e], by rw [hl, hc], hx, hf⟩
theorem one_i64 {t : TypeId} (ht : Tryz.prog.underlying t = some (.int .i64)) (h : DataW.trod enc Tryz.prog w 0 (fun _ => true) held n t cs = some y) : ∃ i : Int, cs = [.int .i64 i] ∧ I64 i := by
  obtain ⟨i, rfl, _, hw⟩ := DataW.trod_int ht h
  refine ⟨i, rfl, ?_⟩
  simp only [Lit.wf, Bool.and_eq_true, decide_eq_true_eq] at hw
  exact hw
theorem one_str (h : DataW.trod enc Tryz.prog w 0 (fun _ => true) held n 9 cs = some y) : ∃ s : ByteArray, cs = [.string s] ∧ s.size ≤ maxLen := by
  obtain ⟨s, rfl, _, hw⟩ := DataW.trod_string Tryz.underlying9 h
  exact ⟨s, rfl, hw⟩
theorem cells3 : Tryz.prog.cellsOf 3 = 1 := by kernel_rfl
theorem cells2 : Tryz.prog.cellsOf 2 = 1 := by kernel_rfl
theorem cells9 : Tryz.prog.cellsOf 9 = 1 := by kernel_rfl
theorem cells23 : Tryz.prog.cellsOf 23 = 1 := by kernel_rfl
theorem cells41 : Tryz.prog.cellsOf 41 = 1 := by kernel_rfl
theorem cells43 : Tryz.prog.cellsOf 43 = 2 := by kernel_rfl
theorem cells45 : Tryz.prog.cellsOf 45 = 6 := by kernel_rfl
theorem cells47 : Tryz.prog.cellsOf 47 = 11 := by kernel_rfl
theorem cells81 : Tryz.prog.cellsOf 81 = 2 := by kernel_rfl
theorem bytes3 : Tryz.prog.bytesOf 3 = 8 := by kernel_rfl
theorem bytes81 : Tryz.prog.bytesOf 81 = 32 := by kernel_rfl
/-- A row of numbers. -/
theorem read_ints (h : DataW.trod enc Tryz.prog w 0 (fun _ => true) held n 23 cs = some y) (hb : Bd Tryz.prog 23 y.1) :
    ∃ (v : Value) (l : List Int), cs = [v] ∧ IntsAt w.heap.size w v l ∧ (∀ i ∈ l, I64 i) ∧ l.length * 8 ≤ 140737488355328 := by
  obtain ⟨v, l, rfl, hr, ho, hl⟩ := open_row (fun i : Int => [Value.int .i64 i]) I64 (by omega) Tryz.underlying23 cells3 (fun _ => rfl) (fun n cs' y h _ => one_i64 Tryz.underlying3 h) h hb
  refine ⟨v, l, rfl, ?_, ho, ?_⟩
  · have e : l.flatMap (fun i : Int => [Value.int .i64 i]) = intCells l := by
      unfold intCells
      clear hr ho hl h
      induction l with
      | nil => rfl
      | cons a l ih => rw [List.flatMap_cons, ih]; rfl
    rw [e] at hr
    exact hr
  · rw [bytes3] at hl
    exact Nat.le_trans hl (by decide)
theorem one_attr (h : DataW.trod enc Tryz.prog w 0 (fun _ => true) held n 81 cs = some y) : ∃ p : ByteArray × ByteArray, cs = [.string p.1, .string p.2] ∧ (p.1.size ≤ maxLen ∧ p.2.size ≤ maxLen) := by
  obtain ⟨xs, m, hy, hlen, hx, hf⟩ := struct_open Tryz.underlying81 cells81 h
  obtain ⟨a, b, rfl⟩ := len2 hlen
  have h0 : DataW.trod enc Tryz.prog w 0 (fun _ => true) held m 9 ((([a, b] : List Value).drop 0).take (Tryz.prog.cellsOf 9)) = xs[0]? := hf 0 _ rfl
  rw [cells9] at h0
  have h1 : DataW.trod enc Tryz.prog w 0 (fun _ => true) held m 9 ((([a, b] : List Value).drop 1).take (Tryz.prog.cellsOf 9)) = xs[1]? := hf 1 _ rfl
  rw [cells9] at h1
  have l2 : xs.length = 2 := hx
  rw [List.getElem?_eq_getElem (by omega)] at h0 h1
  obtain ⟨s0, e0, z0⟩ := one_str h0
  obtain ⟨s1, e1, z1⟩ := one_str h1
  simp at e0 e1
  exact ⟨(s0, s1), by rw [e0, e1], z0, z1⟩
/-- A row of attributes. -/
theorem read_attrs (h : DataW.trod enc Tryz.prog w 0 (fun _ => true) held n 41 cs = some y) (hb : Bd Tryz.prog 41 y.1) :
    ∃ (v : Value) (l : List (ByteArray × ByteArray)), cs = [v] ∧ AttrsAt w.heap.size w v l ∧ (∀ p ∈ l, p.1.size ≤ maxLen ∧ p.2.size ≤ maxLen) ∧ l.length * 32 ≤ 140737488355328 := by
  obtain ⟨v, l, rfl, hr, ho, hl⟩ := open_row (fun p : ByteArray × ByteArray => [Value.string p.1, .string p.2]) (fun p => p.1.size ≤ maxLen ∧ p.2.size ≤ maxLen) (by omega) Tryz.underlying41 cells81 (fun _ => rfl) (fun n cs' y h _ => one_attr h) h hb
  refine ⟨v, l, rfl, hr, ho, ?_⟩
  rw [bytes81] at hl
  exact Nat.le_trans hl (by decide)
theorem one_rat (h : DataW.trod enc Tryz.prog w 0 (fun _ => true) held n 43 cs = some y) : ∃ a b : Int, cs = [.int .i64 a, .int .i64 b] ∧ I64 a ∧ I64 b := by
  obtain ⟨xs, m, hy, hlen, hx, hf⟩ := struct_open Tryz.underlying43 cells43 h
  obtain ⟨a, b, rfl⟩ := len2 hlen
  have h0 : DataW.trod enc Tryz.prog w 0 (fun _ => true) held m 2 ((([a, b] : List Value).drop 0).take (Tryz.prog.cellsOf 2)) = xs[0]? := hf 0 _ rfl
  rw [cells2] at h0
  have h1 : DataW.trod enc Tryz.prog w 0 (fun _ => true) held m 2 ((([a, b] : List Value).drop 1).take (Tryz.prog.cellsOf 2)) = xs[1]? := hf 1 _ rfl
  rw [cells2] at h1
  have l2 : xs.length = 2 := hx
  rw [List.getElem?_eq_getElem (by omega)] at h0 h1
  obtain ⟨s0, e0, z0⟩ := one_i64 Tryz.underlying2 h0
  obtain ⟨s1, e1, z1⟩ := one_i64 Tryz.underlying2 h1
  simp at e0 e1
  exact ⟨s0, s1, by rw [e0, e1], z0, z1⟩
theorem one_box (h : DataW.trod enc Tryz.prog w 0 (fun _ => true) held n 45 cs = some y) : ∃ (bt : Int) (bn : ByteArray) (n1 d1 n2 d2 : Int), cs = [.int .i64 bt, .string bn, .int .i64 n1, .int .i64 d1, .int .i64 n2, .int .i64 d2] ∧ I64 bt ∧ bn.size ≤ maxLen ∧ I64 n1 ∧ I64 d1 ∧ I64 n2 ∧ I64 d2 := by
  obtain ⟨xs, m, hy, hlen, hx, hf⟩ := struct_open Tryz.underlying45 cells45 h
  obtain ⟨a, b, c, d, e, f, rfl⟩ := len6 hlen
  have h0 : DataW.trod enc Tryz.prog w 0 (fun _ => true) held m 3 ((([a, b, c, d, e, f] : List Value).drop 0).take (Tryz.prog.cellsOf 3)) = xs[0]? := hf 0 _ rfl
  rw [cells3] at h0
  have h1 : DataW.trod enc Tryz.prog w 0 (fun _ => true) held m 9 ((([a, b, c, d, e, f] : List Value).drop 1).take (Tryz.prog.cellsOf 9)) = xs[1]? := hf 1 _ rfl
  rw [cells9] at h1
  have h2 : DataW.trod enc Tryz.prog w 0 (fun _ => true) held m 43 ((([a, b, c, d, e, f] : List Value).drop 2).take (Tryz.prog.cellsOf 43)) = xs[2]? := hf 2 _ rfl
  rw [cells43] at h2
  have h3 : DataW.trod enc Tryz.prog w 0 (fun _ => true) held m 43 ((([a, b, c, d, e, f] : List Value).drop 4).take (Tryz.prog.cellsOf 43)) = xs[3]? := hf 3 _ rfl
  rw [cells43] at h3
  have l2 : xs.length = 4 := hx
  rw [List.getElem?_eq_getElem (by omega)] at h0 h1 h2 h3
  obtain ⟨s0, e0, z0⟩ := one_i64 Tryz.underlying3 h0
  obtain ⟨s1, e1, z1⟩ := one_str h1
  obtain ⟨s2, s3, e2, z2, z3⟩ := one_rat h2
  obtain ⟨s4, s5, e4, z4, z5⟩ := one_rat h3
  simp at e0 e1 e2 e4
  exact ⟨s0, s1, s2, s3, s4, s5, by rw [e0, e1, e2.1, e2.2, e4.1, e4.2], z0, z1, z2, z3, z4, z5⟩
theorem one_el (h : DataW.trod enc Tryz.prog w 0 (fun _ => true) held n 47 cs = some y) (hb : Bd Tryz.prog 47 y.1) : ∃ x : Ev, cs = x.cells.toList ∧ (IntsAt w.heap.size w x.kv x.el.kids ∧ AttrsAt w.heap.size w x.av x.el.attrs ∧ x.el.ok) := by
  obtain ⟨xs, m, hy, hlen, hx, hf⟩ := struct_open Tryz.underlying47 cells47 h
  obtain ⟨a0, a1, a2, a3, a4, a5, a6, a7, a8, a9, a10, rfl⟩ := len11 hlen
  have h0 : DataW.trod enc Tryz.prog w 0 (fun _ => true) held m 3 ((([a0, a1, a2, a3, a4, a5, a6, a7, a8, a9, a10] : List Value).drop 0).take (Tryz.prog.cellsOf 3)) = xs[0]? := hf 0 _ rfl
  rw [cells3] at h0
  have h1 : DataW.trod enc Tryz.prog w 0 (fun _ => true) held m 3 ((([a0, a1, a2, a3, a4, a5, a6, a7, a8, a9, a10] : List Value).drop 1).take (Tryz.prog.cellsOf 3)) = xs[1]? := hf 1 _ rfl
  rw [cells3] at h1
  have h2 : DataW.trod enc Tryz.prog w 0 (fun _ => true) held m 9 ((([a0, a1, a2, a3, a4, a5, a6, a7, a8, a9, a10] : List Value).drop 2).take (Tryz.prog.cellsOf 9)) = xs[2]? := hf 2 _ rfl
  rw [cells9] at h2
  have h3 : DataW.trod enc Tryz.prog w 0 (fun _ => true) held m 23 ((([a0, a1, a2, a3, a4, a5, a6, a7, a8, a9, a10] : List Value).drop 3).take (Tryz.prog.cellsOf 23)) = xs[3]? := hf 3 _ rfl
  rw [cells23] at h3
  have h4 : DataW.trod enc Tryz.prog w 0 (fun _ => true) held m 41 ((([a0, a1, a2, a3, a4, a5, a6, a7, a8, a9, a10] : List Value).drop 4).take (Tryz.prog.cellsOf 41)) = xs[4]? := hf 4 _ rfl
  rw [cells41] at h4
  have h5 : DataW.trod enc Tryz.prog w 0 (fun _ => true) held m 45 ((([a0, a1, a2, a3, a4, a5, a6, a7, a8, a9, a10] : List Value).drop 5).take (Tryz.prog.cellsOf 45)) = xs[5]? := hf 5 _ rfl
  rw [cells45] at h5
  have l2 : xs.length = 6 := hx
  have hb' : Bd Tryz.prog 47 (.agg (xs.map (·.1))) := by rw [← hy]; exact hb
  clear hb
  have e3 : xs[3]? = some (xs[3]'(by omega)) := List.getElem?_eq_getElem _
  have e4 : xs[4]? = some (xs[4]'(by omega)) := List.getElem?_eq_getElem _
  have b3 : Bd Tryz.prog 23 (xs[3]'(by omega)).1 := Bd.field (i := 3) (f := { name := "Kids", type := 23, offset := 3, embedded := false, tag := "", pkgPath := "", byteOffset := 32 }) Tryz.underlying47 hb' rfl (by rw [List.getElem?_map, e3]; rfl)
  have b4 : Bd Tryz.prog 41 (xs[4]'(by omega)).1 := Bd.field (i := 4) (f := { name := "Attrs", type := 41, offset := 4, embedded := false, tag := "", pkgPath := "", byteOffset := 56 }) Tryz.underlying47 hb' rfl (by rw [List.getElem?_map, e4]; rfl)
  rw [List.getElem?_eq_getElem (by omega)] at h0 h1 h2 h3 h4 h5
  obtain ⟨s0, e0, z0⟩ := one_i64 Tryz.underlying3 h0
  obtain ⟨s1, e1, z1⟩ := one_i64 Tryz.underlying3 h1
  obtain ⟨s2, e2, z2⟩ := one_str h2
  obtain ⟨kv, ks, e3, hk, ki, kl⟩ := read_ints h3 b3
  obtain ⟨av, ats, e4, ha, ai, al⟩ := read_attrs h4 b4
  obtain ⟨bt, bn, n1, d1, n2, d2, e5, z5, z6, z7, z8, z9, z10⟩ := one_box h5
  simp at e0 e1 e2 e3 e4 e5
  obtain ⟨e5, e6, e7, e8, e9, e10⟩ := e5
  refine ⟨⟨⟨s0, s1, s2, ks, ats, bt, bn, n1, d1, n2, d2⟩, kv, av⟩, ?_, hk, ha, ⟨z0, z1, z2, ki, kl, ai, al, z5, z6, z7, z8, z9, z10⟩⟩
  rw [e0, e1, e2, e3, e4, e5, e6, e7, e8, e9, e10]
  rfl
instance : Inhabited Ev := ⟨⟨⟨0, 0, default, [], [], 0, default, 0, 0, 0, 0⟩, default, default⟩⟩
/-- A row of elements. -/
theorem read_els (h : DataW.trod enc Tryz.prog w 0 (fun _ => true) held n 22 cs = some y) (hb : Bd Tryz.prog 22 y.1) : ∃ (v : Value) (l : List Ev), cs = [v] ∧ ElsAt w.heap.size w v l := by
  obtain ⟨v, l, rfl, hr, ho, hl⟩ := open_row (fun x : Ev => x.cells.toList) (fun x => IntsAt w.heap.size w x.kv x.el.kids ∧ AttrsAt w.heap.size w x.av x.el.attrs ∧ x.el.ok) (by omega) Tryz.underlying22 cells47 (fun _ => rfl) (fun n cs' y h hb => one_el h hb) h hb
  exact ⟨v, l, rfl, hr, fun x hx => (ho x hx).1, fun x hx => (ho x hx).2.1, fun x hx => (ho x hx).2.2⟩
end
end Go.Proofs.YthbmnacleneflaaGreatDoor
