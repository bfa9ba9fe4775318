/-
  What the readings of the arguments tell: operations and answers in memory, rows of them, their sizes within the bound. No condition of its own.
-/
import Derived.Test.YtihlneenajlhoaaGreatDoorRows
import Derived.Test.YtihlneenajlhoaaGreatDoorS1
import Derived.Test.YtihlneenajlhoaaGreatDoorS4
import Derived.Deep.Slices
import Derived.SizedLaws
import Derived.Handed
import Derived.OpenShut
import Derived.KernelRfl
set_option linter.unusedSimpArgs false
set_option linter.unusedVariables false
namespace Go.Proofs.YtihlneenajlhoaaGreatDoor
open Go Go.RowKit Go.ChangeShapes Go.WideShapes

theorem len2 {cs : List Value} (h : cs.length = 2) : ∃ a0 a1, cs = [a0, a1] := by
  match cs, h with
  | [a0, a1], _ => exact ⟨a0, a1, rfl⟩
theorem len4 {cs : List Value} (h : cs.length = 4) : ∃ a0 a1 a2 a3, cs = [a0, a1, a2, a3] := by
  match cs, h with
  | [a0, a1, a2, a3], _ => exact ⟨a0, a1, a2, a3, rfl⟩
theorem len5 {cs : List Value} (h : cs.length = 5) : ∃ a0 a1 a2 a3 a4, cs = [a0, a1, a2, a3, a4] := by
  match cs, h with
  | [a0, a1, a2, a3, a4], _ => exact ⟨a0, a1, a2, a3, a4, rfl⟩
theorem len6 {cs : List Value} (h : cs.length = 6) : ∃ a0 a1 a2 a3 a4 a5, cs = [a0, a1, a2, a3, a4, a5] := by
  match cs, h with
  | [a0, a1, a2, a3, a4, a5], _ => exact ⟨a0, a1, a2, a3, a4, a5, rfl⟩
theorem len10 {cs : List Value} (h : cs.length = 10) : ∃ a0 a1 a2 a3 a4 a5 a6 a7 a8 a9, cs = [a0, a1, a2, a3, a4, a5, a6, a7, a8, a9] := by
  match cs, h with
  | [a0, a1, a2, a3, a4, a5, a6, a7, a8, a9], _ => exact ⟨a0, a1, a2, a3, a4, a5, a6, a7, a8, a9, rfl⟩
theorem len18 {cs : List Value} (h : cs.length = 18) : ∃ a0 a1 a2 a3 a4 a5 a6 a7 a8 a9 a10 a11 a12 a13 a14 a15 a16 a17, cs = [a0, a1, a2, a3, a4, a5, a6, a7, a8, a9, a10, a11, a12, a13, a14, a15, a16, a17] := by
  match cs, h with
  | [a0, a1, a2, a3, a4, a5, a6, a7, a8, a9, a10, a11, a12, a13, a14, a15, a16, a17], _ => exact ⟨a0, a1, a2, a3, a4, a5, a6, a7, a8, a9, a10, a11, a12, a13, a14, a15, a16, a17, rfl⟩
section
variable {H : Type} {enc : TypeId × Value → H} {w : World} {held : Bool}

/-- A datum is of bulk at most N. -/
def Bk (N : Nat) (d : DataW H) : Prop := Rows.uptoBulk d ≤ N
theorem bulk_mem : ∀ {l : List (DataW H)} {d : DataW H}, d ∈ l → Rows.uptoBulk d ≤ Rows.uptoBulkAll l
  | [], _, h => by cases h
  | a :: l, d, h => by
    rw [Rows.uptoBulkAll]
    rcases List.mem_cons.1 h with rfl | h
    · omega
    · have := bulk_mem h; omega
theorem bulk_pos (d : DataW H) : 1 ≤ Rows.uptoBulk d := by
  unfold Rows.uptoBulk
  split <;> omega
theorem bulk_len : ∀ (l : List (DataW H)), l.length ≤ Rows.uptoBulkAll l
  | [] => Nat.zero_le _
  | a :: l => by
    rw [Rows.uptoBulkAll, List.length_cons]
    have := bulk_len l
    have := bulk_pos a
    omega
theorem Bk.elem {N : Nat} {l s : List (DataW H)} (h : Bk N (.slice l s)) {d : DataW H} (hd : d ∈ l) : Bk N d := by
  unfold Bk at *
  rw [Rows.uptoBulk] at h
  have := bulk_mem hd
  omega
theorem Bk.len {N : Nat} {l s : List (DataW H)} (h : Bk N (.slice l s)) : l.length + s.length ≤ N := by
  unfold Bk at h
  rw [Rows.uptoBulk] at h
  have := bulk_len l
  have := bulk_len s
  omega
theorem Bk.field {N : Nat} {l : List (DataW H)} (h : Bk N (.agg l)) {i : Nat} {d : DataW H} (hd : l[i]? = some d) : Bk N d := by
  unfold Bk at *
  rw [Rows.uptoBulk] at h
  have := bulk_mem (List.mem_of_getElem? hd)
  omega
theorem Bk.str {N : Nat} {s : List UInt8} (h : Bk N (.lit (.string s) : DataW H)) : s.length ≤ N := by
  unfold Bk at h
  rw [Rows.uptoBulk] at h
  omega

/-- Where a cell of a row of equal pieces comes from. -/
theorem flat_get {α : Type} {cells : α → List Value} {k : Nat} (hk : 0 < k) (hl : ∀ a, (cells a).length = k) : ∀ {l : List α} {j : Nat} {u : Value}, (l.flatMap cells)[j]? = some u → ∃ i q a, j = i * k + q ∧ q < k ∧ l[i]? = some a ∧ (cells a)[q]? = some u
  | [], j, u, h => by simp at h
  | b :: l, j, u, h => by
    rw [List.flatMap_cons] at h
    by_cases hj : j < k
    · rw [List.getElem?_append_left (by rw [hl]; exact hj)] at h
      exact ⟨0, j, b, by omega, hj, rfl, h⟩
    · rw [List.getElem?_append_right (by rw [hl]; omega), hl] at h
      obtain ⟨i, q, a, h1, h2, h3, h4⟩ := flat_get hk hl h
      exact ⟨i + 1, q, a, by rw [Nat.succ_mul]; omega, h2, h3, h4⟩
theorem add_plain (a : Addr) (n : Nat) (h : a.spot = none) : a.add n = ⟨a.block, a.off + n, none⟩ := by
  unfold Addr.add
  split
  · subst_vars
    cases a
    simp at h ⊢
    exact h
  · rfl
theorem cell_plain {w : World} {a : Addr} {v : Value} (h : w.cell? a = some v) : a.spot = none ∧ a.block < w.heap.size := by
  unfold World.cell? at h
  split at h
  · rename_i hb
    refine ⟨?_, (Array.getElem?_eq_some_iff.1 hb).1⟩
    split at h
    · cases h
    · rename_i hs
      cases hq : a.spot with
      | none => rfl
      | some _ => simp [hq] at hs
  · cases h

/-- A row of data of one kind: its cells in memory, what is known of each, its length. -/
theorem open_row {P : Program} {N : Nat} {α : Type} [Inhabited α] (cells : α → List Value) (ok : α → Prop) {k : Nat} (hk : 0 < k) {t e : TypeId} {fuel : Nat} {cs : List Value} {x : DataW H × List MemPlace} (ht : P.underlying t = some (.slice e)) (hc : P.cellsOf e = k)
    (hl : ∀ a, (cells a).length = k) (one : ∀ n cs' y, DataW.trod enc P w 0 (fun _ => true) held n e cs' = some y → Bk N y.1 → ∃ a, cs' = cells a ∧ ok a)
    (h : DataW.trod enc P w 0 (fun _ => true) held fuel t cs = some x) (hb : Bk N x.1) : ∃ (v : Value) (l : List α), cs = [v] ∧ RowAt w.heap.size w v l.length (l.flatMap cells) ∧ (∀ a ∈ l, ok a) ∧ l.length ≤ N := by
  rcases Deep.open_slice ht h with ⟨rfl, rfl⟩ | ⟨a, len, cap, m, n, D, Pl, rfl, _, hle, hcap, hm, rfl, hx⟩
  · exact ⟨_, [], rfl, ⟨none, 0, rfl, Nat.le_refl _, Nat.zero_le _, Or.inl ⟨rfl, rfl, fun _ => rfl⟩⟩, (fun _ h => by cases h), by simp⟩
  · have hlm : len ≤ m := by rw [hm]; split <;> omega
    have each : ∀ i, i < len → ∃ y : α, w.cells? 0 (a.add (i * k)) k = some (cells y) ∧ ok y := fun i hi => by
      obtain ⟨cs', h1, h2⟩ := hx i (by omega)
      obtain ⟨y, rfl, h3⟩ := one _ _ _ h2 (hb.elem (List.mem_map.2 ⟨i, List.mem_range.2 hi, rfl⟩))
      rw [hc] at h1
      exact ⟨y, h1, h3⟩
    obtain ⟨A, hA⟩ := Deep.choose_lt each
    have hlen : ((List.range len).map A).length = len := by simp
    refine ⟨_, (List.range len).map A, rfl, ⟨some a, cap, by rw [hlen], by omega, hcap, ?_⟩, fun y hy => ?_, ?_⟩
    · rw [hlen]
      by_cases h0 : len = 0
      · subst h0
        exact Or.inl ⟨rfl, rfl, fun h => by cases h⟩
      · refine Or.inr ⟨by omega, ?_⟩
        have c0 := (World.cells?_some (hA 0 (by omega)).1).2.2 0 hk
        have cA : (cells (A 0))[0]? = some ((cells (A 0))[0]'(by rw [hl]; exact hk)) := List.getElem?_eq_getElem _
        rw [Nat.zero_mul] at c0
        rw [cA] at c0
        have ha : (a.add 0).add 0 = a := rfl
        rw [ha] at c0
        obtain ⟨hs, hbl⟩ := cell_plain c0
        refine ⟨a.block, a.off, by cases a; simp at hs ⊢; exact hs, hbl, fun j u hj => ?_⟩
        obtain ⟨i, q, y, rfl, hq, hi, hy⟩ := flat_get hk hl hj
        have hil : i < len := by
          have := (List.getElem?_eq_some_iff.1 hi).1
          simpa using this
        have := (World.cells?_some (hA i hil).1).2.2 q hq
        rw [Deep.add_add, add_plain _ _ hs] at this
        rw [List.getElem?_map, List.getElem?_range hil] at hi
        obtain rfl : A i = y := by simpa using hi
        rw [this]
        exact hy
    · obtain ⟨i, hi, rfl⟩ := List.mem_map.1 hy
      exact (hA i (List.mem_range.1 hi)).2
    · have := hb.len
      rw [hlen]
      simp only [List.length_map, List.length_range] at this
      omega

variable {n N : Nat} {cs : List Value} {y : DataW H × List MemPlace}
theorem struct_open {P : Program} {t : TypeId} {fs : Array Field} {k : Nat} (ht : P.underlying t = some (.struct fs)) (hc : P.cellsOf t = k) (h : DataW.trod enc P w 0 (fun _ => true) held n t cs = some y) :
    ∃ (xs : List (DataW H × List MemPlace)) (m : Nat), y.1 = .agg (xs.map (·.1)) ∧ cs.length = k ∧ xs.length = fs.size ∧
      ∀ (i : Nat) (f : Field), fs[i]? = some f → DataW.trod enc P w 0 (fun _ => true) held m f.type ((cs.drop f.offset).take (P.cellsOf f.type)) = xs[i]? := by
  obtain ⟨xs, m, _, e, hl, hx, hf⟩ := DataW.trod_struct ht h
  exact ⟨xs, m, by rw [e], by rw [hl, hc], hx, hf⟩
theorem one_i64 {t : TypeId} (ht : Tryz.prog.underlying t = some (.int .i64)) (h : DataW.trod enc Tryz.prog w 0 (fun _ => true) held n t cs = some y) : ∃ i : Int, cs = [.int .i64 i] ∧ I64 i := by
  obtain ⟨i, rfl, _, hw⟩ := DataW.trod_int ht h
  refine ⟨i, rfl, ?_⟩
  simp only [Lit.wf, Bool.and_eq_true, decide_eq_true_eq] at hw
  exact hw
theorem one_str (h : DataW.trod enc Tryz.prog w 0 (fun _ => true) held n 9 cs = some y) (hb : Bk N y.1) : ∃ s : ByteArray, cs = [.string s] ∧ s.size ≤ N := by
  obtain ⟨s, rfl, hy, hw⟩ := DataW.trod_string Tryz.underlying9 h
  refine ⟨s, rfl, ?_⟩
  rw [hy] at hb
  have := hb.str
  rw [Array.length_toList] at this
  exact this
theorem one_bool (h : DataW.trod enc Tryz.prog w 0 (fun _ => true) held n 4 cs = some y) : ∃ b : Bool, cs = [.bool b] := by
  obtain ⟨b, rfl, _⟩ := DataW.trod_bool Tryz.underlying4 h
  exact ⟨b, rfl⟩
theorem one_u8 (h : DataW.trod enc Tryz.prog w 0 (fun _ => true) held n 5 cs = some y) : ∃ b : UInt8, cs = [.int .u8 b.toNat] := by
  obtain ⟨i, rfl, _, hw⟩ := DataW.trod_int Tryz.underlying5 h
  simp only [Lit.wf, Bool.and_eq_true, decide_eq_true_eq] at hw
  obtain ⟨h0, h1⟩ := hw
  have e0 : IntKind.u8.min = 0 := rfl
  have e1 : IntKind.u8.max = 255 := rfl
  obtain ⟨k, hk, _⟩ : ∃ k : UInt8, i = k.toNat ∧ True := ⟨UInt8.ofNat i.toNat, by
    rw [UInt8.toNat_ofNat']
    have : i.toNat % 2 ^ 8 = i.toNat := Nat.mod_eq_of_lt (by omega)
    rw [this]; omega, trivial⟩
  exact ⟨k, by rw [hk]⟩
theorem len3 {cs : List Value} (h : cs.length = 3) : ∃ a0 a1 a2, cs = [a0, a1, a2] := by
  match cs, h with
  | [a0, a1, a2], _ => exact ⟨a0, a1, a2, rfl⟩
theorem cellsR2 : Tryz.prog.cellsOf 2 = 1 := by kernel_rfl
theorem cellsR3 : Tryz.prog.cellsOf 3 = 1 := by kernel_rfl
theorem cellsR4 : Tryz.prog.cellsOf 4 = 1 := by kernel_rfl
theorem cellsR5 : Tryz.prog.cellsOf 5 = 1 := by kernel_rfl
theorem cellsR9 : Tryz.prog.cellsOf 9 = 1 := by kernel_rfl
theorem cellsR22 : Tryz.prog.cellsOf 22 = 1 := by kernel_rfl
theorem cellsR24 : Tryz.prog.cellsOf 24 = 2 := by kernel_rfl
theorem cellsR26 : Tryz.prog.cellsOf 26 = 6 := by kernel_rfl
theorem cellsR28 : Tryz.prog.cellsOf 28 = 18 := by kernel_rfl
theorem cellsR29 : Tryz.prog.cellsOf 29 = 1 := by kernel_rfl
theorem cellsR41 : Tryz.prog.cellsOf 41 = 4 := by kernel_rfl
theorem cellsR42 : Tryz.prog.cellsOf 42 = 1 := by kernel_rfl
theorem cellsR44 : Tryz.prog.cellsOf 44 = 10 := by kernel_rfl
theorem cellsR87 : Tryz.prog.cellsOf 87 = 3 := by kernel_rfl
theorem cellsR89 : Tryz.prog.cellsOf 89 = 5 := by kernel_rfl
theorem one_rat (h : DataW.trod enc Tryz.prog w 0 (fun _ => true) held n 24 cs = some y) : ∃ a b : Int, cs = [.int .i64 a, .int .i64 b] ∧ I64 a ∧ I64 b := by
  obtain ⟨xs, m, hy, hlen, hx, hf⟩ := struct_open Tryz.underlying24 cellsR24 h
  obtain ⟨a0, a1, rfl⟩ := len2 hlen
  have h0 : DataW.trod enc Tryz.prog w 0 (fun _ => true) held m 2 ((([a0, a1] : List Value).drop 0).take (Tryz.prog.cellsOf 2)) = xs[0]? := hf 0 _ rfl
  rw [cellsR2] at h0
  have h1 : DataW.trod enc Tryz.prog w 0 (fun _ => true) held m 2 ((([a0, a1] : List Value).drop 1).take (Tryz.prog.cellsOf 2)) = xs[1]? := hf 1 _ rfl
  rw [cellsR2] at h1
  have l2 : xs.length = 2 := hx
  rw [List.getElem?_eq_getElem (by omega)] at h0 h1
  obtain ⟨s0, e0, z0⟩ := one_i64 Tryz.underlying2 h0
  obtain ⟨s1, e1, z1⟩ := one_i64 Tryz.underlying2 h1
  simp at e0 e1
  exact ⟨s0, s1, by rw [e0, e1], z0, z1⟩
theorem one_box (h : DataW.trod enc Tryz.prog w 0 (fun _ => true) held n 26 cs = some y) (hb : Bk N y.1) : ∃ (bt : Int) (bn : ByteArray) (n1 d1 n2 d2 : Int), cs = [.int .i64 bt, .string bn, .int .i64 n1, .int .i64 d1, .int .i64 n2, .int .i64 d2] ∧ I64 bt ∧ bn.size ≤ N ∧ I64 n1 ∧ I64 d1 ∧ I64 n2 ∧ I64 d2 := by
  obtain ⟨xs, m, hy, hlen, hx, hf⟩ := struct_open Tryz.underlying26 cellsR26 h
  obtain ⟨a0, a1, a2, a3, a4, a5, rfl⟩ := len6 hlen
  have h0 : DataW.trod enc Tryz.prog w 0 (fun _ => true) held m 3 ((([a0, a1, a2, a3, a4, a5] : List Value).drop 0).take (Tryz.prog.cellsOf 3)) = xs[0]? := hf 0 _ rfl
  rw [cellsR3] at h0
  have h1 : DataW.trod enc Tryz.prog w 0 (fun _ => true) held m 9 ((([a0, a1, a2, a3, a4, a5] : List Value).drop 1).take (Tryz.prog.cellsOf 9)) = xs[1]? := hf 1 _ rfl
  rw [cellsR9] at h1
  have h2 : DataW.trod enc Tryz.prog w 0 (fun _ => true) held m 24 ((([a0, a1, a2, a3, a4, a5] : List Value).drop 2).take (Tryz.prog.cellsOf 24)) = xs[2]? := hf 2 _ rfl
  rw [cellsR24] at h2
  have h3 : DataW.trod enc Tryz.prog w 0 (fun _ => true) held m 24 ((([a0, a1, a2, a3, a4, a5] : List Value).drop 4).take (Tryz.prog.cellsOf 24)) = xs[3]? := hf 3 _ rfl
  rw [cellsR24] at h3
  have l2 : xs.length = 4 := hx
  have hb' : Bk N (.agg (xs.map (·.1))) := by rw [← hy]; exact hb
  clear hb
  have b1 : Bk N (xs[1]'(by omega)).1 := hb'.field (i := 1) (by rw [List.getElem?_map, List.getElem?_eq_getElem (by omega)]; rfl)
  rw [List.getElem?_eq_getElem (by omega)] at h0 h1 h2 h3
  obtain ⟨s0, e0, z0⟩ := one_i64 Tryz.underlying3 h0
  obtain ⟨s1, e1, z1⟩ := one_str h1 b1
  obtain ⟨s2, s3, e2, z2, z3⟩ := one_rat h2
  obtain ⟨s4, s5, e4, z4, z5⟩ := one_rat h3
  simp at e0 e1 e2 e4
  exact ⟨s0, s1, s2, s3, s4, s5, by rw [e0, e1, e2.1, e2.2, e4.1, e4.2], z0, z1, z2, z3, z4, z5⟩
theorem one_comp (h : DataW.trod enc Tryz.prog w 0 (fun _ => true) held n 41 cs = some y) (hb : Bk N y.1) : ∃ (k n d : Int) (word : ByteArray), cs = [.int .i64 k, .int .i64 n, .int .i64 d, .string word] ∧ I64 k ∧ I64 n ∧ I64 d ∧ word.size ≤ N := by
  obtain ⟨xs, m, hy, hlen, hx, hf⟩ := struct_open Tryz.underlying41 cellsR41 h
  obtain ⟨a0, a1, a2, a3, rfl⟩ := len4 hlen
  have h0 : DataW.trod enc Tryz.prog w 0 (fun _ => true) held m 3 ((([a0, a1, a2, a3] : List Value).drop 0).take (Tryz.prog.cellsOf 3)) = xs[0]? := hf 0 _ rfl
  rw [cellsR3] at h0
  have h1 : DataW.trod enc Tryz.prog w 0 (fun _ => true) held m 24 ((([a0, a1, a2, a3] : List Value).drop 1).take (Tryz.prog.cellsOf 24)) = xs[1]? := hf 1 _ rfl
  rw [cellsR24] at h1
  have h2 : DataW.trod enc Tryz.prog w 0 (fun _ => true) held m 9 ((([a0, a1, a2, a3] : List Value).drop 3).take (Tryz.prog.cellsOf 9)) = xs[2]? := hf 2 _ rfl
  rw [cellsR9] at h2
  have l2 : xs.length = 3 := hx
  have hb' : Bk N (.agg (xs.map (·.1))) := by rw [← hy]; exact hb
  clear hb
  have b2 : Bk N (xs[2]'(by omega)).1 := hb'.field (i := 2) (by rw [List.getElem?_map, List.getElem?_eq_getElem (by omega)]; rfl)
  rw [List.getElem?_eq_getElem (by omega)] at h0 h1 h2
  obtain ⟨s0, e0, z0⟩ := one_i64 Tryz.underlying3 h0
  obtain ⟨s1, s2, e1, z1, z2⟩ := one_rat h1
  obtain ⟨s3, e3, z3⟩ := one_str h2 b2
  simp at e0 e1 e3
  exact ⟨s0, s1, s2, s3, by rw [e0, e1.1, e1.2, e3], z0, z1, z2, z3⟩
theorem one_weight (h : DataW.trod enc Tryz.prog w 0 (fun _ => true) held n 87 cs = some y) : ∃ a b c : Int, cs = [.int .i64 a, .int .i64 b, .int .i64 c] ∧ True := by
  obtain ⟨xs, m, _, hx, hlen, hxl, hel⟩ := DataW.trod_array Tryz.underlying87 h
  rw [cellsR3] at hel
  obtain ⟨a0, a1, a2, rfl⟩ := len3 (by rw [hlen, cellsR87])
  have h0 := hel 0 (by omega)
  have h1 := hel 1 (by omega)
  have h2 := hel 2 (by omega)
  rw [List.getElem?_eq_getElem (by omega)] at h0 h1 h2
  obtain ⟨s0, e0, z0⟩ := one_i64 Tryz.underlying3 h0
  obtain ⟨s1, e1, z1⟩ := one_i64 Tryz.underlying3 h1
  obtain ⟨s2, e2, z2⟩ := one_i64 Tryz.underlying3 h2
  simp at e0 e1 e2
  exact ⟨s0, s1, s2, by rw [e0, e1, e2], trivial⟩
theorem one_ref (h : DataW.trod enc Tryz.prog w 0 (fun _ => true) held n 89 cs = some y) : ∃ r : Rf, cs = r.cells ∧ r.ok := by
  obtain ⟨xs, m, hy, hlen, hx, hf⟩ := struct_open Tryz.underlying89 cellsR89 h
  obtain ⟨a0, a1, a2, a3, a4, rfl⟩ := len5 hlen
  have h0 : DataW.trod enc Tryz.prog w 0 (fun _ => true) held m 3 ((([a0, a1, a2, a3, a4] : List Value).drop 0).take (Tryz.prog.cellsOf 3)) = xs[0]? := hf 0 _ rfl
  rw [cellsR3] at h0
  have h1 : DataW.trod enc Tryz.prog w 0 (fun _ => true) held m 3 ((([a0, a1, a2, a3, a4] : List Value).drop 1).take (Tryz.prog.cellsOf 3)) = xs[1]? := hf 1 _ rfl
  rw [cellsR3] at h1
  have h2 : DataW.trod enc Tryz.prog w 0 (fun _ => true) held m 87 ((([a0, a1, a2, a3, a4] : List Value).drop 2).take (Tryz.prog.cellsOf 87)) = xs[2]? := hf 2 _ rfl
  rw [cellsR87] at h2
  have l2 : xs.length = 3 := hx
  rw [List.getElem?_eq_getElem (by omega)] at h0 h1 h2
  obtain ⟨s0, e0, z0⟩ := one_i64 Tryz.underlying3 h0
  obtain ⟨s1, e1, z1⟩ := one_i64 Tryz.underlying3 h1
  obtain ⟨s2, s3, s4, e2, z2⟩ := one_weight h2
  simp at e0 e1 e2
  exact ⟨⟨s0, s1, s2, s3, s4⟩, by rw [e0, e1, e2.1, e2.2.1, e2.2.2]; rfl, z0, z1⟩
/-- A row of bytes. -/
theorem read_bytes (h : DataW.trod enc Tryz.prog w 0 (fun _ => true) held n 22 cs = some y) (hb : Bk N y.1) : ∃ (v : Value) (l : List UInt8), cs = [v] ∧ RowAt w.heap.size w v l.length (Lib.byteCells l) ∧ l.length ≤ N := by
  obtain ⟨v, l, rfl, hr, ho, hl⟩ := open_row (fun b : UInt8 => [Value.int .u8 b.toNat]) (fun _ => True) (by omega) Tryz.underlying22 cellsR5 (fun _ => rfl) (fun n cs' y h _ => by obtain ⟨b, e⟩ := one_u8 h; exact ⟨b, e, trivial⟩) h hb
  refine ⟨v, l, rfl, ?_, hl⟩
  have e : l.flatMap (fun b : UInt8 => [Value.int .u8 b.toNat]) = Lib.byteCells l := by
    unfold Lib.byteCells
    clear hr ho hl h
    induction l with
    | nil => rfl
    | cons a l ih => rw [List.flatMap_cons, ih]; rfl
  rw [e] at hr
  exact hr
/-- A row of references. -/
theorem read_refs (h : DataW.trod enc Tryz.prog w 0 (fun _ => true) held n 42 cs = some y) (hb : Bk N y.1) : ∃ (v : Value) (l : List Rf), cs = [v] ∧ RowAt w.heap.size w v l.length (l.flatMap Rf.cells) ∧ (∀ r ∈ l, r.ok) ∧ l.length ≤ N :=
  open_row Rf.cells Rf.ok (by omega) Tryz.underlying42 cellsR89 (fun _ => rfl) (fun n cs' y h _ => one_ref h) h hb
/-- An operation with the value of its text's slice. -/
structure Opx where
  op : sp.Op
  tv : Value
def Opx.cells (x : Opx) : List Value := [.int .i64 x.op.kind, .int .i64 x.op.node, .int .i64 x.op.at_, .int .i64 x.op.origin, .string (bstr x.op.name), .string (bstr x.op.word), x.tv, .int .i64 x.op.w.1, .int .i64 x.op.w.2, .int .i64 x.op.h.1, .int .i64 x.op.h.2, .int .i64 x.op.bt, .string (bstr x.op.bn), .int .i64 x.op.bw.1, .int .i64 x.op.bw.2, .int .i64 x.op.bh.1, .int .i64 x.op.bh.2, .bool x.op.on]
instance : Inhabited Opx := ⟨⟨{}, default⟩⟩
/-- An operation in memory, within a bound. -/
structure OpxAt (N B : Nat) (w : World) (x : Opx) : Prop where
  kind : I64 x.op.kind
  node : I64 x.op.node
  at_ : I64 x.op.at_
  origin : I64 x.op.origin
  name : x.op.name.length ≤ N
  word : x.op.word.length ≤ N
  text : x.op.text.length ≤ N
  row : RowAt B w x.tv x.op.text.length (Lib.byteCells x.op.text)
  ok : x.op.ok
  bt : I64 x.op.bt
  bn : x.op.bn.length ≤ N
theorem one_op (h : DataW.trod enc Tryz.prog w 0 (fun _ => true) held n 28 cs = some y) (hb : Bk N y.1) : ∃ x : Opx, cs = x.cells ∧ OpxAt N w.heap.size w x := by
  obtain ⟨xs, m, hy, hlen, hx, hf⟩ := struct_open Tryz.underlying28 cellsR28 h
  obtain ⟨a0, a1, a2, a3, a4, a5, a6, a7, a8, a9, a10, a11, a12, a13, a14, a15, a16, a17, rfl⟩ := len18 hlen
  have h0 : DataW.trod enc Tryz.prog w 0 (fun _ => true) held m 3 ((([a0, a1, a2, a3, a4, a5, a6, a7, a8, a9, a10, a11, a12, a13, a14, a15, a16, a17] : List Value).drop 0).take (Tryz.prog.cellsOf 3)) = xs[0]? := hf 0 _ rfl
  rw [cellsR3] at h0
  have h1 : DataW.trod enc Tryz.prog w 0 (fun _ => true) held m 3 ((([a0, a1, a2, a3, a4, a5, a6, a7, a8, a9, a10, a11, a12, a13, a14, a15, a16, a17] : List Value).drop 1).take (Tryz.prog.cellsOf 3)) = xs[1]? := hf 1 _ rfl
  rw [cellsR3] at h1
  have h2 : DataW.trod enc Tryz.prog w 0 (fun _ => true) held m 3 ((([a0, a1, a2, a3, a4, a5, a6, a7, a8, a9, a10, a11, a12, a13, a14, a15, a16, a17] : List Value).drop 2).take (Tryz.prog.cellsOf 3)) = xs[2]? := hf 2 _ rfl
  rw [cellsR3] at h2
  have h3 : DataW.trod enc Tryz.prog w 0 (fun _ => true) held m 3 ((([a0, a1, a2, a3, a4, a5, a6, a7, a8, a9, a10, a11, a12, a13, a14, a15, a16, a17] : List Value).drop 3).take (Tryz.prog.cellsOf 3)) = xs[3]? := hf 3 _ rfl
  rw [cellsR3] at h3
  have h4 : DataW.trod enc Tryz.prog w 0 (fun _ => true) held m 9 ((([a0, a1, a2, a3, a4, a5, a6, a7, a8, a9, a10, a11, a12, a13, a14, a15, a16, a17] : List Value).drop 4).take (Tryz.prog.cellsOf 9)) = xs[4]? := hf 4 _ rfl
  rw [cellsR9] at h4
  have h5 : DataW.trod enc Tryz.prog w 0 (fun _ => true) held m 9 ((([a0, a1, a2, a3, a4, a5, a6, a7, a8, a9, a10, a11, a12, a13, a14, a15, a16, a17] : List Value).drop 5).take (Tryz.prog.cellsOf 9)) = xs[5]? := hf 5 _ rfl
  rw [cellsR9] at h5
  have h6 : DataW.trod enc Tryz.prog w 0 (fun _ => true) held m 22 ((([a0, a1, a2, a3, a4, a5, a6, a7, a8, a9, a10, a11, a12, a13, a14, a15, a16, a17] : List Value).drop 6).take (Tryz.prog.cellsOf 22)) = xs[6]? := hf 6 _ rfl
  rw [cellsR22] at h6
  have h7 : DataW.trod enc Tryz.prog w 0 (fun _ => true) held m 24 ((([a0, a1, a2, a3, a4, a5, a6, a7, a8, a9, a10, a11, a12, a13, a14, a15, a16, a17] : List Value).drop 7).take (Tryz.prog.cellsOf 24)) = xs[7]? := hf 7 _ rfl
  rw [cellsR24] at h7
  have h8 : DataW.trod enc Tryz.prog w 0 (fun _ => true) held m 24 ((([a0, a1, a2, a3, a4, a5, a6, a7, a8, a9, a10, a11, a12, a13, a14, a15, a16, a17] : List Value).drop 9).take (Tryz.prog.cellsOf 24)) = xs[8]? := hf 8 _ rfl
  rw [cellsR24] at h8
  have h9 : DataW.trod enc Tryz.prog w 0 (fun _ => true) held m 26 ((([a0, a1, a2, a3, a4, a5, a6, a7, a8, a9, a10, a11, a12, a13, a14, a15, a16, a17] : List Value).drop 11).take (Tryz.prog.cellsOf 26)) = xs[9]? := hf 9 _ rfl
  rw [cellsR26] at h9
  have h10 : DataW.trod enc Tryz.prog w 0 (fun _ => true) held m 4 ((([a0, a1, a2, a3, a4, a5, a6, a7, a8, a9, a10, a11, a12, a13, a14, a15, a16, a17] : List Value).drop 17).take (Tryz.prog.cellsOf 4)) = xs[10]? := hf 10 _ rfl
  rw [cellsR4] at h10
  have l2 : xs.length = 11 := hx
  have hb' : Bk N (.agg (xs.map (·.1))) := by rw [← hy]; exact hb
  clear hb
  have b4 : Bk N (xs[4]'(by omega)).1 := hb'.field (i := 4) (by rw [List.getElem?_map, List.getElem?_eq_getElem (by omega)]; rfl)
  have b5 : Bk N (xs[5]'(by omega)).1 := hb'.field (i := 5) (by rw [List.getElem?_map, List.getElem?_eq_getElem (by omega)]; rfl)
  have b6 : Bk N (xs[6]'(by omega)).1 := hb'.field (i := 6) (by rw [List.getElem?_map, List.getElem?_eq_getElem (by omega)]; rfl)
  have b9 : Bk N (xs[9]'(by omega)).1 := hb'.field (i := 9) (by rw [List.getElem?_map, List.getElem?_eq_getElem (by omega)]; rfl)
  rw [List.getElem?_eq_getElem (by omega)] at h0 h1 h2 h3 h4 h5 h6 h7 h8 h9 h10
  obtain ⟨s0, e0, z0⟩ := one_i64 Tryz.underlying3 h0
  obtain ⟨s1, e1, z1⟩ := one_i64 Tryz.underlying3 h1
  obtain ⟨s2, e2, z2⟩ := one_i64 Tryz.underlying3 h2
  obtain ⟨s3, e3, z3⟩ := one_i64 Tryz.underlying3 h3
  obtain ⟨s4, e4, z4⟩ := one_str h4 b4
  obtain ⟨s5, e5, z5⟩ := one_str h5 b5
  obtain ⟨tv, tx, e6, z6, y6⟩ := read_bytes h6 b6
  obtain ⟨s7, s8, e7, z7, z8⟩ := one_rat h7
  obtain ⟨s9, s10, e9, z9, z10⟩ := one_rat h8
  obtain ⟨s11, s12, s13, s14, s15, s16, e11, z11, z12, z13, z14, z15, z16⟩ := one_box h9 b9
  obtain ⟨s17, e17⟩ := one_bool h10
  simp at e0 e1 e2 e3 e4 e5 e6 e7 e9 e11 e17
  obtain ⟨e11, e12, e13, e14, e15, e16⟩ := e11
  refine ⟨⟨{ kind := s0, node := s1, at_ := s2, origin := s3, name := s4.data.toList, word := s5.data.toList, text := tx, w := (s7, s8), h := (s9, s10), bt := s11, bn := s12.data.toList, bw := (s13, s14), bh := (s15, s16), on := s17 }, tv⟩, ?_, ⟨z0, z1, z2, z3, ?_, ?_, y6, z6, ⟨z7, z8, z9, z10, z13, z14, z15, z16⟩, z11, ?_⟩⟩
  · unfold Opx.cells
    rw [bstr_of, bstr_of, bstr_of, e0, e1, e2, e3, e4, e5, e6, e7.1, e7.2, e9.1, e9.2, e11, e12, e13, e14, e15, e16, e17]
  all_goals (rw [Array.length_toList]; assumption)
/-- A row of operations. -/
theorem read_ops (h : DataW.trod enc Tryz.prog w 0 (fun _ => true) held n 35 cs = some y) (hb : Bk N y.1) : ∃ (v : Value) (l : List Opx), cs = [v] ∧ RowAt w.heap.size w v l.length (l.flatMap Opx.cells) ∧ (∀ x ∈ l, OpxAt N w.heap.size w x) ∧ l.length ≤ N :=
  open_row Opx.cells (OpxAt N w.heap.size w) (by omega) Tryz.underlying35 cellsR28 (fun _ => rfl) (fun n cs' y h hb => one_op h hb) h hb
theorem one_ans (h : DataW.trod enc Tryz.prog w 0 (fun _ => true) held n 44 cs = some y) (hb : Bk N y.1) : ∃ a : Ans, cs = [.int .i64 a.err, .int .i64 a.id, .int .i64 a.k, .int .i64 a.n, .int .i64 a.d, .string a.word, .string a.text, .bool a.has, a.rv, .int .i64 a.count] ∧ (I64 a.err ∧ I64 a.id ∧ I64 a.n ∧ I64 a.d ∧ a.text.size ≤ N ∧ RowAt w.heap.size w a.rv a.rules.length (a.rules.flatMap Rf.cells) ∧ (∀ r ∈ a.rules, r.ok) ∧ a.rules.length ≤ N ∧ I64 a.count) := by
  obtain ⟨xs, m, hy, hlen, hx, hf⟩ := struct_open Tryz.underlying44 cellsR44 h
  obtain ⟨a0, a1, a2, a3, a4, a5, a6, a7, a8, a9, rfl⟩ := len10 hlen
  have h0 : DataW.trod enc Tryz.prog w 0 (fun _ => true) held m 29 ((([a0, a1, a2, a3, a4, a5, a6, a7, a8, a9] : List Value).drop 0).take (Tryz.prog.cellsOf 29)) = xs[0]? := hf 0 _ rfl
  rw [cellsR29] at h0
  have h1 : DataW.trod enc Tryz.prog w 0 (fun _ => true) held m 3 ((([a0, a1, a2, a3, a4, a5, a6, a7, a8, a9] : List Value).drop 1).take (Tryz.prog.cellsOf 3)) = xs[1]? := hf 1 _ rfl
  rw [cellsR3] at h1
  have h2 : DataW.trod enc Tryz.prog w 0 (fun _ => true) held m 41 ((([a0, a1, a2, a3, a4, a5, a6, a7, a8, a9] : List Value).drop 2).take (Tryz.prog.cellsOf 41)) = xs[2]? := hf 2 _ rfl
  rw [cellsR41] at h2
  have h3 : DataW.trod enc Tryz.prog w 0 (fun _ => true) held m 9 ((([a0, a1, a2, a3, a4, a5, a6, a7, a8, a9] : List Value).drop 6).take (Tryz.prog.cellsOf 9)) = xs[3]? := hf 3 _ rfl
  rw [cellsR9] at h3
  have h4 : DataW.trod enc Tryz.prog w 0 (fun _ => true) held m 4 ((([a0, a1, a2, a3, a4, a5, a6, a7, a8, a9] : List Value).drop 7).take (Tryz.prog.cellsOf 4)) = xs[4]? := hf 4 _ rfl
  rw [cellsR4] at h4
  have h5 : DataW.trod enc Tryz.prog w 0 (fun _ => true) held m 42 ((([a0, a1, a2, a3, a4, a5, a6, a7, a8, a9] : List Value).drop 8).take (Tryz.prog.cellsOf 42)) = xs[5]? := hf 5 _ rfl
  rw [cellsR42] at h5
  have h6 : DataW.trod enc Tryz.prog w 0 (fun _ => true) held m 3 ((([a0, a1, a2, a3, a4, a5, a6, a7, a8, a9] : List Value).drop 9).take (Tryz.prog.cellsOf 3)) = xs[6]? := hf 6 _ rfl
  rw [cellsR3] at h6
  have l2 : xs.length = 7 := hx
  have hb' : Bk N (.agg (xs.map (·.1))) := by rw [← hy]; exact hb
  clear hb
  have b2 : Bk N (xs[2]'(by omega)).1 := hb'.field (i := 2) (by rw [List.getElem?_map, List.getElem?_eq_getElem (by omega)]; rfl)
  have b3 : Bk N (xs[3]'(by omega)).1 := hb'.field (i := 3) (by rw [List.getElem?_map, List.getElem?_eq_getElem (by omega)]; rfl)
  have b5 : Bk N (xs[5]'(by omega)).1 := hb'.field (i := 5) (by rw [List.getElem?_map, List.getElem?_eq_getElem (by omega)]; rfl)
  rw [List.getElem?_eq_getElem (by omega)] at h0 h1 h2 h3 h4 h5 h6
  obtain ⟨s0, e0, z0⟩ := one_i64 Tryz.underlying29 h0
  obtain ⟨s1, e1, z1⟩ := one_i64 Tryz.underlying3 h1
  obtain ⟨s2, s3, s4, s5, e2, z2, z3, z4, z5⟩ := one_comp h2 b2
  obtain ⟨s6, e6, z6⟩ := one_str h3 b3
  obtain ⟨s7, e7⟩ := one_bool h4
  obtain ⟨rv, rl, e8, z8, y8, x8⟩ := read_refs h5 b5
  obtain ⟨s9, e9, z9⟩ := one_i64 Tryz.underlying3 h6
  simp at e0 e1 e2 e6 e7 e8 e9
  exact ⟨⟨s0, s1, s2, s3, s4, s5, s6, s7, rv, rl, s9⟩, by rw [e0, e1, e2.1, e2.2.1, e2.2.2.1, e2.2.2.2, e6, e7, e8, e9], z0, z1, z3, z4, z6, z8, y8, x8, z9⟩
end
end Go.Proofs.YtihlneenajlhoaaGreatDoor
