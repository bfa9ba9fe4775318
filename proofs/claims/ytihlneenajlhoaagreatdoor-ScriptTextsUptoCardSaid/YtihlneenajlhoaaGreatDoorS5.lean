/-
  Contract, for a run of one goroutine, of what writes a box: script.boxes, (*script.writer).box. Condition: lengths that fit; strconv's table stands.
-/
import Derived.Test.YtihlneenajlhoaaGreatDoorS4
import Derived.Deep.RegionHeld
import Derived.OrdersHeld
set_option linter.unusedSimpArgs false
set_option linter.unusedVariables false
set_option linter.unusedSimpArgs false
set_option linter.unusedVariables false
namespace Go.Proofs.YtihlneenajlhoaaGreatDoor
open Go Go.RowKit

def boxRow : Array Value := #[.string ⟨#[110, 111, 110, 101]⟩, .string ⟨#[105, 110, 108, 105, 110, 101]⟩, .string ⟨#[115, 105, 122, 101]⟩]
theorem boxes_any (w : World) : Calls Tryz.prog 94 #[] w fun e w' => e = .returned (.slice (some ⟨w.heap.size, 0, none⟩) 3 3) ∧ w' = w.alloc (.cells boxRow 9) := by
  go_enter Tryz.func94, Tryz.ntmps94
  go_wp2
  go_ret
  exact ⟨rfl, rfl⟩
/-- The cells of an operation that lies in a block of its own. -/
theorem op_cells {w : World} {B : Nat} {a0 a1 a2 a3 a4 a5 a6 a7 a8 a9 a10 a11 a12 a13 a14 a15 a16 a17 : Value} (h : w.heap[B]? = some (.cells #[a0, a1, a2, a3, a4, a5, a6, a7, a8, a9, a10, a11, a12, a13, a14, a15, a16, a17] 28 (0, 0))) :
    w.cell? ⟨B, 11, none⟩ = some a11 ∧ w.cell? ⟨B, 12, none⟩ = some a12 ∧ w.cell? ⟨B, 13, none⟩ = some a13 ∧ w.cell? ⟨B, 14, none⟩ = some a14 ∧ w.cell? ⟨B, 15, none⟩ = some a15 ∧ w.cell? ⟨B, 16, none⟩ = some a16 :=
  ⟨by rw [Lib.cell_of_heap h]; rfl, by rw [Lib.cell_of_heap h]; rfl, by rw [Lib.cell_of_heap h]; rfl, by rw [Lib.cell_of_heap h]; rfl, by rw [Lib.cell_of_heap h]; rfl, by rw [Lib.cell_of_heap h]; rfl⟩
theorem Wrote.keep {wA w1 : World} {b B : Nat} {own : Option Nat} {l : List UInt8} {ok : Bool} {x : Obj} (h : Wrote wA b own l ok w1) (hB : wA.heap[B]? = some x) (n1 : B ≠ b) (n2 : some B ≠ own) : w1.heap[B]? = some x := by
  obtain ⟨own2, hb2, hf2, ho2⟩ := h
  exact (hf2.keepOwn (Array.getElem?_eq_some_iff.1 hB).1 n1 n2).trans hB
theorem Wrote.flag {w0 w : World} {b : Nat} {own : Option Nat} {l : List UInt8} {ok : Bool} (h : Wrote w0 b own l ok w) (x : Bool) : Wrote w0 b own l x (w.setCell ⟨b, 2, none⟩ (.bool x)) := by
  obtain ⟨own2, hb2, hf2, ho2⟩ := h
  exact ⟨own2, bld_flag hb2 x, hf2.trans (Fr.set 2 _) ho2, ho2⟩
theorem Wrote.since {w0 wA w : World} {b : Nat} {own own1 : Option Nat} {l : List UInt8} {ok : Bool} (hf : Fr w0 wA b own) (ho : Own w0 own own1) (h : Wrote wA b own1 l ok w) : Wrote w0 b own l ok w := by
  obtain ⟨own2, hb2, hf2, ho2⟩ := h
  exact Wrote.then hf ho hb2 hf2 ho2
noncomputable def boxB (node bt : Int) (bn : ByteArray) (bw bh : Int × Int) : Bool := smallB node && (decide (0 ≤ bt) && decide (bt ≤ 2)) && !(bn.toList == [45]) && (bn.toList.isEmpty || plainV bn) && mayR bw && mayR bh
def boxS (node bt : Int) (bn : ByteArray) (bw bh : Int × Int) : List UInt8 := 32 :: Lib.itoa node ++ 32 :: sp.boxText bt ++ 32 :: sp.boxWord bn.data.toList ++ 32 :: sp.ratS bw.1 bw.2 ++ 32 :: sp.ratS bh.1 bh.2
theorem rat_len {r : Int × Int} (h : I64 r.1 ∧ I64 r.2) : (sp.ratS r.1 r.2).length ≤ 43 := by have := ratLen h.1 h.2; rwa [bstr_size] at this
theorem boxWord_e {bn : ByteArray} (h : bn.toList.isEmpty = true) : sp.boxWord bn.data.toList = [45] := by
  rw [Lib.toList_data] at h
  unfold sp.boxWord
  rw [if_pos (List.isEmpty_iff.1 h)]
theorem boxWord_n {bn : ByteArray} (h : bn.toList.isEmpty = false) : sp.boxWord bn.data.toList = bn.data.toList := by
  rw [Lib.toList_data] at h
  unfold sp.boxWord
  rw [if_neg (fun e => by rw [e] at h; cases h)]
theorem box_fin {w0 w5 : World} {b : Nat} {own : Option Nat} {l : List UInt8} {ok : Bool} (node bt : Int) (bn : ByteArray) (bw bh : Int × Int) (word : ByteArray) (btx : List UInt8) (hb : 0 ≤ bt ∧ bt ≤ 2) (h3 : (bn.toList == [45]) = false) (hx : sp.boxText bt = btx) (hw : sp.boxWord bn.data.toList = word.data.toList) (hp : plainV word = (bn.toList.isEmpty || plainV bn)) (n1 : (Lib.itoa node).length ≤ 21) (n2 : btx.length ≤ 10) (n3 : word.size ≤ 1048576) (n4 : I64 bw.1 ∧ I64 bw.2) (n5 : I64 bh.1 ∧ I64 bh.2)
    (h : Wrote w0 b own (l ++ 32 :: Lib.itoa node ++ 32 :: btx ++ 32 :: word.data.toList ++ 32 :: sp.ratS bw.1 bw.2 ++ 32 :: sp.ratS bh.1 bh.2) (ok && smallB node && plainV word && mayR bw && mayR bh) w5) :
    ∃ t ok', Wrote w0 b own (l ++ t) ok' w5 ∧ ok' = (ok && boxB node bt bn bw bh) ∧ (boxB node bt bn bw bh = true → t = boxS node bt bn bw bh) ∧ t.length ≤ 10000000 := by
  have e1 : boxB node bt bn bw bh = (smallB node && plainV word && mayR bw && mayR bh) := by
    unfold boxB
    rw [h3, hp, decide_eq_true hb.1, decide_eq_true hb.2]
    simp
  refine ⟨boxS node bt bn bw bh, (ok && smallB node && plainV word && mayR bw && mayR bh), ?_, ?_, fun _ => rfl, ?_⟩
  · have e2 : l ++ boxS node bt bn bw bh = l ++ 32 :: Lib.itoa node ++ 32 :: btx ++ 32 :: word.data.toList ++ 32 :: sp.ratS bw.1 bw.2 ++ 32 :: sp.ratS bh.1 bh.2 := by
      unfold boxS
      rw [hx, hw]
      simp
    rw [e2]
    exact h
  · rw [e1]; simp [Bool.and_assoc]
  · unfold boxS
    rw [hx, hw]
    have := rat_len n4; have := rat_len n5; have := datLen word
    simp only [List.length_append, List.length_cons]
    omega
theorem box_bad {w0 w5 : World} {b : Nat} {own : Option Nat} {l : List UInt8} {ok : Bool} (node bt : Int) (bn : ByteArray) (bw bh : Int × Int) (hb : ¬(0 ≤ bt ∧ bt ≤ 2) ∨ (bn.toList == [45]) = true) (n1 : (Lib.itoa node).length ≤ 21) (h : Wrote w0 b own (l ++ 32 :: Lib.itoa node) false w5) :
    ∃ t ok', Wrote w0 b own (l ++ t) ok' w5 ∧ ok' = (ok && boxB node bt bn bw bh) ∧ (boxB node bt bn bw bh = true → t = boxS node bt bn bw bh) ∧ t.length ≤ 10000000 := by
  have e1 : boxB node bt bn bw bh = false := by
    unfold boxB
    rcases hb with hb | hb
    · have : (decide (0 ≤ bt) && decide (bt ≤ 2)) = false := by
        rw [← Bool.decide_and]; exact decide_eq_false hb
      rw [this]; simp
    · rw [hb]; simp
  refine ⟨_, false, h, by rw [e1]; simp, fun e => (by rw [e1] at e; cases e), ?_⟩
  rw [List.length_cons]
  omega
set_option maxRecDepth 100000 in
set_option maxHeartbeats 4000000 in
/-- (*script.writer).box. -/
theorem box_any (kind node at_ org : Int) (name word : ByteArray) (tv : Value) (wn wd hn hd bt : Int) (bn : ByteArray) (bwn bwd bhn bhd : Int) (on : Bool) (w0 w : World) (b : Nat) (own : Option Nat) (l : List UInt8) (ok : Bool) (h : Wrote w0 b own l ok w) (hi : I64 node) (hl : l.length ≤ 100000000) (hbn : bn.size ≤ 1048576) (hr1 : I64 bwn ∧ I64 bwd) (hr2 : I64 bhn ∧ I64 bhd) (hp : ∀ w', Fr w0 w' b own → Pow w') :
    Calls Tryz.prog 80 #[.pointer (some ⟨b, 0, none⟩), .agg #[.int .i64 kind, .int .i64 node, .int .i64 at_, .int .i64 org, .string name, .string word, tv, .int .i64 wn, .int .i64 wd, .int .i64 hn, .int .i64 hd, .int .i64 bt, .string bn, .int .i64 bwn, .int .i64 bwd, .int .i64 bhn, .int .i64 bhd, .bool on]] w fun e w' => e = .returned (.tuple #[]) ∧ ∃ t ok', Wrote w0 b own (l ++ t) ok' w' ∧ ok' = (ok && boxB node bt bn (bwn, bwd) (bhn, bhd)) ∧ (boxB node bt bn (bwn, bwd) (bhn, bhd) = true → t = boxS node bt bn (bwn, bwd) (bhn, bhd)) ∧ t.length ≤ 10000000 := by
  go_enter Tryz.func80, Tryz.ntmps80
  obtain ⟨own1, hb, hf, ho⟩ := h
  have HI := Lib.hid hi; have HL := Lib.hid hl
  have hB0 := heap_alloc_at w (.cells #[.int .i64 kind, .int .i64 node, .int .i64 at_, .int .i64 org, .string name, .string word, tv, .int .i64 wn, .int .i64 wd, .int .i64 hn, .int .i64 hd, .int .i64 bt, .string bn, .int .i64 bwn, .int .i64 bwd, .int .i64 bhn, .int .i64 bhd, .bool on] 28)
  have hA := Wrote.refl (hb.below (below_new w (.cells #[.int .i64 kind, .int .i64 node, .int .i64 at_, .int .i64 org, .string name, .string word, tv, .int .i64 wn, .int .i64 wd, .int .i64 hn, .int .i64 hd, .int .i64 bt, .string bn, .int .i64 bwn, .int .i64 bwd, .int .i64 bhn, .int .i64 bhd, .bool on] 28)))
  have hfa := hf.trans (Fr.of_below (below_new w (.cells #[.int .i64 kind, .int .i64 node, .int .i64 at_, .int .i64 org, .string name, .string word, tv, .int .i64 wn, .int .i64 wd, .int .i64 hn, .int .i64 hd, .int .i64 bt, .string bn, .int .i64 bwn, .int .i64 bwd, .int .i64 bhn, .int .i64 bhd, .bool on] 28))) ho
  have n1 : w.heap.size ≠ b := by have := hb.lt; omega
  have n2 : some w.heap.size ≠ own1 := fun e => by have := hb.own_lt _ e.symm; omega
  have HP : Hid (∀ w', Fr (w.alloc (.cells #[.int .i64 kind, .int .i64 node, .int .i64 at_, .int .i64 org, .string name, .string word, tv, .int .i64 wn, .int .i64 wd, .int .i64 hn, .int .i64 hd, .int .i64 bt, .string bn, .int .i64 bwn, .int .i64 bwd, .int .i64 bhn, .int .i64 bhd, .bool on] 28)) w' b own1 → Pow w') := Lib.hid fun w' h => hp w' (hfa.trans h ho)
  have HB0 := Lib.hid hB0; have HA := Lib.hid hA; have N1 := Lib.hid n1; have N2 := Lib.hid n2; have HF := Lib.hid hfa; have HO := Lib.hid ho
  have HI0 : Hid ((Lib.itoa node).length ≤ 21) := Lib.hid (by have := itoaLen hi; rw [bstr_size] at this; omega)
  have HBN := Lib.hid hbn; have HR := Lib.hid hr1; have HQ := Lib.hid hr2
  clear hbn hr1 hr2
  clear hi hl hp hb hf ho hB0 hA n1 n2 hfa
  by_cases hr : 0 ≤ bt ∧ bt ≤ 2
  · have t1 : decide (bt < 0) = false := decide_eq_false (by omega)
    have t2 : decide (2 < bt) = false := decide_eq_false (by omega)
    cases t3 : (bn.toList == [45])
    · have hbt : bt = 0 ∨ bt = 1 ∨ bt = 2 := by omega
      clear t1 t2 hr
      rcases hbt with hbt | hbt | hbt
      · obtain rfl : bt = 0 := hbt
        go_wp2_with (go_at_call 76; refine (numbers_new _ (by simp) HA.out node HI.out (by have := HL.out; omega) HP.out).mono ?_; rintro e w1 ⟨rfl, h1⟩; obtain ⟨c11, c12, c13, c14, c15, c16⟩ := op_cells (h1.keep HB0.out N1.out N2.out); obtain ⟨f1, f2⟩ := bld_ok h1.choose_spec.1; have HW1 := Lib.hid h1; clear h1)
        refine wp_region_held_drew (S := (fun s => s.cell? ⟨w.heap.size, 11, none⟩ = some (.int .i64 0))) (by kernel_rfl) c11 (fun hHeld => ?_)
        refine wpAnyH_take (i := 0) (v := .pointer (some ⟨b, 0, none⟩)) rfl (by kernel_rfl) (by kernel_rfl) (by kernel_rfl) (fun _ _ _ h => h) (Or.inl ⟨by kernel_rfl, fun s hs => by have s0c := hs; go_simp <;> omega⟩) hHeld ?_
        refine wpAnyH_take (i := 2) (v := .pointer (some ⟨w.heap.size, 11, none⟩)) rfl (by kernel_rfl) (by kernel_rfl) (by kernel_rfl) (fun _ _ _ h => h) (Or.inl ⟨by kernel_rfl, fun s hs => by have s0c := hs; go_simp <;> omega⟩) hHeld ?_
        refine wpAnyH_take (i := 3) (v := .pointer (some ⟨w.heap.size, 11, none⟩)) rfl (by kernel_rfl) (by kernel_rfl) (by kernel_rfl) (fun _ _ _ h => h) (Or.inl ⟨by kernel_rfl, fun s hs => by have s0c := hs; go_simp <;> omega⟩) hHeld ?_
        refine wpAnyH_take (i := 4) (v := .int .i64 0) rfl (by kernel_rfl) (by kernel_rfl) (by kernel_rfl) (fun _ _ _ h => h) (Or.inl ⟨by kernel_rfl, fun s hs => by have s0c := hs; go_simp <;> omega⟩) hHeld ?_
        have d11 := c11
        clear c11 c12 c13 c14 c15 c16 f1 f2
        refine wpAnyH_ready (rs := [1]) (by kernel_rfl) (by simp) ?_
        refine AllReadyH.cons rfl (fun K hK => ?_) AllReadyH.nil
        rw [if_pos (by kernel_rfl)]
        go_simp
        refine (boxes_any _).mono ?_
        rintro e w2 ⟨rfl, hw2⟩
        have h2 := (HW1.out.below ((Below.refl _ _).drew)).below (hw2 ▸ below_new _ _)
        have hR : w2.heap[w1.heap.size]? = some (.cells boxRow 9 (0, 0)) := by rw [hw2]; exact heap_alloc_at _ _
        obtain ⟨c11, c12, c13, c14, c15, c16⟩ := op_cells (h2.keep HB0.out N1.out N2.out)
        have cR : w2.cell? ⟨w1.heap.size, 0, none⟩ = some (.string ⟨#[110, 111, 110, 101]⟩) := by rw [Lib.cell_of_heap hR]; rfl
        have HW2 := Lib.hid h2
        clear h2 hw2 hR d11
        refine hK _ _ c11 (fun hHeld => ?_)
        refine wpAnyH_ready (rs := [5]) (by kernel_rfl) (by simp) ?_
        refine AllReadyH.cons rfl (fun K hK => ?_) AllReadyH.nil
        rw [if_pos (by kernel_rfl)]
        go_simp
        refine hK _ _ c11 (fun hHeld => ?_)
        refine wpAnyH_ready (rs := [6]) (by kernel_rfl) (by simp) ?_
        refine AllReadyH.cons rfl (fun K hK => ?_) AllReadyH.nil
        rw [if_pos (by kernel_rfl)]
        go_simp
        refine hK _ _ c11 (fun hHeld => ?_)
        refine wpAnyH_ready (rs := [7]) (by kernel_rfl) (by simp) ?_
        refine AllReadyH.cons rfl (fun K hK => ?_) AllReadyH.nil
        rw [if_pos (by kernel_rfl)]
        go_simp
        have c11y := (op_cells ((HW2.out.below (below_new w2 (.cells #[.string ⟨#[110, 111, 110, 101]⟩] 9))).keep HB0.out N1.out N2.out)).1
        refine hK _ _ c11y (fun hHeld => ?_)
        clear c11y
        refine wpAnyH_ready (rs := [8]) (by kernel_rfl) (by simp) ?_
        refine AllReadyH.cons rfl (fun K hK => ?_) AllReadyH.nil
        rw [if_pos (by kernel_rfl)]
        go_simp
        refine (put_new _ rfl HW2.out ⟨#[110, 111, 110, 101]⟩ (by have := HL.out; have := HI0.out; simp; omega) (by decide)).mono ?_
        rintro e w3 ⟨rfl, h3⟩
        clear c11 c12 c13 c14 c15 c16 cR
        obtain ⟨c11, c12, c13, c14, c15, c16⟩ := op_cells (h3.keep HB0.out N1.out N2.out)
        have HW3 := Lib.hid h3
        clear h3
        refine hK _ _ c11 (fun hHeld => ?_)
        refine wpAnyH_done (by kernel_rfl) ?_ _
        clear hHeld
        go_simp
        cases t4 : bn.toList.isEmpty
        all_goals
          go_wp2_with (first | (go_at_call 79; refine (plain_new _ rfl HW3.out _ (by have := HL.out; have := HI0.out; have := HBN.out; have := datLen bn; simp; omega) (by first | exact HBN.out | decide)).mono ?_; rintro e w4 ⟨rfl, h4⟩; clear c11 c12 c13 c14 c15 c16; obtain ⟨c11, c12, c13, c14, c15, c16⟩ := op_cells (h4.keep HB0.out N1.out N2.out); have HW4 := Lib.hid h4; clear h4) | (go_at_call 78; refine (fractions_new2 _ rfl HW4.out (bwn, bwd) (bhn, bhd) HR.out HQ.out (by have := HL.out; have := HI0.out; have := HBN.out; have := datLen bn; simp; omega)).mono ?_; rintro e w5 ⟨rfl, h5⟩; have HW5 := Lib.hid (Wrote.since HF.out HO.out h5); clear h5))
          go_end0
        · exact ⟨rfl, box_fin node 0 bn (bwn, bwd) (bhn, bhd) bn [110, 111, 110, 101] (by decide) t3 rfl (boxWord_n t4) (by rw [t4]; rfl) HI0.out (by decide) HBN.out HR.out HQ.out HW5.out⟩
        · exact ⟨rfl, box_fin node 0 bn (bwn, bwd) (bhn, bhd) ⟨#[45]⟩ [110, 111, 110, 101] (by decide) t3 rfl (boxWord_e t4) (by rw [t4]; rfl) HI0.out (by decide) (by decide) HR.out HQ.out HW5.out⟩
      · obtain rfl : bt = 1 := hbt
        go_wp2_with (go_at_call 76; refine (numbers_new _ (by simp) HA.out node HI.out (by have := HL.out; omega) HP.out).mono ?_; rintro e w1 ⟨rfl, h1⟩; obtain ⟨c11, c12, c13, c14, c15, c16⟩ := op_cells (h1.keep HB0.out N1.out N2.out); obtain ⟨f1, f2⟩ := bld_ok h1.choose_spec.1; have HW1 := Lib.hid h1; clear h1)
        refine wp_region_held_drew (S := (fun s => s.cell? ⟨w.heap.size, 11, none⟩ = some (.int .i64 1))) (by kernel_rfl) c11 (fun hHeld => ?_)
        refine wpAnyH_take (i := 0) (v := .pointer (some ⟨b, 0, none⟩)) rfl (by kernel_rfl) (by kernel_rfl) (by kernel_rfl) (fun _ _ _ h => h) (Or.inl ⟨by kernel_rfl, fun s hs => by have s0c := hs; go_simp <;> omega⟩) hHeld ?_
        refine wpAnyH_take (i := 2) (v := .pointer (some ⟨w.heap.size, 11, none⟩)) rfl (by kernel_rfl) (by kernel_rfl) (by kernel_rfl) (fun _ _ _ h => h) (Or.inl ⟨by kernel_rfl, fun s hs => by have s0c := hs; go_simp <;> omega⟩) hHeld ?_
        refine wpAnyH_take (i := 3) (v := .pointer (some ⟨w.heap.size, 11, none⟩)) rfl (by kernel_rfl) (by kernel_rfl) (by kernel_rfl) (fun _ _ _ h => h) (Or.inl ⟨by kernel_rfl, fun s hs => by have s0c := hs; go_simp <;> omega⟩) hHeld ?_
        refine wpAnyH_take (i := 4) (v := .int .i64 1) rfl (by kernel_rfl) (by kernel_rfl) (by kernel_rfl) (fun _ _ _ h => h) (Or.inl ⟨by kernel_rfl, fun s hs => by have s0c := hs; go_simp <;> omega⟩) hHeld ?_
        have d11 := c11
        clear c11 c12 c13 c14 c15 c16 f1 f2
        refine wpAnyH_ready (rs := [1]) (by kernel_rfl) (by simp) ?_
        refine AllReadyH.cons rfl (fun K hK => ?_) AllReadyH.nil
        rw [if_pos (by kernel_rfl)]
        go_simp
        refine (boxes_any _).mono ?_
        rintro e w2 ⟨rfl, hw2⟩
        have h2 := (HW1.out.below ((Below.refl _ _).drew)).below (hw2 ▸ below_new _ _)
        have hR : w2.heap[w1.heap.size]? = some (.cells boxRow 9 (0, 0)) := by rw [hw2]; exact heap_alloc_at _ _
        obtain ⟨c11, c12, c13, c14, c15, c16⟩ := op_cells (h2.keep HB0.out N1.out N2.out)
        have cR : w2.cell? ⟨w1.heap.size, 1, none⟩ = some (.string ⟨#[105, 110, 108, 105, 110, 101]⟩) := by rw [Lib.cell_of_heap hR]; rfl
        have HW2 := Lib.hid h2
        clear h2 hw2 hR d11
        refine hK _ _ c11 (fun hHeld => ?_)
        refine wpAnyH_ready (rs := [5]) (by kernel_rfl) (by simp) ?_
        refine AllReadyH.cons rfl (fun K hK => ?_) AllReadyH.nil
        rw [if_pos (by kernel_rfl)]
        go_simp
        refine hK _ _ c11 (fun hHeld => ?_)
        refine wpAnyH_ready (rs := [6]) (by kernel_rfl) (by simp) ?_
        refine AllReadyH.cons rfl (fun K hK => ?_) AllReadyH.nil
        rw [if_pos (by kernel_rfl)]
        go_simp
        refine hK _ _ c11 (fun hHeld => ?_)
        refine wpAnyH_ready (rs := [7]) (by kernel_rfl) (by simp) ?_
        refine AllReadyH.cons rfl (fun K hK => ?_) AllReadyH.nil
        rw [if_pos (by kernel_rfl)]
        go_simp
        have c11y := (op_cells ((HW2.out.below (below_new w2 (.cells #[.string ⟨#[105, 110, 108, 105, 110, 101]⟩] 9))).keep HB0.out N1.out N2.out)).1
        refine hK _ _ c11y (fun hHeld => ?_)
        clear c11y
        refine wpAnyH_ready (rs := [8]) (by kernel_rfl) (by simp) ?_
        refine AllReadyH.cons rfl (fun K hK => ?_) AllReadyH.nil
        rw [if_pos (by kernel_rfl)]
        go_simp
        refine (put_new _ rfl HW2.out ⟨#[105, 110, 108, 105, 110, 101]⟩ (by have := HL.out; have := HI0.out; simp; omega) (by decide)).mono ?_
        rintro e w3 ⟨rfl, h3⟩
        clear c11 c12 c13 c14 c15 c16 cR
        obtain ⟨c11, c12, c13, c14, c15, c16⟩ := op_cells (h3.keep HB0.out N1.out N2.out)
        have HW3 := Lib.hid h3
        clear h3
        refine hK _ _ c11 (fun hHeld => ?_)
        refine wpAnyH_done (by kernel_rfl) ?_ _
        clear hHeld
        go_simp
        cases t4 : bn.toList.isEmpty
        all_goals
          go_wp2_with (first | (go_at_call 79; refine (plain_new _ rfl HW3.out _ (by have := HL.out; have := HI0.out; have := HBN.out; have := datLen bn; simp; omega) (by first | exact HBN.out | decide)).mono ?_; rintro e w4 ⟨rfl, h4⟩; clear c11 c12 c13 c14 c15 c16; obtain ⟨c11, c12, c13, c14, c15, c16⟩ := op_cells (h4.keep HB0.out N1.out N2.out); have HW4 := Lib.hid h4; clear h4) | (go_at_call 78; refine (fractions_new2 _ rfl HW4.out (bwn, bwd) (bhn, bhd) HR.out HQ.out (by have := HL.out; have := HI0.out; have := HBN.out; have := datLen bn; simp; omega)).mono ?_; rintro e w5 ⟨rfl, h5⟩; have HW5 := Lib.hid (Wrote.since HF.out HO.out h5); clear h5))
          go_end0
        · exact ⟨rfl, box_fin node 1 bn (bwn, bwd) (bhn, bhd) bn [105, 110, 108, 105, 110, 101] (by decide) t3 rfl (boxWord_n t4) (by rw [t4]; rfl) HI0.out (by decide) HBN.out HR.out HQ.out HW5.out⟩
        · exact ⟨rfl, box_fin node 1 bn (bwn, bwd) (bhn, bhd) ⟨#[45]⟩ [105, 110, 108, 105, 110, 101] (by decide) t3 rfl (boxWord_e t4) (by rw [t4]; rfl) HI0.out (by decide) (by decide) HR.out HQ.out HW5.out⟩
      · obtain rfl : bt = 2 := hbt
        go_wp2_with (go_at_call 76; refine (numbers_new _ (by simp) HA.out node HI.out (by have := HL.out; omega) HP.out).mono ?_; rintro e w1 ⟨rfl, h1⟩; obtain ⟨c11, c12, c13, c14, c15, c16⟩ := op_cells (h1.keep HB0.out N1.out N2.out); obtain ⟨f1, f2⟩ := bld_ok h1.choose_spec.1; have HW1 := Lib.hid h1; clear h1)
        refine wp_region_held_drew (S := (fun s => s.cell? ⟨w.heap.size, 11, none⟩ = some (.int .i64 2))) (by kernel_rfl) c11 (fun hHeld => ?_)
        refine wpAnyH_take (i := 0) (v := .pointer (some ⟨b, 0, none⟩)) rfl (by kernel_rfl) (by kernel_rfl) (by kernel_rfl) (fun _ _ _ h => h) (Or.inl ⟨by kernel_rfl, fun s hs => by have s0c := hs; go_simp <;> omega⟩) hHeld ?_
        refine wpAnyH_take (i := 2) (v := .pointer (some ⟨w.heap.size, 11, none⟩)) rfl (by kernel_rfl) (by kernel_rfl) (by kernel_rfl) (fun _ _ _ h => h) (Or.inl ⟨by kernel_rfl, fun s hs => by have s0c := hs; go_simp <;> omega⟩) hHeld ?_
        refine wpAnyH_take (i := 3) (v := .pointer (some ⟨w.heap.size, 11, none⟩)) rfl (by kernel_rfl) (by kernel_rfl) (by kernel_rfl) (fun _ _ _ h => h) (Or.inl ⟨by kernel_rfl, fun s hs => by have s0c := hs; go_simp <;> omega⟩) hHeld ?_
        refine wpAnyH_take (i := 4) (v := .int .i64 2) rfl (by kernel_rfl) (by kernel_rfl) (by kernel_rfl) (fun _ _ _ h => h) (Or.inl ⟨by kernel_rfl, fun s hs => by have s0c := hs; go_simp <;> omega⟩) hHeld ?_
        have d11 := c11
        clear c11 c12 c13 c14 c15 c16 f1 f2
        refine wpAnyH_ready (rs := [1]) (by kernel_rfl) (by simp) ?_
        refine AllReadyH.cons rfl (fun K hK => ?_) AllReadyH.nil
        rw [if_pos (by kernel_rfl)]
        go_simp
        refine (boxes_any _).mono ?_
        rintro e w2 ⟨rfl, hw2⟩
        have h2 := (HW1.out.below ((Below.refl _ _).drew)).below (hw2 ▸ below_new _ _)
        have hR : w2.heap[w1.heap.size]? = some (.cells boxRow 9 (0, 0)) := by rw [hw2]; exact heap_alloc_at _ _
        obtain ⟨c11, c12, c13, c14, c15, c16⟩ := op_cells (h2.keep HB0.out N1.out N2.out)
        have cR : w2.cell? ⟨w1.heap.size, 2, none⟩ = some (.string ⟨#[115, 105, 122, 101]⟩) := by rw [Lib.cell_of_heap hR]; rfl
        have HW2 := Lib.hid h2
        clear h2 hw2 hR d11
        refine hK _ _ c11 (fun hHeld => ?_)
        refine wpAnyH_ready (rs := [5]) (by kernel_rfl) (by simp) ?_
        refine AllReadyH.cons rfl (fun K hK => ?_) AllReadyH.nil
        rw [if_pos (by kernel_rfl)]
        go_simp
        refine hK _ _ c11 (fun hHeld => ?_)
        refine wpAnyH_ready (rs := [6]) (by kernel_rfl) (by simp) ?_
        refine AllReadyH.cons rfl (fun K hK => ?_) AllReadyH.nil
        rw [if_pos (by kernel_rfl)]
        go_simp
        refine hK _ _ c11 (fun hHeld => ?_)
        refine wpAnyH_ready (rs := [7]) (by kernel_rfl) (by simp) ?_
        refine AllReadyH.cons rfl (fun K hK => ?_) AllReadyH.nil
        rw [if_pos (by kernel_rfl)]
        go_simp
        have c11y := (op_cells ((HW2.out.below (below_new w2 (.cells #[.string ⟨#[115, 105, 122, 101]⟩] 9))).keep HB0.out N1.out N2.out)).1
        refine hK _ _ c11y (fun hHeld => ?_)
        clear c11y
        refine wpAnyH_ready (rs := [8]) (by kernel_rfl) (by simp) ?_
        refine AllReadyH.cons rfl (fun K hK => ?_) AllReadyH.nil
        rw [if_pos (by kernel_rfl)]
        go_simp
        refine (put_new _ rfl HW2.out ⟨#[115, 105, 122, 101]⟩ (by have := HL.out; have := HI0.out; simp; omega) (by decide)).mono ?_
        rintro e w3 ⟨rfl, h3⟩
        clear c11 c12 c13 c14 c15 c16 cR
        obtain ⟨c11, c12, c13, c14, c15, c16⟩ := op_cells (h3.keep HB0.out N1.out N2.out)
        have HW3 := Lib.hid h3
        clear h3
        refine hK _ _ c11 (fun hHeld => ?_)
        refine wpAnyH_done (by kernel_rfl) ?_ _
        clear hHeld
        go_simp
        cases t4 : bn.toList.isEmpty
        all_goals
          go_wp2_with (first | (go_at_call 79; refine (plain_new _ rfl HW3.out _ (by have := HL.out; have := HI0.out; have := HBN.out; have := datLen bn; simp; omega) (by first | exact HBN.out | decide)).mono ?_; rintro e w4 ⟨rfl, h4⟩; clear c11 c12 c13 c14 c15 c16; obtain ⟨c11, c12, c13, c14, c15, c16⟩ := op_cells (h4.keep HB0.out N1.out N2.out); have HW4 := Lib.hid h4; clear h4) | (go_at_call 78; refine (fractions_new2 _ rfl HW4.out (bwn, bwd) (bhn, bhd) HR.out HQ.out (by have := HL.out; have := HI0.out; have := HBN.out; have := datLen bn; simp; omega)).mono ?_; rintro e w5 ⟨rfl, h5⟩; have HW5 := Lib.hid (Wrote.since HF.out HO.out h5); clear h5))
          go_end0
        · exact ⟨rfl, box_fin node 2 bn (bwn, bwd) (bhn, bhd) bn [115, 105, 122, 101] (by decide) t3 rfl (boxWord_n t4) (by rw [t4]; rfl) HI0.out (by decide) HBN.out HR.out HQ.out HW5.out⟩
        · exact ⟨rfl, box_fin node 2 bn (bwn, bwd) (bhn, bhd) ⟨#[45]⟩ [115, 105, 122, 101] (by decide) t3 rfl (boxWord_e t4) (by rw [t4]; rfl) HI0.out (by decide) (by decide) HR.out HQ.out HW5.out⟩
    · go_wp2_with (go_at_call 76; refine (numbers_new _ (by simp) HA.out node HI.out (by have := HL.out; omega) HP.out).mono ?_; rintro e w1 ⟨rfl, h1⟩; obtain ⟨c11, c12, c13, c14, c15, c16⟩ := op_cells (h1.keep HB0.out N1.out N2.out); obtain ⟨f1, f2⟩ := bld_ok h1.choose_spec.1; have HW1 := Lib.hid h1; clear h1)
      refine bodyPost_ret (results_none rfl _ _ _) rfl ?_
      exact ⟨rfl, box_bad node bt bn (bwn, bwd) (bhn, bhd) (Or.inr t3) HI0.out (Wrote.since HF.out HO.out (HW1.out.flag false))⟩
  · have HNR := Lib.hid hr
    by_cases hlt : bt < 0
    · have t1 : decide (bt < 0) = true := decide_eq_true hlt
      clear hlt hr
      go_wp2_with (go_at_call 76; refine (numbers_new _ (by simp) HA.out node HI.out (by have := HL.out; omega) HP.out).mono ?_; rintro e w1 ⟨rfl, h1⟩; obtain ⟨c11, c12, c13, c14, c15, c16⟩ := op_cells (h1.keep HB0.out N1.out N2.out); obtain ⟨f1, f2⟩ := bld_ok h1.choose_spec.1; have HW1 := Lib.hid h1; clear h1)
      refine bodyPost_ret (results_none rfl _ _ _) rfl ?_
      exact ⟨rfl, box_bad node bt bn (bwn, bwd) (bhn, bhd) (Or.inl HNR.out) HI0.out (Wrote.since HF.out HO.out (HW1.out.flag false))⟩
    · have t1 : decide (bt < 0) = false := decide_eq_false hlt
      have t2 : decide (2 < bt) = true := decide_eq_true (by omega)
      clear hlt hr
      go_wp2_with (go_at_call 76; refine (numbers_new _ (by simp) HA.out node HI.out (by have := HL.out; omega) HP.out).mono ?_; rintro e w1 ⟨rfl, h1⟩; obtain ⟨c11, c12, c13, c14, c15, c16⟩ := op_cells (h1.keep HB0.out N1.out N2.out); obtain ⟨f1, f2⟩ := bld_ok h1.choose_spec.1; have HW1 := Lib.hid h1; clear h1)
      refine bodyPost_ret (results_none rfl _ _ _) rfl ?_
      exact ⟨rfl, box_bad node bt bn (bwn, bwd) (bhn, bhd) (Or.inl HNR.out) HI0.out (Wrote.since HF.out HO.out (HW1.out.flag false))⟩
end Go.Proofs.YtihlneenajlhoaaGreatDoor
/-
  What the walk of script.one asks beside the writer's contracts. No condition.
-/
set_option linter.unusedSimpArgs false
set_option linter.unusedVariables false
namespace Go.Proofs.YtihlneenajlhoaaGreatDoor
open Go Go.RowKit

set_option maxHeartbeats 2000000 in
set_option maxRecDepth 100000 in
/-- (*strings.Builder).String. -/
theorem string_some' (w : World) (T : TypeId) (tail : List Value) (b : Nat) (own : Option Nat) (l : List UInt8) (h : Bld w T tail b own l) (h0 : l ≠ []) :
    Calls Tryz.prog 42 #[.pointer (some ⟨b, 0, none⟩)] w fun e w' => e = .returned (.string ⟨l.toArray⟩) ∧ Fr w w' b own ∧ w'.heap[b]? = w.heap[b]? := by
  obtain ⟨p, sl, hbk, hown, ho, hnl⟩ : ∃ p, BldP w T tail b p own l := h.elim (fun h => ⟨_, h⟩) (fun h => ⟨_, h⟩)
  have hl0 : l.length ≠ 0 := by simpa using h0
  obtain ⟨g, cap, cur, rfl, hbg, hg, hnc, hcm, hcs, htake⟩ : ∃ g cap cur, sl = .slice (some ⟨g, 0, none⟩) l.length cap ∧ b + 1 ≤ g ∧ w.heap[g]? = some (.cells cur 5 (0, 0)) ∧ l.length ≤ cap ∧ cap ≤ maxLen ∧ cur.size = cap * 1 ∧ cur.toList.take (l.length * 1) = Lib.byteCells l := by
    rcases hown.2 with ⟨_, hz⟩ | ⟨g, cap, cur, hv, r⟩
    · exact absurd hz hl0
    · exact ⟨g, cap, cur, hv, r⟩
  have hbd : w.drew.heap[b]? = some (.cells (p :: .slice (some ⟨g, 0, none⟩) l.length cap :: tail).toArray T (0, 0)) := hbk
  have c1 : w.drew.cell? ⟨b, 1, none⟩ = some (.slice (some ⟨g, 0, none⟩) l.length cap) := by rw [Lib.cell_of_heap hbd]; rfl
  have hSD : (Builtin.unsafeSliceData_ #[22] 128 #[.slice (some ⟨g, 0, none⟩) l.length cap]).run Tryz.prog w.drew = .ok (.pointer (some ⟨g, 0, none⟩)) w.drew :=
    Lib.run_unsafeSliceData_row _ _ _ _ _ _ (by omega)
  have hUS : (Builtin.unsafeString_ #[128, 3] 9 #[.pointer (some ⟨g, 0, none⟩), .int .i64 l.length]).run Tryz.prog w.drew = .ok (.string ⟨l.toArray⟩) (w.drew.freeze ⟨g, 0, none⟩ l.length) := by
    refine Lib.run_unsafeString_row w.drew 128 3 9 5 und128 cells5 g cur.size (by have hg' : w.drew.heap[g]? = some (.cells cur 5 (0, 0)) := hg; simp [World.shape?, hg']) l h0 (by omega) (by unfold maxLen at hcm; omega) ?_
    intro j x hx
    have := hown.cells (g := g) rfl j (.int .u8 x.toNat) (by simp [Lib.byteCells, hx])
    exact this
  have hfz : Fr w (w.drew.freeze ⟨g, 0, none⟩ l.length) b own := by
    have hb : Below g w (w.drew.freeze ⟨g, 0, none⟩ l.length) := Lib.below_freeze (Below.drew (Below.refl g w)) (p := ⟨g, 0, none⟩) (Nat.le_refl _) _
    refine ⟨hb.os, hb.tape, hb.output, hb.size, fun k hk _ hne => ?_⟩
    have hkg : k ≠ g := fun e => hne (by rw [← ho, e]; rfl)
    unfold World.freeze
    split
    · rfl
    · simp only [Array.getElem?_modify]
      rw [if_neg (fun e => hkg e.symm)]
      rfl
  have HF := Lib.hid hfz
  have HK : Hid ((w.drew.freeze ⟨g, 0, none⟩ l.length).heap[b]? = w.heap[b]?) := Lib.hid (by
    unfold World.freeze
    split
    · rfl
    · simp only [Array.getElem?_modify]
      rw [if_neg (by omega)]
      rfl)
  clear hbk hown ho hnl hg htake hbd hfz h
  go_enter Tryz.func42, Tryz.ntmps42
  go_wp2
  go_region
  all_goals (go_wp2; go_ret; exact ⟨rfl, HF.out, HK.out⟩)
set_option maxHeartbeats 2000000 in
set_option maxRecDepth 100000 in
theorem string_none' (w : World) (T : TypeId) (tail : List Value) (b : Nat) (own : Option Nat) (h : Bld w T tail b own []) :
    Calls Tryz.prog 42 #[.pointer (some ⟨b, 0, none⟩)] w fun e w' => e = .returned (.string ⟨#[]⟩) ∧ Fr w w' b own ∧ w'.heap[b]? = w.heap[b]? := by
  obtain ⟨p, sl, hbk, hown, ho, hnl⟩ : ∃ p, BldP w T tail b p own [] := h.elim (fun h => ⟨_, h⟩) (fun h => ⟨_, h⟩)
  obtain rfl := hnl rfl
  have hbd : w.drew.heap[b]? = some (.cells (p :: .slice none 0 0 :: tail).toArray T (0, 0)) := hbk
  have c1 : w.drew.cell? ⟨b, 1, none⟩ = some (.slice none 0 0) := by rw [Lib.cell_of_heap hbd]; rfl
  have hSD : (Builtin.unsafeSliceData_ #[22] 128 #[.slice none 0 0]).run Tryz.prog w.drew = .ok (.pointer none) w.drew := rfl
  have hUS : ∀ (W : World) (q : Option Addr), (Builtin.unsafeString_ #[128, 3] 9 #[.pointer q, .int .i64 0]).run Tryz.prog W = .ok (.string .empty) W := fun W q => Lib.run_unsafeString_none W _ _ _ q
  clear hbk hown ho hnl hbd h
  go_enter Tryz.func42, Tryz.ntmps42
  go_wp2
  go_region
  all_goals (go_wp2; go_ret; exact ⟨rfl, (Fr.refl w b own).drew, rfl⟩)
theorem string_keep (w : World) (T : TypeId) (tail : List Value) (b : Nat) (own : Option Nat) (l : List UInt8) (h : Bld w T tail b own l) :
    Calls Tryz.prog 42 #[.pointer (some ⟨b, 0, none⟩)] w fun e w' => e = .returned (.string ⟨l.toArray⟩) ∧ Fr w w' b own ∧ w'.heap[b]? = w.heap[b]? := by
  cases l with
  | nil => exact string_none' w T tail b own h
  | cons x r => exact string_some' w T tail b own (x :: r) h (by simp)

theorem op_cell {w : World} {B : Nat} {cs : Array Value} {t : TypeId} (h : w.heap[B]? = some (.cells cs t (0, 0))) (k : Nat) (v : Value) (hk : cs[k]? = some v) : w.cell? ⟨B, k, none⟩ = some v := by rw [Lib.cell_of_heap h]; exact hk
theorem start_facts (w : World) (cs : Array Value) :
    ((w.alloc (.cells cs 28)).alloc (.cells #[.pointer none, .slice none 0 0, .bool true] 123)).heap[w.heap.size]? = some (.cells cs 28 (0, 0)) ∧
    Wrote ((w.alloc (.cells cs 28)).alloc (.cells #[.pointer none, .slice none 0 0, .bool true] 123)) (w.heap.size + 1) none [] true ((w.alloc (.cells cs 28)).alloc (.cells #[.pointer none, .slice none 0 0, .bool true] 123)) ∧
    Below w.heap.size w ((w.alloc (.cells cs 28)).alloc (.cells #[.pointer none, .slice none 0 0, .bool true] 123)) := by
  have h1 := heap_alloc_at w (.cells cs 28)
  have hs : (w.alloc (.cells cs 28)).heap.size = w.heap.size + 1 := by simp
  have b1 := below_new w (.cells cs 28)
  generalize w.alloc (.cells cs 28) = w1 at *
  have b2 := below_new w1 (.cells #[.pointer none, .slice none 0 0, .bool true] 123)
  refine ⟨(b2.block _ (by omega)).trans h1, Wrote.refl (bld_new 123 [.bool true] _ ?_), b1.trans (b2.mono (by omega))⟩
  rw [← hs]
  exact heap_alloc_at _ _
theorem wrote_below {w W1 w' : World} {b : Nat} (h : Fr W1 w' b none) (hb : Below w.heap.size w W1) (hw : w.heap.size ≤ b) : Below w.heap.size w w' := hb.trans (Fr.below h hw (fun g hg => by cases hg) hb.size)
theorem write_first {W1 w : World} {b : Nat} (h : Wrote W1 b none [] true w) (X : List UInt8) (hX : X.length ≤ 1000) : Calls Tryz.prog 40 #[.pointer (some ⟨b, 0, none⟩), .string (bstr X)] w fun e w' => e = .returned (.tuple #[.int .i64 (bstr X).size, .nilIface]) ∧ Wrote W1 b none X true w' := by
  obtain ⟨own, hb, hf, ho⟩ := h
  refine (writeString_any _ 123 [.bool true] b own [] _ bt123 hb (by rw [bstr_size]; simp; omega)).mono ?_
  rintro e w3 ⟨rfl, own3, h3, hf3, ho3⟩
  refine ⟨rfl, Wrote.then hf ho (Or.inr ?_) hf3 ho3⟩
  simpa [bstr] using h3
theorem string_wrote {W1 w : World} {b : Nat} {l : List UInt8} {ok : Bool} (h : Wrote W1 b none l ok w) : Calls Tryz.prog 42 #[.pointer (some ⟨b, 0, none⟩)] w fun e w' => e = .returned (.string (bstr l)) ∧ Fr W1 w' b none ∧ w'.cell? ⟨b, 2, none⟩ = some (.bool ok) := by
  obtain ⟨own, hb, hf, ho⟩ := h
  have hc := (bld_ok hb).1
  refine (string_keep _ 123 _ b own l hb).mono ?_
  rintro e w9 ⟨rfl, hf9, hk9⟩
  refine ⟨rfl, hf.trans hf9 ho, ?_⟩
  rw [World.cell?_of_block (w := w) hk9]
  exact hc
set_option maxRecDepth 100000 in
theorem conv_row {B : Nat} {w : World} {v : Value} {l : List UInt8} (h : RowAt B w v l.length (Lib.byteCells l)) : (convert 22 9 v).run Tryz.prog w = .ok (.string (bstr l)) w := by
  obtain ⟨a, cap, rfl, h1, h2, h3⟩ := h
  rcases h3 with ⟨h0, _, h4⟩ | ⟨h0, b, off, rfl, hb, hr⟩
  · have : l = [] := List.eq_nil_of_length_eq_zero h0
    subst this
    cases a with
    | none =>
      rw [h4 rfl]
      exact Go.run_convert_bytes_back (P := Tryz.prog) w 22 9 5 ⟨0, 0, none⟩ 0 [] Tryz.underlying22 Tryz.underlying5 Tryz.underlying9 (fun j hj => by cases hj)
    | some a => exact Go.run_convert_bytes_back (P := Tryz.prog) w 22 9 5 a cap [] Tryz.underlying22 Tryz.underlying5 Tryz.underlying9 (fun j hj => by cases hj)
  · refine Go.run_convert_bytes_back (P := Tryz.prog) w 22 9 5 ⟨b, off, none⟩ cap l Tryz.underlying22 Tryz.underlying5 Tryz.underlying9 (fun j hj => ?_)
    have := hr j (.int .u8 l[j].toNat) (by simp [Lib.byteCells, hj])
    rw [Addr.add_mid]
    exact this
theorem quoteB_len (c : UInt8) : (sp.quoteB c).length ≤ 4 := by
  unfold sp.quoteB
  repeat' split
  all_goals simp
theorem quoteS_len (l : List UInt8) : (sp.quoteS l).length ≤ 4 * l.length + 2 := by
  have h : ∀ l : List UInt8, (l.flatMap sp.quoteB).length ≤ 4 * l.length := by
    intro l
    induction l with
    | nil => simp
    | cons a l ih =>
      have := quoteB_len a
      rw [List.flatMap_cons, List.length_append, List.length_cons]
      omega
  have := h l
  unfold sp.quoteS
  simp only [List.length_cons, List.length_append, List.length_nil]
  omega
end Go.Proofs.YtihlneenajlhoaaGreatDoor
/-
  Contracts, for a run of one goroutine, of jalousieref27.small, plain, rats. Condition: sizes that fit; strconv's table stands.
-/
set_option linter.unusedSimpArgs false
set_option linter.unusedVariables false
namespace Go.Proofs.YtihlneenajlhoaaGreatDoor
open Go Go.RowKit

theorem rsmall_any (n : Int) (w : World) : Calls Tryz.prog 82 #[.int .i64 n] w fun e w' => e = .returned (.bool (smallB n)) ∧ w' = w := by
  have hs : smallB n = (decide (-1000000000 < n) && decide (n < 1000000000)) := rfl
  cases t1 : decide (-1000000000 < n) <;> cases t2 : decide (n < 1000000000)
  all_goals
    rw [t1, t2] at hs
    rw [hs]
    clear hs
    go_enter Tryz.func82, Tryz.ntmps82
    go_wp2
    go_ret
    exact ⟨rfl, rfl⟩
def badB (c : UInt8) : Bool := c == 32 || c == 10 || c == 34
theorem plainV_take (s : ByteArray) (k : Nat) (hk : k < s.data.toList.length) (hb : badB (s.data.toList[k]) = true) : plainV s = false := by
  have hm : s.data.toList[k] ∈ s.data.toList := List.getElem_mem hk
  have : sepIn s.data.toList = true := by
    unfold sepIn
    exact List.any_eq_true.2 ⟨_, hm, hb⟩
  rw [plainV_eq, this]
  simp
theorem plainV_all (s : ByteArray) (h : ∀ k (hk : k < s.data.toList.length), badB s.data.toList[k] = false) : plainV s = !s.toList.isEmpty := by
  have : sepIn s.data.toList = false := by
    unfold sepIn
    rw [List.any_eq_false]
    intro x hx
    obtain ⟨k, hk, rfl⟩ := List.getElem_of_mem hx
    have := h k hk
    unfold badB at this
    rw [this]
    simp
  rw [plainV_eq, this, Lib.toList_data]
  simp
set_option maxRecDepth 100000 in
set_option maxHeartbeats 8000000 in
/-- jalousieref27.plain. -/
theorem rplain_any (s : ByteArray) (w : World) (hs : s.size ≤ 1048576) : Calls Tryz.prog 83 #[.string s] w fun e w' => e = .returned (.bool (plainV s)) ∧ Below w.heap.size w w' := by
  have HS := Lib.hid hs
  have hcv := fun W => Lib.run_convert_string_bytes (P := Tryz.prog) W 9 22 5 s Tryz.underlying9 Tryz.underlying22 Tryz.underlying5
  have HC := Lib.hid (fun j (hj : j < s.size) => Lib.bytesWorld_cell w 5 s j hj)
  have HB := Lib.hid (below_bytes w s)
  clear hs
  go_enter Tryz.func83, Tryz.ntmps83
  go_wp2
  clear hcv
  generalize Lib.bytesWorld w 5 s = W2 at HB HC
  have hlen : s.data.toList.length = s.size := by rw [Array.length_toList]; rfl
  have HLEN := Lib.hid hlen
  go_loopw [8] (fun i wr => ∃ k : Nat, k ≤ s.size ∧ i = .int .i64 k ∧ wr = W2 ∧ ∀ j (hj : j < s.data.toList.length), j < k → badB s.data.toList[j] = false) (fun i _ => s.size - (intOf i).toNat)
  case atStart => exact ⟨0, Nat.zero_le _, rfl, rfl, fun j _ h => absurd h (Nat.not_lt_zero _)⟩
  case round =>
    obtain ⟨k, hk, rfl, rfl, hno⟩ := hrel
    have HNO := Lib.hid hno; clear hno
    have hkb : (k : Int) ≤ 1048576 := by have := HS.out; omega
    by_cases hlt : k < s.size
    · have hkl : k < s.data.toList.length := by omega
      have hc : wr.cell? ⟨w.heap.size, k, none⟩ = some (.int .u8 (s.data.toList[k]'hkl).toNat) := by
        have := HC.out k hlt
        rwa [getD_lt _ _ hkl] at this
      have HBAD := Lib.hid (plainV_take s k hkl)
      generalize hK : s.data.toList[k]'hkl = K at hc HBAD
      have hK2 := Lib.hid hK; clear hK
      have hK0 : (0 : Int) ≤ K.toNat := by omega
      by_cases hb : badB K = true
      · have HV := Lib.hid (HBAD.out hb)
        have hcase : K = 32 ∨ K = 34 ∨ K = 10 := by
          unfold badB at hb
          simp at hb
          rcases hb with (h | h) | h
          · exact Or.inl h
          · exact Or.inr (Or.inr h)
          · exact Or.inr (Or.inl h)
        clear hb HC HBAD
        rcases hcase with rfl | rfl | rfl
        all_goals
          go_wp2
          go_ret
          exact ⟨by rw [HV.out]; rfl, HB.out⟩
      · have HN := Lib.hid hb
        have n32 : ((K.toNat : Int) == 32) = false := by simp; intro h; exact hb (by rw [(UInt8.toNat_inj (a := K) (b := 32)).1 (by simpa using (by omega : K.toNat = 32))]; rfl)
        have n34 : ((K.toNat : Int) == 34) = false := by simp; intro h; exact hb (by rw [(UInt8.toNat_inj (a := K) (b := 34)).1 (by simpa using (by omega : K.toNat = 34))]; rfl)
        have n10 : ((K.toNat : Int) == 10) = false := by simp; intro h; exact hb (by rw [(UInt8.toNat_inj (a := K) (b := 10)).1 (by simpa using (by omega : K.toNat = 10))]; rfl)
        clear hb HC HBAD
        go_wp2
        refine ⟨⟨k + 1, by omega, by go_num, by first | rfl | trivial, fun j hj hjk => ?_⟩, by simp [intOf]; omega⟩
        by_cases e : j = k
        · subst e; rw [hK2.out]; simpa using HN.out
        · exact HNO.out j hj (by omega)
    · have HV := Lib.hid (plainV_all s (fun j hj => HNO.out j hj (by omega)))
      cases t1 : s.toList.isEmpty
      all_goals
        have HT := Lib.hid t1
        go_wp2
        go_ret
        exact ⟨by rw [HV.out, HT.out]; rfl, HB.out⟩
set_option maxRecDepth 100000 in
set_option maxHeartbeats 4000000 in
/-- jalousieref27.rats. -/
theorem rrats_any (w : World) (c : Nat) (rs : List (Int × Int)) (hc : RatsIn w c rs) (hns : rs.length ≤ 2) (hi : ∀ r ∈ rs, I64 r.1 ∧ I64 r.2) (hp : Pow w) :
    Calls Tryz.prog 84 #[.slice (some ⟨c, 0, none⟩) rs.length rs.length] w fun e w' => e = .returned (.tuple #[.string (bstr (putS (ratsS rs))), .bool (rs.all mayR)]) ∧ Below w.heap.size w w' := by
  have HC := Lib.hid hc; have HNS := Lib.hid hns; have HI := Lib.hid hi; have HP := Lib.hid hp
  clear hc hns hi hp
  go_enter Tryz.func84, Tryz.ntmps84
  go_wp2
  go_loopw [4, 5, 10] (fun s o i wr => ∃ k : Nat, k ≤ rs.length ∧ i = .int .i64 k ∧ s = .string (bstr (putS (ratsS (rs.take k)))) ∧ o = .bool ((rs.take k).all mayR) ∧ Below w.heap.size w wr) (fun _ _ i _ => rs.length - (intOf i).toNat)
  case atStart => exact ⟨0, Nat.zero_le _, rfl, by simp [putS, ratsS, bstr], by simp, Below.refl _ _⟩
  case round =>
    obtain ⟨k, hk, rfl, rfl, rfl, hbl⟩ := hrel
    have hkb : (k : Int) ≤ 2 := by have := HNS.out; omega
    have HB := Lib.hid hbl; clear hbl
    by_cases hlt : k < rs.length
    · have hclt := lt_of_block HC.out
      have hrow := (HB.out.block c hclt).trans HC.out
      have hcell0 : wr.cell? ⟨c, k * 2, none⟩ = some (.int .i64 rs[k].1) := by
        rw [cell_of_row wr c (k * 2) _ 24 (0, 0) hrow, List.getElem?_toArray, (rats_get rs k hlt).1]
      have hcell1 : wr.cell? ⟨c, k * 2 + 1, none⟩ = some (.int .i64 rs[k].2) := by
        rw [cell_of_row wr c (k * 2 + 1) _ 24 (0, 0) hrow, List.getElem?_toArray, (rats_get rs k hlt).2]
      have HX := Lib.hid (putS_rats_take rs k hlt)
      have HO := Lib.hid (ok_takeR mayR true rs k hlt)
      obtain ⟨i1, i2⟩ := HI.out rs[k] (List.getElem_mem hlt)
      have hz := ratLen i1 i2
      have hl := putS_rats (rs.take k) (fun r hr => HI.out r (List.mem_of_mem_take hr))
      have hl2 : (bstr (putS (ratsS (rs.take k)))).size ≤ 100 := by
        rw [bstr_size]
        rw [List.length_take] at hl
        omega
      clear hl hrow
      have hs : mayR rs[k] = mayB rs[k].1 rs[k].2 := rfl
      generalize rs[k] = r at hcell0 hcell1 HX HO i1 i2 hz hs
      obtain ⟨n, d⟩ := r
      simp only at hcell0 hcell1 HX HO i1 i2 hz hs
      generalize putS (ratsS (rs.take k)) = l0 at HX hl2
      simp only [Bool.true_and] at HO
      generalize (rs.take k).all mayR = ok0 at HO
      have HI1 := Lib.hid i1; have HI2 := Lib.hid i2; clear i1 i2
      have HRB := Lib.hid (heap_alloc_at wr (.cells #[.int .i64 n, .int .i64 d] 24))
      have HBA := Lib.hid (HB.out.alloc HB.out.size (.cells #[.int .i64 n, .int .i64 d] 24))
      obtain ⟨g0, g1⟩ := rat_cells HRB.out
      cases hm : mayB n d <;> cases ok0
      all_goals
        rw [hm] at hs
        have HS := Lib.hid hs; have HM := Lib.hid hm; clear hs hm
        go_wp2_with (first
          | (go_at_call 74; refine (rratText_any n d _ HI1.out HI2.out (HP.out.on HBA.out)).mono ?_; rintro e w1 ⟨rfl, hb1⟩; have hk1 := (hb1.block wr.heap.size (by simp)).trans HRB.out; obtain ⟨g2, g3⟩ := rat_cells hk1; have HB1 := Lib.hid (HBA.out.trans (hb1.mono HBA.out.size)); clear hb1 hk1)
          | (go_at_call 114; refine (rmay_any n d _ HI1.out HI2.out).mono ?_; rintro e w2 ⟨rfl, hb2⟩; rw [HM.out]; have HB2 := Lib.hid (HB1.out.trans (hb2.mono HB1.out.size)); clear hb2))
        first
          | refine ⟨⟨k + 1, by omega, by go_num, ?_, ?_, HB2.out⟩, by simp [intOf]; omega⟩
          | refine ⟨⟨k + 1, by omega, by go_num, ?_, ?_, HB1.out⟩, by simp [intOf]; omega⟩
        · rw [HX.out]
          apply congrArg Value.string
          apply ByteArray.ext
          simp [bstr, putS]
        · rw [HO.out, HS.out]
          rfl
    · have : k = rs.length := by omega
      subst this
      have HE : Hid (rs.take rs.length = rs) := Lib.hid (by rw [List.take_length])
      go_wp2
      go_ret2
      exact ⟨by simp only [HE.out]; rfl, HB.out⟩
end Go.Proofs.YtihlneenajlhoaaGreatDoor
/-
  What the walk of jalousieref27.one asks. Condition: lengths that fit; strconv's table stands.
-/
set_option linter.unusedSimpArgs false
set_option linter.unusedVariables false
namespace Go.Proofs.YtihlneenajlhoaaGreatDoor
open Go Go.RowKit

/-- An operation boxed in the block behind the world w, seen from a later world. -/
def Opw (cs : Array Value) (w wn : World) : Prop := Below w.heap.size w wn ∧ wn.heap[w.heap.size]? = some (.cells cs 28 (0, 0))
theorem Opw.new (cs : Array Value) (w : World) : Opw cs w (w.alloc (.cells cs 28)) := ⟨below_new _ _, heap_alloc_at _ _⟩
theorem Opw.below {cs : Array Value} {w wn wm : World} (h : Opw cs w wn) (hb : Below wn.heap.size wn wm) : Opw cs w wm := ⟨h.1.trans (hb.mono h.1.size), (hb.block _ (Array.getElem?_eq_some_iff.1 h.2).1).trans h.2⟩
theorem Opw.drew {cs : Array Value} {w wn : World} (h : Opw cs w wn) : Opw cs w wn.drew := h.below (Below.refl _ _).drew
theorem Opw.cell {cs : Array Value} {w wn : World} (h : Opw cs w wn) (k : Nat) (v : Value) (hk : cs[k]? = some v) : wn.cell? ⟨w.heap.size, k, none⟩ = some v := op_cell h.2 k v hk
theorem ones_eq {a b : ByteArray} {p q : Bool} (h : a = b) (h2 : p = q) : Ending.returned (.tuple #[.string a, .bool p]) = Ending.returned (.tuple #[.string b, .bool q]) := by rw [h, h2]
theorem size_bstr_itoa {n : Int} (h : I64 n) : (bstr (Lib.itoa n)).size ≤ 21 := itoaLen h
theorem box_at (W : World) : (Instr.index 131 (.agg #[.string ⟨#[110, 111, 110, 101]⟩, .string ⟨#[105, 110, 108, 105, 110, 101]⟩, .string ⟨#[115, 105, 122, 101]⟩]) (.int .i64 0)).run Tryz.prog W = .ok (.string ⟨#[110, 111, 110, 101]⟩) W ∧ (Instr.index 131 (.agg #[.string ⟨#[110, 111, 110, 101]⟩, .string ⟨#[105, 110, 108, 105, 110, 101]⟩, .string ⟨#[115, 105, 122, 101]⟩]) (.int .i64 1)).run Tryz.prog W = .ok (.string ⟨#[105, 110, 108, 105, 110, 101]⟩) W ∧ (Instr.index 131 (.agg #[.string ⟨#[110, 111, 110, 101]⟩, .string ⟨#[105, 110, 108, 105, 110, 101]⟩, .string ⟨#[115, 105, 122, 101]⟩]) (.int .i64 2)).run Tryz.prog W = .ok (.string ⟨#[115, 105, 122, 101]⟩) W := ⟨by kernel_rfl, by kernel_rfl, by kernel_rfl⟩
theorem rat_size {r : Int × Int} (h : I64 r.1 ∧ I64 r.2) : (bstr (32 :: sp.ratS r.1 r.2)).size ≤ 44 := by rw [bstr_size, List.length_cons]; have := rat_len h; omega
theorem rat_size2 {r q : Int × Int} (h : I64 r.1 ∧ I64 r.2) (g : I64 q.1 ∧ I64 q.2) : (bstr (32 :: (sp.ratS r.1 r.2 ++ 32 :: sp.ratS q.1 q.2))).size ≤ 88 := by rw [bstr_size, List.length_cons, List.length_append, List.length_cons]; have := rat_len h; have := rat_len g; omega
theorem rrats_new (w : World) (r : Int × Int) (hr : I64 r.1 ∧ I64 r.2) (hp : Pow w) :
    Calls Tryz.prog 84 #[.slice (some ⟨w.heap.size, 0, none⟩) 1 1] (w.alloc (.cells #[.int .i64 r.1, .int .i64 r.2] 24)) fun e w' => e = .returned (.tuple #[.string (bstr (32 :: sp.ratS r.1 r.2)), .bool (mayR r)]) ∧ Below w.heap.size w w' := by
  have hb := below_new w (.cells #[.int .i64 r.1, .int .i64 r.2] 24)
  have e : putS (ratsS [r]) = 32 :: sp.ratS r.1 r.2 := by simp [putS, ratsS, bstr]
  refine (rrats_any _ w.heap.size [r] (heap_alloc_at _ _) (by simp) (by simpa using hr) (hp.on hb)).mono ?_
  rw [e]
  rintro e w' ⟨rfl, h2⟩
  exact ⟨by simp, hb.trans (h2.mono hb.size)⟩
theorem rrats_new2 (w : World) (r q : Int × Int) (hr : I64 r.1 ∧ I64 r.2) (hq : I64 q.1 ∧ I64 q.2) (hp : Pow w) :
    Calls Tryz.prog 84 #[.slice (some ⟨w.heap.size, 0, none⟩) 2 2] (w.alloc (.cells #[.int .i64 r.1, .int .i64 r.2, .int .i64 q.1, .int .i64 q.2] 24)) fun e w' => e = .returned (.tuple #[.string (bstr (32 :: (sp.ratS r.1 r.2 ++ 32 :: sp.ratS q.1 q.2))), .bool (mayR r && mayR q)]) ∧ Below w.heap.size w w' := by
  have hb := below_new w (.cells #[.int .i64 r.1, .int .i64 r.2, .int .i64 q.1, .int .i64 q.2] 24)
  have e : putS (ratsS [r, q]) = 32 :: (sp.ratS r.1 r.2 ++ 32 :: sp.ratS q.1 q.2) := by simp [putS, ratsS, bstr]
  refine (rrats_any _ w.heap.size [r, q] (heap_alloc_at _ _) (by simp) ?_ (hp.on hb)).mono ?_
  · intro x hx
    simp only [List.mem_cons, List.not_mem_nil, or_false] at hx
    rcases hx with rfl | rfl
    · exact hr
    · exact hq
  rw [e]
  rintro e w' ⟨rfl, h2⟩
  exact ⟨by simp, hb.trans (h2.mono hb.size)⟩
end Go.Proofs.YtihlneenajlhoaaGreatDoor
