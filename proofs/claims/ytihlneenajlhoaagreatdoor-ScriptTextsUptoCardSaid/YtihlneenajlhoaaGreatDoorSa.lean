/-
  jalousieref27.one, kind by kind. Condition: lengths that fit; strconv's table stands.
-/
import Derived.Test.YtihlneenajlhoaaGreatDoorS5
set_option linter.unusedSimpArgs false
set_option linter.unusedVariables false
namespace Go.Proofs.YtihlneenajlhoaaGreatDoor
open Go Go.RowKit

section
variable (node at_ org : Int) (name word : ByteArray) (tv : Value) (tx : List UInt8) (wn wd hn hd bt : Int) (bn : ByteArray) (bwn bwd bhn bhd : Int) (on : Bool) (w : World) (h_node : I64 node) (h_at : I64 at_) (h_org : I64 org) (h_name : name.size ≤ 1048576) (h_word : word.size ≤ 1048576) (h_tx : tx.length ≤ 1048576) (h_row : RowAt w.heap.size w tv tx.length (Lib.byteCells tx)) (h_w : I64 wn ∧ I64 wd) (h_h : I64 hn ∧ I64 hd) (h_bn : bn.size ≤ 1048576) (h_bw : I64 bwn ∧ I64 bwd) (h_bh : I64 bhn ∧ I64 bhd) (h_pow : Pow w)
include h_node h_at h_org h_name h_word h_tx h_row h_w h_h h_bn h_bw h_bh h_pow
set_option maxRecDepth 100000 in
set_option maxHeartbeats 8000000 in
/-- jalousieref27.one at kind 6. -/
theorem rone_remove : Calls Tryz.prog 43 #[.agg #[.int .i64 6, .int .i64 node, .int .i64 at_, .int .i64 org, .string name, .string word, tv, .int .i64 wn, .int .i64 wd, .int .i64 hn, .int .i64 hd, .int .i64 bt, .string bn, .int .i64 bwn, .int .i64 bwd, .int .i64 bhn, .int .i64 bhd, .bool on]] w fun e w' => e = .returned (.tuple #[.string (bstr (sp.kRemove ++ 32 :: Lib.itoa node)), .bool (smallB node)]) ∧ Below w.heap.size w w' := by
  have H_node := Lib.hid h_node
  have H_at := Lib.hid h_at
  have H_org := Lib.hid h_org
  have H_name := Lib.hid h_name
  have H_word := Lib.hid h_word
  have H_tx := Lib.hid h_tx
  have H_row := Lib.hid h_row
  have H_w := Lib.hid h_w
  have H_h := Lib.hid h_h
  have H_bn := Lib.hid h_bn
  have H_bw := Lib.hid h_bw
  have H_bh := Lib.hid h_bh
  have H_pow := Lib.hid h_pow
  have z1 := size_bstr_itoa h_node
  have z2 := size_bstr_itoa h_at
  have z3 := size_bstr_itoa h_org
  have z4 := h_name
  have z5 := h_word
  have z6 : (bstr tx).size ≤ 1048576 := by rw [bstr_size]; exact h_tx
  have z7 : (bstr (sp.quoteS word.data.toList)).size ≤ 5000000 := by rw [bstr_size]; have := quoteS_len word.data.toList; rw [datLen] at this; omega
  have z8 : (bstr (sp.quoteS (bstr tx).data.toList)).size ≤ 5000000 := by rw [bstr_size]; have := quoteS_len (bstr tx).data.toList; rw [datLen] at this; omega
  have hA := Opw.new #[.int .i64 6, .int .i64 node, .int .i64 at_, .int .i64 org, .string name, .string word, tv, .int .i64 wn, .int .i64 wd, .int .i64 hn, .int .i64 hd, .int .i64 bt, .string bn, .int .i64 bwn, .int .i64 bwd, .int .i64 bhn, .int .i64 bhd, .bool on] w
  have c0 := hA.cell 0 _ (by rfl)
  have c1 := hA.cell 1 _ (by rfl)
  have c4 := hA.cell 4 _ (by rfl)
  have AX := Lib.hid hA
  clear hA h_node h_at h_org h_name h_word h_tx h_row h_w h_h h_bn h_bw h_bh h_pow
  cases hsm : smallB node
  all_goals
    have HSM := Lib.hid hsm
    clear hsm
    go_enter Tryz.func43, Tryz.ntmps43
    go_wp2_with (first | (go_at_call 34; refine (itoa_any _ _ H_node.out (H_pow.out.on AX.out.1)).mono ?_; rintro e w1 ⟨rfl, hb⟩; have AN := Lib.hid (AX.out.below hb); clear AX hb; have AX := AN; clear AN; clear c0; have c0 := AX.out.cell 0 _ (by rfl); clear c1; have c1 := AX.out.cell 1 _ (by rfl); clear c4; have c4 := AX.out.cell 4 _ (by rfl)) | (go_at_call 83; refine (rplain_any _ _ H_name.out).mono ?_; rintro e w2 ⟨rfl, hb⟩; skip; have AN := Lib.hid (AX.out.below hb); clear AX hb; have AX := AN; clear AN; clear c0; have c0 := AX.out.cell 0 _ (by rfl); clear c1; have c1 := AX.out.cell 1 _ (by rfl); clear c4; have c4 := AX.out.cell 4 _ (by rfl)) | (go_at_call 82; refine (rsmall_any _ _).mono ?_; rintro e w' ⟨rfl, hw⟩; first | rw [hw, HSM.out] | rw [hw]; clear hw))
    go_ret2
    refine ⟨ones_eq ?_ ?_, AX.out.1⟩
    · first
      | rfl
      | (apply ByteArray.ext; simp [bstr])
    · first
      | rfl
      | simp
set_option maxRecDepth 100000 in
set_option maxHeartbeats 8000000 in
/-- jalousieref27.one at kind 12. -/
theorem rone_rules : Calls Tryz.prog 43 #[.agg #[.int .i64 12, .int .i64 node, .int .i64 at_, .int .i64 org, .string name, .string word, tv, .int .i64 wn, .int .i64 wd, .int .i64 hn, .int .i64 hd, .int .i64 bt, .string bn, .int .i64 bwn, .int .i64 bwd, .int .i64 bhn, .int .i64 bhd, .bool on]] w fun e w' => e = .returned (.tuple #[.string (bstr (sp.kRules ++ 32 :: Lib.itoa node)), .bool (smallB node)]) ∧ Below w.heap.size w w' := by
  have H_node := Lib.hid h_node
  have H_at := Lib.hid h_at
  have H_org := Lib.hid h_org
  have H_name := Lib.hid h_name
  have H_word := Lib.hid h_word
  have H_tx := Lib.hid h_tx
  have H_row := Lib.hid h_row
  have H_w := Lib.hid h_w
  have H_h := Lib.hid h_h
  have H_bn := Lib.hid h_bn
  have H_bw := Lib.hid h_bw
  have H_bh := Lib.hid h_bh
  have H_pow := Lib.hid h_pow
  have z1 := size_bstr_itoa h_node
  have z2 := size_bstr_itoa h_at
  have z3 := size_bstr_itoa h_org
  have z4 := h_name
  have z5 := h_word
  have z6 : (bstr tx).size ≤ 1048576 := by rw [bstr_size]; exact h_tx
  have z7 : (bstr (sp.quoteS word.data.toList)).size ≤ 5000000 := by rw [bstr_size]; have := quoteS_len word.data.toList; rw [datLen] at this; omega
  have z8 : (bstr (sp.quoteS (bstr tx).data.toList)).size ≤ 5000000 := by rw [bstr_size]; have := quoteS_len (bstr tx).data.toList; rw [datLen] at this; omega
  have hA := Opw.new #[.int .i64 12, .int .i64 node, .int .i64 at_, .int .i64 org, .string name, .string word, tv, .int .i64 wn, .int .i64 wd, .int .i64 hn, .int .i64 hd, .int .i64 bt, .string bn, .int .i64 bwn, .int .i64 bwd, .int .i64 bhn, .int .i64 bhd, .bool on] w
  have c0 := hA.cell 0 _ (by rfl)
  have c1 := hA.cell 1 _ (by rfl)
  have c4 := hA.cell 4 _ (by rfl)
  have AX := Lib.hid hA
  clear hA h_node h_at h_org h_name h_word h_tx h_row h_w h_h h_bn h_bw h_bh h_pow
  cases hsm : smallB node
  all_goals
    have HSM := Lib.hid hsm
    clear hsm
    go_enter Tryz.func43, Tryz.ntmps43
    go_wp2_with (first | (go_at_call 34; refine (itoa_any _ _ H_node.out (H_pow.out.on AX.out.1)).mono ?_; rintro e w1 ⟨rfl, hb⟩; have AN := Lib.hid (AX.out.below hb); clear AX hb; have AX := AN; clear AN; clear c0; have c0 := AX.out.cell 0 _ (by rfl); clear c1; have c1 := AX.out.cell 1 _ (by rfl); clear c4; have c4 := AX.out.cell 4 _ (by rfl)) | (go_at_call 83; refine (rplain_any _ _ H_name.out).mono ?_; rintro e w2 ⟨rfl, hb⟩; skip; have AN := Lib.hid (AX.out.below hb); clear AX hb; have AX := AN; clear AN; clear c0; have c0 := AX.out.cell 0 _ (by rfl); clear c1; have c1 := AX.out.cell 1 _ (by rfl); clear c4; have c4 := AX.out.cell 4 _ (by rfl)) | (go_at_call 82; refine (rsmall_any _ _).mono ?_; rintro e w' ⟨rfl, hw⟩; first | rw [hw, HSM.out] | rw [hw]; clear hw))
    go_ret2
    refine ⟨ones_eq ?_ ?_, AX.out.1⟩
    · first
      | rfl
      | (apply ByteArray.ext; simp [bstr])
    · first
      | rfl
      | simp
end
end Go.Proofs.YtihlneenajlhoaaGreatDoor
/-
  jalousieref27.one, kind by kind. Condition: lengths that fit; strconv's table stands.
-/
set_option linter.unusedSimpArgs false
set_option linter.unusedVariables false
namespace Go.Proofs.YtihlneenajlhoaaGreatDoor
open Go Go.RowKit

section
variable (node at_ org : Int) (name word : ByteArray) (tv : Value) (tx : List UInt8) (wn wd hn hd bt : Int) (bn : ByteArray) (bwn bwd bhn bhd : Int) (on : Bool) (w : World) (h_node : I64 node) (h_at : I64 at_) (h_org : I64 org) (h_name : name.size ≤ 1048576) (h_word : word.size ≤ 1048576) (h_tx : tx.length ≤ 1048576) (h_row : RowAt w.heap.size w tv tx.length (Lib.byteCells tx)) (h_w : I64 wn ∧ I64 wd) (h_h : I64 hn ∧ I64 hd) (h_bn : bn.size ≤ 1048576) (h_bw : I64 bwn ∧ I64 bwd) (h_bh : I64 bhn ∧ I64 bhd) (h_pow : Pow w)
include h_node h_at h_org h_name h_word h_tx h_row h_w h_h h_bn h_bw h_bh h_pow
set_option maxRecDepth 100000 in
set_option maxHeartbeats 8000000 in
/-- jalousieref27.one at kind 7. -/
theorem rone_set : Calls Tryz.prog 43 #[.agg #[.int .i64 7, .int .i64 node, .int .i64 at_, .int .i64 org, .string name, .string word, tv, .int .i64 wn, .int .i64 wd, .int .i64 hn, .int .i64 hd, .int .i64 bt, .string bn, .int .i64 bwn, .int .i64 bwd, .int .i64 bhn, .int .i64 bhd, .bool on]] w fun e w' => e = .returned (.tuple #[.string (bstr (sp.kSet ++ 32 :: Lib.itoa node ++ 32 :: name.data.toList ++ 32 :: sp.quoteS word.data.toList)), .bool (smallB node && plainV name)]) ∧ Below w.heap.size w w' := by
  have H_node := Lib.hid h_node
  have H_at := Lib.hid h_at
  have H_org := Lib.hid h_org
  have H_name := Lib.hid h_name
  have H_word := Lib.hid h_word
  have H_tx := Lib.hid h_tx
  have H_row := Lib.hid h_row
  have H_w := Lib.hid h_w
  have H_h := Lib.hid h_h
  have H_bn := Lib.hid h_bn
  have H_bw := Lib.hid h_bw
  have H_bh := Lib.hid h_bh
  have H_pow := Lib.hid h_pow
  have z1 := size_bstr_itoa h_node
  have z2 := size_bstr_itoa h_at
  have z3 := size_bstr_itoa h_org
  have z4 := h_name
  have z5 := h_word
  have z6 : (bstr tx).size ≤ 1048576 := by rw [bstr_size]; exact h_tx
  have z7 : (bstr (sp.quoteS word.data.toList)).size ≤ 5000000 := by rw [bstr_size]; have := quoteS_len word.data.toList; rw [datLen] at this; omega
  have z8 : (bstr (sp.quoteS (bstr tx).data.toList)).size ≤ 5000000 := by rw [bstr_size]; have := quoteS_len (bstr tx).data.toList; rw [datLen] at this; omega
  have hA := Opw.new #[.int .i64 7, .int .i64 node, .int .i64 at_, .int .i64 org, .string name, .string word, tv, .int .i64 wn, .int .i64 wd, .int .i64 hn, .int .i64 hd, .int .i64 bt, .string bn, .int .i64 bwn, .int .i64 bwd, .int .i64 bhn, .int .i64 bhd, .bool on] w
  have c0 := hA.cell 0 _ (by rfl)
  have c1 := hA.cell 1 _ (by rfl)
  have c4 := hA.cell 4 _ (by rfl)
  have c5 := hA.cell 5 _ (by rfl)
  have AX := Lib.hid hA
  clear hA h_node h_at h_org h_name h_word h_tx h_row h_w h_h h_bn h_bw h_bh h_pow
  cases hsm : smallB node
  · have HSM := Lib.hid hsm
    clear hsm
    go_enter Tryz.func43, Tryz.ntmps43
    go_wp2_with (first | (go_at_call 34; refine (itoa_any _ _ H_node.out (H_pow.out.on AX.out.1)).mono ?_; rintro e w1 ⟨rfl, hb⟩; have AN := Lib.hid (AX.out.below hb); clear AX hb; have AX := AN; clear AN; clear c0; have c0 := AX.out.cell 0 _ (by rfl); clear c1; have c1 := AX.out.cell 1 _ (by rfl); clear c4; have c4 := AX.out.cell 4 _ (by rfl); clear c5; have c5 := AX.out.cell 5 _ (by rfl)) | (go_at_call 83; refine (rplain_any _ _ H_name.out).mono ?_; rintro e w2 ⟨rfl, hb⟩; skip; have AN := Lib.hid (AX.out.below hb); clear AX hb; have AX := AN; clear AN; clear c0; have c0 := AX.out.cell 0 _ (by rfl); clear c1; have c1 := AX.out.cell 1 _ (by rfl); clear c4; have c4 := AX.out.cell 4 _ (by rfl); clear c5; have c5 := AX.out.cell 5 _ (by rfl)) | (go_at_call 82; refine (rsmall_any _ _).mono ?_; rintro e w' ⟨rfl, hw⟩; first | rw [hw, HSM.out] | rw [hw]; clear hw))
    refine wp_region_held_drew (S := Opw #[.int .i64 7, .int .i64 node, .int .i64 at_, .int .i64 org, .string name, .string word, tv, .int .i64 wn, .int .i64 wd, .int .i64 hn, .int .i64 hd, .int .i64 bt, .string bn, .int .i64 bwn, .int .i64 bwd, .int .i64 bhn, .int .i64 bhd, .bool on] w) (by kernel_rfl) AX.out.drew (fun hHeld => ?_)
    refine wpAnyH_take (i := 0) (v := .string (bstr (Lib.itoa node))) rfl (by kernel_rfl) (by kernel_rfl) (by kernel_rfl) (fun _ _ _ h => h) (Or.inl ⟨by kernel_rfl, fun s hs => by have c0 := hs.cell 0 _ (by rfl); have c1 := hs.cell 1 _ (by rfl); have c4 := hs.cell 4 _ (by rfl); have c5 := hs.cell 5 _ (by rfl); go_simp <;> omega⟩) hHeld ?_
    refine wpAnyH_take (i := 1) (v := .string (⟨#[115, 101, 116, 32]⟩ ++ bstr (Lib.itoa node))) rfl (by kernel_rfl) (by kernel_rfl) (by kernel_rfl) (fun _ _ _ h => h) (Or.inl ⟨by kernel_rfl, fun s hs => by have c0 := hs.cell 0 _ (by rfl); have c1 := hs.cell 1 _ (by rfl); have c4 := hs.cell 4 _ (by rfl); have c5 := hs.cell 5 _ (by rfl); go_simp <;> omega⟩) hHeld ?_
    refine wpAnyH_take (i := 2) (v := .string ((⟨#[115, 101, 116, 32]⟩ ++ bstr (Lib.itoa node)) ++ ⟨#[32]⟩)) rfl (by kernel_rfl) (by kernel_rfl) (by kernel_rfl) (fun _ _ _ h => h) (Or.inl ⟨by kernel_rfl, fun s hs => by have c0 := hs.cell 0 _ (by rfl); have c1 := hs.cell 1 _ (by rfl); have c4 := hs.cell 4 _ (by rfl); have c5 := hs.cell 5 _ (by rfl); go_simp <;> omega⟩) hHeld ?_
    refine wpAnyH_take (i := 3) (v := .pointer (some ⟨w.heap.size, 4, none⟩)) rfl (by kernel_rfl) (by kernel_rfl) (by kernel_rfl) (fun _ _ _ h => h) (Or.inl ⟨by kernel_rfl, fun s hs => by have c0 := hs.cell 0 _ (by rfl); have c1 := hs.cell 1 _ (by rfl); have c4 := hs.cell 4 _ (by rfl); have c5 := hs.cell 5 _ (by rfl); go_simp <;> omega⟩) hHeld ?_
    refine wpAnyH_take (i := 4) (v := .string name) rfl (by kernel_rfl) (by kernel_rfl) (by kernel_rfl) (fun _ _ _ h => h) (Or.inl ⟨by kernel_rfl, fun s hs => by have c0 := hs.cell 0 _ (by rfl); have c1 := hs.cell 1 _ (by rfl); have c4 := hs.cell 4 _ (by rfl); have c5 := hs.cell 5 _ (by rfl); go_simp <;> omega⟩) hHeld ?_
    refine wpAnyH_take (i := 5) (v := .string (((⟨#[115, 101, 116, 32]⟩ ++ bstr (Lib.itoa node)) ++ ⟨#[32]⟩) ++ name)) rfl (by kernel_rfl) (by kernel_rfl) (by kernel_rfl) (fun _ _ _ h => h) (Or.inl ⟨by kernel_rfl, fun s hs => by have c0 := hs.cell 0 _ (by rfl); have c1 := hs.cell 1 _ (by rfl); have c4 := hs.cell 4 _ (by rfl); have c5 := hs.cell 5 _ (by rfl); go_simp <;> omega⟩) hHeld ?_
    refine wpAnyH_take (i := 6) (v := .string ((((⟨#[115, 101, 116, 32]⟩ ++ bstr (Lib.itoa node)) ++ ⟨#[32]⟩) ++ name) ++ ⟨#[32]⟩)) rfl (by kernel_rfl) (by kernel_rfl) (by kernel_rfl) (fun _ _ _ h => h) (Or.inl ⟨by kernel_rfl, fun s hs => by have c0 := hs.cell 0 _ (by rfl); have c1 := hs.cell 1 _ (by rfl); have c4 := hs.cell 4 _ (by rfl); have c5 := hs.cell 5 _ (by rfl); go_simp <;> omega⟩) hHeld ?_
    refine wpAnyH_take (i := 7) (v := .pointer (some ⟨w.heap.size, 5, none⟩)) rfl (by kernel_rfl) (by kernel_rfl) (by kernel_rfl) (fun _ _ _ h => h) (Or.inl ⟨by kernel_rfl, fun s hs => by have c0 := hs.cell 0 _ (by rfl); have c1 := hs.cell 1 _ (by rfl); have c4 := hs.cell 4 _ (by rfl); have c5 := hs.cell 5 _ (by rfl); go_simp <;> omega⟩) hHeld ?_
    refine wpAnyH_take (i := 8) (v := .string word) rfl (by kernel_rfl) (by kernel_rfl) (by kernel_rfl) (fun _ _ _ h => h) (Or.inl ⟨by kernel_rfl, fun s hs => by have c0 := hs.cell 0 _ (by rfl); have c1 := hs.cell 1 _ (by rfl); have c4 := hs.cell 4 _ (by rfl); have c5 := hs.cell 5 _ (by rfl); go_simp <;> omega⟩) hHeld ?_
    refine wpAnyH_take (i := 11) (v := .bool (false)) rfl (by kernel_rfl) (by kernel_rfl) (by kernel_rfl) (fun _ _ _ h => h) (Or.inl ⟨by kernel_rfl, fun s hs => by have c0 := hs.cell 0 _ (by rfl); have c1 := hs.cell 1 _ (by rfl); have c4 := hs.cell 4 _ (by rfl); have c5 := hs.cell 5 _ (by rfl); go_simp <;> omega⟩) hHeld ?_
    refine wpAnyH_ready (rs := [9]) (by kernel_rfl) (by simp) ?_
    refine AllReadyH.cons rfl (fun K hK => ?_) AllReadyH.nil
    rw [if_pos (by kernel_rfl)]
    go_simp
    refine (quote_any word _ (by omega)).mono ?_
    rintro e w6 ⟨rfl, hb⟩
    have AN := Lib.hid (AX.out.drew.below hb)
    clear AX hb
    have AX := AN
    clear AN
    refine hK _ _ AX.out (fun hHeld => ?_)
    refine wpAnyH_take (i := 10) (v := .string (((((⟨#[115, 101, 116, 32]⟩ ++ bstr (Lib.itoa node)) ++ ⟨#[32]⟩) ++ name) ++ ⟨#[32]⟩) ++ bstr (sp.quoteS word.data.toList))) rfl (by kernel_rfl) (by kernel_rfl) (by kernel_rfl) (fun _ _ _ h => h) (Or.inl ⟨by kernel_rfl, fun s hs => by have c0 := hs.cell 0 _ (by rfl); have c1 := hs.cell 1 _ (by rfl); have c4 := hs.cell 4 _ (by rfl); have c5 := hs.cell 5 _ (by rfl); go_simp <;> omega⟩) hHeld ?_
    refine wpAnyH_take (i := 12) (v := .string (((((⟨#[115, 101, 116, 32]⟩ ++ bstr (Lib.itoa node)) ++ ⟨#[32]⟩) ++ name) ++ ⟨#[32]⟩) ++ bstr (sp.quoteS word.data.toList))) rfl (by kernel_rfl) (by kernel_rfl) (by kernel_rfl) (fun _ _ _ h => h) (Or.inl ⟨by kernel_rfl, fun s hs => by have c0 := hs.cell 0 _ (by rfl); have c1 := hs.cell 1 _ (by rfl); have c4 := hs.cell 4 _ (by rfl); have c5 := hs.cell 5 _ (by rfl); go_simp <;> omega⟩) hHeld ?_
    refine wpAnyH_take (i := 13) (v := .bool (false)) rfl (by kernel_rfl) (by kernel_rfl) (by kernel_rfl) (fun _ _ _ h => h) (Or.inl ⟨by kernel_rfl, fun s hs => by have c0 := hs.cell 0 _ (by rfl); have c1 := hs.cell 1 _ (by rfl); have c4 := hs.cell 4 _ (by rfl); have c5 := hs.cell 5 _ (by rfl); go_simp <;> omega⟩) hHeld ?_
    refine wpAnyH_done (by kernel_rfl) ?_ _
    clear hHeld
    go_simp
    go_wp2
    go_ret2
    refine ⟨ones_eq ?_ ?_, AX.out.1⟩
    · first
      | rfl
      | (apply ByteArray.ext; simp [bstr])
    · first
      | rfl
      | simp
  · have HSM := Lib.hid hsm
    clear hsm
    go_enter Tryz.func43, Tryz.ntmps43
    go_wp2_with (first | (go_at_call 34; refine (itoa_any _ _ H_node.out (H_pow.out.on AX.out.1)).mono ?_; rintro e w1 ⟨rfl, hb⟩; have AN := Lib.hid (AX.out.below hb); clear AX hb; have AX := AN; clear AN; clear c0; have c0 := AX.out.cell 0 _ (by rfl); clear c1; have c1 := AX.out.cell 1 _ (by rfl); clear c4; have c4 := AX.out.cell 4 _ (by rfl); clear c5; have c5 := AX.out.cell 5 _ (by rfl)) | (go_at_call 83; refine (rplain_any _ _ H_name.out).mono ?_; rintro e w2 ⟨rfl, hb⟩; skip; have AN := Lib.hid (AX.out.below hb); clear AX hb; have AX := AN; clear AN; clear c0; have c0 := AX.out.cell 0 _ (by rfl); clear c1; have c1 := AX.out.cell 1 _ (by rfl); clear c4; have c4 := AX.out.cell 4 _ (by rfl); clear c5; have c5 := AX.out.cell 5 _ (by rfl)) | (go_at_call 82; refine (rsmall_any _ _).mono ?_; rintro e w' ⟨rfl, hw⟩; first | rw [hw, HSM.out] | rw [hw]; clear hw))
    refine wp_region_held_drew (S := Opw #[.int .i64 7, .int .i64 node, .int .i64 at_, .int .i64 org, .string name, .string word, tv, .int .i64 wn, .int .i64 wd, .int .i64 hn, .int .i64 hd, .int .i64 bt, .string bn, .int .i64 bwn, .int .i64 bwd, .int .i64 bhn, .int .i64 bhd, .bool on] w) (by kernel_rfl) AX.out.drew (fun hHeld => ?_)
    refine wpAnyH_take (i := 0) (v := .string (bstr (Lib.itoa node))) rfl (by kernel_rfl) (by kernel_rfl) (by kernel_rfl) (fun _ _ _ h => h) (Or.inl ⟨by kernel_rfl, fun s hs => by have c0 := hs.cell 0 _ (by rfl); have c1 := hs.cell 1 _ (by rfl); have c4 := hs.cell 4 _ (by rfl); have c5 := hs.cell 5 _ (by rfl); go_simp <;> omega⟩) hHeld ?_
    refine wpAnyH_take (i := 1) (v := .string (⟨#[115, 101, 116, 32]⟩ ++ bstr (Lib.itoa node))) rfl (by kernel_rfl) (by kernel_rfl) (by kernel_rfl) (fun _ _ _ h => h) (Or.inl ⟨by kernel_rfl, fun s hs => by have c0 := hs.cell 0 _ (by rfl); have c1 := hs.cell 1 _ (by rfl); have c4 := hs.cell 4 _ (by rfl); have c5 := hs.cell 5 _ (by rfl); go_simp <;> omega⟩) hHeld ?_
    refine wpAnyH_take (i := 2) (v := .string ((⟨#[115, 101, 116, 32]⟩ ++ bstr (Lib.itoa node)) ++ ⟨#[32]⟩)) rfl (by kernel_rfl) (by kernel_rfl) (by kernel_rfl) (fun _ _ _ h => h) (Or.inl ⟨by kernel_rfl, fun s hs => by have c0 := hs.cell 0 _ (by rfl); have c1 := hs.cell 1 _ (by rfl); have c4 := hs.cell 4 _ (by rfl); have c5 := hs.cell 5 _ (by rfl); go_simp <;> omega⟩) hHeld ?_
    refine wpAnyH_take (i := 3) (v := .pointer (some ⟨w.heap.size, 4, none⟩)) rfl (by kernel_rfl) (by kernel_rfl) (by kernel_rfl) (fun _ _ _ h => h) (Or.inl ⟨by kernel_rfl, fun s hs => by have c0 := hs.cell 0 _ (by rfl); have c1 := hs.cell 1 _ (by rfl); have c4 := hs.cell 4 _ (by rfl); have c5 := hs.cell 5 _ (by rfl); go_simp <;> omega⟩) hHeld ?_
    refine wpAnyH_take (i := 4) (v := .string name) rfl (by kernel_rfl) (by kernel_rfl) (by kernel_rfl) (fun _ _ _ h => h) (Or.inl ⟨by kernel_rfl, fun s hs => by have c0 := hs.cell 0 _ (by rfl); have c1 := hs.cell 1 _ (by rfl); have c4 := hs.cell 4 _ (by rfl); have c5 := hs.cell 5 _ (by rfl); go_simp <;> omega⟩) hHeld ?_
    refine wpAnyH_take (i := 5) (v := .string (((⟨#[115, 101, 116, 32]⟩ ++ bstr (Lib.itoa node)) ++ ⟨#[32]⟩) ++ name)) rfl (by kernel_rfl) (by kernel_rfl) (by kernel_rfl) (fun _ _ _ h => h) (Or.inl ⟨by kernel_rfl, fun s hs => by have c0 := hs.cell 0 _ (by rfl); have c1 := hs.cell 1 _ (by rfl); have c4 := hs.cell 4 _ (by rfl); have c5 := hs.cell 5 _ (by rfl); go_simp <;> omega⟩) hHeld ?_
    refine wpAnyH_take (i := 6) (v := .string ((((⟨#[115, 101, 116, 32]⟩ ++ bstr (Lib.itoa node)) ++ ⟨#[32]⟩) ++ name) ++ ⟨#[32]⟩)) rfl (by kernel_rfl) (by kernel_rfl) (by kernel_rfl) (fun _ _ _ h => h) (Or.inl ⟨by kernel_rfl, fun s hs => by have c0 := hs.cell 0 _ (by rfl); have c1 := hs.cell 1 _ (by rfl); have c4 := hs.cell 4 _ (by rfl); have c5 := hs.cell 5 _ (by rfl); go_simp <;> omega⟩) hHeld ?_
    refine wpAnyH_take (i := 7) (v := .pointer (some ⟨w.heap.size, 5, none⟩)) rfl (by kernel_rfl) (by kernel_rfl) (by kernel_rfl) (fun _ _ _ h => h) (Or.inl ⟨by kernel_rfl, fun s hs => by have c0 := hs.cell 0 _ (by rfl); have c1 := hs.cell 1 _ (by rfl); have c4 := hs.cell 4 _ (by rfl); have c5 := hs.cell 5 _ (by rfl); go_simp <;> omega⟩) hHeld ?_
    refine wpAnyH_take (i := 8) (v := .string word) rfl (by kernel_rfl) (by kernel_rfl) (by kernel_rfl) (fun _ _ _ h => h) (Or.inl ⟨by kernel_rfl, fun s hs => by have c0 := hs.cell 0 _ (by rfl); have c1 := hs.cell 1 _ (by rfl); have c4 := hs.cell 4 _ (by rfl); have c5 := hs.cell 5 _ (by rfl); go_simp <;> omega⟩) hHeld ?_
    refine wpAnyH_take (i := 11) (v := .bool (plainV name)) rfl (by kernel_rfl) (by kernel_rfl) (by kernel_rfl) (fun _ _ _ h => h) (Or.inl ⟨by kernel_rfl, fun s hs => by have c0 := hs.cell 0 _ (by rfl); have c1 := hs.cell 1 _ (by rfl); have c4 := hs.cell 4 _ (by rfl); have c5 := hs.cell 5 _ (by rfl); go_simp <;> omega⟩) hHeld ?_
    refine wpAnyH_ready (rs := [9]) (by kernel_rfl) (by simp) ?_
    refine AllReadyH.cons rfl (fun K hK => ?_) AllReadyH.nil
    rw [if_pos (by kernel_rfl)]
    go_simp
    refine (quote_any word _ (by omega)).mono ?_
    rintro e w6 ⟨rfl, hb⟩
    have AN := Lib.hid (AX.out.drew.below hb)
    clear AX hb
    have AX := AN
    clear AN
    refine hK _ _ AX.out (fun hHeld => ?_)
    refine wpAnyH_take (i := 10) (v := .string (((((⟨#[115, 101, 116, 32]⟩ ++ bstr (Lib.itoa node)) ++ ⟨#[32]⟩) ++ name) ++ ⟨#[32]⟩) ++ bstr (sp.quoteS word.data.toList))) rfl (by kernel_rfl) (by kernel_rfl) (by kernel_rfl) (fun _ _ _ h => h) (Or.inl ⟨by kernel_rfl, fun s hs => by have c0 := hs.cell 0 _ (by rfl); have c1 := hs.cell 1 _ (by rfl); have c4 := hs.cell 4 _ (by rfl); have c5 := hs.cell 5 _ (by rfl); go_simp <;> omega⟩) hHeld ?_
    refine wpAnyH_take (i := 12) (v := .string (((((⟨#[115, 101, 116, 32]⟩ ++ bstr (Lib.itoa node)) ++ ⟨#[32]⟩) ++ name) ++ ⟨#[32]⟩) ++ bstr (sp.quoteS word.data.toList))) rfl (by kernel_rfl) (by kernel_rfl) (by kernel_rfl) (fun _ _ _ h => h) (Or.inl ⟨by kernel_rfl, fun s hs => by have c0 := hs.cell 0 _ (by rfl); have c1 := hs.cell 1 _ (by rfl); have c4 := hs.cell 4 _ (by rfl); have c5 := hs.cell 5 _ (by rfl); go_simp <;> omega⟩) hHeld ?_
    refine wpAnyH_take (i := 13) (v := .bool (plainV name)) rfl (by kernel_rfl) (by kernel_rfl) (by kernel_rfl) (fun _ _ _ h => h) (Or.inl ⟨by kernel_rfl, fun s hs => by have c0 := hs.cell 0 _ (by rfl); have c1 := hs.cell 1 _ (by rfl); have c4 := hs.cell 4 _ (by rfl); have c5 := hs.cell 5 _ (by rfl); go_simp <;> omega⟩) hHeld ?_
    refine wpAnyH_done (by kernel_rfl) ?_ _
    clear hHeld
    go_simp
    go_wp2
    go_ret2
    refine ⟨ones_eq ?_ ?_, AX.out.1⟩
    · first
      | rfl
      | (apply ByteArray.ext; simp [bstr])
    · first
      | rfl
      | simp
end
end Go.Proofs.YtihlneenajlhoaaGreatDoor
/-
  jalousieref27.one, kind by kind. Condition: lengths that fit; strconv's table stands.
-/
set_option linter.unusedSimpArgs false
set_option linter.unusedVariables false
namespace Go.Proofs.YtihlneenajlhoaaGreatDoor
open Go Go.RowKit

section
variable (node at_ org : Int) (name word : ByteArray) (tv : Value) (tx : List UInt8) (wn wd hn hd bt : Int) (bn : ByteArray) (bwn bwd bhn bhd : Int) (on : Bool) (w : World) (h_node : I64 node) (h_at : I64 at_) (h_org : I64 org) (h_name : name.size ≤ 1048576) (h_word : word.size ≤ 1048576) (h_tx : tx.length ≤ 1048576) (h_row : RowAt w.heap.size w tv tx.length (Lib.byteCells tx)) (h_w : I64 wn ∧ I64 wd) (h_h : I64 hn ∧ I64 hd) (h_bn : bn.size ≤ 1048576) (h_bw : I64 bwn ∧ I64 bwd) (h_bh : I64 bhn ∧ I64 bhd) (h_pow : Pow w)
include h_node h_at h_org h_name h_word h_tx h_row h_w h_h h_bn h_bw h_bh h_pow
set_option maxRecDepth 100000 in
set_option maxHeartbeats 8000000 in
/-- jalousieref27.one at kind 8. -/
theorem rone_unset : Calls Tryz.prog 43 #[.agg #[.int .i64 8, .int .i64 node, .int .i64 at_, .int .i64 org, .string name, .string word, tv, .int .i64 wn, .int .i64 wd, .int .i64 hn, .int .i64 hd, .int .i64 bt, .string bn, .int .i64 bwn, .int .i64 bwd, .int .i64 bhn, .int .i64 bhd, .bool on]] w fun e w' => e = .returned (.tuple #[.string (bstr (sp.kUnset ++ 32 :: Lib.itoa node ++ 32 :: name.data.toList)), .bool (smallB node && plainV name)]) ∧ Below w.heap.size w w' := by
  have H_node := Lib.hid h_node
  have H_at := Lib.hid h_at
  have H_org := Lib.hid h_org
  have H_name := Lib.hid h_name
  have H_word := Lib.hid h_word
  have H_tx := Lib.hid h_tx
  have H_row := Lib.hid h_row
  have H_w := Lib.hid h_w
  have H_h := Lib.hid h_h
  have H_bn := Lib.hid h_bn
  have H_bw := Lib.hid h_bw
  have H_bh := Lib.hid h_bh
  have H_pow := Lib.hid h_pow
  have z1 := size_bstr_itoa h_node
  have z2 := size_bstr_itoa h_at
  have z3 := size_bstr_itoa h_org
  have z4 := h_name
  have z5 := h_word
  have z6 : (bstr tx).size ≤ 1048576 := by rw [bstr_size]; exact h_tx
  have z7 : (bstr (sp.quoteS word.data.toList)).size ≤ 5000000 := by rw [bstr_size]; have := quoteS_len word.data.toList; rw [datLen] at this; omega
  have z8 : (bstr (sp.quoteS (bstr tx).data.toList)).size ≤ 5000000 := by rw [bstr_size]; have := quoteS_len (bstr tx).data.toList; rw [datLen] at this; omega
  have hA := Opw.new #[.int .i64 8, .int .i64 node, .int .i64 at_, .int .i64 org, .string name, .string word, tv, .int .i64 wn, .int .i64 wd, .int .i64 hn, .int .i64 hd, .int .i64 bt, .string bn, .int .i64 bwn, .int .i64 bwd, .int .i64 bhn, .int .i64 bhd, .bool on] w
  have c0 := hA.cell 0 _ (by rfl)
  have c1 := hA.cell 1 _ (by rfl)
  have c4 := hA.cell 4 _ (by rfl)
  have AX := Lib.hid hA
  clear hA h_node h_at h_org h_name h_word h_tx h_row h_w h_h h_bn h_bw h_bh h_pow
  cases hsm : smallB node
  all_goals
    have HSM := Lib.hid hsm
    clear hsm
    go_enter Tryz.func43, Tryz.ntmps43
    go_wp2_with (first | (go_at_call 34; refine (itoa_any _ _ H_node.out (H_pow.out.on AX.out.1)).mono ?_; rintro e w1 ⟨rfl, hb⟩; have AN := Lib.hid (AX.out.below hb); clear AX hb; have AX := AN; clear AN; clear c0; have c0 := AX.out.cell 0 _ (by rfl); clear c1; have c1 := AX.out.cell 1 _ (by rfl); clear c4; have c4 := AX.out.cell 4 _ (by rfl)) | (go_at_call 83; refine (rplain_any _ _ H_name.out).mono ?_; rintro e w2 ⟨rfl, hb⟩; skip; have AN := Lib.hid (AX.out.below hb); clear AX hb; have AX := AN; clear AN; clear c0; have c0 := AX.out.cell 0 _ (by rfl); clear c1; have c1 := AX.out.cell 1 _ (by rfl); clear c4; have c4 := AX.out.cell 4 _ (by rfl)) | (go_at_call 82; refine (rsmall_any _ _).mono ?_; rintro e w' ⟨rfl, hw⟩; first | rw [hw, HSM.out] | rw [hw]; clear hw))
    go_ret2
    refine ⟨ones_eq ?_ ?_, AX.out.1⟩
    · first
      | rfl
      | (apply ByteArray.ext; simp [bstr])
    · first
      | rfl
      | simp
set_option maxRecDepth 100000 in
set_option maxHeartbeats 8000000 in
/-- jalousieref27.one at kind 10. -/
theorem rone_ask : Calls Tryz.prog 43 #[.agg #[.int .i64 10, .int .i64 node, .int .i64 at_, .int .i64 org, .string name, .string word, tv, .int .i64 wn, .int .i64 wd, .int .i64 hn, .int .i64 hd, .int .i64 bt, .string bn, .int .i64 bwn, .int .i64 bwd, .int .i64 bhn, .int .i64 bhd, .bool on]] w fun e w' => e = .returned (.tuple #[.string (bstr (sp.kAsk ++ 32 :: Lib.itoa node ++ 32 :: name.data.toList)), .bool (smallB node && plainV name)]) ∧ Below w.heap.size w w' := by
  have H_node := Lib.hid h_node
  have H_at := Lib.hid h_at
  have H_org := Lib.hid h_org
  have H_name := Lib.hid h_name
  have H_word := Lib.hid h_word
  have H_tx := Lib.hid h_tx
  have H_row := Lib.hid h_row
  have H_w := Lib.hid h_w
  have H_h := Lib.hid h_h
  have H_bn := Lib.hid h_bn
  have H_bw := Lib.hid h_bw
  have H_bh := Lib.hid h_bh
  have H_pow := Lib.hid h_pow
  have z1 := size_bstr_itoa h_node
  have z2 := size_bstr_itoa h_at
  have z3 := size_bstr_itoa h_org
  have z4 := h_name
  have z5 := h_word
  have z6 : (bstr tx).size ≤ 1048576 := by rw [bstr_size]; exact h_tx
  have z7 : (bstr (sp.quoteS word.data.toList)).size ≤ 5000000 := by rw [bstr_size]; have := quoteS_len word.data.toList; rw [datLen] at this; omega
  have z8 : (bstr (sp.quoteS (bstr tx).data.toList)).size ≤ 5000000 := by rw [bstr_size]; have := quoteS_len (bstr tx).data.toList; rw [datLen] at this; omega
  have hA := Opw.new #[.int .i64 10, .int .i64 node, .int .i64 at_, .int .i64 org, .string name, .string word, tv, .int .i64 wn, .int .i64 wd, .int .i64 hn, .int .i64 hd, .int .i64 bt, .string bn, .int .i64 bwn, .int .i64 bwd, .int .i64 bhn, .int .i64 bhd, .bool on] w
  have c0 := hA.cell 0 _ (by rfl)
  have c1 := hA.cell 1 _ (by rfl)
  have c4 := hA.cell 4 _ (by rfl)
  have AX := Lib.hid hA
  clear hA h_node h_at h_org h_name h_word h_tx h_row h_w h_h h_bn h_bw h_bh h_pow
  cases hsm : smallB node
  all_goals
    have HSM := Lib.hid hsm
    clear hsm
    go_enter Tryz.func43, Tryz.ntmps43
    go_wp2_with (first | (go_at_call 34; refine (itoa_any _ _ H_node.out (H_pow.out.on AX.out.1)).mono ?_; rintro e w1 ⟨rfl, hb⟩; have AN := Lib.hid (AX.out.below hb); clear AX hb; have AX := AN; clear AN; clear c0; have c0 := AX.out.cell 0 _ (by rfl); clear c1; have c1 := AX.out.cell 1 _ (by rfl); clear c4; have c4 := AX.out.cell 4 _ (by rfl)) | (go_at_call 83; refine (rplain_any _ _ H_name.out).mono ?_; rintro e w2 ⟨rfl, hb⟩; skip; have AN := Lib.hid (AX.out.below hb); clear AX hb; have AX := AN; clear AN; clear c0; have c0 := AX.out.cell 0 _ (by rfl); clear c1; have c1 := AX.out.cell 1 _ (by rfl); clear c4; have c4 := AX.out.cell 4 _ (by rfl)) | (go_at_call 82; refine (rsmall_any _ _).mono ?_; rintro e w' ⟨rfl, hw⟩; first | rw [hw, HSM.out] | rw [hw]; clear hw))
    go_ret2
    refine ⟨ones_eq ?_ ?_, AX.out.1⟩
    · first
      | rfl
      | (apply ByteArray.ext; simp [bstr])
    · first
      | rfl
      | simp
set_option maxRecDepth 100000 in
set_option maxHeartbeats 8000000 in
/-- jalousieref27.one at kind 11. -/
theorem rone_custom : Calls Tryz.prog 43 #[.agg #[.int .i64 11, .int .i64 node, .int .i64 at_, .int .i64 org, .string name, .string word, tv, .int .i64 wn, .int .i64 wd, .int .i64 hn, .int .i64 hd, .int .i64 bt, .string bn, .int .i64 bwn, .int .i64 bwd, .int .i64 bhn, .int .i64 bhd, .bool on]] w fun e w' => e = .returned (.tuple #[.string (bstr (sp.kCustom ++ 32 :: Lib.itoa node ++ 32 :: name.data.toList)), .bool (smallB node && plainV name)]) ∧ Below w.heap.size w w' := by
  have H_node := Lib.hid h_node
  have H_at := Lib.hid h_at
  have H_org := Lib.hid h_org
  have H_name := Lib.hid h_name
  have H_word := Lib.hid h_word
  have H_tx := Lib.hid h_tx
  have H_row := Lib.hid h_row
  have H_w := Lib.hid h_w
  have H_h := Lib.hid h_h
  have H_bn := Lib.hid h_bn
  have H_bw := Lib.hid h_bw
  have H_bh := Lib.hid h_bh
  have H_pow := Lib.hid h_pow
  have z1 := size_bstr_itoa h_node
  have z2 := size_bstr_itoa h_at
  have z3 := size_bstr_itoa h_org
  have z4 := h_name
  have z5 := h_word
  have z6 : (bstr tx).size ≤ 1048576 := by rw [bstr_size]; exact h_tx
  have z7 : (bstr (sp.quoteS word.data.toList)).size ≤ 5000000 := by rw [bstr_size]; have := quoteS_len word.data.toList; rw [datLen] at this; omega
  have z8 : (bstr (sp.quoteS (bstr tx).data.toList)).size ≤ 5000000 := by rw [bstr_size]; have := quoteS_len (bstr tx).data.toList; rw [datLen] at this; omega
  have hA := Opw.new #[.int .i64 11, .int .i64 node, .int .i64 at_, .int .i64 org, .string name, .string word, tv, .int .i64 wn, .int .i64 wd, .int .i64 hn, .int .i64 hd, .int .i64 bt, .string bn, .int .i64 bwn, .int .i64 bwd, .int .i64 bhn, .int .i64 bhd, .bool on] w
  have c0 := hA.cell 0 _ (by rfl)
  have c1 := hA.cell 1 _ (by rfl)
  have c4 := hA.cell 4 _ (by rfl)
  have AX := Lib.hid hA
  clear hA h_node h_at h_org h_name h_word h_tx h_row h_w h_h h_bn h_bw h_bh h_pow
  cases hsm : smallB node
  all_goals
    have HSM := Lib.hid hsm
    clear hsm
    go_enter Tryz.func43, Tryz.ntmps43
    go_wp2_with (first | (go_at_call 34; refine (itoa_any _ _ H_node.out (H_pow.out.on AX.out.1)).mono ?_; rintro e w1 ⟨rfl, hb⟩; have AN := Lib.hid (AX.out.below hb); clear AX hb; have AX := AN; clear AN; clear c0; have c0 := AX.out.cell 0 _ (by rfl); clear c1; have c1 := AX.out.cell 1 _ (by rfl); clear c4; have c4 := AX.out.cell 4 _ (by rfl)) | (go_at_call 83; refine (rplain_any _ _ H_name.out).mono ?_; rintro e w2 ⟨rfl, hb⟩; skip; have AN := Lib.hid (AX.out.below hb); clear AX hb; have AX := AN; clear AN; clear c0; have c0 := AX.out.cell 0 _ (by rfl); clear c1; have c1 := AX.out.cell 1 _ (by rfl); clear c4; have c4 := AX.out.cell 4 _ (by rfl)) | (go_at_call 82; refine (rsmall_any _ _).mono ?_; rintro e w' ⟨rfl, hw⟩; first | rw [hw, HSM.out] | rw [hw]; clear hw))
    go_ret2
    refine ⟨ones_eq ?_ ?_, AX.out.1⟩
    · first
      | rfl
      | (apply ByteArray.ext; simp [bstr])
    · first
      | rfl
      | simp
end
end Go.Proofs.YtihlneenajlhoaaGreatDoor
/-
  jalousieref27.one at a box. Condition: lengths that fit; strconv's table stands.
-/
set_option linter.unusedSimpArgs false
set_option linter.unusedVariables false
namespace Go.Proofs.YtihlneenajlhoaaGreatDoor
open Go Go.RowKit

section
variable (node at_ org : Int) (name word : ByteArray) (tv : Value) (tx : List UInt8) (wn wd hn hd bt : Int) (bn : ByteArray) (bwn bwd bhn bhd : Int) (on : Bool) (w : World) (h_node : I64 node) (h_at : I64 at_) (h_org : I64 org) (h_name : name.size ≤ 1048576) (h_word : word.size ≤ 1048576) (h_tx : tx.length ≤ 1048576) (h_row : RowAt w.heap.size w tv tx.length (Lib.byteCells tx)) (h_w : I64 wn ∧ I64 wd) (h_h : I64 hn ∧ I64 hd) (h_bn : bn.size ≤ 1048576) (h_bw : I64 bwn ∧ I64 bwd) (h_bh : I64 bhn ∧ I64 bhd) (h_pow : Pow w)
include h_node h_at h_org h_name h_word h_tx h_row h_w h_h h_bn h_bw h_bh h_pow
set_option maxRecDepth 100000 in
set_option maxHeartbeats 16000000 in
/-- jalousieref27.one at kind 9. -/
theorem rone_boxbad (hbad : (bn.toList == [45]) = true ∨ ((bn.toList == [45]) = false ∧ bn.toList.isEmpty = false ∧ plainV bn = false)) : Calls Tryz.prog 43 #[.agg #[.int .i64 9, .int .i64 node, .int .i64 at_, .int .i64 org, .string name, .string word, tv, .int .i64 wn, .int .i64 wd, .int .i64 hn, .int .i64 hd, .int .i64 bt, .string bn, .int .i64 bwn, .int .i64 bwd, .int .i64 bhn, .int .i64 bhd, .bool on]] w fun e w' => ∃ s ok', e = .returned (.tuple #[.string (bstr s), .bool ok']) ∧ ok' = boxB node bt bn (bwn, bwd) (bhn, bhd) ∧ (boxB node bt bn (bwn, bwd) (bhn, bhd) = true → s = sp.kBox ++ boxS node bt bn (bwn, bwd) (bhn, bhd)) ∧ s.length ≤ 10000000 ∧ Below w.heap.size w w' := by
  have z10 := h_bn
  have z11 : (bstr (32 :: (sp.ratS bwn bwd ++ 32 :: sp.ratS bhn bhd))).size ≤ 88 := rat_size2 (r := (bwn, bwd)) (q := (bhn, bhd)) h_bw h_bh
  have LI : Hid ((Lib.itoa node).length ≤ 21) := Lib.hid (by have := itoaLen h_node; rwa [bstr_size] at this)
  have H_node := Lib.hid h_node
  have H_at := Lib.hid h_at
  have H_org := Lib.hid h_org
  have H_name := Lib.hid h_name
  have H_word := Lib.hid h_word
  have H_tx := Lib.hid h_tx
  have H_row := Lib.hid h_row
  have H_w := Lib.hid h_w
  have H_h := Lib.hid h_h
  have H_bn := Lib.hid h_bn
  have H_bw := Lib.hid h_bw
  have H_bh := Lib.hid h_bh
  have H_pow := Lib.hid h_pow
  have z1 := size_bstr_itoa h_node
  have z2 := size_bstr_itoa h_at
  have z3 := size_bstr_itoa h_org
  have z4 := h_name
  have z5 := h_word
  have z6 : (bstr tx).size ≤ 1048576 := by rw [bstr_size]; exact h_tx
  have z7 : (bstr (sp.quoteS word.data.toList)).size ≤ 5000000 := by rw [bstr_size]; have := quoteS_len word.data.toList; rw [datLen] at this; omega
  have z8 : (bstr (sp.quoteS (bstr tx).data.toList)).size ≤ 5000000 := by rw [bstr_size]; have := quoteS_len (bstr tx).data.toList; rw [datLen] at this; omega
  have hA := Opw.new #[.int .i64 9, .int .i64 node, .int .i64 at_, .int .i64 org, .string name, .string word, tv, .int .i64 wn, .int .i64 wd, .int .i64 hn, .int .i64 hd, .int .i64 bt, .string bn, .int .i64 bwn, .int .i64 bwd, .int .i64 bhn, .int .i64 bhd, .bool on] w
  have c0 := hA.cell 0 _ (by rfl)
  have c1 := hA.cell 1 _ (by rfl)
  have c4 := hA.cell 4 _ (by rfl)
  have c11 := hA.cell 11 _ (by rfl)
  have c12 := hA.cell 12 _ (by rfl)
  have c13 := hA.cell 13 _ (by rfl)
  have c14 := hA.cell 14 _ (by rfl)
  have c15 := hA.cell 15 _ (by rfl)
  have c16 := hA.cell 16 _ (by rfl)
  have AX := Lib.hid hA
  clear hA h_node h_at h_org h_name h_word h_tx h_row h_w h_h h_bn h_bw h_bh h_pow
  rcases hbad with t3 | ⟨t3, t4, hpb⟩
  · have HF : Hid (boxB node bt bn (bwn, bwd) (bhn, bhd) = false) := Lib.hid (by unfold boxB; rw [t3]; simp)
    cases hsm : smallB node
    all_goals
      have HSM := Lib.hid hsm
      first
        | (have G83 : smallB node = true := hsm)
        | skip
      clear hsm
      go_enter Tryz.func43, Tryz.ntmps43
      go_wp2_with (first | (go_at_call 34; refine (itoa_any _ _ H_node.out (H_pow.out.on AX.out.1)).mono ?_; rintro e w1 ⟨rfl, hb⟩; have AN := Lib.hid (AX.out.below hb); clear AX hb; have AX := AN; clear AN; clear c0; have c0 := AX.out.cell 0 _ (by rfl); clear c1; have c1 := AX.out.cell 1 _ (by rfl); clear c4; have c4 := AX.out.cell 4 _ (by rfl); clear c11; have c11 := AX.out.cell 11 _ (by rfl); clear c12; have c12 := AX.out.cell 12 _ (by rfl); clear c13; have c13 := AX.out.cell 13 _ (by rfl); clear c14; have c14 := AX.out.cell 14 _ (by rfl); clear c15; have c15 := AX.out.cell 15 _ (by rfl); clear c16; have c16 := AX.out.cell 16 _ (by rfl)) | (go_at_call 83; clear G83; refine (rplain_any _ _ H_name.out).mono ?_; rintro e w2 ⟨rfl, hb⟩; skip; have AN := Lib.hid (AX.out.below hb); clear AX hb; have AX := AN; clear AN; clear c0; have c0 := AX.out.cell 0 _ (by rfl); clear c1; have c1 := AX.out.cell 1 _ (by rfl); clear c4; have c4 := AX.out.cell 4 _ (by rfl); clear c11; have c11 := AX.out.cell 11 _ (by rfl); clear c12; have c12 := AX.out.cell 12 _ (by rfl); clear c13; have c13 := AX.out.cell 13 _ (by rfl); clear c14; have c14 := AX.out.cell 14 _ (by rfl); clear c15; have c15 := AX.out.cell 15 _ (by rfl); clear c16; have c16 := AX.out.cell 16 _ (by rfl)) | (go_at_call 82; refine (rsmall_any _ _).mono ?_; rintro e w' ⟨rfl, hw⟩; first | rw [hw, HSM.out] | rw [hw]; clear hw) | (go_at_call 83; refine (rplain_any _ _ H_bn.out).mono ?_; rintro e w4 ⟨rfl, hb⟩; rw [HPB.out]; have AN := Lib.hid (AX.out.below hb); clear AX hb; have AX := AN; clear AN; clear c0; have c0 := AX.out.cell 0 _ (by rfl); clear c1; have c1 := AX.out.cell 1 _ (by rfl); clear c4; have c4 := AX.out.cell 4 _ (by rfl); clear c11; have c11 := AX.out.cell 11 _ (by rfl); clear c12; have c12 := AX.out.cell 12 _ (by rfl); clear c13; have c13 := AX.out.cell 13 _ (by rfl); clear c14; have c14 := AX.out.cell 14 _ (by rfl); clear c15; have c15 := AX.out.cell 15 _ (by rfl); clear c16; have c16 := AX.out.cell 16 _ (by rfl)) | (go_at_call 84; refine (rrats_new2 _ (bwn, bwd) (bhn, bhd) H_bw.out H_bh.out (H_pow.out.on AX.out.1)).mono ?_; rintro e w3 ⟨rfl, hb⟩; have AN := Lib.hid (AX.out.below hb); clear AX hb; have AX := AN; clear AN; clear c0; have c0 := AX.out.cell 0 _ (by rfl); clear c1; have c1 := AX.out.cell 1 _ (by rfl); clear c4; have c4 := AX.out.cell 4 _ (by rfl); clear c11; have c11 := AX.out.cell 11 _ (by rfl); clear c12; have c12 := AX.out.cell 12 _ (by rfl); clear c13; have c13 := AX.out.cell 13 _ (by rfl); clear c14; have c14 := AX.out.cell 14 _ (by rfl); clear c15; have c15 := AX.out.cell 15 _ (by rfl); clear c16; have c16 := AX.out.cell 16 _ (by rfl)))
      go_ret2
      exact ⟨[], false, rfl, HF.out.symm, (fun e => (by rw [HF.out] at e; cases e)), Nat.zero_le _, AX.out.1⟩
  · have HF : Hid (boxB node bt bn (bwn, bwd) (bhn, bhd) = false) := Lib.hid (by unfold boxB; rw [t4, hpb]; simp)
    have HPB := Lib.hid hpb
    clear hpb
    cases hsm : smallB node
    all_goals
      have HSM := Lib.hid hsm
      first
        | (have G83 : smallB node = true := hsm)
        | skip
      clear hsm
      go_enter Tryz.func43, Tryz.ntmps43
      go_wp2_with (first | (go_at_call 34; refine (itoa_any _ _ H_node.out (H_pow.out.on AX.out.1)).mono ?_; rintro e w1 ⟨rfl, hb⟩; have AN := Lib.hid (AX.out.below hb); clear AX hb; have AX := AN; clear AN; clear c0; have c0 := AX.out.cell 0 _ (by rfl); clear c1; have c1 := AX.out.cell 1 _ (by rfl); clear c4; have c4 := AX.out.cell 4 _ (by rfl); clear c11; have c11 := AX.out.cell 11 _ (by rfl); clear c12; have c12 := AX.out.cell 12 _ (by rfl); clear c13; have c13 := AX.out.cell 13 _ (by rfl); clear c14; have c14 := AX.out.cell 14 _ (by rfl); clear c15; have c15 := AX.out.cell 15 _ (by rfl); clear c16; have c16 := AX.out.cell 16 _ (by rfl)) | (go_at_call 83; clear G83; refine (rplain_any _ _ H_name.out).mono ?_; rintro e w2 ⟨rfl, hb⟩; skip; have AN := Lib.hid (AX.out.below hb); clear AX hb; have AX := AN; clear AN; clear c0; have c0 := AX.out.cell 0 _ (by rfl); clear c1; have c1 := AX.out.cell 1 _ (by rfl); clear c4; have c4 := AX.out.cell 4 _ (by rfl); clear c11; have c11 := AX.out.cell 11 _ (by rfl); clear c12; have c12 := AX.out.cell 12 _ (by rfl); clear c13; have c13 := AX.out.cell 13 _ (by rfl); clear c14; have c14 := AX.out.cell 14 _ (by rfl); clear c15; have c15 := AX.out.cell 15 _ (by rfl); clear c16; have c16 := AX.out.cell 16 _ (by rfl)) | (go_at_call 82; refine (rsmall_any _ _).mono ?_; rintro e w' ⟨rfl, hw⟩; first | rw [hw, HSM.out] | rw [hw]; clear hw) | (go_at_call 83; refine (rplain_any _ _ H_bn.out).mono ?_; rintro e w4 ⟨rfl, hb⟩; rw [HPB.out]; have AN := Lib.hid (AX.out.below hb); clear AX hb; have AX := AN; clear AN; clear c0; have c0 := AX.out.cell 0 _ (by rfl); clear c1; have c1 := AX.out.cell 1 _ (by rfl); clear c4; have c4 := AX.out.cell 4 _ (by rfl); clear c11; have c11 := AX.out.cell 11 _ (by rfl); clear c12; have c12 := AX.out.cell 12 _ (by rfl); clear c13; have c13 := AX.out.cell 13 _ (by rfl); clear c14; have c14 := AX.out.cell 14 _ (by rfl); clear c15; have c15 := AX.out.cell 15 _ (by rfl); clear c16; have c16 := AX.out.cell 16 _ (by rfl)) | (go_at_call 84; refine (rrats_new2 _ (bwn, bwd) (bhn, bhd) H_bw.out H_bh.out (H_pow.out.on AX.out.1)).mono ?_; rintro e w3 ⟨rfl, hb⟩; have AN := Lib.hid (AX.out.below hb); clear AX hb; have AX := AN; clear AN; clear c0; have c0 := AX.out.cell 0 _ (by rfl); clear c1; have c1 := AX.out.cell 1 _ (by rfl); clear c4; have c4 := AX.out.cell 4 _ (by rfl); clear c11; have c11 := AX.out.cell 11 _ (by rfl); clear c12; have c12 := AX.out.cell 12 _ (by rfl); clear c13; have c13 := AX.out.cell 13 _ (by rfl); clear c14; have c14 := AX.out.cell 14 _ (by rfl); clear c15; have c15 := AX.out.cell 15 _ (by rfl); clear c16; have c16 := AX.out.cell 16 _ (by rfl)))
      go_ret2
      exact ⟨[], false, rfl, HF.out.symm, (fun e => (by rw [HF.out] at e; cases e)), Nat.zero_le _, AX.out.1⟩
end
end Go.Proofs.YtihlneenajlhoaaGreatDoor
/-
  jalousieref27.one at a box. Condition: lengths that fit; strconv's table stands.
-/
set_option linter.unusedSimpArgs false
set_option linter.unusedVariables false
namespace Go.Proofs.YtihlneenajlhoaaGreatDoor
open Go Go.RowKit

section
variable (node at_ org : Int) (name word : ByteArray) (tv : Value) (tx : List UInt8) (wn wd hn hd bt : Int) (bn : ByteArray) (bwn bwd bhn bhd : Int) (on : Bool) (w : World) (h_node : I64 node) (h_at : I64 at_) (h_org : I64 org) (h_name : name.size ≤ 1048576) (h_word : word.size ≤ 1048576) (h_tx : tx.length ≤ 1048576) (h_row : RowAt w.heap.size w tv tx.length (Lib.byteCells tx)) (h_w : I64 wn ∧ I64 wd) (h_h : I64 hn ∧ I64 hd) (h_bn : bn.size ≤ 1048576) (h_bw : I64 bwn ∧ I64 bwd) (h_bh : I64 bhn ∧ I64 bhd) (h_pow : Pow w)
include h_node h_at h_org h_name h_word h_tx h_row h_w h_h h_bn h_bw h_bh h_pow
set_option maxRecDepth 100000 in
set_option maxHeartbeats 16000000 in
/-- jalousieref27.one at kind 9. -/
theorem rone_boxe (t3 : (bn.toList == [45]) = false) (t4 : bn.toList.isEmpty = true) : Calls Tryz.prog 43 #[.agg #[.int .i64 9, .int .i64 node, .int .i64 at_, .int .i64 org, .string name, .string word, tv, .int .i64 wn, .int .i64 wd, .int .i64 hn, .int .i64 hd, .int .i64 bt, .string bn, .int .i64 bwn, .int .i64 bwd, .int .i64 bhn, .int .i64 bhd, .bool on]] w fun e w' => ∃ s ok', e = .returned (.tuple #[.string (bstr s), .bool ok']) ∧ ok' = boxB node bt bn (bwn, bwd) (bhn, bhd) ∧ (boxB node bt bn (bwn, bwd) (bhn, bhd) = true → s = sp.kBox ++ boxS node bt bn (bwn, bwd) (bhn, bhd)) ∧ s.length ≤ 10000000 ∧ Below w.heap.size w w' := by
  have z10 := h_bn
  have z11 : (bstr (32 :: (sp.ratS bwn bwd ++ 32 :: sp.ratS bhn bhd))).size ≤ 88 := rat_size2 (r := (bwn, bwd)) (q := (bhn, bhd)) h_bw h_bh
  have LI : Hid ((Lib.itoa node).length ≤ 21) := Lib.hid (by have := itoaLen h_node; rwa [bstr_size] at this)
  have H_node := Lib.hid h_node
  have H_at := Lib.hid h_at
  have H_org := Lib.hid h_org
  have H_name := Lib.hid h_name
  have H_word := Lib.hid h_word
  have H_tx := Lib.hid h_tx
  have H_row := Lib.hid h_row
  have H_w := Lib.hid h_w
  have H_h := Lib.hid h_h
  have H_bn := Lib.hid h_bn
  have H_bw := Lib.hid h_bw
  have H_bh := Lib.hid h_bh
  have H_pow := Lib.hid h_pow
  have z1 := size_bstr_itoa h_node
  have z2 := size_bstr_itoa h_at
  have z3 := size_bstr_itoa h_org
  have z4 := h_name
  have z5 := h_word
  have z6 : (bstr tx).size ≤ 1048576 := by rw [bstr_size]; exact h_tx
  have z7 : (bstr (sp.quoteS word.data.toList)).size ≤ 5000000 := by rw [bstr_size]; have := quoteS_len word.data.toList; rw [datLen] at this; omega
  have z8 : (bstr (sp.quoteS (bstr tx).data.toList)).size ≤ 5000000 := by rw [bstr_size]; have := quoteS_len (bstr tx).data.toList; rw [datLen] at this; omega
  have hA := Opw.new #[.int .i64 9, .int .i64 node, .int .i64 at_, .int .i64 org, .string name, .string word, tv, .int .i64 wn, .int .i64 wd, .int .i64 hn, .int .i64 hd, .int .i64 bt, .string bn, .int .i64 bwn, .int .i64 bwd, .int .i64 bhn, .int .i64 bhd, .bool on] w
  have c0 := hA.cell 0 _ (by rfl)
  have c1 := hA.cell 1 _ (by rfl)
  have c4 := hA.cell 4 _ (by rfl)
  have c11 := hA.cell 11 _ (by rfl)
  have c12 := hA.cell 12 _ (by rfl)
  have c13 := hA.cell 13 _ (by rfl)
  have c14 := hA.cell 14 _ (by rfl)
  have c15 := hA.cell 15 _ (by rfl)
  have c16 := hA.cell 16 _ (by rfl)
  have AX := Lib.hid hA
  clear hA h_node h_at h_org h_name h_word h_tx h_row h_w h_h h_bn h_bw h_bh h_pow
  by_cases q1 : bt < 0
  · have t1 : decide (bt < 0) = true := decide_eq_true q1
    have HF : Hid (boxB node bt bn (bwn, bwd) (bhn, bhd) = false) := Lib.hid (by unfold boxB; rw [show decide (0 ≤ bt) = false from decide_eq_false (by omega)]; simp)
    clear q1
    cases hsm : smallB node
    all_goals
      have HSM := Lib.hid hsm
      first
        | (have G83 : smallB node = true := hsm)
        | skip
      clear hsm
      go_enter Tryz.func43, Tryz.ntmps43
      go_wp2_with (first | (go_at_call 34; refine (itoa_any _ _ H_node.out (H_pow.out.on AX.out.1)).mono ?_; rintro e w1 ⟨rfl, hb⟩; have AN := Lib.hid (AX.out.below hb); clear AX hb; have AX := AN; clear AN; clear c0; have c0 := AX.out.cell 0 _ (by rfl); clear c1; have c1 := AX.out.cell 1 _ (by rfl); clear c4; have c4 := AX.out.cell 4 _ (by rfl); clear c11; have c11 := AX.out.cell 11 _ (by rfl); clear c12; have c12 := AX.out.cell 12 _ (by rfl); clear c13; have c13 := AX.out.cell 13 _ (by rfl); clear c14; have c14 := AX.out.cell 14 _ (by rfl); clear c15; have c15 := AX.out.cell 15 _ (by rfl); clear c16; have c16 := AX.out.cell 16 _ (by rfl)) | (go_at_call 83; clear G83; refine (rplain_any _ _ H_name.out).mono ?_; rintro e w2 ⟨rfl, hb⟩; skip; have AN := Lib.hid (AX.out.below hb); clear AX hb; have AX := AN; clear AN; clear c0; have c0 := AX.out.cell 0 _ (by rfl); clear c1; have c1 := AX.out.cell 1 _ (by rfl); clear c4; have c4 := AX.out.cell 4 _ (by rfl); clear c11; have c11 := AX.out.cell 11 _ (by rfl); clear c12; have c12 := AX.out.cell 12 _ (by rfl); clear c13; have c13 := AX.out.cell 13 _ (by rfl); clear c14; have c14 := AX.out.cell 14 _ (by rfl); clear c15; have c15 := AX.out.cell 15 _ (by rfl); clear c16; have c16 := AX.out.cell 16 _ (by rfl)) | (go_at_call 82; refine (rsmall_any _ _).mono ?_; rintro e w' ⟨rfl, hw⟩; first | rw [hw, HSM.out] | rw [hw]; clear hw) | (go_at_call 83; refine (rplain_any _ _ H_bn.out).mono ?_; rintro e w4 ⟨rfl, hb⟩; rw [HPB.out]; have AN := Lib.hid (AX.out.below hb); clear AX hb; have AX := AN; clear AN; clear c0; have c0 := AX.out.cell 0 _ (by rfl); clear c1; have c1 := AX.out.cell 1 _ (by rfl); clear c4; have c4 := AX.out.cell 4 _ (by rfl); clear c11; have c11 := AX.out.cell 11 _ (by rfl); clear c12; have c12 := AX.out.cell 12 _ (by rfl); clear c13; have c13 := AX.out.cell 13 _ (by rfl); clear c14; have c14 := AX.out.cell 14 _ (by rfl); clear c15; have c15 := AX.out.cell 15 _ (by rfl); clear c16; have c16 := AX.out.cell 16 _ (by rfl)) | (go_at_call 84; refine (rrats_new2 _ (bwn, bwd) (bhn, bhd) H_bw.out H_bh.out (H_pow.out.on AX.out.1)).mono ?_; rintro e w3 ⟨rfl, hb⟩; have AN := Lib.hid (AX.out.below hb); clear AX hb; have AX := AN; clear AN; clear c0; have c0 := AX.out.cell 0 _ (by rfl); clear c1; have c1 := AX.out.cell 1 _ (by rfl); clear c4; have c4 := AX.out.cell 4 _ (by rfl); clear c11; have c11 := AX.out.cell 11 _ (by rfl); clear c12; have c12 := AX.out.cell 12 _ (by rfl); clear c13; have c13 := AX.out.cell 13 _ (by rfl); clear c14; have c14 := AX.out.cell 14 _ (by rfl); clear c15; have c15 := AX.out.cell 15 _ (by rfl); clear c16; have c16 := AX.out.cell 16 _ (by rfl)))
      go_ret2
      exact ⟨[], false, rfl, HF.out.symm, (fun e => (by rw [HF.out] at e; cases e)), Nat.zero_le _, AX.out.1⟩
  have t1 : decide (bt < 0) = false := decide_eq_false q1
  by_cases q2 : 2 < bt
  · have t2 : decide (2 < bt) = true := decide_eq_true q2
    have HF : Hid (boxB node bt bn (bwn, bwd) (bhn, bhd) = false) := Lib.hid (by unfold boxB; rw [show decide (bt ≤ 2) = false from decide_eq_false (by omega)]; simp)
    clear q1 q2
    cases hsm : smallB node
    all_goals
      have HSM := Lib.hid hsm
      first
        | (have G83 : smallB node = true := hsm)
        | skip
      clear hsm
      go_enter Tryz.func43, Tryz.ntmps43
      go_wp2_with (first | (go_at_call 34; refine (itoa_any _ _ H_node.out (H_pow.out.on AX.out.1)).mono ?_; rintro e w1 ⟨rfl, hb⟩; have AN := Lib.hid (AX.out.below hb); clear AX hb; have AX := AN; clear AN; clear c0; have c0 := AX.out.cell 0 _ (by rfl); clear c1; have c1 := AX.out.cell 1 _ (by rfl); clear c4; have c4 := AX.out.cell 4 _ (by rfl); clear c11; have c11 := AX.out.cell 11 _ (by rfl); clear c12; have c12 := AX.out.cell 12 _ (by rfl); clear c13; have c13 := AX.out.cell 13 _ (by rfl); clear c14; have c14 := AX.out.cell 14 _ (by rfl); clear c15; have c15 := AX.out.cell 15 _ (by rfl); clear c16; have c16 := AX.out.cell 16 _ (by rfl)) | (go_at_call 83; clear G83; refine (rplain_any _ _ H_name.out).mono ?_; rintro e w2 ⟨rfl, hb⟩; skip; have AN := Lib.hid (AX.out.below hb); clear AX hb; have AX := AN; clear AN; clear c0; have c0 := AX.out.cell 0 _ (by rfl); clear c1; have c1 := AX.out.cell 1 _ (by rfl); clear c4; have c4 := AX.out.cell 4 _ (by rfl); clear c11; have c11 := AX.out.cell 11 _ (by rfl); clear c12; have c12 := AX.out.cell 12 _ (by rfl); clear c13; have c13 := AX.out.cell 13 _ (by rfl); clear c14; have c14 := AX.out.cell 14 _ (by rfl); clear c15; have c15 := AX.out.cell 15 _ (by rfl); clear c16; have c16 := AX.out.cell 16 _ (by rfl)) | (go_at_call 82; refine (rsmall_any _ _).mono ?_; rintro e w' ⟨rfl, hw⟩; first | rw [hw, HSM.out] | rw [hw]; clear hw) | (go_at_call 83; refine (rplain_any _ _ H_bn.out).mono ?_; rintro e w4 ⟨rfl, hb⟩; rw [HPB.out]; have AN := Lib.hid (AX.out.below hb); clear AX hb; have AX := AN; clear AN; clear c0; have c0 := AX.out.cell 0 _ (by rfl); clear c1; have c1 := AX.out.cell 1 _ (by rfl); clear c4; have c4 := AX.out.cell 4 _ (by rfl); clear c11; have c11 := AX.out.cell 11 _ (by rfl); clear c12; have c12 := AX.out.cell 12 _ (by rfl); clear c13; have c13 := AX.out.cell 13 _ (by rfl); clear c14; have c14 := AX.out.cell 14 _ (by rfl); clear c15; have c15 := AX.out.cell 15 _ (by rfl); clear c16; have c16 := AX.out.cell 16 _ (by rfl)) | (go_at_call 84; refine (rrats_new2 _ (bwn, bwd) (bhn, bhd) H_bw.out H_bh.out (H_pow.out.on AX.out.1)).mono ?_; rintro e w3 ⟨rfl, hb⟩; have AN := Lib.hid (AX.out.below hb); clear AX hb; have AX := AN; clear AN; clear c0; have c0 := AX.out.cell 0 _ (by rfl); clear c1; have c1 := AX.out.cell 1 _ (by rfl); clear c4; have c4 := AX.out.cell 4 _ (by rfl); clear c11; have c11 := AX.out.cell 11 _ (by rfl); clear c12; have c12 := AX.out.cell 12 _ (by rfl); clear c13; have c13 := AX.out.cell 13 _ (by rfl); clear c14; have c14 := AX.out.cell 14 _ (by rfl); clear c15; have c15 := AX.out.cell 15 _ (by rfl); clear c16; have c16 := AX.out.cell 16 _ (by rfl)))
      go_ret2
      exact ⟨[], false, rfl, HF.out.symm, (fun e => (by rw [HF.out] at e; cases e)), Nat.zero_le _, AX.out.1⟩
  have t2 : decide (2 < bt) = false := decide_eq_false q2
  cases hsm : smallB node
  · have HF : Hid (boxB node bt bn (bwn, bwd) (bhn, bhd) = false) := Lib.hid (by unfold boxB; rw [hsm]; simp)
    clear q1 q2
    have HSM := Lib.hid hsm
    first
      | (have G83 : smallB node = true := hsm)
      | skip
    clear hsm
    go_enter Tryz.func43, Tryz.ntmps43
    go_wp2_with (first | (go_at_call 34; refine (itoa_any _ _ H_node.out (H_pow.out.on AX.out.1)).mono ?_; rintro e w1 ⟨rfl, hb⟩; have AN := Lib.hid (AX.out.below hb); clear AX hb; have AX := AN; clear AN; clear c0; have c0 := AX.out.cell 0 _ (by rfl); clear c1; have c1 := AX.out.cell 1 _ (by rfl); clear c4; have c4 := AX.out.cell 4 _ (by rfl); clear c11; have c11 := AX.out.cell 11 _ (by rfl); clear c12; have c12 := AX.out.cell 12 _ (by rfl); clear c13; have c13 := AX.out.cell 13 _ (by rfl); clear c14; have c14 := AX.out.cell 14 _ (by rfl); clear c15; have c15 := AX.out.cell 15 _ (by rfl); clear c16; have c16 := AX.out.cell 16 _ (by rfl)) | (go_at_call 83; clear G83; refine (rplain_any _ _ H_name.out).mono ?_; rintro e w2 ⟨rfl, hb⟩; skip; have AN := Lib.hid (AX.out.below hb); clear AX hb; have AX := AN; clear AN; clear c0; have c0 := AX.out.cell 0 _ (by rfl); clear c1; have c1 := AX.out.cell 1 _ (by rfl); clear c4; have c4 := AX.out.cell 4 _ (by rfl); clear c11; have c11 := AX.out.cell 11 _ (by rfl); clear c12; have c12 := AX.out.cell 12 _ (by rfl); clear c13; have c13 := AX.out.cell 13 _ (by rfl); clear c14; have c14 := AX.out.cell 14 _ (by rfl); clear c15; have c15 := AX.out.cell 15 _ (by rfl); clear c16; have c16 := AX.out.cell 16 _ (by rfl)) | (go_at_call 82; refine (rsmall_any _ _).mono ?_; rintro e w' ⟨rfl, hw⟩; first | rw [hw, HSM.out] | rw [hw]; clear hw) | (go_at_call 83; refine (rplain_any _ _ H_bn.out).mono ?_; rintro e w4 ⟨rfl, hb⟩; rw [HPB.out]; have AN := Lib.hid (AX.out.below hb); clear AX hb; have AX := AN; clear AN; clear c0; have c0 := AX.out.cell 0 _ (by rfl); clear c1; have c1 := AX.out.cell 1 _ (by rfl); clear c4; have c4 := AX.out.cell 4 _ (by rfl); clear c11; have c11 := AX.out.cell 11 _ (by rfl); clear c12; have c12 := AX.out.cell 12 _ (by rfl); clear c13; have c13 := AX.out.cell 13 _ (by rfl); clear c14; have c14 := AX.out.cell 14 _ (by rfl); clear c15; have c15 := AX.out.cell 15 _ (by rfl); clear c16; have c16 := AX.out.cell 16 _ (by rfl)) | (go_at_call 84; refine (rrats_new2 _ (bwn, bwd) (bhn, bhd) H_bw.out H_bh.out (H_pow.out.on AX.out.1)).mono ?_; rintro e w3 ⟨rfl, hb⟩; have AN := Lib.hid (AX.out.below hb); clear AX hb; have AX := AN; clear AN; clear c0; have c0 := AX.out.cell 0 _ (by rfl); clear c1; have c1 := AX.out.cell 1 _ (by rfl); clear c4; have c4 := AX.out.cell 4 _ (by rfl); clear c11; have c11 := AX.out.cell 11 _ (by rfl); clear c12; have c12 := AX.out.cell 12 _ (by rfl); clear c13; have c13 := AX.out.cell 13 _ (by rfl); clear c14; have c14 := AX.out.cell 14 _ (by rfl); clear c15; have c15 := AX.out.cell 15 _ (by rfl); clear c16; have c16 := AX.out.cell 16 _ (by rfl)))
    go_ret2
    exact ⟨[], false, rfl, HF.out.symm, (fun e => (by rw [HF.out] at e; cases e)), Nat.zero_le _, AX.out.1⟩
  · have hbt : bt = 0 ∨ bt = 1 ∨ bt = 2 := by omega
    clear t1 t2 q1 q2
    have HSM0 := Lib.hid hsm
    rcases hbt with rfl | rfl | rfl
    · have hix := fun W => (box_at W).1
      have HSM := Lib.hid hsm
      first
        | (have G83 : smallB node = true := hsm)
        | skip
      clear hsm
      go_enter Tryz.func43, Tryz.ntmps43
      go_wp2_with (first | (go_at_call 34; refine (itoa_any _ _ H_node.out (H_pow.out.on AX.out.1)).mono ?_; rintro e w1 ⟨rfl, hb⟩; have AN := Lib.hid (AX.out.below hb); clear AX hb; have AX := AN; clear AN; clear c0; have c0 := AX.out.cell 0 _ (by rfl); clear c1; have c1 := AX.out.cell 1 _ (by rfl); clear c4; have c4 := AX.out.cell 4 _ (by rfl); clear c11; have c11 := AX.out.cell 11 _ (by rfl); clear c12; have c12 := AX.out.cell 12 _ (by rfl); clear c13; have c13 := AX.out.cell 13 _ (by rfl); clear c14; have c14 := AX.out.cell 14 _ (by rfl); clear c15; have c15 := AX.out.cell 15 _ (by rfl); clear c16; have c16 := AX.out.cell 16 _ (by rfl)) | (go_at_call 83; clear G83; refine (rplain_any _ _ H_name.out).mono ?_; rintro e w2 ⟨rfl, hb⟩; skip; have AN := Lib.hid (AX.out.below hb); clear AX hb; have AX := AN; clear AN; clear c0; have c0 := AX.out.cell 0 _ (by rfl); clear c1; have c1 := AX.out.cell 1 _ (by rfl); clear c4; have c4 := AX.out.cell 4 _ (by rfl); clear c11; have c11 := AX.out.cell 11 _ (by rfl); clear c12; have c12 := AX.out.cell 12 _ (by rfl); clear c13; have c13 := AX.out.cell 13 _ (by rfl); clear c14; have c14 := AX.out.cell 14 _ (by rfl); clear c15; have c15 := AX.out.cell 15 _ (by rfl); clear c16; have c16 := AX.out.cell 16 _ (by rfl)) | (go_at_call 82; refine (rsmall_any _ _).mono ?_; rintro e w' ⟨rfl, hw⟩; first | rw [hw, HSM.out] | rw [hw]; clear hw) | (go_at_call 83; refine (rplain_any _ _ H_bn.out).mono ?_; rintro e w4 ⟨rfl, hb⟩; rw [HPB.out]; have AN := Lib.hid (AX.out.below hb); clear AX hb; have AX := AN; clear AN; clear c0; have c0 := AX.out.cell 0 _ (by rfl); clear c1; have c1 := AX.out.cell 1 _ (by rfl); clear c4; have c4 := AX.out.cell 4 _ (by rfl); clear c11; have c11 := AX.out.cell 11 _ (by rfl); clear c12; have c12 := AX.out.cell 12 _ (by rfl); clear c13; have c13 := AX.out.cell 13 _ (by rfl); clear c14; have c14 := AX.out.cell 14 _ (by rfl); clear c15; have c15 := AX.out.cell 15 _ (by rfl); clear c16; have c16 := AX.out.cell 16 _ (by rfl)) | (go_at_call 84; refine (rrats_new2 _ (bwn, bwd) (bhn, bhd) H_bw.out H_bh.out (H_pow.out.on AX.out.1)).mono ?_; rintro e w3 ⟨rfl, hb⟩; have AN := Lib.hid (AX.out.below hb); clear AX hb; have AX := AN; clear AN; clear c0; have c0 := AX.out.cell 0 _ (by rfl); clear c1; have c1 := AX.out.cell 1 _ (by rfl); clear c4; have c4 := AX.out.cell 4 _ (by rfl); clear c11; have c11 := AX.out.cell 11 _ (by rfl); clear c12; have c12 := AX.out.cell 12 _ (by rfl); clear c13; have c13 := AX.out.cell 13 _ (by rfl); clear c14; have c14 := AX.out.cell 14 _ (by rfl); clear c15; have c15 := AX.out.cell 15 _ (by rfl); clear c16; have c16 := AX.out.cell 16 _ (by rfl)))
      go_ret2
      refine ⟨sp.kBox ++ 32 :: Lib.itoa node ++ 32 :: sp.boxText 0 ++ 32 :: [45] ++ 32 :: sp.ratS bwn bwd ++ 32 :: sp.ratS bhn bhd, mayR (bwn, bwd) && mayR (bhn, bhd), ones_eq ?_ ?_, ?_, fun _ => ?_, ?_, AX.out.1⟩
      · apply ByteArray.ext; simp [bstr, sp.boxText, sp.kNone, sp.kInline, sp.kSize]
      · first | rfl | simp
      · unfold boxB
        rw [HSM0.out, t3, t4]
        simp
      · unfold boxS
        rw [boxWord_e t4]
        simp
      · have := LI.out; have r1 : (sp.ratS bwn bwd).length ≤ 43 := rat_len (r := (bwn, bwd)) H_bw.out; have r2 : (sp.ratS bhn bhd).length ≤ 43 := rat_len (r := (bhn, bhd)) H_bh.out; have := datLen bn; have := H_bn.out
        simp only [List.length_append, List.length_cons, List.length_nil, sp.boxText] at *
        first | omega | (simp at *; omega)
    · have hix := fun W => (box_at W).2.1
      have HSM := Lib.hid hsm
      first
        | (have G83 : smallB node = true := hsm)
        | skip
      clear hsm
      go_enter Tryz.func43, Tryz.ntmps43
      go_wp2_with (first | (go_at_call 34; refine (itoa_any _ _ H_node.out (H_pow.out.on AX.out.1)).mono ?_; rintro e w1 ⟨rfl, hb⟩; have AN := Lib.hid (AX.out.below hb); clear AX hb; have AX := AN; clear AN; clear c0; have c0 := AX.out.cell 0 _ (by rfl); clear c1; have c1 := AX.out.cell 1 _ (by rfl); clear c4; have c4 := AX.out.cell 4 _ (by rfl); clear c11; have c11 := AX.out.cell 11 _ (by rfl); clear c12; have c12 := AX.out.cell 12 _ (by rfl); clear c13; have c13 := AX.out.cell 13 _ (by rfl); clear c14; have c14 := AX.out.cell 14 _ (by rfl); clear c15; have c15 := AX.out.cell 15 _ (by rfl); clear c16; have c16 := AX.out.cell 16 _ (by rfl)) | (go_at_call 83; clear G83; refine (rplain_any _ _ H_name.out).mono ?_; rintro e w2 ⟨rfl, hb⟩; skip; have AN := Lib.hid (AX.out.below hb); clear AX hb; have AX := AN; clear AN; clear c0; have c0 := AX.out.cell 0 _ (by rfl); clear c1; have c1 := AX.out.cell 1 _ (by rfl); clear c4; have c4 := AX.out.cell 4 _ (by rfl); clear c11; have c11 := AX.out.cell 11 _ (by rfl); clear c12; have c12 := AX.out.cell 12 _ (by rfl); clear c13; have c13 := AX.out.cell 13 _ (by rfl); clear c14; have c14 := AX.out.cell 14 _ (by rfl); clear c15; have c15 := AX.out.cell 15 _ (by rfl); clear c16; have c16 := AX.out.cell 16 _ (by rfl)) | (go_at_call 82; refine (rsmall_any _ _).mono ?_; rintro e w' ⟨rfl, hw⟩; first | rw [hw, HSM.out] | rw [hw]; clear hw) | (go_at_call 83; refine (rplain_any _ _ H_bn.out).mono ?_; rintro e w4 ⟨rfl, hb⟩; rw [HPB.out]; have AN := Lib.hid (AX.out.below hb); clear AX hb; have AX := AN; clear AN; clear c0; have c0 := AX.out.cell 0 _ (by rfl); clear c1; have c1 := AX.out.cell 1 _ (by rfl); clear c4; have c4 := AX.out.cell 4 _ (by rfl); clear c11; have c11 := AX.out.cell 11 _ (by rfl); clear c12; have c12 := AX.out.cell 12 _ (by rfl); clear c13; have c13 := AX.out.cell 13 _ (by rfl); clear c14; have c14 := AX.out.cell 14 _ (by rfl); clear c15; have c15 := AX.out.cell 15 _ (by rfl); clear c16; have c16 := AX.out.cell 16 _ (by rfl)) | (go_at_call 84; refine (rrats_new2 _ (bwn, bwd) (bhn, bhd) H_bw.out H_bh.out (H_pow.out.on AX.out.1)).mono ?_; rintro e w3 ⟨rfl, hb⟩; have AN := Lib.hid (AX.out.below hb); clear AX hb; have AX := AN; clear AN; clear c0; have c0 := AX.out.cell 0 _ (by rfl); clear c1; have c1 := AX.out.cell 1 _ (by rfl); clear c4; have c4 := AX.out.cell 4 _ (by rfl); clear c11; have c11 := AX.out.cell 11 _ (by rfl); clear c12; have c12 := AX.out.cell 12 _ (by rfl); clear c13; have c13 := AX.out.cell 13 _ (by rfl); clear c14; have c14 := AX.out.cell 14 _ (by rfl); clear c15; have c15 := AX.out.cell 15 _ (by rfl); clear c16; have c16 := AX.out.cell 16 _ (by rfl)))
      go_ret2
      refine ⟨sp.kBox ++ 32 :: Lib.itoa node ++ 32 :: sp.boxText 1 ++ 32 :: [45] ++ 32 :: sp.ratS bwn bwd ++ 32 :: sp.ratS bhn bhd, mayR (bwn, bwd) && mayR (bhn, bhd), ones_eq ?_ ?_, ?_, fun _ => ?_, ?_, AX.out.1⟩
      · apply ByteArray.ext; simp [bstr, sp.boxText, sp.kNone, sp.kInline, sp.kSize]
      · first | rfl | simp
      · unfold boxB
        rw [HSM0.out, t3, t4]
        simp
      · unfold boxS
        rw [boxWord_e t4]
        simp
      · have := LI.out; have r1 : (sp.ratS bwn bwd).length ≤ 43 := rat_len (r := (bwn, bwd)) H_bw.out; have r2 : (sp.ratS bhn bhd).length ≤ 43 := rat_len (r := (bhn, bhd)) H_bh.out; have := datLen bn; have := H_bn.out
        simp only [List.length_append, List.length_cons, List.length_nil, sp.boxText] at *
        first | omega | (simp at *; omega)
    · have hix := fun W => (box_at W).2.2
      have HSM := Lib.hid hsm
      first
        | (have G83 : smallB node = true := hsm)
        | skip
      clear hsm
      go_enter Tryz.func43, Tryz.ntmps43
      go_wp2_with (first | (go_at_call 34; refine (itoa_any _ _ H_node.out (H_pow.out.on AX.out.1)).mono ?_; rintro e w1 ⟨rfl, hb⟩; have AN := Lib.hid (AX.out.below hb); clear AX hb; have AX := AN; clear AN; clear c0; have c0 := AX.out.cell 0 _ (by rfl); clear c1; have c1 := AX.out.cell 1 _ (by rfl); clear c4; have c4 := AX.out.cell 4 _ (by rfl); clear c11; have c11 := AX.out.cell 11 _ (by rfl); clear c12; have c12 := AX.out.cell 12 _ (by rfl); clear c13; have c13 := AX.out.cell 13 _ (by rfl); clear c14; have c14 := AX.out.cell 14 _ (by rfl); clear c15; have c15 := AX.out.cell 15 _ (by rfl); clear c16; have c16 := AX.out.cell 16 _ (by rfl)) | (go_at_call 83; clear G83; refine (rplain_any _ _ H_name.out).mono ?_; rintro e w2 ⟨rfl, hb⟩; skip; have AN := Lib.hid (AX.out.below hb); clear AX hb; have AX := AN; clear AN; clear c0; have c0 := AX.out.cell 0 _ (by rfl); clear c1; have c1 := AX.out.cell 1 _ (by rfl); clear c4; have c4 := AX.out.cell 4 _ (by rfl); clear c11; have c11 := AX.out.cell 11 _ (by rfl); clear c12; have c12 := AX.out.cell 12 _ (by rfl); clear c13; have c13 := AX.out.cell 13 _ (by rfl); clear c14; have c14 := AX.out.cell 14 _ (by rfl); clear c15; have c15 := AX.out.cell 15 _ (by rfl); clear c16; have c16 := AX.out.cell 16 _ (by rfl)) | (go_at_call 82; refine (rsmall_any _ _).mono ?_; rintro e w' ⟨rfl, hw⟩; first | rw [hw, HSM.out] | rw [hw]; clear hw) | (go_at_call 83; refine (rplain_any _ _ H_bn.out).mono ?_; rintro e w4 ⟨rfl, hb⟩; rw [HPB.out]; have AN := Lib.hid (AX.out.below hb); clear AX hb; have AX := AN; clear AN; clear c0; have c0 := AX.out.cell 0 _ (by rfl); clear c1; have c1 := AX.out.cell 1 _ (by rfl); clear c4; have c4 := AX.out.cell 4 _ (by rfl); clear c11; have c11 := AX.out.cell 11 _ (by rfl); clear c12; have c12 := AX.out.cell 12 _ (by rfl); clear c13; have c13 := AX.out.cell 13 _ (by rfl); clear c14; have c14 := AX.out.cell 14 _ (by rfl); clear c15; have c15 := AX.out.cell 15 _ (by rfl); clear c16; have c16 := AX.out.cell 16 _ (by rfl)) | (go_at_call 84; refine (rrats_new2 _ (bwn, bwd) (bhn, bhd) H_bw.out H_bh.out (H_pow.out.on AX.out.1)).mono ?_; rintro e w3 ⟨rfl, hb⟩; have AN := Lib.hid (AX.out.below hb); clear AX hb; have AX := AN; clear AN; clear c0; have c0 := AX.out.cell 0 _ (by rfl); clear c1; have c1 := AX.out.cell 1 _ (by rfl); clear c4; have c4 := AX.out.cell 4 _ (by rfl); clear c11; have c11 := AX.out.cell 11 _ (by rfl); clear c12; have c12 := AX.out.cell 12 _ (by rfl); clear c13; have c13 := AX.out.cell 13 _ (by rfl); clear c14; have c14 := AX.out.cell 14 _ (by rfl); clear c15; have c15 := AX.out.cell 15 _ (by rfl); clear c16; have c16 := AX.out.cell 16 _ (by rfl)))
      go_ret2
      refine ⟨sp.kBox ++ 32 :: Lib.itoa node ++ 32 :: sp.boxText 2 ++ 32 :: [45] ++ 32 :: sp.ratS bwn bwd ++ 32 :: sp.ratS bhn bhd, mayR (bwn, bwd) && mayR (bhn, bhd), ones_eq ?_ ?_, ?_, fun _ => ?_, ?_, AX.out.1⟩
      · apply ByteArray.ext; simp [bstr, sp.boxText, sp.kNone, sp.kInline, sp.kSize]
      · first | rfl | simp
      · unfold boxB
        rw [HSM0.out, t3, t4]
        simp
      · unfold boxS
        rw [boxWord_e t4]
        simp
      · have := LI.out; have r1 : (sp.ratS bwn bwd).length ≤ 43 := rat_len (r := (bwn, bwd)) H_bw.out; have r2 : (sp.ratS bhn bhd).length ≤ 43 := rat_len (r := (bhn, bhd)) H_bh.out; have := datLen bn; have := H_bn.out
        simp only [List.length_append, List.length_cons, List.length_nil, sp.boxText] at *
        first | omega | (simp at *; omega)
end
end Go.Proofs.YtihlneenajlhoaaGreatDoor
/-
  jalousieref27.one at a box. Condition: lengths that fit; strconv's table stands.
-/
set_option linter.unusedSimpArgs false
set_option linter.unusedVariables false
namespace Go.Proofs.YtihlneenajlhoaaGreatDoor
open Go Go.RowKit

section
variable (node at_ org : Int) (name word : ByteArray) (tv : Value) (tx : List UInt8) (wn wd hn hd bt : Int) (bn : ByteArray) (bwn bwd bhn bhd : Int) (on : Bool) (w : World) (h_node : I64 node) (h_at : I64 at_) (h_org : I64 org) (h_name : name.size ≤ 1048576) (h_word : word.size ≤ 1048576) (h_tx : tx.length ≤ 1048576) (h_row : RowAt w.heap.size w tv tx.length (Lib.byteCells tx)) (h_w : I64 wn ∧ I64 wd) (h_h : I64 hn ∧ I64 hd) (h_bn : bn.size ≤ 1048576) (h_bw : I64 bwn ∧ I64 bwd) (h_bh : I64 bhn ∧ I64 bhd) (h_pow : Pow w)
include h_node h_at h_org h_name h_word h_tx h_row h_w h_h h_bn h_bw h_bh h_pow
set_option maxRecDepth 100000 in
set_option maxHeartbeats 16000000 in
/-- jalousieref27.one at kind 9. -/
theorem rone_boxn (t3 : (bn.toList == [45]) = false) (t4 : bn.toList.isEmpty = false) (hpb : plainV bn = true) : Calls Tryz.prog 43 #[.agg #[.int .i64 9, .int .i64 node, .int .i64 at_, .int .i64 org, .string name, .string word, tv, .int .i64 wn, .int .i64 wd, .int .i64 hn, .int .i64 hd, .int .i64 bt, .string bn, .int .i64 bwn, .int .i64 bwd, .int .i64 bhn, .int .i64 bhd, .bool on]] w fun e w' => ∃ s ok', e = .returned (.tuple #[.string (bstr s), .bool ok']) ∧ ok' = boxB node bt bn (bwn, bwd) (bhn, bhd) ∧ (boxB node bt bn (bwn, bwd) (bhn, bhd) = true → s = sp.kBox ++ boxS node bt bn (bwn, bwd) (bhn, bhd)) ∧ s.length ≤ 10000000 ∧ Below w.heap.size w w' := by
  have z10 := h_bn
  have z11 : (bstr (32 :: (sp.ratS bwn bwd ++ 32 :: sp.ratS bhn bhd))).size ≤ 88 := rat_size2 (r := (bwn, bwd)) (q := (bhn, bhd)) h_bw h_bh
  have LI : Hid ((Lib.itoa node).length ≤ 21) := Lib.hid (by have := itoaLen h_node; rwa [bstr_size] at this)
  have H_node := Lib.hid h_node
  have H_at := Lib.hid h_at
  have H_org := Lib.hid h_org
  have H_name := Lib.hid h_name
  have H_word := Lib.hid h_word
  have H_tx := Lib.hid h_tx
  have H_row := Lib.hid h_row
  have H_w := Lib.hid h_w
  have H_h := Lib.hid h_h
  have H_bn := Lib.hid h_bn
  have H_bw := Lib.hid h_bw
  have H_bh := Lib.hid h_bh
  have H_pow := Lib.hid h_pow
  have z1 := size_bstr_itoa h_node
  have z2 := size_bstr_itoa h_at
  have z3 := size_bstr_itoa h_org
  have z4 := h_name
  have z5 := h_word
  have z6 : (bstr tx).size ≤ 1048576 := by rw [bstr_size]; exact h_tx
  have z7 : (bstr (sp.quoteS word.data.toList)).size ≤ 5000000 := by rw [bstr_size]; have := quoteS_len word.data.toList; rw [datLen] at this; omega
  have z8 : (bstr (sp.quoteS (bstr tx).data.toList)).size ≤ 5000000 := by rw [bstr_size]; have := quoteS_len (bstr tx).data.toList; rw [datLen] at this; omega
  have hA := Opw.new #[.int .i64 9, .int .i64 node, .int .i64 at_, .int .i64 org, .string name, .string word, tv, .int .i64 wn, .int .i64 wd, .int .i64 hn, .int .i64 hd, .int .i64 bt, .string bn, .int .i64 bwn, .int .i64 bwd, .int .i64 bhn, .int .i64 bhd, .bool on] w
  have c0 := hA.cell 0 _ (by rfl)
  have c1 := hA.cell 1 _ (by rfl)
  have c4 := hA.cell 4 _ (by rfl)
  have c11 := hA.cell 11 _ (by rfl)
  have c12 := hA.cell 12 _ (by rfl)
  have c13 := hA.cell 13 _ (by rfl)
  have c14 := hA.cell 14 _ (by rfl)
  have c15 := hA.cell 15 _ (by rfl)
  have c16 := hA.cell 16 _ (by rfl)
  have AX := Lib.hid hA
  clear hA h_node h_at h_org h_name h_word h_tx h_row h_w h_h h_bn h_bw h_bh h_pow
  have HPB0 := hpb
  have HPB := Lib.hid hpb
  clear hpb HPB0
  by_cases q1 : bt < 0
  · have t1 : decide (bt < 0) = true := decide_eq_true q1
    have HF : Hid (boxB node bt bn (bwn, bwd) (bhn, bhd) = false) := Lib.hid (by unfold boxB; rw [show decide (0 ≤ bt) = false from decide_eq_false (by omega)]; simp)
    clear q1
    cases hsm : smallB node
    all_goals
      have HSM := Lib.hid hsm
      first
        | (have G83 : smallB node = true := hsm)
        | skip
      clear hsm
      go_enter Tryz.func43, Tryz.ntmps43
      go_wp2_with (first | (go_at_call 34; refine (itoa_any _ _ H_node.out (H_pow.out.on AX.out.1)).mono ?_; rintro e w1 ⟨rfl, hb⟩; have AN := Lib.hid (AX.out.below hb); clear AX hb; have AX := AN; clear AN; clear c0; have c0 := AX.out.cell 0 _ (by rfl); clear c1; have c1 := AX.out.cell 1 _ (by rfl); clear c4; have c4 := AX.out.cell 4 _ (by rfl); clear c11; have c11 := AX.out.cell 11 _ (by rfl); clear c12; have c12 := AX.out.cell 12 _ (by rfl); clear c13; have c13 := AX.out.cell 13 _ (by rfl); clear c14; have c14 := AX.out.cell 14 _ (by rfl); clear c15; have c15 := AX.out.cell 15 _ (by rfl); clear c16; have c16 := AX.out.cell 16 _ (by rfl)) | (go_at_call 83; clear G83; refine (rplain_any _ _ H_name.out).mono ?_; rintro e w2 ⟨rfl, hb⟩; skip; have AN := Lib.hid (AX.out.below hb); clear AX hb; have AX := AN; clear AN; clear c0; have c0 := AX.out.cell 0 _ (by rfl); clear c1; have c1 := AX.out.cell 1 _ (by rfl); clear c4; have c4 := AX.out.cell 4 _ (by rfl); clear c11; have c11 := AX.out.cell 11 _ (by rfl); clear c12; have c12 := AX.out.cell 12 _ (by rfl); clear c13; have c13 := AX.out.cell 13 _ (by rfl); clear c14; have c14 := AX.out.cell 14 _ (by rfl); clear c15; have c15 := AX.out.cell 15 _ (by rfl); clear c16; have c16 := AX.out.cell 16 _ (by rfl)) | (go_at_call 82; refine (rsmall_any _ _).mono ?_; rintro e w' ⟨rfl, hw⟩; first | rw [hw, HSM.out] | rw [hw]; clear hw) | (go_at_call 83; refine (rplain_any _ _ H_bn.out).mono ?_; rintro e w4 ⟨rfl, hb⟩; rw [HPB.out]; have AN := Lib.hid (AX.out.below hb); clear AX hb; have AX := AN; clear AN; clear c0; have c0 := AX.out.cell 0 _ (by rfl); clear c1; have c1 := AX.out.cell 1 _ (by rfl); clear c4; have c4 := AX.out.cell 4 _ (by rfl); clear c11; have c11 := AX.out.cell 11 _ (by rfl); clear c12; have c12 := AX.out.cell 12 _ (by rfl); clear c13; have c13 := AX.out.cell 13 _ (by rfl); clear c14; have c14 := AX.out.cell 14 _ (by rfl); clear c15; have c15 := AX.out.cell 15 _ (by rfl); clear c16; have c16 := AX.out.cell 16 _ (by rfl)) | (go_at_call 84; refine (rrats_new2 _ (bwn, bwd) (bhn, bhd) H_bw.out H_bh.out (H_pow.out.on AX.out.1)).mono ?_; rintro e w3 ⟨rfl, hb⟩; have AN := Lib.hid (AX.out.below hb); clear AX hb; have AX := AN; clear AN; clear c0; have c0 := AX.out.cell 0 _ (by rfl); clear c1; have c1 := AX.out.cell 1 _ (by rfl); clear c4; have c4 := AX.out.cell 4 _ (by rfl); clear c11; have c11 := AX.out.cell 11 _ (by rfl); clear c12; have c12 := AX.out.cell 12 _ (by rfl); clear c13; have c13 := AX.out.cell 13 _ (by rfl); clear c14; have c14 := AX.out.cell 14 _ (by rfl); clear c15; have c15 := AX.out.cell 15 _ (by rfl); clear c16; have c16 := AX.out.cell 16 _ (by rfl)))
      go_ret2
      exact ⟨[], false, rfl, HF.out.symm, (fun e => (by rw [HF.out] at e; cases e)), Nat.zero_le _, AX.out.1⟩
  have t1 : decide (bt < 0) = false := decide_eq_false q1
  by_cases q2 : 2 < bt
  · have t2 : decide (2 < bt) = true := decide_eq_true q2
    have HF : Hid (boxB node bt bn (bwn, bwd) (bhn, bhd) = false) := Lib.hid (by unfold boxB; rw [show decide (bt ≤ 2) = false from decide_eq_false (by omega)]; simp)
    clear q1 q2
    cases hsm : smallB node
    all_goals
      have HSM := Lib.hid hsm
      first
        | (have G83 : smallB node = true := hsm)
        | skip
      clear hsm
      go_enter Tryz.func43, Tryz.ntmps43
      go_wp2_with (first | (go_at_call 34; refine (itoa_any _ _ H_node.out (H_pow.out.on AX.out.1)).mono ?_; rintro e w1 ⟨rfl, hb⟩; have AN := Lib.hid (AX.out.below hb); clear AX hb; have AX := AN; clear AN; clear c0; have c0 := AX.out.cell 0 _ (by rfl); clear c1; have c1 := AX.out.cell 1 _ (by rfl); clear c4; have c4 := AX.out.cell 4 _ (by rfl); clear c11; have c11 := AX.out.cell 11 _ (by rfl); clear c12; have c12 := AX.out.cell 12 _ (by rfl); clear c13; have c13 := AX.out.cell 13 _ (by rfl); clear c14; have c14 := AX.out.cell 14 _ (by rfl); clear c15; have c15 := AX.out.cell 15 _ (by rfl); clear c16; have c16 := AX.out.cell 16 _ (by rfl)) | (go_at_call 83; clear G83; refine (rplain_any _ _ H_name.out).mono ?_; rintro e w2 ⟨rfl, hb⟩; skip; have AN := Lib.hid (AX.out.below hb); clear AX hb; have AX := AN; clear AN; clear c0; have c0 := AX.out.cell 0 _ (by rfl); clear c1; have c1 := AX.out.cell 1 _ (by rfl); clear c4; have c4 := AX.out.cell 4 _ (by rfl); clear c11; have c11 := AX.out.cell 11 _ (by rfl); clear c12; have c12 := AX.out.cell 12 _ (by rfl); clear c13; have c13 := AX.out.cell 13 _ (by rfl); clear c14; have c14 := AX.out.cell 14 _ (by rfl); clear c15; have c15 := AX.out.cell 15 _ (by rfl); clear c16; have c16 := AX.out.cell 16 _ (by rfl)) | (go_at_call 82; refine (rsmall_any _ _).mono ?_; rintro e w' ⟨rfl, hw⟩; first | rw [hw, HSM.out] | rw [hw]; clear hw) | (go_at_call 83; refine (rplain_any _ _ H_bn.out).mono ?_; rintro e w4 ⟨rfl, hb⟩; rw [HPB.out]; have AN := Lib.hid (AX.out.below hb); clear AX hb; have AX := AN; clear AN; clear c0; have c0 := AX.out.cell 0 _ (by rfl); clear c1; have c1 := AX.out.cell 1 _ (by rfl); clear c4; have c4 := AX.out.cell 4 _ (by rfl); clear c11; have c11 := AX.out.cell 11 _ (by rfl); clear c12; have c12 := AX.out.cell 12 _ (by rfl); clear c13; have c13 := AX.out.cell 13 _ (by rfl); clear c14; have c14 := AX.out.cell 14 _ (by rfl); clear c15; have c15 := AX.out.cell 15 _ (by rfl); clear c16; have c16 := AX.out.cell 16 _ (by rfl)) | (go_at_call 84; refine (rrats_new2 _ (bwn, bwd) (bhn, bhd) H_bw.out H_bh.out (H_pow.out.on AX.out.1)).mono ?_; rintro e w3 ⟨rfl, hb⟩; have AN := Lib.hid (AX.out.below hb); clear AX hb; have AX := AN; clear AN; clear c0; have c0 := AX.out.cell 0 _ (by rfl); clear c1; have c1 := AX.out.cell 1 _ (by rfl); clear c4; have c4 := AX.out.cell 4 _ (by rfl); clear c11; have c11 := AX.out.cell 11 _ (by rfl); clear c12; have c12 := AX.out.cell 12 _ (by rfl); clear c13; have c13 := AX.out.cell 13 _ (by rfl); clear c14; have c14 := AX.out.cell 14 _ (by rfl); clear c15; have c15 := AX.out.cell 15 _ (by rfl); clear c16; have c16 := AX.out.cell 16 _ (by rfl)))
      go_ret2
      exact ⟨[], false, rfl, HF.out.symm, (fun e => (by rw [HF.out] at e; cases e)), Nat.zero_le _, AX.out.1⟩
  have t2 : decide (2 < bt) = false := decide_eq_false q2
  cases hsm : smallB node
  · have HF : Hid (boxB node bt bn (bwn, bwd) (bhn, bhd) = false) := Lib.hid (by unfold boxB; rw [hsm]; simp)
    clear q1 q2
    have HSM := Lib.hid hsm
    first
      | (have G83 : smallB node = true := hsm)
      | skip
    clear hsm
    go_enter Tryz.func43, Tryz.ntmps43
    go_wp2_with (first | (go_at_call 34; refine (itoa_any _ _ H_node.out (H_pow.out.on AX.out.1)).mono ?_; rintro e w1 ⟨rfl, hb⟩; have AN := Lib.hid (AX.out.below hb); clear AX hb; have AX := AN; clear AN; clear c0; have c0 := AX.out.cell 0 _ (by rfl); clear c1; have c1 := AX.out.cell 1 _ (by rfl); clear c4; have c4 := AX.out.cell 4 _ (by rfl); clear c11; have c11 := AX.out.cell 11 _ (by rfl); clear c12; have c12 := AX.out.cell 12 _ (by rfl); clear c13; have c13 := AX.out.cell 13 _ (by rfl); clear c14; have c14 := AX.out.cell 14 _ (by rfl); clear c15; have c15 := AX.out.cell 15 _ (by rfl); clear c16; have c16 := AX.out.cell 16 _ (by rfl)) | (go_at_call 83; clear G83; refine (rplain_any _ _ H_name.out).mono ?_; rintro e w2 ⟨rfl, hb⟩; skip; have AN := Lib.hid (AX.out.below hb); clear AX hb; have AX := AN; clear AN; clear c0; have c0 := AX.out.cell 0 _ (by rfl); clear c1; have c1 := AX.out.cell 1 _ (by rfl); clear c4; have c4 := AX.out.cell 4 _ (by rfl); clear c11; have c11 := AX.out.cell 11 _ (by rfl); clear c12; have c12 := AX.out.cell 12 _ (by rfl); clear c13; have c13 := AX.out.cell 13 _ (by rfl); clear c14; have c14 := AX.out.cell 14 _ (by rfl); clear c15; have c15 := AX.out.cell 15 _ (by rfl); clear c16; have c16 := AX.out.cell 16 _ (by rfl)) | (go_at_call 82; refine (rsmall_any _ _).mono ?_; rintro e w' ⟨rfl, hw⟩; first | rw [hw, HSM.out] | rw [hw]; clear hw) | (go_at_call 83; refine (rplain_any _ _ H_bn.out).mono ?_; rintro e w4 ⟨rfl, hb⟩; rw [HPB.out]; have AN := Lib.hid (AX.out.below hb); clear AX hb; have AX := AN; clear AN; clear c0; have c0 := AX.out.cell 0 _ (by rfl); clear c1; have c1 := AX.out.cell 1 _ (by rfl); clear c4; have c4 := AX.out.cell 4 _ (by rfl); clear c11; have c11 := AX.out.cell 11 _ (by rfl); clear c12; have c12 := AX.out.cell 12 _ (by rfl); clear c13; have c13 := AX.out.cell 13 _ (by rfl); clear c14; have c14 := AX.out.cell 14 _ (by rfl); clear c15; have c15 := AX.out.cell 15 _ (by rfl); clear c16; have c16 := AX.out.cell 16 _ (by rfl)) | (go_at_call 84; refine (rrats_new2 _ (bwn, bwd) (bhn, bhd) H_bw.out H_bh.out (H_pow.out.on AX.out.1)).mono ?_; rintro e w3 ⟨rfl, hb⟩; have AN := Lib.hid (AX.out.below hb); clear AX hb; have AX := AN; clear AN; clear c0; have c0 := AX.out.cell 0 _ (by rfl); clear c1; have c1 := AX.out.cell 1 _ (by rfl); clear c4; have c4 := AX.out.cell 4 _ (by rfl); clear c11; have c11 := AX.out.cell 11 _ (by rfl); clear c12; have c12 := AX.out.cell 12 _ (by rfl); clear c13; have c13 := AX.out.cell 13 _ (by rfl); clear c14; have c14 := AX.out.cell 14 _ (by rfl); clear c15; have c15 := AX.out.cell 15 _ (by rfl); clear c16; have c16 := AX.out.cell 16 _ (by rfl)))
    go_ret2
    exact ⟨[], false, rfl, HF.out.symm, (fun e => (by rw [HF.out] at e; cases e)), Nat.zero_le _, AX.out.1⟩
  · have hbt : bt = 0 ∨ bt = 1 ∨ bt = 2 := by omega
    clear t1 t2 q1 q2
    have HSM0 := Lib.hid hsm
    rcases hbt with rfl | rfl | rfl
    · have hix := fun W => (box_at W).1
      have HSM := Lib.hid hsm
      first
        | (have G83 : smallB node = true := hsm)
        | skip
      clear hsm
      go_enter Tryz.func43, Tryz.ntmps43
      go_wp2_with (first | (go_at_call 34; refine (itoa_any _ _ H_node.out (H_pow.out.on AX.out.1)).mono ?_; rintro e w1 ⟨rfl, hb⟩; have AN := Lib.hid (AX.out.below hb); clear AX hb; have AX := AN; clear AN; clear c0; have c0 := AX.out.cell 0 _ (by rfl); clear c1; have c1 := AX.out.cell 1 _ (by rfl); clear c4; have c4 := AX.out.cell 4 _ (by rfl); clear c11; have c11 := AX.out.cell 11 _ (by rfl); clear c12; have c12 := AX.out.cell 12 _ (by rfl); clear c13; have c13 := AX.out.cell 13 _ (by rfl); clear c14; have c14 := AX.out.cell 14 _ (by rfl); clear c15; have c15 := AX.out.cell 15 _ (by rfl); clear c16; have c16 := AX.out.cell 16 _ (by rfl)) | (go_at_call 83; clear G83; refine (rplain_any _ _ H_name.out).mono ?_; rintro e w2 ⟨rfl, hb⟩; skip; have AN := Lib.hid (AX.out.below hb); clear AX hb; have AX := AN; clear AN; clear c0; have c0 := AX.out.cell 0 _ (by rfl); clear c1; have c1 := AX.out.cell 1 _ (by rfl); clear c4; have c4 := AX.out.cell 4 _ (by rfl); clear c11; have c11 := AX.out.cell 11 _ (by rfl); clear c12; have c12 := AX.out.cell 12 _ (by rfl); clear c13; have c13 := AX.out.cell 13 _ (by rfl); clear c14; have c14 := AX.out.cell 14 _ (by rfl); clear c15; have c15 := AX.out.cell 15 _ (by rfl); clear c16; have c16 := AX.out.cell 16 _ (by rfl)) | (go_at_call 82; refine (rsmall_any _ _).mono ?_; rintro e w' ⟨rfl, hw⟩; first | rw [hw, HSM.out] | rw [hw]; clear hw) | (go_at_call 83; refine (rplain_any _ _ H_bn.out).mono ?_; rintro e w4 ⟨rfl, hb⟩; rw [HPB.out]; have AN := Lib.hid (AX.out.below hb); clear AX hb; have AX := AN; clear AN; clear c0; have c0 := AX.out.cell 0 _ (by rfl); clear c1; have c1 := AX.out.cell 1 _ (by rfl); clear c4; have c4 := AX.out.cell 4 _ (by rfl); clear c11; have c11 := AX.out.cell 11 _ (by rfl); clear c12; have c12 := AX.out.cell 12 _ (by rfl); clear c13; have c13 := AX.out.cell 13 _ (by rfl); clear c14; have c14 := AX.out.cell 14 _ (by rfl); clear c15; have c15 := AX.out.cell 15 _ (by rfl); clear c16; have c16 := AX.out.cell 16 _ (by rfl)) | (go_at_call 84; refine (rrats_new2 _ (bwn, bwd) (bhn, bhd) H_bw.out H_bh.out (H_pow.out.on AX.out.1)).mono ?_; rintro e w3 ⟨rfl, hb⟩; have AN := Lib.hid (AX.out.below hb); clear AX hb; have AX := AN; clear AN; clear c0; have c0 := AX.out.cell 0 _ (by rfl); clear c1; have c1 := AX.out.cell 1 _ (by rfl); clear c4; have c4 := AX.out.cell 4 _ (by rfl); clear c11; have c11 := AX.out.cell 11 _ (by rfl); clear c12; have c12 := AX.out.cell 12 _ (by rfl); clear c13; have c13 := AX.out.cell 13 _ (by rfl); clear c14; have c14 := AX.out.cell 14 _ (by rfl); clear c15; have c15 := AX.out.cell 15 _ (by rfl); clear c16; have c16 := AX.out.cell 16 _ (by rfl)))
      go_ret2
      refine ⟨sp.kBox ++ 32 :: Lib.itoa node ++ 32 :: sp.boxText 0 ++ 32 :: bn.data.toList ++ 32 :: sp.ratS bwn bwd ++ 32 :: sp.ratS bhn bhd, mayR (bwn, bwd) && mayR (bhn, bhd), ones_eq ?_ ?_, ?_, fun _ => ?_, ?_, AX.out.1⟩
      · apply ByteArray.ext; simp [bstr, sp.boxText, sp.kNone, sp.kInline, sp.kSize]
      · first | rfl | simp
      · unfold boxB
        rw [HSM0.out, t3, t4, HPB.out]
        simp
      · unfold boxS
        rw [boxWord_n t4]
        simp
      · have := LI.out; have r1 : (sp.ratS bwn bwd).length ≤ 43 := rat_len (r := (bwn, bwd)) H_bw.out; have r2 : (sp.ratS bhn bhd).length ≤ 43 := rat_len (r := (bhn, bhd)) H_bh.out; have := datLen bn; have := H_bn.out
        simp only [List.length_append, List.length_cons, List.length_nil, sp.boxText] at *
        first | omega | (simp at *; omega)
    · have hix := fun W => (box_at W).2.1
      have HSM := Lib.hid hsm
      first
        | (have G83 : smallB node = true := hsm)
        | skip
      clear hsm
      go_enter Tryz.func43, Tryz.ntmps43
      go_wp2_with (first | (go_at_call 34; refine (itoa_any _ _ H_node.out (H_pow.out.on AX.out.1)).mono ?_; rintro e w1 ⟨rfl, hb⟩; have AN := Lib.hid (AX.out.below hb); clear AX hb; have AX := AN; clear AN; clear c0; have c0 := AX.out.cell 0 _ (by rfl); clear c1; have c1 := AX.out.cell 1 _ (by rfl); clear c4; have c4 := AX.out.cell 4 _ (by rfl); clear c11; have c11 := AX.out.cell 11 _ (by rfl); clear c12; have c12 := AX.out.cell 12 _ (by rfl); clear c13; have c13 := AX.out.cell 13 _ (by rfl); clear c14; have c14 := AX.out.cell 14 _ (by rfl); clear c15; have c15 := AX.out.cell 15 _ (by rfl); clear c16; have c16 := AX.out.cell 16 _ (by rfl)) | (go_at_call 83; clear G83; refine (rplain_any _ _ H_name.out).mono ?_; rintro e w2 ⟨rfl, hb⟩; skip; have AN := Lib.hid (AX.out.below hb); clear AX hb; have AX := AN; clear AN; clear c0; have c0 := AX.out.cell 0 _ (by rfl); clear c1; have c1 := AX.out.cell 1 _ (by rfl); clear c4; have c4 := AX.out.cell 4 _ (by rfl); clear c11; have c11 := AX.out.cell 11 _ (by rfl); clear c12; have c12 := AX.out.cell 12 _ (by rfl); clear c13; have c13 := AX.out.cell 13 _ (by rfl); clear c14; have c14 := AX.out.cell 14 _ (by rfl); clear c15; have c15 := AX.out.cell 15 _ (by rfl); clear c16; have c16 := AX.out.cell 16 _ (by rfl)) | (go_at_call 82; refine (rsmall_any _ _).mono ?_; rintro e w' ⟨rfl, hw⟩; first | rw [hw, HSM.out] | rw [hw]; clear hw) | (go_at_call 83; refine (rplain_any _ _ H_bn.out).mono ?_; rintro e w4 ⟨rfl, hb⟩; rw [HPB.out]; have AN := Lib.hid (AX.out.below hb); clear AX hb; have AX := AN; clear AN; clear c0; have c0 := AX.out.cell 0 _ (by rfl); clear c1; have c1 := AX.out.cell 1 _ (by rfl); clear c4; have c4 := AX.out.cell 4 _ (by rfl); clear c11; have c11 := AX.out.cell 11 _ (by rfl); clear c12; have c12 := AX.out.cell 12 _ (by rfl); clear c13; have c13 := AX.out.cell 13 _ (by rfl); clear c14; have c14 := AX.out.cell 14 _ (by rfl); clear c15; have c15 := AX.out.cell 15 _ (by rfl); clear c16; have c16 := AX.out.cell 16 _ (by rfl)) | (go_at_call 84; refine (rrats_new2 _ (bwn, bwd) (bhn, bhd) H_bw.out H_bh.out (H_pow.out.on AX.out.1)).mono ?_; rintro e w3 ⟨rfl, hb⟩; have AN := Lib.hid (AX.out.below hb); clear AX hb; have AX := AN; clear AN; clear c0; have c0 := AX.out.cell 0 _ (by rfl); clear c1; have c1 := AX.out.cell 1 _ (by rfl); clear c4; have c4 := AX.out.cell 4 _ (by rfl); clear c11; have c11 := AX.out.cell 11 _ (by rfl); clear c12; have c12 := AX.out.cell 12 _ (by rfl); clear c13; have c13 := AX.out.cell 13 _ (by rfl); clear c14; have c14 := AX.out.cell 14 _ (by rfl); clear c15; have c15 := AX.out.cell 15 _ (by rfl); clear c16; have c16 := AX.out.cell 16 _ (by rfl)))
      go_ret2
      refine ⟨sp.kBox ++ 32 :: Lib.itoa node ++ 32 :: sp.boxText 1 ++ 32 :: bn.data.toList ++ 32 :: sp.ratS bwn bwd ++ 32 :: sp.ratS bhn bhd, mayR (bwn, bwd) && mayR (bhn, bhd), ones_eq ?_ ?_, ?_, fun _ => ?_, ?_, AX.out.1⟩
      · apply ByteArray.ext; simp [bstr, sp.boxText, sp.kNone, sp.kInline, sp.kSize]
      · first | rfl | simp
      · unfold boxB
        rw [HSM0.out, t3, t4, HPB.out]
        simp
      · unfold boxS
        rw [boxWord_n t4]
        simp
      · have := LI.out; have r1 : (sp.ratS bwn bwd).length ≤ 43 := rat_len (r := (bwn, bwd)) H_bw.out; have r2 : (sp.ratS bhn bhd).length ≤ 43 := rat_len (r := (bhn, bhd)) H_bh.out; have := datLen bn; have := H_bn.out
        simp only [List.length_append, List.length_cons, List.length_nil, sp.boxText] at *
        first | omega | (simp at *; omega)
    · have hix := fun W => (box_at W).2.2
      have HSM := Lib.hid hsm
      first
        | (have G83 : smallB node = true := hsm)
        | skip
      clear hsm
      go_enter Tryz.func43, Tryz.ntmps43
      go_wp2_with (first | (go_at_call 34; refine (itoa_any _ _ H_node.out (H_pow.out.on AX.out.1)).mono ?_; rintro e w1 ⟨rfl, hb⟩; have AN := Lib.hid (AX.out.below hb); clear AX hb; have AX := AN; clear AN; clear c0; have c0 := AX.out.cell 0 _ (by rfl); clear c1; have c1 := AX.out.cell 1 _ (by rfl); clear c4; have c4 := AX.out.cell 4 _ (by rfl); clear c11; have c11 := AX.out.cell 11 _ (by rfl); clear c12; have c12 := AX.out.cell 12 _ (by rfl); clear c13; have c13 := AX.out.cell 13 _ (by rfl); clear c14; have c14 := AX.out.cell 14 _ (by rfl); clear c15; have c15 := AX.out.cell 15 _ (by rfl); clear c16; have c16 := AX.out.cell 16 _ (by rfl)) | (go_at_call 83; clear G83; refine (rplain_any _ _ H_name.out).mono ?_; rintro e w2 ⟨rfl, hb⟩; skip; have AN := Lib.hid (AX.out.below hb); clear AX hb; have AX := AN; clear AN; clear c0; have c0 := AX.out.cell 0 _ (by rfl); clear c1; have c1 := AX.out.cell 1 _ (by rfl); clear c4; have c4 := AX.out.cell 4 _ (by rfl); clear c11; have c11 := AX.out.cell 11 _ (by rfl); clear c12; have c12 := AX.out.cell 12 _ (by rfl); clear c13; have c13 := AX.out.cell 13 _ (by rfl); clear c14; have c14 := AX.out.cell 14 _ (by rfl); clear c15; have c15 := AX.out.cell 15 _ (by rfl); clear c16; have c16 := AX.out.cell 16 _ (by rfl)) | (go_at_call 82; refine (rsmall_any _ _).mono ?_; rintro e w' ⟨rfl, hw⟩; first | rw [hw, HSM.out] | rw [hw]; clear hw) | (go_at_call 83; refine (rplain_any _ _ H_bn.out).mono ?_; rintro e w4 ⟨rfl, hb⟩; rw [HPB.out]; have AN := Lib.hid (AX.out.below hb); clear AX hb; have AX := AN; clear AN; clear c0; have c0 := AX.out.cell 0 _ (by rfl); clear c1; have c1 := AX.out.cell 1 _ (by rfl); clear c4; have c4 := AX.out.cell 4 _ (by rfl); clear c11; have c11 := AX.out.cell 11 _ (by rfl); clear c12; have c12 := AX.out.cell 12 _ (by rfl); clear c13; have c13 := AX.out.cell 13 _ (by rfl); clear c14; have c14 := AX.out.cell 14 _ (by rfl); clear c15; have c15 := AX.out.cell 15 _ (by rfl); clear c16; have c16 := AX.out.cell 16 _ (by rfl)) | (go_at_call 84; refine (rrats_new2 _ (bwn, bwd) (bhn, bhd) H_bw.out H_bh.out (H_pow.out.on AX.out.1)).mono ?_; rintro e w3 ⟨rfl, hb⟩; have AN := Lib.hid (AX.out.below hb); clear AX hb; have AX := AN; clear AN; clear c0; have c0 := AX.out.cell 0 _ (by rfl); clear c1; have c1 := AX.out.cell 1 _ (by rfl); clear c4; have c4 := AX.out.cell 4 _ (by rfl); clear c11; have c11 := AX.out.cell 11 _ (by rfl); clear c12; have c12 := AX.out.cell 12 _ (by rfl); clear c13; have c13 := AX.out.cell 13 _ (by rfl); clear c14; have c14 := AX.out.cell 14 _ (by rfl); clear c15; have c15 := AX.out.cell 15 _ (by rfl); clear c16; have c16 := AX.out.cell 16 _ (by rfl)))
      go_ret2
      refine ⟨sp.kBox ++ 32 :: Lib.itoa node ++ 32 :: sp.boxText 2 ++ 32 :: bn.data.toList ++ 32 :: sp.ratS bwn bwd ++ 32 :: sp.ratS bhn bhd, mayR (bwn, bwd) && mayR (bhn, bhd), ones_eq ?_ ?_, ?_, fun _ => ?_, ?_, AX.out.1⟩
      · apply ByteArray.ext; simp [bstr, sp.boxText, sp.kNone, sp.kInline, sp.kSize]
      · first | rfl | simp
      · unfold boxB
        rw [HSM0.out, t3, t4, HPB.out]
        simp
      · unfold boxS
        rw [boxWord_n t4]
        simp
      · have := LI.out; have r1 : (sp.ratS bwn bwd).length ≤ 43 := rat_len (r := (bwn, bwd)) H_bw.out; have r2 : (sp.ratS bhn bhd).length ≤ 43 := rat_len (r := (bhn, bhd)) H_bh.out; have := datLen bn; have := H_bn.out
        simp only [List.length_append, List.length_cons, List.length_nil, sp.boxText] at *
        first | omega | (simp at *; omega)
end
end Go.Proofs.YtihlneenajlhoaaGreatDoor
