/-
  jalousieref27.one, kind by kind. Condition: lengths that fit; strconv's table stands.
-/
import Derived.Test.YtihlneenajlhoaaGreatDoorS5
set_option linter.unusedSimpArgs false
set_option linter.unusedVariables false
set_option linter.unusedSimpArgs false
set_option linter.unusedVariables false
namespace Go.Proofs.YtihlneenajlhoaaGreatDoor
open Go Go.RowKit

section
variable (node at_ org : Int) (name word : ByteArray) (tv : Value) (tx : List UInt8) (wn wd hn hd bt : Int) (bn : ByteArray) (bwn bwd bhn bhd : Int) (on : Bool) (w : World) (h_node : I64 node) (h_at : I64 at_) (h_org : I64 org) (h_name : name.size ≤ 1048576) (h_word : word.size ≤ 1048576) (h_tx : tx.length ≤ 1048576) (h_row : RowAt w.heap.size w tv tx.length (Lib.byteCells tx)) (h_w : I64 wn ∧ I64 wd) (h_h : I64 hn ∧ I64 hd) (h_bn : bn.size ≤ 1048576) (h_bw : I64 bwn ∧ I64 bwd) (h_bh : I64 bhn ∧ I64 bhd) (h_pow : Pow w)
include h_node h_at h_org h_name h_word h_tx h_row h_w h_h h_bn h_bw h_bh h_pow
set_option maxRecDepth 100000 in
set_option maxHeartbeats 8000000 in
/-- jalousieref27.one at kind 1. -/
theorem rone_sheet : Calls Tryz.prog 43 #[.agg #[.int .i64 1, .int .i64 node, .int .i64 at_, .int .i64 org, .string name, .string word, tv, .int .i64 wn, .int .i64 wd, .int .i64 hn, .int .i64 hd, .int .i64 bt, .string bn, .int .i64 bwn, .int .i64 bwd, .int .i64 bhn, .int .i64 bhd, .bool on]] w fun e w' => e = .returned (.tuple #[.string (bstr (sp.kSheet ++ 32 :: Lib.itoa org ++ 32 :: sp.quoteS (bstr tx).data.toList)), .bool (smallB org)]) ∧ Below w.heap.size w w' := by
  have H_node := Lib.hid h_node
  have H_at := Lib.hid h_at
  have H_org := Lib.hid h_org
  have H_name := Lib.hid h_name
  have H_word := Lib.hid h_word
  have H_tx := Lib.hid h_tx
  have H_row := Lib.hid h_row
  have H_w := Lib.hid h_w
  have H_h := Lib.hid h_h
  have H_bn := Lib.hid h_bn
  have H_bw := Lib.hid h_bw
  have H_bh := Lib.hid h_bh
  have H_pow := Lib.hid h_pow
  have z1 := size_bstr_itoa h_node
  have z2 := size_bstr_itoa h_at
  have z3 := size_bstr_itoa h_org
  have z4 := h_name
  have z5 := h_word
  have z6 : (bstr tx).size ≤ 1048576 := by rw [bstr_size]; exact h_tx
  have z7 : (bstr (sp.quoteS word.data.toList)).size ≤ 5000000 := by rw [bstr_size]; have := quoteS_len word.data.toList; rw [datLen] at this; omega
  have z8 : (bstr (sp.quoteS (bstr tx).data.toList)).size ≤ 5000000 := by rw [bstr_size]; have := quoteS_len (bstr tx).data.toList; rw [datLen] at this; omega
  have hA := Opw.new #[.int .i64 1, .int .i64 node, .int .i64 at_, .int .i64 org, .string name, .string word, tv, .int .i64 wn, .int .i64 wd, .int .i64 hn, .int .i64 hd, .int .i64 bt, .string bn, .int .i64 bwn, .int .i64 bwd, .int .i64 bhn, .int .i64 bhd, .bool on] w
  have c0 := hA.cell 0 _ (by rfl)
  have c1 := hA.cell 1 _ (by rfl)
  have c3 := hA.cell 3 _ (by rfl)
  have c4 := hA.cell 4 _ (by rfl)
  have c6 := hA.cell 6 _ (by rfl)
  have AX := Lib.hid hA
  clear hA h_node h_at h_org h_name h_word h_tx h_row h_w h_h h_bn h_bw h_bh h_pow
  cases hsm : smallB node
  all_goals
    have HSM := Lib.hid hsm
    clear hsm
    go_enter Tryz.func43, Tryz.ntmps43
    go_wp2_with (first | (go_at_call 34; refine (itoa_any _ _ H_node.out (H_pow.out.on AX.out.1)).mono ?_; rintro e w1 ⟨rfl, hb⟩; have AN := Lib.hid (AX.out.below hb); clear AX hb; have AX := AN; clear AN; clear c0; have c0 := AX.out.cell 0 _ (by rfl); clear c1; have c1 := AX.out.cell 1 _ (by rfl); clear c3; have c3 := AX.out.cell 3 _ (by rfl); clear c4; have c4 := AX.out.cell 4 _ (by rfl); clear c6; have c6 := AX.out.cell 6 _ (by rfl)) | (go_at_call 83; refine (rplain_any _ _ H_name.out).mono ?_; rintro e w2 ⟨rfl, hb⟩; skip; have AN := Lib.hid (AX.out.below hb); clear AX hb; have AX := AN; clear AN; clear c0; have c0 := AX.out.cell 0 _ (by rfl); clear c1; have c1 := AX.out.cell 1 _ (by rfl); clear c3; have c3 := AX.out.cell 3 _ (by rfl); clear c4; have c4 := AX.out.cell 4 _ (by rfl); clear c6; have c6 := AX.out.cell 6 _ (by rfl)) | (go_at_call 82; refine (rsmall_any _ _).mono ?_; rintro e w' ⟨rfl, hw⟩; first | rw [hw, HSM.out] | rw [hw]; clear hw))
    refine wp_region_held_drew (S := Opw #[.int .i64 1, .int .i64 node, .int .i64 at_, .int .i64 org, .string name, .string word, tv, .int .i64 wn, .int .i64 wd, .int .i64 hn, .int .i64 hd, .int .i64 bt, .string bn, .int .i64 bwn, .int .i64 bwd, .int .i64 bhn, .int .i64 bhd, .bool on] w) (by kernel_rfl) AX.out.drew (fun hHeld => ?_)
    refine wpAnyH_take (i := 0) (v := .pointer (some ⟨w.heap.size, 3, none⟩)) rfl (by kernel_rfl) (by kernel_rfl) (by kernel_rfl) (fun _ _ _ h => h) (Or.inl ⟨by kernel_rfl, fun s hs => by have c0 := hs.cell 0 _ (by rfl); have c1 := hs.cell 1 _ (by rfl); have c3 := hs.cell 3 _ (by rfl); have c4 := hs.cell 4 _ (by rfl); have c6 := hs.cell 6 _ (by rfl); go_simp <;> omega⟩) hHeld ?_
    refine wpAnyH_take (i := 1) (v := .int .i64 org) rfl (by kernel_rfl) (by kernel_rfl) (by kernel_rfl) (fun _ _ _ h => h) (Or.inl ⟨by kernel_rfl, fun s hs => by have c0 := hs.cell 0 _ (by rfl); have c1 := hs.cell 1 _ (by rfl); have c3 := hs.cell 3 _ (by rfl); have c4 := hs.cell 4 _ (by rfl); have c6 := hs.cell 6 _ (by rfl); go_simp <;> omega⟩) hHeld ?_
    refine wpAnyH_take (i := 5) (v := .pointer (some ⟨w.heap.size, 6, none⟩)) rfl (by kernel_rfl) (by kernel_rfl) (by kernel_rfl) (fun _ _ _ h => h) (Or.inl ⟨by kernel_rfl, fun s hs => by have c0 := hs.cell 0 _ (by rfl); have c1 := hs.cell 1 _ (by rfl); have c3 := hs.cell 3 _ (by rfl); have c4 := hs.cell 4 _ (by rfl); have c6 := hs.cell 6 _ (by rfl); go_simp <;> omega⟩) hHeld ?_
    refine wpAnyH_take (i := 6) (v := tv) rfl (by kernel_rfl) (by kernel_rfl) (by kernel_rfl) (fun _ _ _ h => h) (Or.inl ⟨by kernel_rfl, fun s hs => by have c0 := hs.cell 0 _ (by rfl); have c1 := hs.cell 1 _ (by rfl); have c3 := hs.cell 3 _ (by rfl); have c4 := hs.cell 4 _ (by rfl); have c6 := hs.cell 6 _ (by rfl); go_simp <;> omega⟩) hHeld ?_
    refine wpAnyH_take (i := 7) (v := .string (bstr tx)) rfl (by kernel_rfl) (by kernel_rfl) (by kernel_rfl) (fun _ _ _ h => h) (Or.inl ⟨by kernel_rfl, fun s hs => by have c0 := hs.cell 0 _ (by rfl); have c1 := hs.cell 1 _ (by rfl); have c3 := hs.cell 3 _ (by rfl); have c4 := hs.cell 4 _ (by rfl); have c6 := hs.cell 6 _ (by rfl); have hcv := conv_row (H_row.out.keep hs.1); go_simp <;> omega⟩) hHeld ?_
    refine wpAnyH_take (i := 10) (v := .pointer (some ⟨w.heap.size, 3, none⟩)) rfl (by kernel_rfl) (by kernel_rfl) (by kernel_rfl) (fun _ _ _ h => h) (Or.inl ⟨by kernel_rfl, fun s hs => by have c0 := hs.cell 0 _ (by rfl); have c1 := hs.cell 1 _ (by rfl); have c3 := hs.cell 3 _ (by rfl); have c4 := hs.cell 4 _ (by rfl); have c6 := hs.cell 6 _ (by rfl); go_simp <;> omega⟩) hHeld ?_
    refine wpAnyH_take (i := 11) (v := .int .i64 org) rfl (by kernel_rfl) (by kernel_rfl) (by kernel_rfl) (fun _ _ _ h => h) (Or.inl ⟨by kernel_rfl, fun s hs => by have c0 := hs.cell 0 _ (by rfl); have c1 := hs.cell 1 _ (by rfl); have c3 := hs.cell 3 _ (by rfl); have c4 := hs.cell 4 _ (by rfl); have c6 := hs.cell 6 _ (by rfl); go_simp <;> omega⟩) hHeld ?_
    refine wpAnyH_ready (rs := [2]) (by kernel_rfl) (by simp) ?_
    refine AllReadyH.cons rfl (fun K hK => ?_) AllReadyH.nil
    rw [if_pos (by kernel_rfl)]
    go_simp
    refine (itoa_any _ _ H_org.out (H_pow.out.on AX.out.drew.1)).mono ?_
    rintro e w5 ⟨rfl, hb⟩
    have AN := Lib.hid (AX.out.drew.below hb)
    clear AX hb
    have AX := AN
    clear AN
    refine hK _ _ AX.out (fun hHeld => ?_)
    refine wpAnyH_take (i := 3) (v := .string (⟨#[115, 104, 101, 101, 116, 32]⟩ ++ bstr (Lib.itoa org))) rfl (by kernel_rfl) (by kernel_rfl) (by kernel_rfl) (fun _ _ _ h => h) (Or.inl ⟨by kernel_rfl, fun s hs => by have c0 := hs.cell 0 _ (by rfl); have c1 := hs.cell 1 _ (by rfl); have c3 := hs.cell 3 _ (by rfl); have c4 := hs.cell 4 _ (by rfl); have c6 := hs.cell 6 _ (by rfl); go_simp <;> omega⟩) hHeld ?_
    refine wpAnyH_take (i := 4) (v := .string ((⟨#[115, 104, 101, 101, 116, 32]⟩ ++ bstr (Lib.itoa org)) ++ ⟨#[32]⟩)) rfl (by kernel_rfl) (by kernel_rfl) (by kernel_rfl) (fun _ _ _ h => h) (Or.inl ⟨by kernel_rfl, fun s hs => by have c0 := hs.cell 0 _ (by rfl); have c1 := hs.cell 1 _ (by rfl); have c3 := hs.cell 3 _ (by rfl); have c4 := hs.cell 4 _ (by rfl); have c6 := hs.cell 6 _ (by rfl); go_simp <;> omega⟩) hHeld ?_
    refine wpAnyH_ready (rs := [8]) (by kernel_rfl) (by simp) ?_
    refine AllReadyH.cons rfl (fun K hK => ?_) AllReadyH.nil
    rw [if_pos (by kernel_rfl)]
    go_simp
    refine (quote_any (bstr tx) _ (by omega)).mono ?_
    rintro e w6 ⟨rfl, hb⟩
    have AN := Lib.hid (AX.out.below hb)
    clear AX hb
    have AX := AN
    clear AN
    refine hK _ _ AX.out (fun hHeld => ?_)
    refine wpAnyH_take (i := 9) (v := .string (((⟨#[115, 104, 101, 101, 116, 32]⟩ ++ bstr (Lib.itoa org)) ++ ⟨#[32]⟩) ++ bstr (sp.quoteS (bstr tx).data.toList))) rfl (by kernel_rfl) (by kernel_rfl) (by kernel_rfl) (fun _ _ _ h => h) (Or.inl ⟨by kernel_rfl, fun s hs => by have c0 := hs.cell 0 _ (by rfl); have c1 := hs.cell 1 _ (by rfl); have c3 := hs.cell 3 _ (by rfl); have c4 := hs.cell 4 _ (by rfl); have c6 := hs.cell 6 _ (by rfl); go_simp <;> omega⟩) hHeld ?_
    refine wpAnyH_ready (rs := [12]) (by kernel_rfl) (by simp) ?_
    refine AllReadyH.cons rfl (fun K hK => ?_) AllReadyH.nil
    rw [if_pos (by kernel_rfl)]
    go_simp
    refine (rsmall_any _ _).mono ?_
    rintro e w' ⟨rfl, hw⟩
    rw [hw]
    clear hw
    refine hK _ _ AX.out (fun hHeld => ?_)
    refine wpAnyH_take (i := 13) (v := .string (((⟨#[115, 104, 101, 101, 116, 32]⟩ ++ bstr (Lib.itoa org)) ++ ⟨#[32]⟩) ++ bstr (sp.quoteS (bstr tx).data.toList))) rfl (by kernel_rfl) (by kernel_rfl) (by kernel_rfl) (fun _ _ _ h => h) (Or.inl ⟨by kernel_rfl, fun s hs => by have c0 := hs.cell 0 _ (by rfl); have c1 := hs.cell 1 _ (by rfl); have c3 := hs.cell 3 _ (by rfl); have c4 := hs.cell 4 _ (by rfl); have c6 := hs.cell 6 _ (by rfl); go_simp <;> omega⟩) hHeld ?_
    refine wpAnyH_take (i := 14) (v := .bool (smallB org)) rfl (by kernel_rfl) (by kernel_rfl) (by kernel_rfl) (fun _ _ _ h => h) (Or.inl ⟨by kernel_rfl, fun s hs => by have c0 := hs.cell 0 _ (by rfl); have c1 := hs.cell 1 _ (by rfl); have c3 := hs.cell 3 _ (by rfl); have c4 := hs.cell 4 _ (by rfl); have c6 := hs.cell 6 _ (by rfl); go_simp <;> omega⟩) hHeld ?_
    refine wpAnyH_done (by kernel_rfl) ?_ _
    clear hHeld
    go_simp
    go_wp2
    go_ret2
    refine ⟨ones_eq ?_ ?_, AX.out.1⟩
    · first
      | rfl
      | (apply ByteArray.ext; simp [bstr])
    · first
      | rfl
      | simp
end
end Go.Proofs.YtihlneenajlhoaaGreatDoor
/-
  jalousieref27.one, kind by kind. Condition: lengths that fit; strconv's table stands.
-/
set_option linter.unusedSimpArgs false
set_option linter.unusedVariables false
namespace Go.Proofs.YtihlneenajlhoaaGreatDoor
open Go Go.RowKit

section
variable (node at_ org : Int) (name word : ByteArray) (tv : Value) (tx : List UInt8) (wn wd hn hd bt : Int) (bn : ByteArray) (bwn bwd bhn bhd : Int) (on : Bool) (w : World) (h_node : I64 node) (h_at : I64 at_) (h_org : I64 org) (h_name : name.size ≤ 1048576) (h_word : word.size ≤ 1048576) (h_tx : tx.length ≤ 1048576) (h_row : RowAt w.heap.size w tv tx.length (Lib.byteCells tx)) (h_w : I64 wn ∧ I64 wd) (h_h : I64 hn ∧ I64 hd) (h_bn : bn.size ≤ 1048576) (h_bw : I64 bwn ∧ I64 bwd) (h_bh : I64 bhn ∧ I64 bhd) (h_pow : Pow w)
include h_node h_at h_org h_name h_word h_tx h_row h_w h_h h_bn h_bw h_bh h_pow
set_option maxRecDepth 100000 in
set_option maxHeartbeats 8000000 in
/-- jalousieref27.one at kind 2. -/
theorem rone_view : Calls Tryz.prog 43 #[.agg #[.int .i64 2, .int .i64 node, .int .i64 at_, .int .i64 org, .string name, .string word, tv, .int .i64 wn, .int .i64 wd, .int .i64 hn, .int .i64 hd, .int .i64 bt, .string bn, .int .i64 bwn, .int .i64 bwd, .int .i64 bhn, .int .i64 bhd, .bool on]] w fun e w' => e = .returned (.tuple #[.string (bstr (sp.kView ++ 32 :: sp.ratS wn wd ++ 32 :: sp.ratS hn hd)), .bool (mayR (wn, wd) && mayR (hn, hd))]) ∧ Below w.heap.size w w' := by
  have H_node := Lib.hid h_node
  have H_at := Lib.hid h_at
  have H_org := Lib.hid h_org
  have H_name := Lib.hid h_name
  have H_word := Lib.hid h_word
  have H_tx := Lib.hid h_tx
  have H_row := Lib.hid h_row
  have H_w := Lib.hid h_w
  have H_h := Lib.hid h_h
  have H_bn := Lib.hid h_bn
  have H_bw := Lib.hid h_bw
  have H_bh := Lib.hid h_bh
  have H_pow := Lib.hid h_pow
  have z1 := size_bstr_itoa h_node
  have z2 := size_bstr_itoa h_at
  have z3 := size_bstr_itoa h_org
  have z4 := h_name
  have z5 := h_word
  have z6 : (bstr tx).size ≤ 1048576 := by rw [bstr_size]; exact h_tx
  have z7 : (bstr (sp.quoteS word.data.toList)).size ≤ 5000000 := by rw [bstr_size]; have := quoteS_len word.data.toList; rw [datLen] at this; omega
  have z8 : (bstr (sp.quoteS (bstr tx).data.toList)).size ≤ 5000000 := by rw [bstr_size]; have := quoteS_len (bstr tx).data.toList; rw [datLen] at this; omega
  have hA := Opw.new #[.int .i64 2, .int .i64 node, .int .i64 at_, .int .i64 org, .string name, .string word, tv, .int .i64 wn, .int .i64 wd, .int .i64 hn, .int .i64 hd, .int .i64 bt, .string bn, .int .i64 bwn, .int .i64 bwd, .int .i64 bhn, .int .i64 bhd, .bool on] w
  have c0 := hA.cell 0 _ (by rfl)
  have c1 := hA.cell 1 _ (by rfl)
  have c4 := hA.cell 4 _ (by rfl)
  have c7 := hA.cell 7 _ (by rfl)
  have c8 := hA.cell 8 _ (by rfl)
  have c9 := hA.cell 9 _ (by rfl)
  have c10 := hA.cell 10 _ (by rfl)
  have AX := Lib.hid hA
  clear hA h_node h_at h_org h_name h_word h_tx h_row h_w h_h h_bn h_bw h_bh h_pow
  cases hsm : smallB node
  all_goals
    have HSM := Lib.hid hsm
    clear hsm
    go_enter Tryz.func43, Tryz.ntmps43
    go_wp2_with (first | (go_at_call 34; refine (itoa_any _ _ H_node.out (H_pow.out.on AX.out.1)).mono ?_; rintro e w1 ⟨rfl, hb⟩; have AN := Lib.hid (AX.out.below hb); clear AX hb; have AX := AN; clear AN; clear c0; have c0 := AX.out.cell 0 _ (by rfl); clear c1; have c1 := AX.out.cell 1 _ (by rfl); clear c4; have c4 := AX.out.cell 4 _ (by rfl); clear c7; have c7 := AX.out.cell 7 _ (by rfl); clear c8; have c8 := AX.out.cell 8 _ (by rfl); clear c9; have c9 := AX.out.cell 9 _ (by rfl); clear c10; have c10 := AX.out.cell 10 _ (by rfl)) | (go_at_call 83; refine (rplain_any _ _ H_name.out).mono ?_; rintro e w2 ⟨rfl, hb⟩; skip; have AN := Lib.hid (AX.out.below hb); clear AX hb; have AX := AN; clear AN; clear c0; have c0 := AX.out.cell 0 _ (by rfl); clear c1; have c1 := AX.out.cell 1 _ (by rfl); clear c4; have c4 := AX.out.cell 4 _ (by rfl); clear c7; have c7 := AX.out.cell 7 _ (by rfl); clear c8; have c8 := AX.out.cell 8 _ (by rfl); clear c9; have c9 := AX.out.cell 9 _ (by rfl); clear c10; have c10 := AX.out.cell 10 _ (by rfl)) | (go_at_call 82; refine (rsmall_any _ _).mono ?_; rintro e w' ⟨rfl, hw⟩; first | rw [hw, HSM.out] | rw [hw]; clear hw) | (go_at_call 84; refine (rrats_new2 _ (wn, wd) (hn, hd) H_w.out H_h.out (H_pow.out.on AX.out.1)).mono ?_; rintro e w3 ⟨rfl, hb⟩; have z9 : (bstr (32 :: (sp.ratS wn wd ++ 32 :: sp.ratS hn hd))).size ≤ 88 := rat_size2 (r := (wn, wd)) (q := (hn, hd)) H_w.out H_h.out; have AN := Lib.hid (AX.out.below hb); clear AX hb; have AX := AN; clear AN; clear c0; have c0 := AX.out.cell 0 _ (by rfl); clear c1; have c1 := AX.out.cell 1 _ (by rfl); clear c4; have c4 := AX.out.cell 4 _ (by rfl); clear c7; have c7 := AX.out.cell 7 _ (by rfl); clear c8; have c8 := AX.out.cell 8 _ (by rfl); clear c9; have c9 := AX.out.cell 9 _ (by rfl); clear c10; have c10 := AX.out.cell 10 _ (by rfl)))
    go_ret2
    refine ⟨ones_eq ?_ ?_, AX.out.1⟩
    · first
      | rfl
      | (apply ByteArray.ext; simp [bstr])
    · first
      | rfl
      | simp
set_option maxRecDepth 100000 in
set_option maxHeartbeats 8000000 in
/-- jalousieref27.one at kind 3. -/
theorem rone_font : Calls Tryz.prog 43 #[.agg #[.int .i64 3, .int .i64 node, .int .i64 at_, .int .i64 org, .string name, .string word, tv, .int .i64 wn, .int .i64 wd, .int .i64 hn, .int .i64 hd, .int .i64 bt, .string bn, .int .i64 bwn, .int .i64 bwd, .int .i64 bhn, .int .i64 bhd, .bool on]] w fun e w' => e = .returned (.tuple #[.string (bstr (sp.kFont ++ 32 :: sp.ratS wn wd)), .bool (mayR (wn, wd))]) ∧ Below w.heap.size w w' := by
  have H_node := Lib.hid h_node
  have H_at := Lib.hid h_at
  have H_org := Lib.hid h_org
  have H_name := Lib.hid h_name
  have H_word := Lib.hid h_word
  have H_tx := Lib.hid h_tx
  have H_row := Lib.hid h_row
  have H_w := Lib.hid h_w
  have H_h := Lib.hid h_h
  have H_bn := Lib.hid h_bn
  have H_bw := Lib.hid h_bw
  have H_bh := Lib.hid h_bh
  have H_pow := Lib.hid h_pow
  have z1 := size_bstr_itoa h_node
  have z2 := size_bstr_itoa h_at
  have z3 := size_bstr_itoa h_org
  have z4 := h_name
  have z5 := h_word
  have z6 : (bstr tx).size ≤ 1048576 := by rw [bstr_size]; exact h_tx
  have z7 : (bstr (sp.quoteS word.data.toList)).size ≤ 5000000 := by rw [bstr_size]; have := quoteS_len word.data.toList; rw [datLen] at this; omega
  have z8 : (bstr (sp.quoteS (bstr tx).data.toList)).size ≤ 5000000 := by rw [bstr_size]; have := quoteS_len (bstr tx).data.toList; rw [datLen] at this; omega
  have hA := Opw.new #[.int .i64 3, .int .i64 node, .int .i64 at_, .int .i64 org, .string name, .string word, tv, .int .i64 wn, .int .i64 wd, .int .i64 hn, .int .i64 hd, .int .i64 bt, .string bn, .int .i64 bwn, .int .i64 bwd, .int .i64 bhn, .int .i64 bhd, .bool on] w
  have c0 := hA.cell 0 _ (by rfl)
  have c1 := hA.cell 1 _ (by rfl)
  have c4 := hA.cell 4 _ (by rfl)
  have c7 := hA.cell 7 _ (by rfl)
  have c8 := hA.cell 8 _ (by rfl)
  have AX := Lib.hid hA
  clear hA h_node h_at h_org h_name h_word h_tx h_row h_w h_h h_bn h_bw h_bh h_pow
  cases hsm : smallB node
  all_goals
    have HSM := Lib.hid hsm
    clear hsm
    go_enter Tryz.func43, Tryz.ntmps43
    go_wp2_with (first | (go_at_call 34; refine (itoa_any _ _ H_node.out (H_pow.out.on AX.out.1)).mono ?_; rintro e w1 ⟨rfl, hb⟩; have AN := Lib.hid (AX.out.below hb); clear AX hb; have AX := AN; clear AN; clear c0; have c0 := AX.out.cell 0 _ (by rfl); clear c1; have c1 := AX.out.cell 1 _ (by rfl); clear c4; have c4 := AX.out.cell 4 _ (by rfl); clear c7; have c7 := AX.out.cell 7 _ (by rfl); clear c8; have c8 := AX.out.cell 8 _ (by rfl)) | (go_at_call 83; refine (rplain_any _ _ H_name.out).mono ?_; rintro e w2 ⟨rfl, hb⟩; skip; have AN := Lib.hid (AX.out.below hb); clear AX hb; have AX := AN; clear AN; clear c0; have c0 := AX.out.cell 0 _ (by rfl); clear c1; have c1 := AX.out.cell 1 _ (by rfl); clear c4; have c4 := AX.out.cell 4 _ (by rfl); clear c7; have c7 := AX.out.cell 7 _ (by rfl); clear c8; have c8 := AX.out.cell 8 _ (by rfl)) | (go_at_call 82; refine (rsmall_any _ _).mono ?_; rintro e w' ⟨rfl, hw⟩; first | rw [hw, HSM.out] | rw [hw]; clear hw) | (go_at_call 84; refine (rrats_new _ (wn, wd) H_w.out (H_pow.out.on AX.out.1)).mono ?_; rintro e w3 ⟨rfl, hb⟩; have z9 : (bstr (32 :: sp.ratS wn wd)).size ≤ 44 := rat_size (r := (wn, wd)) H_w.out; have AN := Lib.hid (AX.out.below hb); clear AX hb; have AX := AN; clear AN; clear c0; have c0 := AX.out.cell 0 _ (by rfl); clear c1; have c1 := AX.out.cell 1 _ (by rfl); clear c4; have c4 := AX.out.cell 4 _ (by rfl); clear c7; have c7 := AX.out.cell 7 _ (by rfl); clear c8; have c8 := AX.out.cell 8 _ (by rfl)))
    go_ret2
    refine ⟨ones_eq ?_ ?_, AX.out.1⟩
    · first
      | rfl
      | (apply ByteArray.ext; simp [bstr])
    · first
      | rfl
      | simp
set_option maxRecDepth 100000 in
set_option maxHeartbeats 8000000 in
/-- jalousieref27.one at kind 13. -/
theorem rone_color : Calls Tryz.prog 43 #[.agg #[.int .i64 13, .int .i64 node, .int .i64 at_, .int .i64 org, .string name, .string word, tv, .int .i64 wn, .int .i64 wd, .int .i64 hn, .int .i64 hd, .int .i64 bt, .string bn, .int .i64 bwn, .int .i64 bwd, .int .i64 bhn, .int .i64 bhd, .bool on]] w fun e w' => e = .returned (.tuple #[.string (bstr (sp.kColor ++ 32 :: sp.ratS wn wd)), .bool (mayR (wn, wd))]) ∧ Below w.heap.size w w' := by
  have H_node := Lib.hid h_node
  have H_at := Lib.hid h_at
  have H_org := Lib.hid h_org
  have H_name := Lib.hid h_name
  have H_word := Lib.hid h_word
  have H_tx := Lib.hid h_tx
  have H_row := Lib.hid h_row
  have H_w := Lib.hid h_w
  have H_h := Lib.hid h_h
  have H_bn := Lib.hid h_bn
  have H_bw := Lib.hid h_bw
  have H_bh := Lib.hid h_bh
  have H_pow := Lib.hid h_pow
  have z1 := size_bstr_itoa h_node
  have z2 := size_bstr_itoa h_at
  have z3 := size_bstr_itoa h_org
  have z4 := h_name
  have z5 := h_word
  have z6 : (bstr tx).size ≤ 1048576 := by rw [bstr_size]; exact h_tx
  have z7 : (bstr (sp.quoteS word.data.toList)).size ≤ 5000000 := by rw [bstr_size]; have := quoteS_len word.data.toList; rw [datLen] at this; omega
  have z8 : (bstr (sp.quoteS (bstr tx).data.toList)).size ≤ 5000000 := by rw [bstr_size]; have := quoteS_len (bstr tx).data.toList; rw [datLen] at this; omega
  have hA := Opw.new #[.int .i64 13, .int .i64 node, .int .i64 at_, .int .i64 org, .string name, .string word, tv, .int .i64 wn, .int .i64 wd, .int .i64 hn, .int .i64 hd, .int .i64 bt, .string bn, .int .i64 bwn, .int .i64 bwd, .int .i64 bhn, .int .i64 bhd, .bool on] w
  have c0 := hA.cell 0 _ (by rfl)
  have c1 := hA.cell 1 _ (by rfl)
  have c4 := hA.cell 4 _ (by rfl)
  have c7 := hA.cell 7 _ (by rfl)
  have c8 := hA.cell 8 _ (by rfl)
  have AX := Lib.hid hA
  clear hA h_node h_at h_org h_name h_word h_tx h_row h_w h_h h_bn h_bw h_bh h_pow
  cases hsm : smallB node
  all_goals
    have HSM := Lib.hid hsm
    clear hsm
    go_enter Tryz.func43, Tryz.ntmps43
    go_wp2_with (first | (go_at_call 34; refine (itoa_any _ _ H_node.out (H_pow.out.on AX.out.1)).mono ?_; rintro e w1 ⟨rfl, hb⟩; have AN := Lib.hid (AX.out.below hb); clear AX hb; have AX := AN; clear AN; clear c0; have c0 := AX.out.cell 0 _ (by rfl); clear c1; have c1 := AX.out.cell 1 _ (by rfl); clear c4; have c4 := AX.out.cell 4 _ (by rfl); clear c7; have c7 := AX.out.cell 7 _ (by rfl); clear c8; have c8 := AX.out.cell 8 _ (by rfl)) | (go_at_call 83; refine (rplain_any _ _ H_name.out).mono ?_; rintro e w2 ⟨rfl, hb⟩; skip; have AN := Lib.hid (AX.out.below hb); clear AX hb; have AX := AN; clear AN; clear c0; have c0 := AX.out.cell 0 _ (by rfl); clear c1; have c1 := AX.out.cell 1 _ (by rfl); clear c4; have c4 := AX.out.cell 4 _ (by rfl); clear c7; have c7 := AX.out.cell 7 _ (by rfl); clear c8; have c8 := AX.out.cell 8 _ (by rfl)) | (go_at_call 82; refine (rsmall_any _ _).mono ?_; rintro e w' ⟨rfl, hw⟩; first | rw [hw, HSM.out] | rw [hw]; clear hw) | (go_at_call 84; refine (rrats_new _ (wn, wd) H_w.out (H_pow.out.on AX.out.1)).mono ?_; rintro e w3 ⟨rfl, hb⟩; have z9 : (bstr (32 :: sp.ratS wn wd)).size ≤ 44 := rat_size (r := (wn, wd)) H_w.out; have AN := Lib.hid (AX.out.below hb); clear AX hb; have AX := AN; clear AN; clear c0; have c0 := AX.out.cell 0 _ (by rfl); clear c1; have c1 := AX.out.cell 1 _ (by rfl); clear c4; have c4 := AX.out.cell 4 _ (by rfl); clear c7; have c7 := AX.out.cell 7 _ (by rfl); clear c8; have c8 := AX.out.cell 8 _ (by rfl)))
    go_ret2
    refine ⟨ones_eq ?_ ?_, AX.out.1⟩
    · first
      | rfl
      | (apply ByteArray.ext; simp [bstr])
    · first
      | rfl
      | simp
end
end Go.Proofs.YtihlneenajlhoaaGreatDoor
/-
  jalousieref27.one, kind by kind. Condition: lengths that fit; strconv's table stands.
-/
set_option linter.unusedSimpArgs false
set_option linter.unusedVariables false
namespace Go.Proofs.YtihlneenajlhoaaGreatDoor
open Go Go.RowKit

section
variable (node at_ org : Int) (name word : ByteArray) (tv : Value) (tx : List UInt8) (wn wd hn hd bt : Int) (bn : ByteArray) (bwn bwd bhn bhd : Int) (on : Bool) (w : World) (h_node : I64 node) (h_at : I64 at_) (h_org : I64 org) (h_name : name.size ≤ 1048576) (h_word : word.size ≤ 1048576) (h_tx : tx.length ≤ 1048576) (h_row : RowAt w.heap.size w tv tx.length (Lib.byteCells tx)) (h_w : I64 wn ∧ I64 wd) (h_h : I64 hn ∧ I64 hd) (h_bn : bn.size ≤ 1048576) (h_bw : I64 bwn ∧ I64 bwd) (h_bh : I64 bhn ∧ I64 bhd) (h_pow : Pow w)
include h_node h_at h_org h_name h_word h_tx h_row h_w h_h h_bn h_bw h_bh h_pow
set_option maxRecDepth 100000 in
set_option maxHeartbeats 8000000 in
/-- jalousieref27.one at kind 14. -/
theorem rone_print : Calls Tryz.prog 43 #[.agg #[.int .i64 14, .int .i64 node, .int .i64 at_, .int .i64 org, .string name, .string word, tv, .int .i64 wn, .int .i64 wd, .int .i64 hn, .int .i64 hd, .int .i64 bt, .string bn, .int .i64 bwn, .int .i64 bwd, .int .i64 bhn, .int .i64 bhd, .bool on]] w fun e w' => e = .returned (.tuple #[.string (bstr (sp.kPrint ++ 32 :: (if on then sp.kOn else sp.kOff))), .bool (true)]) ∧ Below w.heap.size w w' := by
  have H_node := Lib.hid h_node
  have H_at := Lib.hid h_at
  have H_org := Lib.hid h_org
  have H_name := Lib.hid h_name
  have H_word := Lib.hid h_word
  have H_tx := Lib.hid h_tx
  have H_row := Lib.hid h_row
  have H_w := Lib.hid h_w
  have H_h := Lib.hid h_h
  have H_bn := Lib.hid h_bn
  have H_bw := Lib.hid h_bw
  have H_bh := Lib.hid h_bh
  have H_pow := Lib.hid h_pow
  have z1 := size_bstr_itoa h_node
  have z2 := size_bstr_itoa h_at
  have z3 := size_bstr_itoa h_org
  have z4 := h_name
  have z5 := h_word
  have z6 : (bstr tx).size ≤ 1048576 := by rw [bstr_size]; exact h_tx
  have z7 : (bstr (sp.quoteS word.data.toList)).size ≤ 5000000 := by rw [bstr_size]; have := quoteS_len word.data.toList; rw [datLen] at this; omega
  have z8 : (bstr (sp.quoteS (bstr tx).data.toList)).size ≤ 5000000 := by rw [bstr_size]; have := quoteS_len (bstr tx).data.toList; rw [datLen] at this; omega
  have hA := Opw.new #[.int .i64 14, .int .i64 node, .int .i64 at_, .int .i64 org, .string name, .string word, tv, .int .i64 wn, .int .i64 wd, .int .i64 hn, .int .i64 hd, .int .i64 bt, .string bn, .int .i64 bwn, .int .i64 bwd, .int .i64 bhn, .int .i64 bhd, .bool on] w
  have c0 := hA.cell 0 _ (by rfl)
  have c1 := hA.cell 1 _ (by rfl)
  have c4 := hA.cell 4 _ (by rfl)
  have c17 := hA.cell 17 _ (by rfl)
  have AX := Lib.hid hA
  clear hA h_node h_at h_org h_name h_word h_tx h_row h_w h_h h_bn h_bw h_bh h_pow
  cases on
  · cases hsm : smallB node
    all_goals
      have HSM := Lib.hid hsm
      clear hsm
      go_enter Tryz.func43, Tryz.ntmps43
      go_wp2_with (first | (go_at_call 34; refine (itoa_any _ _ H_node.out (H_pow.out.on AX.out.1)).mono ?_; rintro e w1 ⟨rfl, hb⟩; have AN := Lib.hid (AX.out.below hb); clear AX hb; have AX := AN; clear AN; clear c0; have c0 := AX.out.cell 0 _ (by rfl); clear c1; have c1 := AX.out.cell 1 _ (by rfl); clear c4; have c4 := AX.out.cell 4 _ (by rfl); clear c17; have c17 := AX.out.cell 17 _ (by rfl)) | (go_at_call 83; refine (rplain_any _ _ H_name.out).mono ?_; rintro e w2 ⟨rfl, hb⟩; skip; have AN := Lib.hid (AX.out.below hb); clear AX hb; have AX := AN; clear AN; clear c0; have c0 := AX.out.cell 0 _ (by rfl); clear c1; have c1 := AX.out.cell 1 _ (by rfl); clear c4; have c4 := AX.out.cell 4 _ (by rfl); clear c17; have c17 := AX.out.cell 17 _ (by rfl)) | (go_at_call 82; refine (rsmall_any _ _).mono ?_; rintro e w' ⟨rfl, hw⟩; first | rw [hw, HSM.out] | rw [hw]; clear hw))
      go_ret2
      refine ⟨ones_eq ?_ ?_, AX.out.1⟩
      · first
        | rfl
        | (apply ByteArray.ext; simp [bstr])
      · first
        | rfl
        | simp
  · cases hsm : smallB node
    all_goals
      have HSM := Lib.hid hsm
      clear hsm
      go_enter Tryz.func43, Tryz.ntmps43
      go_wp2_with (first | (go_at_call 34; refine (itoa_any _ _ H_node.out (H_pow.out.on AX.out.1)).mono ?_; rintro e w1 ⟨rfl, hb⟩; have AN := Lib.hid (AX.out.below hb); clear AX hb; have AX := AN; clear AN; clear c0; have c0 := AX.out.cell 0 _ (by rfl); clear c1; have c1 := AX.out.cell 1 _ (by rfl); clear c4; have c4 := AX.out.cell 4 _ (by rfl); clear c17; have c17 := AX.out.cell 17 _ (by rfl)) | (go_at_call 83; refine (rplain_any _ _ H_name.out).mono ?_; rintro e w2 ⟨rfl, hb⟩; skip; have AN := Lib.hid (AX.out.below hb); clear AX hb; have AX := AN; clear AN; clear c0; have c0 := AX.out.cell 0 _ (by rfl); clear c1; have c1 := AX.out.cell 1 _ (by rfl); clear c4; have c4 := AX.out.cell 4 _ (by rfl); clear c17; have c17 := AX.out.cell 17 _ (by rfl)) | (go_at_call 82; refine (rsmall_any _ _).mono ?_; rintro e w' ⟨rfl, hw⟩; first | rw [hw, HSM.out] | rw [hw]; clear hw))
      go_ret2
      refine ⟨ones_eq ?_ ?_, AX.out.1⟩
      · first
        | rfl
        | (apply ByteArray.ext; simp [bstr])
      · first
        | rfl
        | simp
set_option maxRecDepth 100000 in
set_option maxHeartbeats 8000000 in
/-- jalousieref27.one at kind 15. -/
theorem rone_count : Calls Tryz.prog 43 #[.agg #[.int .i64 15, .int .i64 node, .int .i64 at_, .int .i64 org, .string name, .string word, tv, .int .i64 wn, .int .i64 wd, .int .i64 hn, .int .i64 hd, .int .i64 bt, .string bn, .int .i64 bwn, .int .i64 bwd, .int .i64 bhn, .int .i64 bhd, .bool on]] w fun e w' => e = .returned (.tuple #[.string (bstr (sp.kCount)), .bool (true)]) ∧ Below w.heap.size w w' := by
  have H_node := Lib.hid h_node
  have H_at := Lib.hid h_at
  have H_org := Lib.hid h_org
  have H_name := Lib.hid h_name
  have H_word := Lib.hid h_word
  have H_tx := Lib.hid h_tx
  have H_row := Lib.hid h_row
  have H_w := Lib.hid h_w
  have H_h := Lib.hid h_h
  have H_bn := Lib.hid h_bn
  have H_bw := Lib.hid h_bw
  have H_bh := Lib.hid h_bh
  have H_pow := Lib.hid h_pow
  have z1 := size_bstr_itoa h_node
  have z2 := size_bstr_itoa h_at
  have z3 := size_bstr_itoa h_org
  have z4 := h_name
  have z5 := h_word
  have z6 : (bstr tx).size ≤ 1048576 := by rw [bstr_size]; exact h_tx
  have z7 : (bstr (sp.quoteS word.data.toList)).size ≤ 5000000 := by rw [bstr_size]; have := quoteS_len word.data.toList; rw [datLen] at this; omega
  have z8 : (bstr (sp.quoteS (bstr tx).data.toList)).size ≤ 5000000 := by rw [bstr_size]; have := quoteS_len (bstr tx).data.toList; rw [datLen] at this; omega
  have hA := Opw.new #[.int .i64 15, .int .i64 node, .int .i64 at_, .int .i64 org, .string name, .string word, tv, .int .i64 wn, .int .i64 wd, .int .i64 hn, .int .i64 hd, .int .i64 bt, .string bn, .int .i64 bwn, .int .i64 bwd, .int .i64 bhn, .int .i64 bhd, .bool on] w
  have c0 := hA.cell 0 _ (by rfl)
  have c1 := hA.cell 1 _ (by rfl)
  have c4 := hA.cell 4 _ (by rfl)
  have AX := Lib.hid hA
  clear hA h_node h_at h_org h_name h_word h_tx h_row h_w h_h h_bn h_bw h_bh h_pow
  cases hsm : smallB node
  all_goals
    have HSM := Lib.hid hsm
    clear hsm
    go_enter Tryz.func43, Tryz.ntmps43
    go_wp2_with (first | (go_at_call 34; refine (itoa_any _ _ H_node.out (H_pow.out.on AX.out.1)).mono ?_; rintro e w1 ⟨rfl, hb⟩; have AN := Lib.hid (AX.out.below hb); clear AX hb; have AX := AN; clear AN; clear c0; have c0 := AX.out.cell 0 _ (by rfl); clear c1; have c1 := AX.out.cell 1 _ (by rfl); clear c4; have c4 := AX.out.cell 4 _ (by rfl)) | (go_at_call 83; refine (rplain_any _ _ H_name.out).mono ?_; rintro e w2 ⟨rfl, hb⟩; skip; have AN := Lib.hid (AX.out.below hb); clear AX hb; have AX := AN; clear AN; clear c0; have c0 := AX.out.cell 0 _ (by rfl); clear c1; have c1 := AX.out.cell 1 _ (by rfl); clear c4; have c4 := AX.out.cell 4 _ (by rfl)) | (go_at_call 82; refine (rsmall_any _ _).mono ?_; rintro e w' ⟨rfl, hw⟩; first | rw [hw, HSM.out] | rw [hw]; clear hw))
    go_ret2
    refine ⟨ones_eq ?_ ?_, AX.out.1⟩
    · first
      | rfl
      | (apply ByteArray.ext; simp [bstr])
    · first
      | rfl
      | simp
end
set_option maxRecDepth 100000 in
set_option maxHeartbeats 8000000 in
/-- jalousieref27.one at another kind. -/
theorem rone_other (kind : Int) (node at_ org : Int) (name word : ByteArray) (tv : Value) (tx : List UInt8) (wn wd hn hd bt : Int) (bn : ByteArray) (bwn bwd bhn bhd : Int) (on : Bool) (w : World) (h_node : I64 node) (h_at : I64 at_) (h_org : I64 org) (h_name : name.size ≤ 1048576) (h_word : word.size ≤ 1048576) (h_tx : tx.length ≤ 1048576) (h_row : RowAt w.heap.size w tv tx.length (Lib.byteCells tx)) (h_w : I64 wn ∧ I64 wd) (h_h : I64 hn ∧ I64 hd) (h_bn : bn.size ≤ 1048576) (h_bw : I64 bwn ∧ I64 bwd) (h_bh : I64 bhn ∧ I64 bhd) (h_pow : Pow w) (h_no : ∀ k ∈ [1, 2, 3, 13, 14, 4, 5, 6, 12, 7, 8, 10, 11, 9, 15], kind ≠ k) : Calls Tryz.prog 43 #[.agg #[.int .i64 kind, .int .i64 node, .int .i64 at_, .int .i64 org, .string name, .string word, tv, .int .i64 wn, .int .i64 wd, .int .i64 hn, .int .i64 hd, .int .i64 bt, .string bn, .int .i64 bwn, .int .i64 bwd, .int .i64 bhn, .int .i64 bhd, .bool on]] w fun e w' => e = .returned (.tuple #[.string ⟨#[]⟩, .bool false]) ∧ Below w.heap.size w w' := by
  have y1 : (kind == 1) = false := by simpa using h_no 1 (by simp)
  have y2 : (kind == 2) = false := by simpa using h_no 2 (by simp)
  have y3 : (kind == 3) = false := by simpa using h_no 3 (by simp)
  have y13 : (kind == 13) = false := by simpa using h_no 13 (by simp)
  have y14 : (kind == 14) = false := by simpa using h_no 14 (by simp)
  have y4 : (kind == 4) = false := by simpa using h_no 4 (by simp)
  have y5 : (kind == 5) = false := by simpa using h_no 5 (by simp)
  have y6 : (kind == 6) = false := by simpa using h_no 6 (by simp)
  have y12 : (kind == 12) = false := by simpa using h_no 12 (by simp)
  have y7 : (kind == 7) = false := by simpa using h_no 7 (by simp)
  have y8 : (kind == 8) = false := by simpa using h_no 8 (by simp)
  have y10 : (kind == 10) = false := by simpa using h_no 10 (by simp)
  have y11 : (kind == 11) = false := by simpa using h_no 11 (by simp)
  have y9 : (kind == 9) = false := by simpa using h_no 9 (by simp)
  have y15 : (kind == 15) = false := by simpa using h_no 15 (by simp)
  clear h_no
  have H_node := Lib.hid h_node
  have H_at := Lib.hid h_at
  have H_org := Lib.hid h_org
  have H_name := Lib.hid h_name
  have H_word := Lib.hid h_word
  have H_tx := Lib.hid h_tx
  have H_row := Lib.hid h_row
  have H_w := Lib.hid h_w
  have H_h := Lib.hid h_h
  have H_bn := Lib.hid h_bn
  have H_bw := Lib.hid h_bw
  have H_bh := Lib.hid h_bh
  have H_pow := Lib.hid h_pow
  have z1 := size_bstr_itoa h_node
  have z2 := size_bstr_itoa h_at
  have z3 := size_bstr_itoa h_org
  have z4 := h_name
  have z5 := h_word
  have z6 : (bstr tx).size ≤ 1048576 := by rw [bstr_size]; exact h_tx
  have z7 : (bstr (sp.quoteS word.data.toList)).size ≤ 5000000 := by rw [bstr_size]; have := quoteS_len word.data.toList; rw [datLen] at this; omega
  have z8 : (bstr (sp.quoteS (bstr tx).data.toList)).size ≤ 5000000 := by rw [bstr_size]; have := quoteS_len (bstr tx).data.toList; rw [datLen] at this; omega
  have hA := Opw.new #[.int .i64 kind, .int .i64 node, .int .i64 at_, .int .i64 org, .string name, .string word, tv, .int .i64 wn, .int .i64 wd, .int .i64 hn, .int .i64 hd, .int .i64 bt, .string bn, .int .i64 bwn, .int .i64 bwd, .int .i64 bhn, .int .i64 bhd, .bool on] w
  have c0 := hA.cell 0 _ (by rfl)
  have c1 := hA.cell 1 _ (by rfl)
  have c4 := hA.cell 4 _ (by rfl)
  have AX := Lib.hid hA
  clear hA h_node h_at h_org h_name h_word h_tx h_row h_w h_h h_bn h_bw h_bh h_pow
  cases hsm : smallB node
  all_goals
    have HSM := Lib.hid hsm
    clear hsm
    go_enter Tryz.func43, Tryz.ntmps43
    go_wp2_with (first | (go_at_call 34; refine (itoa_any _ _ H_node.out (H_pow.out.on AX.out.1)).mono ?_; rintro e w1 ⟨rfl, hb⟩; have AN := Lib.hid (AX.out.below hb); clear AX hb; have AX := AN; clear AN; clear c0; have c0 := AX.out.cell 0 _ (by rfl); clear c1; have c1 := AX.out.cell 1 _ (by rfl); clear c4; have c4 := AX.out.cell 4 _ (by rfl)) | (go_at_call 83; refine (rplain_any _ _ H_name.out).mono ?_; rintro e w2 ⟨rfl, hb⟩; skip; have AN := Lib.hid (AX.out.below hb); clear AX hb; have AX := AN; clear AN; clear c0; have c0 := AX.out.cell 0 _ (by rfl); clear c1; have c1 := AX.out.cell 1 _ (by rfl); clear c4; have c4 := AX.out.cell 4 _ (by rfl)) | (go_at_call 82; refine (rsmall_any _ _).mono ?_; rintro e w' ⟨rfl, hw⟩; first | rw [hw, HSM.out] | rw [hw]; clear hw))
    go_ret2
    exact ⟨rfl, AX.out.1⟩
end Go.Proofs.YtihlneenajlhoaaGreatDoor
/-
  jalousieref27.one, kind by kind. Condition: lengths that fit; strconv's table stands.
-/
set_option linter.unusedSimpArgs false
set_option linter.unusedVariables false
namespace Go.Proofs.YtihlneenajlhoaaGreatDoor
open Go Go.RowKit

section
variable (node at_ org : Int) (name word : ByteArray) (tv : Value) (tx : List UInt8) (wn wd hn hd bt : Int) (bn : ByteArray) (bwn bwd bhn bhd : Int) (on : Bool) (w : World) (h_node : I64 node) (h_at : I64 at_) (h_org : I64 org) (h_name : name.size ≤ 1048576) (h_word : word.size ≤ 1048576) (h_tx : tx.length ≤ 1048576) (h_row : RowAt w.heap.size w tv tx.length (Lib.byteCells tx)) (h_w : I64 wn ∧ I64 wd) (h_h : I64 hn ∧ I64 hd) (h_bn : bn.size ≤ 1048576) (h_bw : I64 bwn ∧ I64 bwd) (h_bh : I64 bhn ∧ I64 bhd) (h_pow : Pow w)
include h_node h_at h_org h_name h_word h_tx h_row h_w h_h h_bn h_bw h_bh h_pow
set_option maxRecDepth 100000 in
set_option maxHeartbeats 8000000 in
/-- jalousieref27.one at kind 4. -/
theorem rone_word : Calls Tryz.prog 43 #[.agg #[.int .i64 4, .int .i64 node, .int .i64 at_, .int .i64 org, .string name, .string word, tv, .int .i64 wn, .int .i64 wd, .int .i64 hn, .int .i64 hd, .int .i64 bt, .string bn, .int .i64 bwn, .int .i64 bwd, .int .i64 bhn, .int .i64 bhd, .bool on]] w fun e w' => e = .returned (.tuple #[.string (bstr (sp.kWord ++ 32 :: name.data.toList ++ 32 :: word.data.toList)), .bool (plainV name && plainV word)]) ∧ Below w.heap.size w w' := by
  have H_node := Lib.hid h_node
  have H_at := Lib.hid h_at
  have H_org := Lib.hid h_org
  have H_name := Lib.hid h_name
  have H_word := Lib.hid h_word
  have H_tx := Lib.hid h_tx
  have H_row := Lib.hid h_row
  have H_w := Lib.hid h_w
  have H_h := Lib.hid h_h
  have H_bn := Lib.hid h_bn
  have H_bw := Lib.hid h_bw
  have H_bh := Lib.hid h_bh
  have H_pow := Lib.hid h_pow
  have z1 := size_bstr_itoa h_node
  have z2 := size_bstr_itoa h_at
  have z3 := size_bstr_itoa h_org
  have z4 := h_name
  have z5 := h_word
  have z6 : (bstr tx).size ≤ 1048576 := by rw [bstr_size]; exact h_tx
  have z7 : (bstr (sp.quoteS word.data.toList)).size ≤ 5000000 := by rw [bstr_size]; have := quoteS_len word.data.toList; rw [datLen] at this; omega
  have z8 : (bstr (sp.quoteS (bstr tx).data.toList)).size ≤ 5000000 := by rw [bstr_size]; have := quoteS_len (bstr tx).data.toList; rw [datLen] at this; omega
  have hA := Opw.new #[.int .i64 4, .int .i64 node, .int .i64 at_, .int .i64 org, .string name, .string word, tv, .int .i64 wn, .int .i64 wd, .int .i64 hn, .int .i64 hd, .int .i64 bt, .string bn, .int .i64 bwn, .int .i64 bwd, .int .i64 bhn, .int .i64 bhd, .bool on] w
  have c0 := hA.cell 0 _ (by rfl)
  have c1 := hA.cell 1 _ (by rfl)
  have c4 := hA.cell 4 _ (by rfl)
  have c5 := hA.cell 5 _ (by rfl)
  have AX := Lib.hid hA
  clear hA h_node h_at h_org h_name h_word h_tx h_row h_w h_h h_bn h_bw h_bh h_pow
  cases hsm : smallB node <;> cases hpl : plainV name
  · have HSM := Lib.hid hsm
    clear hsm
    have HPL := Lib.hid hpl
    clear hpl
    go_enter Tryz.func43, Tryz.ntmps43
    go_wp2_with (first | (go_at_call 34; refine (itoa_any _ _ H_node.out (H_pow.out.on AX.out.1)).mono ?_; rintro e w1 ⟨rfl, hb⟩; have AN := Lib.hid (AX.out.below hb); clear AX hb; have AX := AN; clear AN; clear c0; have c0 := AX.out.cell 0 _ (by rfl); clear c1; have c1 := AX.out.cell 1 _ (by rfl); clear c4; have c4 := AX.out.cell 4 _ (by rfl); clear c5; have c5 := AX.out.cell 5 _ (by rfl)) | (go_at_call 83; refine (rplain_any _ _ H_name.out).mono ?_; rintro e w2 ⟨rfl, hb⟩; rw [HPL.out]; have AN := Lib.hid (AX.out.below hb); clear AX hb; have AX := AN; clear AN; clear c0; have c0 := AX.out.cell 0 _ (by rfl); clear c1; have c1 := AX.out.cell 1 _ (by rfl); clear c4; have c4 := AX.out.cell 4 _ (by rfl); clear c5; have c5 := AX.out.cell 5 _ (by rfl)) | (go_at_call 82; refine (rsmall_any _ _).mono ?_; rintro e w' ⟨rfl, hw⟩; first | rw [hw, HSM.out] | rw [hw]; clear hw))
    refine wp_region_held_drew (S := Opw #[.int .i64 4, .int .i64 node, .int .i64 at_, .int .i64 org, .string name, .string word, tv, .int .i64 wn, .int .i64 wd, .int .i64 hn, .int .i64 hd, .int .i64 bt, .string bn, .int .i64 bwn, .int .i64 bwd, .int .i64 bhn, .int .i64 bhd, .bool on] w) (by kernel_rfl) AX.out.drew (fun hHeld => ?_)
    refine wpAnyH_take (i := 0) (v := .pointer (some ⟨w.heap.size, 4, none⟩)) rfl (by kernel_rfl) (by kernel_rfl) (by kernel_rfl) (fun _ _ _ h => h) (Or.inl ⟨by kernel_rfl, fun s hs => by have c0 := hs.cell 0 _ (by rfl); have c1 := hs.cell 1 _ (by rfl); have c4 := hs.cell 4 _ (by rfl); have c5 := hs.cell 5 _ (by rfl); go_simp <;> omega⟩) hHeld ?_
    refine wpAnyH_take (i := 1) (v := .string name) rfl (by kernel_rfl) (by kernel_rfl) (by kernel_rfl) (fun _ _ _ h => h) (Or.inl ⟨by kernel_rfl, fun s hs => by have c0 := hs.cell 0 _ (by rfl); have c1 := hs.cell 1 _ (by rfl); have c4 := hs.cell 4 _ (by rfl); have c5 := hs.cell 5 _ (by rfl); go_simp <;> omega⟩) hHeld ?_
    refine wpAnyH_take (i := 2) (v := .string (⟨#[119, 111, 114, 100, 32]⟩ ++ name)) rfl (by kernel_rfl) (by kernel_rfl) (by kernel_rfl) (fun _ _ _ h => h) (Or.inl ⟨by kernel_rfl, fun s hs => by have c0 := hs.cell 0 _ (by rfl); have c1 := hs.cell 1 _ (by rfl); have c4 := hs.cell 4 _ (by rfl); have c5 := hs.cell 5 _ (by rfl); go_simp <;> omega⟩) hHeld ?_
    refine wpAnyH_take (i := 3) (v := .string ((⟨#[119, 111, 114, 100, 32]⟩ ++ name) ++ ⟨#[32]⟩)) rfl (by kernel_rfl) (by kernel_rfl) (by kernel_rfl) (fun _ _ _ h => h) (Or.inl ⟨by kernel_rfl, fun s hs => by have c0 := hs.cell 0 _ (by rfl); have c1 := hs.cell 1 _ (by rfl); have c4 := hs.cell 4 _ (by rfl); have c5 := hs.cell 5 _ (by rfl); go_simp <;> omega⟩) hHeld ?_
    refine wpAnyH_take (i := 4) (v := .pointer (some ⟨w.heap.size, 5, none⟩)) rfl (by kernel_rfl) (by kernel_rfl) (by kernel_rfl) (fun _ _ _ h => h) (Or.inl ⟨by kernel_rfl, fun s hs => by have c0 := hs.cell 0 _ (by rfl); have c1 := hs.cell 1 _ (by rfl); have c4 := hs.cell 4 _ (by rfl); have c5 := hs.cell 5 _ (by rfl); go_simp <;> omega⟩) hHeld ?_
    refine wpAnyH_take (i := 5) (v := .string word) rfl (by kernel_rfl) (by kernel_rfl) (by kernel_rfl) (fun _ _ _ h => h) (Or.inl ⟨by kernel_rfl, fun s hs => by have c0 := hs.cell 0 _ (by rfl); have c1 := hs.cell 1 _ (by rfl); have c4 := hs.cell 4 _ (by rfl); have c5 := hs.cell 5 _ (by rfl); go_simp <;> omega⟩) hHeld ?_
    refine wpAnyH_take (i := 6) (v := .string (((⟨#[119, 111, 114, 100, 32]⟩ ++ name) ++ ⟨#[32]⟩) ++ word)) rfl (by kernel_rfl) (by kernel_rfl) (by kernel_rfl) (fun _ _ _ h => h) (Or.inl ⟨by kernel_rfl, fun s hs => by have c0 := hs.cell 0 _ (by rfl); have c1 := hs.cell 1 _ (by rfl); have c4 := hs.cell 4 _ (by rfl); have c5 := hs.cell 5 _ (by rfl); go_simp <;> omega⟩) hHeld ?_
    refine wpAnyH_take (i := 7) (v := .pointer (some ⟨w.heap.size, 4, none⟩)) rfl (by kernel_rfl) (by kernel_rfl) (by kernel_rfl) (fun _ _ _ h => h) (Or.inl ⟨by kernel_rfl, fun s hs => by have c0 := hs.cell 0 _ (by rfl); have c1 := hs.cell 1 _ (by rfl); have c4 := hs.cell 4 _ (by rfl); have c5 := hs.cell 5 _ (by rfl); go_simp <;> omega⟩) hHeld ?_
    refine wpAnyH_take (i := 8) (v := .string name) rfl (by kernel_rfl) (by kernel_rfl) (by kernel_rfl) (fun _ _ _ h => h) (Or.inl ⟨by kernel_rfl, fun s hs => by have c0 := hs.cell 0 _ (by rfl); have c1 := hs.cell 1 _ (by rfl); have c4 := hs.cell 4 _ (by rfl); have c5 := hs.cell 5 _ (by rfl); go_simp <;> omega⟩) hHeld ?_
    refine wpAnyH_ready (rs := [9]) (by kernel_rfl) (by simp) ?_
    refine AllReadyH.cons rfl (fun K hK => ?_) AllReadyH.nil
    rw [if_pos (by kernel_rfl)]
    go_simp
    refine (rplain_any name _ H_name.out).mono ?_
    rintro e w6 ⟨rfl, hb⟩
    rw [HPL.out]
    have AN := Lib.hid (AX.out.drew.below hb)
    clear AX hb
    have AX := AN
    clear AN
    refine hK _ _ AX.out (fun hHeld => ?_)
    refine wpAnyH_take (i := 10) (v := .bool false) rfl (by kernel_rfl) (by kernel_rfl) (by kernel_rfl) (fun _ _ _ h => h) (Or.inl ⟨by kernel_rfl, fun s hs => by have c0 := hs.cell 0 _ (by rfl); have c1 := hs.cell 1 _ (by rfl); have c4 := hs.cell 4 _ (by rfl); have c5 := hs.cell 5 _ (by rfl); go_simp <;> omega⟩) hHeld ?_
    refine wpAnyH_take (i := 11) (v := undef) rfl (by kernel_rfl) (by kernel_rfl) (by kernel_rfl) (fun _ _ _ h => h) (Or.inr ⟨by kernel_rfl, rfl⟩) hHeld ?_
    refine wpAnyH_take (i := 12) (v := undef) rfl (by kernel_rfl) (by kernel_rfl) (by kernel_rfl) (fun _ _ _ h => h) (Or.inr ⟨by kernel_rfl, rfl⟩) hHeld ?_
    refine wpAnyH_take (i := 13) (v := undef) rfl (by kernel_rfl) (by kernel_rfl) (by kernel_rfl) (fun _ _ _ h => h) (Or.inr ⟨by kernel_rfl, rfl⟩) hHeld ?_
    refine wpAnyH_take (i := 14) (v := .bool false) rfl (by kernel_rfl) (by kernel_rfl) (by kernel_rfl) (fun _ _ _ h => h) (Or.inl ⟨by kernel_rfl, fun s hs => by have c0 := hs.cell 0 _ (by rfl); have c1 := hs.cell 1 _ (by rfl); have c4 := hs.cell 4 _ (by rfl); have c5 := hs.cell 5 _ (by rfl); go_simp <;> omega⟩) hHeld ?_
    refine wpAnyH_take (i := 15) (v := .string (((⟨#[119, 111, 114, 100, 32]⟩ ++ name) ++ ⟨#[32]⟩) ++ word)) rfl (by kernel_rfl) (by kernel_rfl) (by kernel_rfl) (fun _ _ _ h => h) (Or.inl ⟨by kernel_rfl, fun s hs => by have c0 := hs.cell 0 _ (by rfl); have c1 := hs.cell 1 _ (by rfl); have c4 := hs.cell 4 _ (by rfl); have c5 := hs.cell 5 _ (by rfl); go_simp <;> omega⟩) hHeld ?_
    refine wpAnyH_take (i := 16) (v := .bool false) rfl (by kernel_rfl) (by kernel_rfl) (by kernel_rfl) (fun _ _ _ h => h) (Or.inl ⟨by kernel_rfl, fun s hs => by have c0 := hs.cell 0 _ (by rfl); have c1 := hs.cell 1 _ (by rfl); have c4 := hs.cell 4 _ (by rfl); have c5 := hs.cell 5 _ (by rfl); go_simp <;> omega⟩) hHeld ?_
    refine wpAnyH_done (by kernel_rfl) ?_ _
    clear hHeld
    go_simp
    go_wp2
    go_ret2
    refine ⟨ones_eq ?_ ?_, AX.out.1⟩
    · first
      | rfl
      | (apply ByteArray.ext; simp [bstr])
    · first
      | rfl
      | simp
  · have HSM := Lib.hid hsm
    clear hsm
    have HPL := Lib.hid hpl
    clear hpl
    go_enter Tryz.func43, Tryz.ntmps43
    go_wp2_with (first | (go_at_call 34; refine (itoa_any _ _ H_node.out (H_pow.out.on AX.out.1)).mono ?_; rintro e w1 ⟨rfl, hb⟩; have AN := Lib.hid (AX.out.below hb); clear AX hb; have AX := AN; clear AN; clear c0; have c0 := AX.out.cell 0 _ (by rfl); clear c1; have c1 := AX.out.cell 1 _ (by rfl); clear c4; have c4 := AX.out.cell 4 _ (by rfl); clear c5; have c5 := AX.out.cell 5 _ (by rfl)) | (go_at_call 83; refine (rplain_any _ _ H_name.out).mono ?_; rintro e w2 ⟨rfl, hb⟩; rw [HPL.out]; have AN := Lib.hid (AX.out.below hb); clear AX hb; have AX := AN; clear AN; clear c0; have c0 := AX.out.cell 0 _ (by rfl); clear c1; have c1 := AX.out.cell 1 _ (by rfl); clear c4; have c4 := AX.out.cell 4 _ (by rfl); clear c5; have c5 := AX.out.cell 5 _ (by rfl)) | (go_at_call 82; refine (rsmall_any _ _).mono ?_; rintro e w' ⟨rfl, hw⟩; first | rw [hw, HSM.out] | rw [hw]; clear hw))
    refine wp_region_held_drew (S := Opw #[.int .i64 4, .int .i64 node, .int .i64 at_, .int .i64 org, .string name, .string word, tv, .int .i64 wn, .int .i64 wd, .int .i64 hn, .int .i64 hd, .int .i64 bt, .string bn, .int .i64 bwn, .int .i64 bwd, .int .i64 bhn, .int .i64 bhd, .bool on] w) (by kernel_rfl) AX.out.drew (fun hHeld => ?_)
    refine wpAnyH_take (i := 0) (v := .pointer (some ⟨w.heap.size, 4, none⟩)) rfl (by kernel_rfl) (by kernel_rfl) (by kernel_rfl) (fun _ _ _ h => h) (Or.inl ⟨by kernel_rfl, fun s hs => by have c0 := hs.cell 0 _ (by rfl); have c1 := hs.cell 1 _ (by rfl); have c4 := hs.cell 4 _ (by rfl); have c5 := hs.cell 5 _ (by rfl); go_simp <;> omega⟩) hHeld ?_
    refine wpAnyH_take (i := 1) (v := .string name) rfl (by kernel_rfl) (by kernel_rfl) (by kernel_rfl) (fun _ _ _ h => h) (Or.inl ⟨by kernel_rfl, fun s hs => by have c0 := hs.cell 0 _ (by rfl); have c1 := hs.cell 1 _ (by rfl); have c4 := hs.cell 4 _ (by rfl); have c5 := hs.cell 5 _ (by rfl); go_simp <;> omega⟩) hHeld ?_
    refine wpAnyH_take (i := 2) (v := .string (⟨#[119, 111, 114, 100, 32]⟩ ++ name)) rfl (by kernel_rfl) (by kernel_rfl) (by kernel_rfl) (fun _ _ _ h => h) (Or.inl ⟨by kernel_rfl, fun s hs => by have c0 := hs.cell 0 _ (by rfl); have c1 := hs.cell 1 _ (by rfl); have c4 := hs.cell 4 _ (by rfl); have c5 := hs.cell 5 _ (by rfl); go_simp <;> omega⟩) hHeld ?_
    refine wpAnyH_take (i := 3) (v := .string ((⟨#[119, 111, 114, 100, 32]⟩ ++ name) ++ ⟨#[32]⟩)) rfl (by kernel_rfl) (by kernel_rfl) (by kernel_rfl) (fun _ _ _ h => h) (Or.inl ⟨by kernel_rfl, fun s hs => by have c0 := hs.cell 0 _ (by rfl); have c1 := hs.cell 1 _ (by rfl); have c4 := hs.cell 4 _ (by rfl); have c5 := hs.cell 5 _ (by rfl); go_simp <;> omega⟩) hHeld ?_
    refine wpAnyH_take (i := 4) (v := .pointer (some ⟨w.heap.size, 5, none⟩)) rfl (by kernel_rfl) (by kernel_rfl) (by kernel_rfl) (fun _ _ _ h => h) (Or.inl ⟨by kernel_rfl, fun s hs => by have c0 := hs.cell 0 _ (by rfl); have c1 := hs.cell 1 _ (by rfl); have c4 := hs.cell 4 _ (by rfl); have c5 := hs.cell 5 _ (by rfl); go_simp <;> omega⟩) hHeld ?_
    refine wpAnyH_take (i := 5) (v := .string word) rfl (by kernel_rfl) (by kernel_rfl) (by kernel_rfl) (fun _ _ _ h => h) (Or.inl ⟨by kernel_rfl, fun s hs => by have c0 := hs.cell 0 _ (by rfl); have c1 := hs.cell 1 _ (by rfl); have c4 := hs.cell 4 _ (by rfl); have c5 := hs.cell 5 _ (by rfl); go_simp <;> omega⟩) hHeld ?_
    refine wpAnyH_take (i := 6) (v := .string (((⟨#[119, 111, 114, 100, 32]⟩ ++ name) ++ ⟨#[32]⟩) ++ word)) rfl (by kernel_rfl) (by kernel_rfl) (by kernel_rfl) (fun _ _ _ h => h) (Or.inl ⟨by kernel_rfl, fun s hs => by have c0 := hs.cell 0 _ (by rfl); have c1 := hs.cell 1 _ (by rfl); have c4 := hs.cell 4 _ (by rfl); have c5 := hs.cell 5 _ (by rfl); go_simp <;> omega⟩) hHeld ?_
    refine wpAnyH_take (i := 7) (v := .pointer (some ⟨w.heap.size, 4, none⟩)) rfl (by kernel_rfl) (by kernel_rfl) (by kernel_rfl) (fun _ _ _ h => h) (Or.inl ⟨by kernel_rfl, fun s hs => by have c0 := hs.cell 0 _ (by rfl); have c1 := hs.cell 1 _ (by rfl); have c4 := hs.cell 4 _ (by rfl); have c5 := hs.cell 5 _ (by rfl); go_simp <;> omega⟩) hHeld ?_
    refine wpAnyH_take (i := 8) (v := .string name) rfl (by kernel_rfl) (by kernel_rfl) (by kernel_rfl) (fun _ _ _ h => h) (Or.inl ⟨by kernel_rfl, fun s hs => by have c0 := hs.cell 0 _ (by rfl); have c1 := hs.cell 1 _ (by rfl); have c4 := hs.cell 4 _ (by rfl); have c5 := hs.cell 5 _ (by rfl); go_simp <;> omega⟩) hHeld ?_
    refine wpAnyH_ready (rs := [9]) (by kernel_rfl) (by simp) ?_
    refine AllReadyH.cons rfl (fun K hK => ?_) AllReadyH.nil
    rw [if_pos (by kernel_rfl)]
    go_simp
    refine (rplain_any name _ H_name.out).mono ?_
    rintro e w6 ⟨rfl, hb⟩
    rw [HPL.out]
    have AN := Lib.hid (AX.out.drew.below hb)
    clear AX hb
    have AX := AN
    clear AN
    refine hK _ _ AX.out (fun hHeld => ?_)
    refine wpAnyH_take (i := 10) (v := .bool true) rfl (by kernel_rfl) (by kernel_rfl) (by kernel_rfl) (fun _ _ _ h => h) (Or.inl ⟨by kernel_rfl, fun s hs => by have c0 := hs.cell 0 _ (by rfl); have c1 := hs.cell 1 _ (by rfl); have c4 := hs.cell 4 _ (by rfl); have c5 := hs.cell 5 _ (by rfl); go_simp <;> omega⟩) hHeld ?_
    refine wpAnyH_take (i := 11) (v := .pointer (some ⟨w.heap.size, 5, none⟩)) rfl (by kernel_rfl) (by kernel_rfl) (by kernel_rfl) (fun _ _ _ h => h) (Or.inl ⟨by kernel_rfl, fun s hs => by have c0 := hs.cell 0 _ (by rfl); have c1 := hs.cell 1 _ (by rfl); have c4 := hs.cell 4 _ (by rfl); have c5 := hs.cell 5 _ (by rfl); go_simp <;> omega⟩) hHeld ?_
    refine wpAnyH_take (i := 12) (v := .string word) rfl (by kernel_rfl) (by kernel_rfl) (by kernel_rfl) (fun _ _ _ h => h) (Or.inl ⟨by kernel_rfl, fun s hs => by have c0 := hs.cell 0 _ (by rfl); have c1 := hs.cell 1 _ (by rfl); have c4 := hs.cell 4 _ (by rfl); have c5 := hs.cell 5 _ (by rfl); go_simp <;> omega⟩) hHeld ?_
    refine wpAnyH_ready (rs := [13]) (by kernel_rfl) (by simp) ?_
    refine AllReadyH.cons rfl (fun K hK => ?_) AllReadyH.nil
    rw [if_pos (by kernel_rfl)]
    go_simp
    refine (rplain_any word _ H_word.out).mono ?_
    rintro e w7 ⟨rfl, hb⟩
    have AN := Lib.hid (AX.out.below hb)
    clear AX hb
    have AX := AN
    clear AN
    refine hK _ _ AX.out (fun hHeld => ?_)
    refine wpAnyH_take (i := 14) (v := .bool (plainV word)) rfl (by kernel_rfl) (by kernel_rfl) (by kernel_rfl) (fun _ _ _ h => h) (Or.inl ⟨by kernel_rfl, fun s hs => by have c0 := hs.cell 0 _ (by rfl); have c1 := hs.cell 1 _ (by rfl); have c4 := hs.cell 4 _ (by rfl); have c5 := hs.cell 5 _ (by rfl); go_simp <;> omega⟩) hHeld ?_
    refine wpAnyH_take (i := 15) (v := .string (((⟨#[119, 111, 114, 100, 32]⟩ ++ name) ++ ⟨#[32]⟩) ++ word)) rfl (by kernel_rfl) (by kernel_rfl) (by kernel_rfl) (fun _ _ _ h => h) (Or.inl ⟨by kernel_rfl, fun s hs => by have c0 := hs.cell 0 _ (by rfl); have c1 := hs.cell 1 _ (by rfl); have c4 := hs.cell 4 _ (by rfl); have c5 := hs.cell 5 _ (by rfl); go_simp <;> omega⟩) hHeld ?_
    refine wpAnyH_take (i := 16) (v := .bool (plainV word)) rfl (by kernel_rfl) (by kernel_rfl) (by kernel_rfl) (fun _ _ _ h => h) (Or.inl ⟨by kernel_rfl, fun s hs => by have c0 := hs.cell 0 _ (by rfl); have c1 := hs.cell 1 _ (by rfl); have c4 := hs.cell 4 _ (by rfl); have c5 := hs.cell 5 _ (by rfl); go_simp <;> omega⟩) hHeld ?_
    refine wpAnyH_done (by kernel_rfl) ?_ _
    clear hHeld
    go_simp
    go_wp2
    go_ret2
    refine ⟨ones_eq ?_ ?_, AX.out.1⟩
    · first
      | rfl
      | (apply ByteArray.ext; simp [bstr])
    · first
      | rfl
      | simp
  · have HSM := Lib.hid hsm
    clear hsm
    have HPL := Lib.hid hpl
    clear hpl
    go_enter Tryz.func43, Tryz.ntmps43
    go_wp2_with (first | (go_at_call 34; refine (itoa_any _ _ H_node.out (H_pow.out.on AX.out.1)).mono ?_; rintro e w1 ⟨rfl, hb⟩; have AN := Lib.hid (AX.out.below hb); clear AX hb; have AX := AN; clear AN; clear c0; have c0 := AX.out.cell 0 _ (by rfl); clear c1; have c1 := AX.out.cell 1 _ (by rfl); clear c4; have c4 := AX.out.cell 4 _ (by rfl); clear c5; have c5 := AX.out.cell 5 _ (by rfl)) | (go_at_call 83; refine (rplain_any _ _ H_name.out).mono ?_; rintro e w2 ⟨rfl, hb⟩; rw [HPL.out]; have AN := Lib.hid (AX.out.below hb); clear AX hb; have AX := AN; clear AN; clear c0; have c0 := AX.out.cell 0 _ (by rfl); clear c1; have c1 := AX.out.cell 1 _ (by rfl); clear c4; have c4 := AX.out.cell 4 _ (by rfl); clear c5; have c5 := AX.out.cell 5 _ (by rfl)) | (go_at_call 82; refine (rsmall_any _ _).mono ?_; rintro e w' ⟨rfl, hw⟩; first | rw [hw, HSM.out] | rw [hw]; clear hw))
    refine wp_region_held_drew (S := Opw #[.int .i64 4, .int .i64 node, .int .i64 at_, .int .i64 org, .string name, .string word, tv, .int .i64 wn, .int .i64 wd, .int .i64 hn, .int .i64 hd, .int .i64 bt, .string bn, .int .i64 bwn, .int .i64 bwd, .int .i64 bhn, .int .i64 bhd, .bool on] w) (by kernel_rfl) AX.out.drew (fun hHeld => ?_)
    refine wpAnyH_take (i := 0) (v := .pointer (some ⟨w.heap.size, 4, none⟩)) rfl (by kernel_rfl) (by kernel_rfl) (by kernel_rfl) (fun _ _ _ h => h) (Or.inl ⟨by kernel_rfl, fun s hs => by have c0 := hs.cell 0 _ (by rfl); have c1 := hs.cell 1 _ (by rfl); have c4 := hs.cell 4 _ (by rfl); have c5 := hs.cell 5 _ (by rfl); go_simp <;> omega⟩) hHeld ?_
    refine wpAnyH_take (i := 1) (v := .string name) rfl (by kernel_rfl) (by kernel_rfl) (by kernel_rfl) (fun _ _ _ h => h) (Or.inl ⟨by kernel_rfl, fun s hs => by have c0 := hs.cell 0 _ (by rfl); have c1 := hs.cell 1 _ (by rfl); have c4 := hs.cell 4 _ (by rfl); have c5 := hs.cell 5 _ (by rfl); go_simp <;> omega⟩) hHeld ?_
    refine wpAnyH_take (i := 2) (v := .string (⟨#[119, 111, 114, 100, 32]⟩ ++ name)) rfl (by kernel_rfl) (by kernel_rfl) (by kernel_rfl) (fun _ _ _ h => h) (Or.inl ⟨by kernel_rfl, fun s hs => by have c0 := hs.cell 0 _ (by rfl); have c1 := hs.cell 1 _ (by rfl); have c4 := hs.cell 4 _ (by rfl); have c5 := hs.cell 5 _ (by rfl); go_simp <;> omega⟩) hHeld ?_
    refine wpAnyH_take (i := 3) (v := .string ((⟨#[119, 111, 114, 100, 32]⟩ ++ name) ++ ⟨#[32]⟩)) rfl (by kernel_rfl) (by kernel_rfl) (by kernel_rfl) (fun _ _ _ h => h) (Or.inl ⟨by kernel_rfl, fun s hs => by have c0 := hs.cell 0 _ (by rfl); have c1 := hs.cell 1 _ (by rfl); have c4 := hs.cell 4 _ (by rfl); have c5 := hs.cell 5 _ (by rfl); go_simp <;> omega⟩) hHeld ?_
    refine wpAnyH_take (i := 4) (v := .pointer (some ⟨w.heap.size, 5, none⟩)) rfl (by kernel_rfl) (by kernel_rfl) (by kernel_rfl) (fun _ _ _ h => h) (Or.inl ⟨by kernel_rfl, fun s hs => by have c0 := hs.cell 0 _ (by rfl); have c1 := hs.cell 1 _ (by rfl); have c4 := hs.cell 4 _ (by rfl); have c5 := hs.cell 5 _ (by rfl); go_simp <;> omega⟩) hHeld ?_
    refine wpAnyH_take (i := 5) (v := .string word) rfl (by kernel_rfl) (by kernel_rfl) (by kernel_rfl) (fun _ _ _ h => h) (Or.inl ⟨by kernel_rfl, fun s hs => by have c0 := hs.cell 0 _ (by rfl); have c1 := hs.cell 1 _ (by rfl); have c4 := hs.cell 4 _ (by rfl); have c5 := hs.cell 5 _ (by rfl); go_simp <;> omega⟩) hHeld ?_
    refine wpAnyH_take (i := 6) (v := .string (((⟨#[119, 111, 114, 100, 32]⟩ ++ name) ++ ⟨#[32]⟩) ++ word)) rfl (by kernel_rfl) (by kernel_rfl) (by kernel_rfl) (fun _ _ _ h => h) (Or.inl ⟨by kernel_rfl, fun s hs => by have c0 := hs.cell 0 _ (by rfl); have c1 := hs.cell 1 _ (by rfl); have c4 := hs.cell 4 _ (by rfl); have c5 := hs.cell 5 _ (by rfl); go_simp <;> omega⟩) hHeld ?_
    refine wpAnyH_take (i := 7) (v := .pointer (some ⟨w.heap.size, 4, none⟩)) rfl (by kernel_rfl) (by kernel_rfl) (by kernel_rfl) (fun _ _ _ h => h) (Or.inl ⟨by kernel_rfl, fun s hs => by have c0 := hs.cell 0 _ (by rfl); have c1 := hs.cell 1 _ (by rfl); have c4 := hs.cell 4 _ (by rfl); have c5 := hs.cell 5 _ (by rfl); go_simp <;> omega⟩) hHeld ?_
    refine wpAnyH_take (i := 8) (v := .string name) rfl (by kernel_rfl) (by kernel_rfl) (by kernel_rfl) (fun _ _ _ h => h) (Or.inl ⟨by kernel_rfl, fun s hs => by have c0 := hs.cell 0 _ (by rfl); have c1 := hs.cell 1 _ (by rfl); have c4 := hs.cell 4 _ (by rfl); have c5 := hs.cell 5 _ (by rfl); go_simp <;> omega⟩) hHeld ?_
    refine wpAnyH_ready (rs := [9]) (by kernel_rfl) (by simp) ?_
    refine AllReadyH.cons rfl (fun K hK => ?_) AllReadyH.nil
    rw [if_pos (by kernel_rfl)]
    go_simp
    refine (rplain_any name _ H_name.out).mono ?_
    rintro e w6 ⟨rfl, hb⟩
    rw [HPL.out]
    have AN := Lib.hid (AX.out.drew.below hb)
    clear AX hb
    have AX := AN
    clear AN
    refine hK _ _ AX.out (fun hHeld => ?_)
    refine wpAnyH_take (i := 10) (v := .bool false) rfl (by kernel_rfl) (by kernel_rfl) (by kernel_rfl) (fun _ _ _ h => h) (Or.inl ⟨by kernel_rfl, fun s hs => by have c0 := hs.cell 0 _ (by rfl); have c1 := hs.cell 1 _ (by rfl); have c4 := hs.cell 4 _ (by rfl); have c5 := hs.cell 5 _ (by rfl); go_simp <;> omega⟩) hHeld ?_
    refine wpAnyH_take (i := 11) (v := undef) rfl (by kernel_rfl) (by kernel_rfl) (by kernel_rfl) (fun _ _ _ h => h) (Or.inr ⟨by kernel_rfl, rfl⟩) hHeld ?_
    refine wpAnyH_take (i := 12) (v := undef) rfl (by kernel_rfl) (by kernel_rfl) (by kernel_rfl) (fun _ _ _ h => h) (Or.inr ⟨by kernel_rfl, rfl⟩) hHeld ?_
    refine wpAnyH_take (i := 13) (v := undef) rfl (by kernel_rfl) (by kernel_rfl) (by kernel_rfl) (fun _ _ _ h => h) (Or.inr ⟨by kernel_rfl, rfl⟩) hHeld ?_
    refine wpAnyH_take (i := 14) (v := .bool false) rfl (by kernel_rfl) (by kernel_rfl) (by kernel_rfl) (fun _ _ _ h => h) (Or.inl ⟨by kernel_rfl, fun s hs => by have c0 := hs.cell 0 _ (by rfl); have c1 := hs.cell 1 _ (by rfl); have c4 := hs.cell 4 _ (by rfl); have c5 := hs.cell 5 _ (by rfl); go_simp <;> omega⟩) hHeld ?_
    refine wpAnyH_take (i := 15) (v := .string (((⟨#[119, 111, 114, 100, 32]⟩ ++ name) ++ ⟨#[32]⟩) ++ word)) rfl (by kernel_rfl) (by kernel_rfl) (by kernel_rfl) (fun _ _ _ h => h) (Or.inl ⟨by kernel_rfl, fun s hs => by have c0 := hs.cell 0 _ (by rfl); have c1 := hs.cell 1 _ (by rfl); have c4 := hs.cell 4 _ (by rfl); have c5 := hs.cell 5 _ (by rfl); go_simp <;> omega⟩) hHeld ?_
    refine wpAnyH_take (i := 16) (v := .bool false) rfl (by kernel_rfl) (by kernel_rfl) (by kernel_rfl) (fun _ _ _ h => h) (Or.inl ⟨by kernel_rfl, fun s hs => by have c0 := hs.cell 0 _ (by rfl); have c1 := hs.cell 1 _ (by rfl); have c4 := hs.cell 4 _ (by rfl); have c5 := hs.cell 5 _ (by rfl); go_simp <;> omega⟩) hHeld ?_
    refine wpAnyH_done (by kernel_rfl) ?_ _
    clear hHeld
    go_simp
    go_wp2
    go_ret2
    refine ⟨ones_eq ?_ ?_, AX.out.1⟩
    · first
      | rfl
      | (apply ByteArray.ext; simp [bstr])
    · first
      | rfl
      | simp
  · have HSM := Lib.hid hsm
    clear hsm
    have HPL := Lib.hid hpl
    clear hpl
    go_enter Tryz.func43, Tryz.ntmps43
    go_wp2_with (first | (go_at_call 34; refine (itoa_any _ _ H_node.out (H_pow.out.on AX.out.1)).mono ?_; rintro e w1 ⟨rfl, hb⟩; have AN := Lib.hid (AX.out.below hb); clear AX hb; have AX := AN; clear AN; clear c0; have c0 := AX.out.cell 0 _ (by rfl); clear c1; have c1 := AX.out.cell 1 _ (by rfl); clear c4; have c4 := AX.out.cell 4 _ (by rfl); clear c5; have c5 := AX.out.cell 5 _ (by rfl)) | (go_at_call 83; refine (rplain_any _ _ H_name.out).mono ?_; rintro e w2 ⟨rfl, hb⟩; rw [HPL.out]; have AN := Lib.hid (AX.out.below hb); clear AX hb; have AX := AN; clear AN; clear c0; have c0 := AX.out.cell 0 _ (by rfl); clear c1; have c1 := AX.out.cell 1 _ (by rfl); clear c4; have c4 := AX.out.cell 4 _ (by rfl); clear c5; have c5 := AX.out.cell 5 _ (by rfl)) | (go_at_call 82; refine (rsmall_any _ _).mono ?_; rintro e w' ⟨rfl, hw⟩; first | rw [hw, HSM.out] | rw [hw]; clear hw))
    refine wp_region_held_drew (S := Opw #[.int .i64 4, .int .i64 node, .int .i64 at_, .int .i64 org, .string name, .string word, tv, .int .i64 wn, .int .i64 wd, .int .i64 hn, .int .i64 hd, .int .i64 bt, .string bn, .int .i64 bwn, .int .i64 bwd, .int .i64 bhn, .int .i64 bhd, .bool on] w) (by kernel_rfl) AX.out.drew (fun hHeld => ?_)
    refine wpAnyH_take (i := 0) (v := .pointer (some ⟨w.heap.size, 4, none⟩)) rfl (by kernel_rfl) (by kernel_rfl) (by kernel_rfl) (fun _ _ _ h => h) (Or.inl ⟨by kernel_rfl, fun s hs => by have c0 := hs.cell 0 _ (by rfl); have c1 := hs.cell 1 _ (by rfl); have c4 := hs.cell 4 _ (by rfl); have c5 := hs.cell 5 _ (by rfl); go_simp <;> omega⟩) hHeld ?_
    refine wpAnyH_take (i := 1) (v := .string name) rfl (by kernel_rfl) (by kernel_rfl) (by kernel_rfl) (fun _ _ _ h => h) (Or.inl ⟨by kernel_rfl, fun s hs => by have c0 := hs.cell 0 _ (by rfl); have c1 := hs.cell 1 _ (by rfl); have c4 := hs.cell 4 _ (by rfl); have c5 := hs.cell 5 _ (by rfl); go_simp <;> omega⟩) hHeld ?_
    refine wpAnyH_take (i := 2) (v := .string (⟨#[119, 111, 114, 100, 32]⟩ ++ name)) rfl (by kernel_rfl) (by kernel_rfl) (by kernel_rfl) (fun _ _ _ h => h) (Or.inl ⟨by kernel_rfl, fun s hs => by have c0 := hs.cell 0 _ (by rfl); have c1 := hs.cell 1 _ (by rfl); have c4 := hs.cell 4 _ (by rfl); have c5 := hs.cell 5 _ (by rfl); go_simp <;> omega⟩) hHeld ?_
    refine wpAnyH_take (i := 3) (v := .string ((⟨#[119, 111, 114, 100, 32]⟩ ++ name) ++ ⟨#[32]⟩)) rfl (by kernel_rfl) (by kernel_rfl) (by kernel_rfl) (fun _ _ _ h => h) (Or.inl ⟨by kernel_rfl, fun s hs => by have c0 := hs.cell 0 _ (by rfl); have c1 := hs.cell 1 _ (by rfl); have c4 := hs.cell 4 _ (by rfl); have c5 := hs.cell 5 _ (by rfl); go_simp <;> omega⟩) hHeld ?_
    refine wpAnyH_take (i := 4) (v := .pointer (some ⟨w.heap.size, 5, none⟩)) rfl (by kernel_rfl) (by kernel_rfl) (by kernel_rfl) (fun _ _ _ h => h) (Or.inl ⟨by kernel_rfl, fun s hs => by have c0 := hs.cell 0 _ (by rfl); have c1 := hs.cell 1 _ (by rfl); have c4 := hs.cell 4 _ (by rfl); have c5 := hs.cell 5 _ (by rfl); go_simp <;> omega⟩) hHeld ?_
    refine wpAnyH_take (i := 5) (v := .string word) rfl (by kernel_rfl) (by kernel_rfl) (by kernel_rfl) (fun _ _ _ h => h) (Or.inl ⟨by kernel_rfl, fun s hs => by have c0 := hs.cell 0 _ (by rfl); have c1 := hs.cell 1 _ (by rfl); have c4 := hs.cell 4 _ (by rfl); have c5 := hs.cell 5 _ (by rfl); go_simp <;> omega⟩) hHeld ?_
    refine wpAnyH_take (i := 6) (v := .string (((⟨#[119, 111, 114, 100, 32]⟩ ++ name) ++ ⟨#[32]⟩) ++ word)) rfl (by kernel_rfl) (by kernel_rfl) (by kernel_rfl) (fun _ _ _ h => h) (Or.inl ⟨by kernel_rfl, fun s hs => by have c0 := hs.cell 0 _ (by rfl); have c1 := hs.cell 1 _ (by rfl); have c4 := hs.cell 4 _ (by rfl); have c5 := hs.cell 5 _ (by rfl); go_simp <;> omega⟩) hHeld ?_
    refine wpAnyH_take (i := 7) (v := .pointer (some ⟨w.heap.size, 4, none⟩)) rfl (by kernel_rfl) (by kernel_rfl) (by kernel_rfl) (fun _ _ _ h => h) (Or.inl ⟨by kernel_rfl, fun s hs => by have c0 := hs.cell 0 _ (by rfl); have c1 := hs.cell 1 _ (by rfl); have c4 := hs.cell 4 _ (by rfl); have c5 := hs.cell 5 _ (by rfl); go_simp <;> omega⟩) hHeld ?_
    refine wpAnyH_take (i := 8) (v := .string name) rfl (by kernel_rfl) (by kernel_rfl) (by kernel_rfl) (fun _ _ _ h => h) (Or.inl ⟨by kernel_rfl, fun s hs => by have c0 := hs.cell 0 _ (by rfl); have c1 := hs.cell 1 _ (by rfl); have c4 := hs.cell 4 _ (by rfl); have c5 := hs.cell 5 _ (by rfl); go_simp <;> omega⟩) hHeld ?_
    refine wpAnyH_ready (rs := [9]) (by kernel_rfl) (by simp) ?_
    refine AllReadyH.cons rfl (fun K hK => ?_) AllReadyH.nil
    rw [if_pos (by kernel_rfl)]
    go_simp
    refine (rplain_any name _ H_name.out).mono ?_
    rintro e w6 ⟨rfl, hb⟩
    rw [HPL.out]
    have AN := Lib.hid (AX.out.drew.below hb)
    clear AX hb
    have AX := AN
    clear AN
    refine hK _ _ AX.out (fun hHeld => ?_)
    refine wpAnyH_take (i := 10) (v := .bool true) rfl (by kernel_rfl) (by kernel_rfl) (by kernel_rfl) (fun _ _ _ h => h) (Or.inl ⟨by kernel_rfl, fun s hs => by have c0 := hs.cell 0 _ (by rfl); have c1 := hs.cell 1 _ (by rfl); have c4 := hs.cell 4 _ (by rfl); have c5 := hs.cell 5 _ (by rfl); go_simp <;> omega⟩) hHeld ?_
    refine wpAnyH_take (i := 11) (v := .pointer (some ⟨w.heap.size, 5, none⟩)) rfl (by kernel_rfl) (by kernel_rfl) (by kernel_rfl) (fun _ _ _ h => h) (Or.inl ⟨by kernel_rfl, fun s hs => by have c0 := hs.cell 0 _ (by rfl); have c1 := hs.cell 1 _ (by rfl); have c4 := hs.cell 4 _ (by rfl); have c5 := hs.cell 5 _ (by rfl); go_simp <;> omega⟩) hHeld ?_
    refine wpAnyH_take (i := 12) (v := .string word) rfl (by kernel_rfl) (by kernel_rfl) (by kernel_rfl) (fun _ _ _ h => h) (Or.inl ⟨by kernel_rfl, fun s hs => by have c0 := hs.cell 0 _ (by rfl); have c1 := hs.cell 1 _ (by rfl); have c4 := hs.cell 4 _ (by rfl); have c5 := hs.cell 5 _ (by rfl); go_simp <;> omega⟩) hHeld ?_
    refine wpAnyH_ready (rs := [13]) (by kernel_rfl) (by simp) ?_
    refine AllReadyH.cons rfl (fun K hK => ?_) AllReadyH.nil
    rw [if_pos (by kernel_rfl)]
    go_simp
    refine (rplain_any word _ H_word.out).mono ?_
    rintro e w7 ⟨rfl, hb⟩
    have AN := Lib.hid (AX.out.below hb)
    clear AX hb
    have AX := AN
    clear AN
    refine hK _ _ AX.out (fun hHeld => ?_)
    refine wpAnyH_take (i := 14) (v := .bool (plainV word)) rfl (by kernel_rfl) (by kernel_rfl) (by kernel_rfl) (fun _ _ _ h => h) (Or.inl ⟨by kernel_rfl, fun s hs => by have c0 := hs.cell 0 _ (by rfl); have c1 := hs.cell 1 _ (by rfl); have c4 := hs.cell 4 _ (by rfl); have c5 := hs.cell 5 _ (by rfl); go_simp <;> omega⟩) hHeld ?_
    refine wpAnyH_take (i := 15) (v := .string (((⟨#[119, 111, 114, 100, 32]⟩ ++ name) ++ ⟨#[32]⟩) ++ word)) rfl (by kernel_rfl) (by kernel_rfl) (by kernel_rfl) (fun _ _ _ h => h) (Or.inl ⟨by kernel_rfl, fun s hs => by have c0 := hs.cell 0 _ (by rfl); have c1 := hs.cell 1 _ (by rfl); have c4 := hs.cell 4 _ (by rfl); have c5 := hs.cell 5 _ (by rfl); go_simp <;> omega⟩) hHeld ?_
    refine wpAnyH_take (i := 16) (v := .bool (plainV word)) rfl (by kernel_rfl) (by kernel_rfl) (by kernel_rfl) (fun _ _ _ h => h) (Or.inl ⟨by kernel_rfl, fun s hs => by have c0 := hs.cell 0 _ (by rfl); have c1 := hs.cell 1 _ (by rfl); have c4 := hs.cell 4 _ (by rfl); have c5 := hs.cell 5 _ (by rfl); go_simp <;> omega⟩) hHeld ?_
    refine wpAnyH_done (by kernel_rfl) ?_ _
    clear hHeld
    go_simp
    go_wp2
    go_ret2
    refine ⟨ones_eq ?_ ?_, AX.out.1⟩
    · first
      | rfl
      | (apply ByteArray.ext; simp [bstr])
    · first
      | rfl
      | simp
end
end Go.Proofs.YtihlneenajlhoaaGreatDoor
/-
  jalousieref27.one, kind by kind. Condition: lengths that fit; strconv's table stands.
-/
set_option linter.unusedSimpArgs false
set_option linter.unusedVariables false
namespace Go.Proofs.YtihlneenajlhoaaGreatDoor
open Go Go.RowKit

section
variable (node at_ org : Int) (name word : ByteArray) (tv : Value) (tx : List UInt8) (wn wd hn hd bt : Int) (bn : ByteArray) (bwn bwd bhn bhd : Int) (on : Bool) (w : World) (h_node : I64 node) (h_at : I64 at_) (h_org : I64 org) (h_name : name.size ≤ 1048576) (h_word : word.size ≤ 1048576) (h_tx : tx.length ≤ 1048576) (h_row : RowAt w.heap.size w tv tx.length (Lib.byteCells tx)) (h_w : I64 wn ∧ I64 wd) (h_h : I64 hn ∧ I64 hd) (h_bn : bn.size ≤ 1048576) (h_bw : I64 bwn ∧ I64 bwd) (h_bh : I64 bhn ∧ I64 bhd) (h_pow : Pow w)
include h_node h_at h_org h_name h_word h_tx h_row h_w h_h h_bn h_bw h_bh h_pow
set_option maxRecDepth 100000 in
set_option maxHeartbeats 8000000 in
/-- jalousieref27.one at kind 5. -/
theorem rone_insert : Calls Tryz.prog 43 #[.agg #[.int .i64 5, .int .i64 node, .int .i64 at_, .int .i64 org, .string name, .string word, tv, .int .i64 wn, .int .i64 wd, .int .i64 hn, .int .i64 hd, .int .i64 bt, .string bn, .int .i64 bwn, .int .i64 bwd, .int .i64 bhn, .int .i64 bhd, .bool on]] w fun e w' => e = .returned (.tuple #[.string (bstr (sp.kInsert ++ 32 :: Lib.itoa node ++ 32 :: Lib.itoa at_ ++ 32 :: name.data.toList)), .bool (smallB node && plainV name && smallB at_)]) ∧ Below w.heap.size w w' := by
  have H_node := Lib.hid h_node
  have H_at := Lib.hid h_at
  have H_org := Lib.hid h_org
  have H_name := Lib.hid h_name
  have H_word := Lib.hid h_word
  have H_tx := Lib.hid h_tx
  have H_row := Lib.hid h_row
  have H_w := Lib.hid h_w
  have H_h := Lib.hid h_h
  have H_bn := Lib.hid h_bn
  have H_bw := Lib.hid h_bw
  have H_bh := Lib.hid h_bh
  have H_pow := Lib.hid h_pow
  have z1 := size_bstr_itoa h_node
  have z2 := size_bstr_itoa h_at
  have z3 := size_bstr_itoa h_org
  have z4 := h_name
  have z5 := h_word
  have z6 : (bstr tx).size ≤ 1048576 := by rw [bstr_size]; exact h_tx
  have z7 : (bstr (sp.quoteS word.data.toList)).size ≤ 5000000 := by rw [bstr_size]; have := quoteS_len word.data.toList; rw [datLen] at this; omega
  have z8 : (bstr (sp.quoteS (bstr tx).data.toList)).size ≤ 5000000 := by rw [bstr_size]; have := quoteS_len (bstr tx).data.toList; rw [datLen] at this; omega
  have hA := Opw.new #[.int .i64 5, .int .i64 node, .int .i64 at_, .int .i64 org, .string name, .string word, tv, .int .i64 wn, .int .i64 wd, .int .i64 hn, .int .i64 hd, .int .i64 bt, .string bn, .int .i64 bwn, .int .i64 bwd, .int .i64 bhn, .int .i64 bhd, .bool on] w
  have c0 := hA.cell 0 _ (by rfl)
  have c1 := hA.cell 1 _ (by rfl)
  have c2 := hA.cell 2 _ (by rfl)
  have c4 := hA.cell 4 _ (by rfl)
  have AX := Lib.hid hA
  clear hA h_node h_at h_org h_name h_word h_tx h_row h_w h_h h_bn h_bw h_bh h_pow
  cases hsm : smallB node <;> cases hpl : plainV name
  · have HSM := Lib.hid hsm
    clear hsm
    have HPL := Lib.hid hpl
    clear hpl
    go_enter Tryz.func43, Tryz.ntmps43
    go_wp2_with (first | (go_at_call 34; refine (itoa_any _ _ H_node.out (H_pow.out.on AX.out.1)).mono ?_; rintro e w1 ⟨rfl, hb⟩; have AN := Lib.hid (AX.out.below hb); clear AX hb; have AX := AN; clear AN; clear c0; have c0 := AX.out.cell 0 _ (by rfl); clear c1; have c1 := AX.out.cell 1 _ (by rfl); clear c2; have c2 := AX.out.cell 2 _ (by rfl); clear c4; have c4 := AX.out.cell 4 _ (by rfl)) | (go_at_call 83; refine (rplain_any _ _ H_name.out).mono ?_; rintro e w2 ⟨rfl, hb⟩; rw [HPL.out]; have AN := Lib.hid (AX.out.below hb); clear AX hb; have AX := AN; clear AN; clear c0; have c0 := AX.out.cell 0 _ (by rfl); clear c1; have c1 := AX.out.cell 1 _ (by rfl); clear c2; have c2 := AX.out.cell 2 _ (by rfl); clear c4; have c4 := AX.out.cell 4 _ (by rfl)) | (go_at_call 82; refine (rsmall_any _ _).mono ?_; rintro e w' ⟨rfl, hw⟩; first | rw [hw, HSM.out] | rw [hw]; clear hw))
    refine wp_region_held_drew (S := Opw #[.int .i64 5, .int .i64 node, .int .i64 at_, .int .i64 org, .string name, .string word, tv, .int .i64 wn, .int .i64 wd, .int .i64 hn, .int .i64 hd, .int .i64 bt, .string bn, .int .i64 bwn, .int .i64 bwd, .int .i64 bhn, .int .i64 bhd, .bool on] w) (by kernel_rfl) AX.out.drew (fun hHeld => ?_)
    refine wpAnyH_take (i := 0) (v := .string (bstr (Lib.itoa node))) rfl (by kernel_rfl) (by kernel_rfl) (by kernel_rfl) (fun _ _ _ h => h) (Or.inl ⟨by kernel_rfl, fun s hs => by have c0 := hs.cell 0 _ (by rfl); have c1 := hs.cell 1 _ (by rfl); have c2 := hs.cell 2 _ (by rfl); have c4 := hs.cell 4 _ (by rfl); go_simp <;> omega⟩) hHeld ?_
    refine wpAnyH_take (i := 1) (v := .string (⟨#[105, 110, 115, 101, 114, 116, 32]⟩ ++ bstr (Lib.itoa node))) rfl (by kernel_rfl) (by kernel_rfl) (by kernel_rfl) (fun _ _ _ h => h) (Or.inl ⟨by kernel_rfl, fun s hs => by have c0 := hs.cell 0 _ (by rfl); have c1 := hs.cell 1 _ (by rfl); have c2 := hs.cell 2 _ (by rfl); have c4 := hs.cell 4 _ (by rfl); go_simp <;> omega⟩) hHeld ?_
    refine wpAnyH_take (i := 2) (v := .string ((⟨#[105, 110, 115, 101, 114, 116, 32]⟩ ++ bstr (Lib.itoa node)) ++ ⟨#[32]⟩)) rfl (by kernel_rfl) (by kernel_rfl) (by kernel_rfl) (fun _ _ _ h => h) (Or.inl ⟨by kernel_rfl, fun s hs => by have c0 := hs.cell 0 _ (by rfl); have c1 := hs.cell 1 _ (by rfl); have c2 := hs.cell 2 _ (by rfl); have c4 := hs.cell 4 _ (by rfl); go_simp <;> omega⟩) hHeld ?_
    refine wpAnyH_take (i := 3) (v := .pointer (some ⟨w.heap.size, 2, none⟩)) rfl (by kernel_rfl) (by kernel_rfl) (by kernel_rfl) (fun _ _ _ h => h) (Or.inl ⟨by kernel_rfl, fun s hs => by have c0 := hs.cell 0 _ (by rfl); have c1 := hs.cell 1 _ (by rfl); have c2 := hs.cell 2 _ (by rfl); have c4 := hs.cell 4 _ (by rfl); go_simp <;> omega⟩) hHeld ?_
    refine wpAnyH_take (i := 4) (v := .int .i64 at_) rfl (by kernel_rfl) (by kernel_rfl) (by kernel_rfl) (fun _ _ _ h => h) (Or.inl ⟨by kernel_rfl, fun s hs => by have c0 := hs.cell 0 _ (by rfl); have c1 := hs.cell 1 _ (by rfl); have c2 := hs.cell 2 _ (by rfl); have c4 := hs.cell 4 _ (by rfl); go_simp <;> omega⟩) hHeld ?_
    refine wpAnyH_take (i := 8) (v := .pointer (some ⟨w.heap.size, 4, none⟩)) rfl (by kernel_rfl) (by kernel_rfl) (by kernel_rfl) (fun _ _ _ h => h) (Or.inl ⟨by kernel_rfl, fun s hs => by have c0 := hs.cell 0 _ (by rfl); have c1 := hs.cell 1 _ (by rfl); have c2 := hs.cell 2 _ (by rfl); have c4 := hs.cell 4 _ (by rfl); go_simp <;> omega⟩) hHeld ?_
    refine wpAnyH_take (i := 9) (v := .string name) rfl (by kernel_rfl) (by kernel_rfl) (by kernel_rfl) (fun _ _ _ h => h) (Or.inl ⟨by kernel_rfl, fun s hs => by have c0 := hs.cell 0 _ (by rfl); have c1 := hs.cell 1 _ (by rfl); have c2 := hs.cell 2 _ (by rfl); have c4 := hs.cell 4 _ (by rfl); go_simp <;> omega⟩) hHeld ?_
    refine wpAnyH_take (i := 11) (v := .bool false) rfl (by kernel_rfl) (by kernel_rfl) (by kernel_rfl) (fun _ _ _ h => h) (Or.inl ⟨by kernel_rfl, fun s hs => by have c0 := hs.cell 0 _ (by rfl); have c1 := hs.cell 1 _ (by rfl); have c2 := hs.cell 2 _ (by rfl); have c4 := hs.cell 4 _ (by rfl); go_simp <;> omega⟩) hHeld ?_
    refine wpAnyH_ready (rs := [5]) (by kernel_rfl) (by simp) ?_
    refine AllReadyH.cons rfl (fun K hK => ?_) AllReadyH.nil
    rw [if_pos (by kernel_rfl)]
    go_simp
    refine (itoa_any _ _ H_at.out (H_pow.out.on AX.out.drew.1)).mono ?_
    rintro e w5 ⟨rfl, hb⟩
    have AN := Lib.hid (AX.out.drew.below hb)
    clear AX hb
    have AX := AN
    clear AN
    refine hK _ _ AX.out (fun hHeld => ?_)
    refine wpAnyH_take (i := 6) (v := .string (((⟨#[105, 110, 115, 101, 114, 116, 32]⟩ ++ bstr (Lib.itoa node)) ++ ⟨#[32]⟩) ++ bstr (Lib.itoa at_))) rfl (by kernel_rfl) (by kernel_rfl) (by kernel_rfl) (fun _ _ _ h => h) (Or.inl ⟨by kernel_rfl, fun s hs => by have c0 := hs.cell 0 _ (by rfl); have c1 := hs.cell 1 _ (by rfl); have c2 := hs.cell 2 _ (by rfl); have c4 := hs.cell 4 _ (by rfl); go_simp <;> omega⟩) hHeld ?_
    refine wpAnyH_take (i := 7) (v := .string ((((⟨#[105, 110, 115, 101, 114, 116, 32]⟩ ++ bstr (Lib.itoa node)) ++ ⟨#[32]⟩) ++ bstr (Lib.itoa at_)) ++ ⟨#[32]⟩)) rfl (by kernel_rfl) (by kernel_rfl) (by kernel_rfl) (fun _ _ _ h => h) (Or.inl ⟨by kernel_rfl, fun s hs => by have c0 := hs.cell 0 _ (by rfl); have c1 := hs.cell 1 _ (by rfl); have c2 := hs.cell 2 _ (by rfl); have c4 := hs.cell 4 _ (by rfl); go_simp <;> omega⟩) hHeld ?_
    refine wpAnyH_take (i := 10) (v := .string (((((⟨#[105, 110, 115, 101, 114, 116, 32]⟩ ++ bstr (Lib.itoa node)) ++ ⟨#[32]⟩) ++ bstr (Lib.itoa at_)) ++ ⟨#[32]⟩) ++ name)) rfl (by kernel_rfl) (by kernel_rfl) (by kernel_rfl) (fun _ _ _ h => h) (Or.inl ⟨by kernel_rfl, fun s hs => by have c0 := hs.cell 0 _ (by rfl); have c1 := hs.cell 1 _ (by rfl); have c2 := hs.cell 2 _ (by rfl); have c4 := hs.cell 4 _ (by rfl); go_simp <;> omega⟩) hHeld ?_
    refine wpAnyH_take (i := 12) (v := .bool false) rfl (by kernel_rfl) (by kernel_rfl) (by kernel_rfl) (fun _ _ _ h => h) (Or.inl ⟨by kernel_rfl, fun s hs => by have c0 := hs.cell 0 _ (by rfl); have c1 := hs.cell 1 _ (by rfl); have c2 := hs.cell 2 _ (by rfl); have c4 := hs.cell 4 _ (by rfl); go_simp <;> omega⟩) hHeld ?_
    refine wpAnyH_take (i := 13) (v := undef) rfl (by kernel_rfl) (by kernel_rfl) (by kernel_rfl) (fun _ _ _ h => h) (Or.inr ⟨by kernel_rfl, rfl⟩) hHeld ?_
    refine wpAnyH_take (i := 14) (v := undef) rfl (by kernel_rfl) (by kernel_rfl) (by kernel_rfl) (fun _ _ _ h => h) (Or.inr ⟨by kernel_rfl, rfl⟩) hHeld ?_
    refine wpAnyH_take (i := 15) (v := undef) rfl (by kernel_rfl) (by kernel_rfl) (by kernel_rfl) (fun _ _ _ h => h) (Or.inr ⟨by kernel_rfl, rfl⟩) hHeld ?_
    refine wpAnyH_take (i := 16) (v := .bool false) rfl (by kernel_rfl) (by kernel_rfl) (by kernel_rfl) (fun _ _ _ h => h) (Or.inl ⟨by kernel_rfl, fun s hs => by have c0 := hs.cell 0 _ (by rfl); have c1 := hs.cell 1 _ (by rfl); have c2 := hs.cell 2 _ (by rfl); have c4 := hs.cell 4 _ (by rfl); go_simp <;> omega⟩) hHeld ?_
    refine wpAnyH_take (i := 17) (v := .string (((((⟨#[105, 110, 115, 101, 114, 116, 32]⟩ ++ bstr (Lib.itoa node)) ++ ⟨#[32]⟩) ++ bstr (Lib.itoa at_)) ++ ⟨#[32]⟩) ++ name)) rfl (by kernel_rfl) (by kernel_rfl) (by kernel_rfl) (fun _ _ _ h => h) (Or.inl ⟨by kernel_rfl, fun s hs => by have c0 := hs.cell 0 _ (by rfl); have c1 := hs.cell 1 _ (by rfl); have c2 := hs.cell 2 _ (by rfl); have c4 := hs.cell 4 _ (by rfl); go_simp <;> omega⟩) hHeld ?_
    refine wpAnyH_take (i := 18) (v := .bool false) rfl (by kernel_rfl) (by kernel_rfl) (by kernel_rfl) (fun _ _ _ h => h) (Or.inl ⟨by kernel_rfl, fun s hs => by have c0 := hs.cell 0 _ (by rfl); have c1 := hs.cell 1 _ (by rfl); have c2 := hs.cell 2 _ (by rfl); have c4 := hs.cell 4 _ (by rfl); go_simp <;> omega⟩) hHeld ?_
    refine wpAnyH_done (by kernel_rfl) ?_ _
    clear hHeld
    go_simp
    go_wp2
    go_ret2
    refine ⟨ones_eq ?_ ?_, AX.out.1⟩
    · first
      | rfl
      | (apply ByteArray.ext; simp [bstr])
    · first
      | rfl
      | simp
  · have HSM := Lib.hid hsm
    clear hsm
    have HPL := Lib.hid hpl
    clear hpl
    go_enter Tryz.func43, Tryz.ntmps43
    go_wp2_with (first | (go_at_call 34; refine (itoa_any _ _ H_node.out (H_pow.out.on AX.out.1)).mono ?_; rintro e w1 ⟨rfl, hb⟩; have AN := Lib.hid (AX.out.below hb); clear AX hb; have AX := AN; clear AN; clear c0; have c0 := AX.out.cell 0 _ (by rfl); clear c1; have c1 := AX.out.cell 1 _ (by rfl); clear c2; have c2 := AX.out.cell 2 _ (by rfl); clear c4; have c4 := AX.out.cell 4 _ (by rfl)) | (go_at_call 83; refine (rplain_any _ _ H_name.out).mono ?_; rintro e w2 ⟨rfl, hb⟩; rw [HPL.out]; have AN := Lib.hid (AX.out.below hb); clear AX hb; have AX := AN; clear AN; clear c0; have c0 := AX.out.cell 0 _ (by rfl); clear c1; have c1 := AX.out.cell 1 _ (by rfl); clear c2; have c2 := AX.out.cell 2 _ (by rfl); clear c4; have c4 := AX.out.cell 4 _ (by rfl)) | (go_at_call 82; refine (rsmall_any _ _).mono ?_; rintro e w' ⟨rfl, hw⟩; first | rw [hw, HSM.out] | rw [hw]; clear hw))
    refine wp_region_held_drew (S := Opw #[.int .i64 5, .int .i64 node, .int .i64 at_, .int .i64 org, .string name, .string word, tv, .int .i64 wn, .int .i64 wd, .int .i64 hn, .int .i64 hd, .int .i64 bt, .string bn, .int .i64 bwn, .int .i64 bwd, .int .i64 bhn, .int .i64 bhd, .bool on] w) (by kernel_rfl) AX.out.drew (fun hHeld => ?_)
    refine wpAnyH_take (i := 0) (v := .string (bstr (Lib.itoa node))) rfl (by kernel_rfl) (by kernel_rfl) (by kernel_rfl) (fun _ _ _ h => h) (Or.inl ⟨by kernel_rfl, fun s hs => by have c0 := hs.cell 0 _ (by rfl); have c1 := hs.cell 1 _ (by rfl); have c2 := hs.cell 2 _ (by rfl); have c4 := hs.cell 4 _ (by rfl); go_simp <;> omega⟩) hHeld ?_
    refine wpAnyH_take (i := 1) (v := .string (⟨#[105, 110, 115, 101, 114, 116, 32]⟩ ++ bstr (Lib.itoa node))) rfl (by kernel_rfl) (by kernel_rfl) (by kernel_rfl) (fun _ _ _ h => h) (Or.inl ⟨by kernel_rfl, fun s hs => by have c0 := hs.cell 0 _ (by rfl); have c1 := hs.cell 1 _ (by rfl); have c2 := hs.cell 2 _ (by rfl); have c4 := hs.cell 4 _ (by rfl); go_simp <;> omega⟩) hHeld ?_
    refine wpAnyH_take (i := 2) (v := .string ((⟨#[105, 110, 115, 101, 114, 116, 32]⟩ ++ bstr (Lib.itoa node)) ++ ⟨#[32]⟩)) rfl (by kernel_rfl) (by kernel_rfl) (by kernel_rfl) (fun _ _ _ h => h) (Or.inl ⟨by kernel_rfl, fun s hs => by have c0 := hs.cell 0 _ (by rfl); have c1 := hs.cell 1 _ (by rfl); have c2 := hs.cell 2 _ (by rfl); have c4 := hs.cell 4 _ (by rfl); go_simp <;> omega⟩) hHeld ?_
    refine wpAnyH_take (i := 3) (v := .pointer (some ⟨w.heap.size, 2, none⟩)) rfl (by kernel_rfl) (by kernel_rfl) (by kernel_rfl) (fun _ _ _ h => h) (Or.inl ⟨by kernel_rfl, fun s hs => by have c0 := hs.cell 0 _ (by rfl); have c1 := hs.cell 1 _ (by rfl); have c2 := hs.cell 2 _ (by rfl); have c4 := hs.cell 4 _ (by rfl); go_simp <;> omega⟩) hHeld ?_
    refine wpAnyH_take (i := 4) (v := .int .i64 at_) rfl (by kernel_rfl) (by kernel_rfl) (by kernel_rfl) (fun _ _ _ h => h) (Or.inl ⟨by kernel_rfl, fun s hs => by have c0 := hs.cell 0 _ (by rfl); have c1 := hs.cell 1 _ (by rfl); have c2 := hs.cell 2 _ (by rfl); have c4 := hs.cell 4 _ (by rfl); go_simp <;> omega⟩) hHeld ?_
    refine wpAnyH_take (i := 8) (v := .pointer (some ⟨w.heap.size, 4, none⟩)) rfl (by kernel_rfl) (by kernel_rfl) (by kernel_rfl) (fun _ _ _ h => h) (Or.inl ⟨by kernel_rfl, fun s hs => by have c0 := hs.cell 0 _ (by rfl); have c1 := hs.cell 1 _ (by rfl); have c2 := hs.cell 2 _ (by rfl); have c4 := hs.cell 4 _ (by rfl); go_simp <;> omega⟩) hHeld ?_
    refine wpAnyH_take (i := 9) (v := .string name) rfl (by kernel_rfl) (by kernel_rfl) (by kernel_rfl) (fun _ _ _ h => h) (Or.inl ⟨by kernel_rfl, fun s hs => by have c0 := hs.cell 0 _ (by rfl); have c1 := hs.cell 1 _ (by rfl); have c2 := hs.cell 2 _ (by rfl); have c4 := hs.cell 4 _ (by rfl); go_simp <;> omega⟩) hHeld ?_
    refine wpAnyH_take (i := 11) (v := .bool false) rfl (by kernel_rfl) (by kernel_rfl) (by kernel_rfl) (fun _ _ _ h => h) (Or.inl ⟨by kernel_rfl, fun s hs => by have c0 := hs.cell 0 _ (by rfl); have c1 := hs.cell 1 _ (by rfl); have c2 := hs.cell 2 _ (by rfl); have c4 := hs.cell 4 _ (by rfl); go_simp <;> omega⟩) hHeld ?_
    refine wpAnyH_ready (rs := [5]) (by kernel_rfl) (by simp) ?_
    refine AllReadyH.cons rfl (fun K hK => ?_) AllReadyH.nil
    rw [if_pos (by kernel_rfl)]
    go_simp
    refine (itoa_any _ _ H_at.out (H_pow.out.on AX.out.drew.1)).mono ?_
    rintro e w5 ⟨rfl, hb⟩
    have AN := Lib.hid (AX.out.drew.below hb)
    clear AX hb
    have AX := AN
    clear AN
    refine hK _ _ AX.out (fun hHeld => ?_)
    refine wpAnyH_take (i := 6) (v := .string (((⟨#[105, 110, 115, 101, 114, 116, 32]⟩ ++ bstr (Lib.itoa node)) ++ ⟨#[32]⟩) ++ bstr (Lib.itoa at_))) rfl (by kernel_rfl) (by kernel_rfl) (by kernel_rfl) (fun _ _ _ h => h) (Or.inl ⟨by kernel_rfl, fun s hs => by have c0 := hs.cell 0 _ (by rfl); have c1 := hs.cell 1 _ (by rfl); have c2 := hs.cell 2 _ (by rfl); have c4 := hs.cell 4 _ (by rfl); go_simp <;> omega⟩) hHeld ?_
    refine wpAnyH_take (i := 7) (v := .string ((((⟨#[105, 110, 115, 101, 114, 116, 32]⟩ ++ bstr (Lib.itoa node)) ++ ⟨#[32]⟩) ++ bstr (Lib.itoa at_)) ++ ⟨#[32]⟩)) rfl (by kernel_rfl) (by kernel_rfl) (by kernel_rfl) (fun _ _ _ h => h) (Or.inl ⟨by kernel_rfl, fun s hs => by have c0 := hs.cell 0 _ (by rfl); have c1 := hs.cell 1 _ (by rfl); have c2 := hs.cell 2 _ (by rfl); have c4 := hs.cell 4 _ (by rfl); go_simp <;> omega⟩) hHeld ?_
    refine wpAnyH_take (i := 10) (v := .string (((((⟨#[105, 110, 115, 101, 114, 116, 32]⟩ ++ bstr (Lib.itoa node)) ++ ⟨#[32]⟩) ++ bstr (Lib.itoa at_)) ++ ⟨#[32]⟩) ++ name)) rfl (by kernel_rfl) (by kernel_rfl) (by kernel_rfl) (fun _ _ _ h => h) (Or.inl ⟨by kernel_rfl, fun s hs => by have c0 := hs.cell 0 _ (by rfl); have c1 := hs.cell 1 _ (by rfl); have c2 := hs.cell 2 _ (by rfl); have c4 := hs.cell 4 _ (by rfl); go_simp <;> omega⟩) hHeld ?_
    refine wpAnyH_take (i := 12) (v := .bool false) rfl (by kernel_rfl) (by kernel_rfl) (by kernel_rfl) (fun _ _ _ h => h) (Or.inl ⟨by kernel_rfl, fun s hs => by have c0 := hs.cell 0 _ (by rfl); have c1 := hs.cell 1 _ (by rfl); have c2 := hs.cell 2 _ (by rfl); have c4 := hs.cell 4 _ (by rfl); go_simp <;> omega⟩) hHeld ?_
    refine wpAnyH_take (i := 13) (v := undef) rfl (by kernel_rfl) (by kernel_rfl) (by kernel_rfl) (fun _ _ _ h => h) (Or.inr ⟨by kernel_rfl, rfl⟩) hHeld ?_
    refine wpAnyH_take (i := 14) (v := undef) rfl (by kernel_rfl) (by kernel_rfl) (by kernel_rfl) (fun _ _ _ h => h) (Or.inr ⟨by kernel_rfl, rfl⟩) hHeld ?_
    refine wpAnyH_take (i := 15) (v := undef) rfl (by kernel_rfl) (by kernel_rfl) (by kernel_rfl) (fun _ _ _ h => h) (Or.inr ⟨by kernel_rfl, rfl⟩) hHeld ?_
    refine wpAnyH_take (i := 16) (v := .bool false) rfl (by kernel_rfl) (by kernel_rfl) (by kernel_rfl) (fun _ _ _ h => h) (Or.inl ⟨by kernel_rfl, fun s hs => by have c0 := hs.cell 0 _ (by rfl); have c1 := hs.cell 1 _ (by rfl); have c2 := hs.cell 2 _ (by rfl); have c4 := hs.cell 4 _ (by rfl); go_simp <;> omega⟩) hHeld ?_
    refine wpAnyH_take (i := 17) (v := .string (((((⟨#[105, 110, 115, 101, 114, 116, 32]⟩ ++ bstr (Lib.itoa node)) ++ ⟨#[32]⟩) ++ bstr (Lib.itoa at_)) ++ ⟨#[32]⟩) ++ name)) rfl (by kernel_rfl) (by kernel_rfl) (by kernel_rfl) (fun _ _ _ h => h) (Or.inl ⟨by kernel_rfl, fun s hs => by have c0 := hs.cell 0 _ (by rfl); have c1 := hs.cell 1 _ (by rfl); have c2 := hs.cell 2 _ (by rfl); have c4 := hs.cell 4 _ (by rfl); go_simp <;> omega⟩) hHeld ?_
    refine wpAnyH_take (i := 18) (v := .bool false) rfl (by kernel_rfl) (by kernel_rfl) (by kernel_rfl) (fun _ _ _ h => h) (Or.inl ⟨by kernel_rfl, fun s hs => by have c0 := hs.cell 0 _ (by rfl); have c1 := hs.cell 1 _ (by rfl); have c2 := hs.cell 2 _ (by rfl); have c4 := hs.cell 4 _ (by rfl); go_simp <;> omega⟩) hHeld ?_
    refine wpAnyH_done (by kernel_rfl) ?_ _
    clear hHeld
    go_simp
    go_wp2
    go_ret2
    refine ⟨ones_eq ?_ ?_, AX.out.1⟩
    · first
      | rfl
      | (apply ByteArray.ext; simp [bstr])
    · first
      | rfl
      | simp
  · have HSM := Lib.hid hsm
    clear hsm
    have HPL := Lib.hid hpl
    clear hpl
    go_enter Tryz.func43, Tryz.ntmps43
    go_wp2_with (first | (go_at_call 34; refine (itoa_any _ _ H_node.out (H_pow.out.on AX.out.1)).mono ?_; rintro e w1 ⟨rfl, hb⟩; have AN := Lib.hid (AX.out.below hb); clear AX hb; have AX := AN; clear AN; clear c0; have c0 := AX.out.cell 0 _ (by rfl); clear c1; have c1 := AX.out.cell 1 _ (by rfl); clear c2; have c2 := AX.out.cell 2 _ (by rfl); clear c4; have c4 := AX.out.cell 4 _ (by rfl)) | (go_at_call 83; refine (rplain_any _ _ H_name.out).mono ?_; rintro e w2 ⟨rfl, hb⟩; rw [HPL.out]; have AN := Lib.hid (AX.out.below hb); clear AX hb; have AX := AN; clear AN; clear c0; have c0 := AX.out.cell 0 _ (by rfl); clear c1; have c1 := AX.out.cell 1 _ (by rfl); clear c2; have c2 := AX.out.cell 2 _ (by rfl); clear c4; have c4 := AX.out.cell 4 _ (by rfl)) | (go_at_call 82; refine (rsmall_any _ _).mono ?_; rintro e w' ⟨rfl, hw⟩; first | rw [hw, HSM.out] | rw [hw]; clear hw))
    refine wp_region_held_drew (S := Opw #[.int .i64 5, .int .i64 node, .int .i64 at_, .int .i64 org, .string name, .string word, tv, .int .i64 wn, .int .i64 wd, .int .i64 hn, .int .i64 hd, .int .i64 bt, .string bn, .int .i64 bwn, .int .i64 bwd, .int .i64 bhn, .int .i64 bhd, .bool on] w) (by kernel_rfl) AX.out.drew (fun hHeld => ?_)
    refine wpAnyH_take (i := 0) (v := .string (bstr (Lib.itoa node))) rfl (by kernel_rfl) (by kernel_rfl) (by kernel_rfl) (fun _ _ _ h => h) (Or.inl ⟨by kernel_rfl, fun s hs => by have c0 := hs.cell 0 _ (by rfl); have c1 := hs.cell 1 _ (by rfl); have c2 := hs.cell 2 _ (by rfl); have c4 := hs.cell 4 _ (by rfl); go_simp <;> omega⟩) hHeld ?_
    refine wpAnyH_take (i := 1) (v := .string (⟨#[105, 110, 115, 101, 114, 116, 32]⟩ ++ bstr (Lib.itoa node))) rfl (by kernel_rfl) (by kernel_rfl) (by kernel_rfl) (fun _ _ _ h => h) (Or.inl ⟨by kernel_rfl, fun s hs => by have c0 := hs.cell 0 _ (by rfl); have c1 := hs.cell 1 _ (by rfl); have c2 := hs.cell 2 _ (by rfl); have c4 := hs.cell 4 _ (by rfl); go_simp <;> omega⟩) hHeld ?_
    refine wpAnyH_take (i := 2) (v := .string ((⟨#[105, 110, 115, 101, 114, 116, 32]⟩ ++ bstr (Lib.itoa node)) ++ ⟨#[32]⟩)) rfl (by kernel_rfl) (by kernel_rfl) (by kernel_rfl) (fun _ _ _ h => h) (Or.inl ⟨by kernel_rfl, fun s hs => by have c0 := hs.cell 0 _ (by rfl); have c1 := hs.cell 1 _ (by rfl); have c2 := hs.cell 2 _ (by rfl); have c4 := hs.cell 4 _ (by rfl); go_simp <;> omega⟩) hHeld ?_
    refine wpAnyH_take (i := 3) (v := .pointer (some ⟨w.heap.size, 2, none⟩)) rfl (by kernel_rfl) (by kernel_rfl) (by kernel_rfl) (fun _ _ _ h => h) (Or.inl ⟨by kernel_rfl, fun s hs => by have c0 := hs.cell 0 _ (by rfl); have c1 := hs.cell 1 _ (by rfl); have c2 := hs.cell 2 _ (by rfl); have c4 := hs.cell 4 _ (by rfl); go_simp <;> omega⟩) hHeld ?_
    refine wpAnyH_take (i := 4) (v := .int .i64 at_) rfl (by kernel_rfl) (by kernel_rfl) (by kernel_rfl) (fun _ _ _ h => h) (Or.inl ⟨by kernel_rfl, fun s hs => by have c0 := hs.cell 0 _ (by rfl); have c1 := hs.cell 1 _ (by rfl); have c2 := hs.cell 2 _ (by rfl); have c4 := hs.cell 4 _ (by rfl); go_simp <;> omega⟩) hHeld ?_
    refine wpAnyH_take (i := 8) (v := .pointer (some ⟨w.heap.size, 4, none⟩)) rfl (by kernel_rfl) (by kernel_rfl) (by kernel_rfl) (fun _ _ _ h => h) (Or.inl ⟨by kernel_rfl, fun s hs => by have c0 := hs.cell 0 _ (by rfl); have c1 := hs.cell 1 _ (by rfl); have c2 := hs.cell 2 _ (by rfl); have c4 := hs.cell 4 _ (by rfl); go_simp <;> omega⟩) hHeld ?_
    refine wpAnyH_take (i := 9) (v := .string name) rfl (by kernel_rfl) (by kernel_rfl) (by kernel_rfl) (fun _ _ _ h => h) (Or.inl ⟨by kernel_rfl, fun s hs => by have c0 := hs.cell 0 _ (by rfl); have c1 := hs.cell 1 _ (by rfl); have c2 := hs.cell 2 _ (by rfl); have c4 := hs.cell 4 _ (by rfl); go_simp <;> omega⟩) hHeld ?_
    refine wpAnyH_take (i := 11) (v := .bool false) rfl (by kernel_rfl) (by kernel_rfl) (by kernel_rfl) (fun _ _ _ h => h) (Or.inl ⟨by kernel_rfl, fun s hs => by have c0 := hs.cell 0 _ (by rfl); have c1 := hs.cell 1 _ (by rfl); have c2 := hs.cell 2 _ (by rfl); have c4 := hs.cell 4 _ (by rfl); go_simp <;> omega⟩) hHeld ?_
    refine wpAnyH_ready (rs := [5]) (by kernel_rfl) (by simp) ?_
    refine AllReadyH.cons rfl (fun K hK => ?_) AllReadyH.nil
    rw [if_pos (by kernel_rfl)]
    go_simp
    refine (itoa_any _ _ H_at.out (H_pow.out.on AX.out.drew.1)).mono ?_
    rintro e w5 ⟨rfl, hb⟩
    have AN := Lib.hid (AX.out.drew.below hb)
    clear AX hb
    have AX := AN
    clear AN
    refine hK _ _ AX.out (fun hHeld => ?_)
    refine wpAnyH_take (i := 6) (v := .string (((⟨#[105, 110, 115, 101, 114, 116, 32]⟩ ++ bstr (Lib.itoa node)) ++ ⟨#[32]⟩) ++ bstr (Lib.itoa at_))) rfl (by kernel_rfl) (by kernel_rfl) (by kernel_rfl) (fun _ _ _ h => h) (Or.inl ⟨by kernel_rfl, fun s hs => by have c0 := hs.cell 0 _ (by rfl); have c1 := hs.cell 1 _ (by rfl); have c2 := hs.cell 2 _ (by rfl); have c4 := hs.cell 4 _ (by rfl); go_simp <;> omega⟩) hHeld ?_
    refine wpAnyH_take (i := 7) (v := .string ((((⟨#[105, 110, 115, 101, 114, 116, 32]⟩ ++ bstr (Lib.itoa node)) ++ ⟨#[32]⟩) ++ bstr (Lib.itoa at_)) ++ ⟨#[32]⟩)) rfl (by kernel_rfl) (by kernel_rfl) (by kernel_rfl) (fun _ _ _ h => h) (Or.inl ⟨by kernel_rfl, fun s hs => by have c0 := hs.cell 0 _ (by rfl); have c1 := hs.cell 1 _ (by rfl); have c2 := hs.cell 2 _ (by rfl); have c4 := hs.cell 4 _ (by rfl); go_simp <;> omega⟩) hHeld ?_
    refine wpAnyH_take (i := 10) (v := .string (((((⟨#[105, 110, 115, 101, 114, 116, 32]⟩ ++ bstr (Lib.itoa node)) ++ ⟨#[32]⟩) ++ bstr (Lib.itoa at_)) ++ ⟨#[32]⟩) ++ name)) rfl (by kernel_rfl) (by kernel_rfl) (by kernel_rfl) (fun _ _ _ h => h) (Or.inl ⟨by kernel_rfl, fun s hs => by have c0 := hs.cell 0 _ (by rfl); have c1 := hs.cell 1 _ (by rfl); have c2 := hs.cell 2 _ (by rfl); have c4 := hs.cell 4 _ (by rfl); go_simp <;> omega⟩) hHeld ?_
    refine wpAnyH_take (i := 12) (v := .bool false) rfl (by kernel_rfl) (by kernel_rfl) (by kernel_rfl) (fun _ _ _ h => h) (Or.inl ⟨by kernel_rfl, fun s hs => by have c0 := hs.cell 0 _ (by rfl); have c1 := hs.cell 1 _ (by rfl); have c2 := hs.cell 2 _ (by rfl); have c4 := hs.cell 4 _ (by rfl); go_simp <;> omega⟩) hHeld ?_
    refine wpAnyH_take (i := 13) (v := undef) rfl (by kernel_rfl) (by kernel_rfl) (by kernel_rfl) (fun _ _ _ h => h) (Or.inr ⟨by kernel_rfl, rfl⟩) hHeld ?_
    refine wpAnyH_take (i := 14) (v := undef) rfl (by kernel_rfl) (by kernel_rfl) (by kernel_rfl) (fun _ _ _ h => h) (Or.inr ⟨by kernel_rfl, rfl⟩) hHeld ?_
    refine wpAnyH_take (i := 15) (v := undef) rfl (by kernel_rfl) (by kernel_rfl) (by kernel_rfl) (fun _ _ _ h => h) (Or.inr ⟨by kernel_rfl, rfl⟩) hHeld ?_
    refine wpAnyH_take (i := 16) (v := .bool false) rfl (by kernel_rfl) (by kernel_rfl) (by kernel_rfl) (fun _ _ _ h => h) (Or.inl ⟨by kernel_rfl, fun s hs => by have c0 := hs.cell 0 _ (by rfl); have c1 := hs.cell 1 _ (by rfl); have c2 := hs.cell 2 _ (by rfl); have c4 := hs.cell 4 _ (by rfl); go_simp <;> omega⟩) hHeld ?_
    refine wpAnyH_take (i := 17) (v := .string (((((⟨#[105, 110, 115, 101, 114, 116, 32]⟩ ++ bstr (Lib.itoa node)) ++ ⟨#[32]⟩) ++ bstr (Lib.itoa at_)) ++ ⟨#[32]⟩) ++ name)) rfl (by kernel_rfl) (by kernel_rfl) (by kernel_rfl) (fun _ _ _ h => h) (Or.inl ⟨by kernel_rfl, fun s hs => by have c0 := hs.cell 0 _ (by rfl); have c1 := hs.cell 1 _ (by rfl); have c2 := hs.cell 2 _ (by rfl); have c4 := hs.cell 4 _ (by rfl); go_simp <;> omega⟩) hHeld ?_
    refine wpAnyH_take (i := 18) (v := .bool false) rfl (by kernel_rfl) (by kernel_rfl) (by kernel_rfl) (fun _ _ _ h => h) (Or.inl ⟨by kernel_rfl, fun s hs => by have c0 := hs.cell 0 _ (by rfl); have c1 := hs.cell 1 _ (by rfl); have c2 := hs.cell 2 _ (by rfl); have c4 := hs.cell 4 _ (by rfl); go_simp <;> omega⟩) hHeld ?_
    refine wpAnyH_done (by kernel_rfl) ?_ _
    clear hHeld
    go_simp
    go_wp2
    go_ret2
    refine ⟨ones_eq ?_ ?_, AX.out.1⟩
    · first
      | rfl
      | (apply ByteArray.ext; simp [bstr])
    · first
      | rfl
      | simp
  · have HSM := Lib.hid hsm
    clear hsm
    have HPL := Lib.hid hpl
    clear hpl
    go_enter Tryz.func43, Tryz.ntmps43
    go_wp2_with (first | (go_at_call 34; refine (itoa_any _ _ H_node.out (H_pow.out.on AX.out.1)).mono ?_; rintro e w1 ⟨rfl, hb⟩; have AN := Lib.hid (AX.out.below hb); clear AX hb; have AX := AN; clear AN; clear c0; have c0 := AX.out.cell 0 _ (by rfl); clear c1; have c1 := AX.out.cell 1 _ (by rfl); clear c2; have c2 := AX.out.cell 2 _ (by rfl); clear c4; have c4 := AX.out.cell 4 _ (by rfl)) | (go_at_call 83; refine (rplain_any _ _ H_name.out).mono ?_; rintro e w2 ⟨rfl, hb⟩; rw [HPL.out]; have AN := Lib.hid (AX.out.below hb); clear AX hb; have AX := AN; clear AN; clear c0; have c0 := AX.out.cell 0 _ (by rfl); clear c1; have c1 := AX.out.cell 1 _ (by rfl); clear c2; have c2 := AX.out.cell 2 _ (by rfl); clear c4; have c4 := AX.out.cell 4 _ (by rfl)) | (go_at_call 82; refine (rsmall_any _ _).mono ?_; rintro e w' ⟨rfl, hw⟩; first | rw [hw, HSM.out] | rw [hw]; clear hw))
    refine wp_region_held_drew (S := Opw #[.int .i64 5, .int .i64 node, .int .i64 at_, .int .i64 org, .string name, .string word, tv, .int .i64 wn, .int .i64 wd, .int .i64 hn, .int .i64 hd, .int .i64 bt, .string bn, .int .i64 bwn, .int .i64 bwd, .int .i64 bhn, .int .i64 bhd, .bool on] w) (by kernel_rfl) AX.out.drew (fun hHeld => ?_)
    refine wpAnyH_take (i := 0) (v := .string (bstr (Lib.itoa node))) rfl (by kernel_rfl) (by kernel_rfl) (by kernel_rfl) (fun _ _ _ h => h) (Or.inl ⟨by kernel_rfl, fun s hs => by have c0 := hs.cell 0 _ (by rfl); have c1 := hs.cell 1 _ (by rfl); have c2 := hs.cell 2 _ (by rfl); have c4 := hs.cell 4 _ (by rfl); go_simp <;> omega⟩) hHeld ?_
    refine wpAnyH_take (i := 1) (v := .string (⟨#[105, 110, 115, 101, 114, 116, 32]⟩ ++ bstr (Lib.itoa node))) rfl (by kernel_rfl) (by kernel_rfl) (by kernel_rfl) (fun _ _ _ h => h) (Or.inl ⟨by kernel_rfl, fun s hs => by have c0 := hs.cell 0 _ (by rfl); have c1 := hs.cell 1 _ (by rfl); have c2 := hs.cell 2 _ (by rfl); have c4 := hs.cell 4 _ (by rfl); go_simp <;> omega⟩) hHeld ?_
    refine wpAnyH_take (i := 2) (v := .string ((⟨#[105, 110, 115, 101, 114, 116, 32]⟩ ++ bstr (Lib.itoa node)) ++ ⟨#[32]⟩)) rfl (by kernel_rfl) (by kernel_rfl) (by kernel_rfl) (fun _ _ _ h => h) (Or.inl ⟨by kernel_rfl, fun s hs => by have c0 := hs.cell 0 _ (by rfl); have c1 := hs.cell 1 _ (by rfl); have c2 := hs.cell 2 _ (by rfl); have c4 := hs.cell 4 _ (by rfl); go_simp <;> omega⟩) hHeld ?_
    refine wpAnyH_take (i := 3) (v := .pointer (some ⟨w.heap.size, 2, none⟩)) rfl (by kernel_rfl) (by kernel_rfl) (by kernel_rfl) (fun _ _ _ h => h) (Or.inl ⟨by kernel_rfl, fun s hs => by have c0 := hs.cell 0 _ (by rfl); have c1 := hs.cell 1 _ (by rfl); have c2 := hs.cell 2 _ (by rfl); have c4 := hs.cell 4 _ (by rfl); go_simp <;> omega⟩) hHeld ?_
    refine wpAnyH_take (i := 4) (v := .int .i64 at_) rfl (by kernel_rfl) (by kernel_rfl) (by kernel_rfl) (fun _ _ _ h => h) (Or.inl ⟨by kernel_rfl, fun s hs => by have c0 := hs.cell 0 _ (by rfl); have c1 := hs.cell 1 _ (by rfl); have c2 := hs.cell 2 _ (by rfl); have c4 := hs.cell 4 _ (by rfl); go_simp <;> omega⟩) hHeld ?_
    refine wpAnyH_take (i := 8) (v := .pointer (some ⟨w.heap.size, 4, none⟩)) rfl (by kernel_rfl) (by kernel_rfl) (by kernel_rfl) (fun _ _ _ h => h) (Or.inl ⟨by kernel_rfl, fun s hs => by have c0 := hs.cell 0 _ (by rfl); have c1 := hs.cell 1 _ (by rfl); have c2 := hs.cell 2 _ (by rfl); have c4 := hs.cell 4 _ (by rfl); go_simp <;> omega⟩) hHeld ?_
    refine wpAnyH_take (i := 9) (v := .string name) rfl (by kernel_rfl) (by kernel_rfl) (by kernel_rfl) (fun _ _ _ h => h) (Or.inl ⟨by kernel_rfl, fun s hs => by have c0 := hs.cell 0 _ (by rfl); have c1 := hs.cell 1 _ (by rfl); have c2 := hs.cell 2 _ (by rfl); have c4 := hs.cell 4 _ (by rfl); go_simp <;> omega⟩) hHeld ?_
    refine wpAnyH_take (i := 11) (v := .bool true) rfl (by kernel_rfl) (by kernel_rfl) (by kernel_rfl) (fun _ _ _ h => h) (Or.inl ⟨by kernel_rfl, fun s hs => by have c0 := hs.cell 0 _ (by rfl); have c1 := hs.cell 1 _ (by rfl); have c2 := hs.cell 2 _ (by rfl); have c4 := hs.cell 4 _ (by rfl); go_simp <;> omega⟩) hHeld ?_
    refine wpAnyH_ready (rs := [5]) (by kernel_rfl) (by simp) ?_
    refine AllReadyH.cons rfl (fun K hK => ?_) AllReadyH.nil
    rw [if_pos (by kernel_rfl)]
    go_simp
    refine (itoa_any _ _ H_at.out (H_pow.out.on AX.out.drew.1)).mono ?_
    rintro e w5 ⟨rfl, hb⟩
    have AN := Lib.hid (AX.out.drew.below hb)
    clear AX hb
    have AX := AN
    clear AN
    refine hK _ _ AX.out (fun hHeld => ?_)
    refine wpAnyH_take (i := 6) (v := .string (((⟨#[105, 110, 115, 101, 114, 116, 32]⟩ ++ bstr (Lib.itoa node)) ++ ⟨#[32]⟩) ++ bstr (Lib.itoa at_))) rfl (by kernel_rfl) (by kernel_rfl) (by kernel_rfl) (fun _ _ _ h => h) (Or.inl ⟨by kernel_rfl, fun s hs => by have c0 := hs.cell 0 _ (by rfl); have c1 := hs.cell 1 _ (by rfl); have c2 := hs.cell 2 _ (by rfl); have c4 := hs.cell 4 _ (by rfl); go_simp <;> omega⟩) hHeld ?_
    refine wpAnyH_take (i := 7) (v := .string ((((⟨#[105, 110, 115, 101, 114, 116, 32]⟩ ++ bstr (Lib.itoa node)) ++ ⟨#[32]⟩) ++ bstr (Lib.itoa at_)) ++ ⟨#[32]⟩)) rfl (by kernel_rfl) (by kernel_rfl) (by kernel_rfl) (fun _ _ _ h => h) (Or.inl ⟨by kernel_rfl, fun s hs => by have c0 := hs.cell 0 _ (by rfl); have c1 := hs.cell 1 _ (by rfl); have c2 := hs.cell 2 _ (by rfl); have c4 := hs.cell 4 _ (by rfl); go_simp <;> omega⟩) hHeld ?_
    refine wpAnyH_take (i := 10) (v := .string (((((⟨#[105, 110, 115, 101, 114, 116, 32]⟩ ++ bstr (Lib.itoa node)) ++ ⟨#[32]⟩) ++ bstr (Lib.itoa at_)) ++ ⟨#[32]⟩) ++ name)) rfl (by kernel_rfl) (by kernel_rfl) (by kernel_rfl) (fun _ _ _ h => h) (Or.inl ⟨by kernel_rfl, fun s hs => by have c0 := hs.cell 0 _ (by rfl); have c1 := hs.cell 1 _ (by rfl); have c2 := hs.cell 2 _ (by rfl); have c4 := hs.cell 4 _ (by rfl); go_simp <;> omega⟩) hHeld ?_
    refine wpAnyH_take (i := 12) (v := .bool true) rfl (by kernel_rfl) (by kernel_rfl) (by kernel_rfl) (fun _ _ _ h => h) (Or.inl ⟨by kernel_rfl, fun s hs => by have c0 := hs.cell 0 _ (by rfl); have c1 := hs.cell 1 _ (by rfl); have c2 := hs.cell 2 _ (by rfl); have c4 := hs.cell 4 _ (by rfl); go_simp <;> omega⟩) hHeld ?_
    refine wpAnyH_take (i := 13) (v := .pointer (some ⟨w.heap.size, 2, none⟩)) rfl (by kernel_rfl) (by kernel_rfl) (by kernel_rfl) (fun _ _ _ h => h) (Or.inl ⟨by kernel_rfl, fun s hs => by have c0 := hs.cell 0 _ (by rfl); have c1 := hs.cell 1 _ (by rfl); have c2 := hs.cell 2 _ (by rfl); have c4 := hs.cell 4 _ (by rfl); go_simp <;> omega⟩) hHeld ?_
    refine wpAnyH_take (i := 14) (v := .int .i64 at_) rfl (by kernel_rfl) (by kernel_rfl) (by kernel_rfl) (fun _ _ _ h => h) (Or.inl ⟨by kernel_rfl, fun s hs => by have c0 := hs.cell 0 _ (by rfl); have c1 := hs.cell 1 _ (by rfl); have c2 := hs.cell 2 _ (by rfl); have c4 := hs.cell 4 _ (by rfl); go_simp <;> omega⟩) hHeld ?_
    refine wpAnyH_ready (rs := [15]) (by kernel_rfl) (by simp) ?_
    refine AllReadyH.cons rfl (fun K hK => ?_) AllReadyH.nil
    rw [if_pos (by kernel_rfl)]
    go_simp
    refine (rsmall_any _ _).mono ?_
    rintro e w' ⟨rfl, hw⟩
    rw [hw]
    clear hw
    refine hK _ _ AX.out (fun hHeld => ?_)
    refine wpAnyH_take (i := 16) (v := .bool (smallB at_)) rfl (by kernel_rfl) (by kernel_rfl) (by kernel_rfl) (fun _ _ _ h => h) (Or.inl ⟨by kernel_rfl, fun s hs => by have c0 := hs.cell 0 _ (by rfl); have c1 := hs.cell 1 _ (by rfl); have c2 := hs.cell 2 _ (by rfl); have c4 := hs.cell 4 _ (by rfl); go_simp <;> omega⟩) hHeld ?_
    refine wpAnyH_take (i := 17) (v := .string (((((⟨#[105, 110, 115, 101, 114, 116, 32]⟩ ++ bstr (Lib.itoa node)) ++ ⟨#[32]⟩) ++ bstr (Lib.itoa at_)) ++ ⟨#[32]⟩) ++ name)) rfl (by kernel_rfl) (by kernel_rfl) (by kernel_rfl) (fun _ _ _ h => h) (Or.inl ⟨by kernel_rfl, fun s hs => by have c0 := hs.cell 0 _ (by rfl); have c1 := hs.cell 1 _ (by rfl); have c2 := hs.cell 2 _ (by rfl); have c4 := hs.cell 4 _ (by rfl); go_simp <;> omega⟩) hHeld ?_
    refine wpAnyH_take (i := 18) (v := .bool (smallB at_)) rfl (by kernel_rfl) (by kernel_rfl) (by kernel_rfl) (fun _ _ _ h => h) (Or.inl ⟨by kernel_rfl, fun s hs => by have c0 := hs.cell 0 _ (by rfl); have c1 := hs.cell 1 _ (by rfl); have c2 := hs.cell 2 _ (by rfl); have c4 := hs.cell 4 _ (by rfl); go_simp <;> omega⟩) hHeld ?_
    refine wpAnyH_done (by kernel_rfl) ?_ _
    clear hHeld
    go_simp
    go_wp2
    go_ret2
    refine ⟨ones_eq ?_ ?_, AX.out.1⟩
    · first
      | rfl
      | (apply ByteArray.ext; simp [bstr])
    · first
      | rfl
      | simp
end
end Go.Proofs.YtihlneenajlhoaaGreatDoor
