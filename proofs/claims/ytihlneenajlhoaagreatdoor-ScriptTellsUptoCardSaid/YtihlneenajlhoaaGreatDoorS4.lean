/-
  Contracts, for a run of one goroutine, of script.quoted and jalousieref27.Quote: a text between quotes. Condition: its length fits.
-/
import Derived.Test.YtihlneenajlhoaaGreatDoorS1
import Derived.Deep.RegionLaw
import Derived.Deep.AppendLies
import Derived.Deep.MidRow
import Derived.Deep.RegionHeld
import Derived.OrdersHeld
set_option linter.unusedSimpArgs false
set_option linter.unusedVariables false
set_option linter.unusedSimpArgs false
set_option linter.unusedVariables false
namespace Go.Proofs.YtihlneenajlhoaaGreatDoor
open Go Go.RowKit

/-- A builder in block b that holds l; block q is what it was; what lies below b stands. -/
def QS (wb : World) (b q : Nat) (O : Option Obj) (l : List UInt8) (wr : World) : Prop :=
  ∃ own, Bld wr 92 [] b own l ∧ some q ≠ own ∧ b < q ∧ q < wr.heap.size ∧ wr.heap[q]? = O ∧ Below b wb wr
theorem u8_of {c : Int} (h0 : 0 ≤ c) (h1 : c ≤ 255) : ∃ k : UInt8, c = k.toNat ∧ UInt8.ofNat c.toNat = k := by
  refine ⟨UInt8.ofNat c.toNat, ?_, rfl⟩
  rw [UInt8.toNat_ofNat']
  have : c.toNat % 2 ^ 8 = c.toNat := Nat.mod_eq_of_lt (by omega)
  rw [this]
  omega
theorem u8_back (k : UInt8) : UInt8.ofNat ((k.toNat : Int)).toNat = k := by
  apply UInt8.toNat_inj.1
  simp
section
variable {wb wr : World} {b q : Nat} {O : Option Obj} {l : List UInt8}
theorem QS.step {own own' : Option Nat} {w' : World} {l' : List UInt8} (hB : Bld wr 92 [] b own l) (hne : some q ≠ own) (hbq : b < q) (hq : q < wr.heap.size) (hO : wr.heap[q]? = O) (hbl : Below b wb wr) (h1 : BldP w' 92 [] b (selfP b) own' l') (hf : Fr wr w' b own) (ho : Own wr own own') : QS wb b q O l' w' :=
  ⟨own', Or.inr h1, ho.ne hq hne, hbq, Nat.lt_of_lt_of_le hq hf.size, by rw [hf.block q hq (by omega) hne]; exact hO, hbl.trans (hf.below (Nat.le_refl b) (fun g hg => by have := hB.own_lt g hg; omega) (by have := hB.lt; omega))⟩
theorem QS.byte (h : QS wb b q O l wr) {c : Int} (h0 : 0 ≤ c) (h1 : c ≤ 255) (hn : l.length + 1 ≤ 140737488355328) :
    Calls Tryz.prog 41 #[.pointer (some ⟨b, 0, none⟩), .int .u8 c] wr fun e w' => e = .returned .nilIface ∧ QS wb b q O (l ++ [UInt8.ofNat c.toNat]) w' := by
  obtain ⟨own, hB, hne, hbq, hq, hO, hbl⟩ := h
  obtain ⟨k, rfl, _⟩ := u8_of h0 h1
  rw [u8_back]
  refine (writeByte_any wr 92 [] b own l k bt92 hB hn).mono ?_
  rintro e w' ⟨rfl, own', h1, hf, ho⟩
  exact ⟨rfl, QS.step hB hne hbq hq hO hbl h1 hf ho⟩
theorem QS.byteU (h : QS wb b q O l wr) (k : UInt8) (hn : l.length + 1 ≤ 140737488355328) :
    Calls Tryz.prog 41 #[.pointer (some ⟨b, 0, none⟩), .int .u8 k.toNat] wr fun e w' => e = .returned .nilIface ∧ QS wb b q O (l ++ [k]) w' := by
  obtain ⟨own, hB, hne, hbq, hq, hO, hbl⟩ := h
  refine (writeByte_any wr 92 [] b own l k bt92 hB hn).mono ?_
  rintro e w' ⟨rfl, own', h1, hf, ho⟩
  exact ⟨rfl, QS.step hB hne hbq hq hO hbl h1 hf ho⟩
theorem QS.str (h : QS wb b q O l wr) (t : ByteArray) (hn : l.length + t.size ≤ 140737488355328) :
    Calls Tryz.prog 40 #[.pointer (some ⟨b, 0, none⟩), .string t] wr fun e w' => e = .returned (.tuple #[.int .i64 t.size, .nilIface]) ∧ QS wb b q O (l ++ t.data.toList) w' := by
  obtain ⟨own, hB, hne, hbq, hq, hO, hbl⟩ := h
  refine (writeString_any wr 92 [] b own l t bt92 hB hn).mono ?_
  rintro e w' ⟨rfl, own', h1, hf, ho⟩
  exact ⟨rfl, QS.step hB hne hbq hq hO hbl h1 hf ho⟩
theorem QS.text (h : QS wb b q O l wr) : Calls Tryz.prog 42 #[.pointer (some ⟨b, 0, none⟩)] wr fun e w' => e = .returned (.string (bstr l)) ∧ Below b wb w' := by
  obtain ⟨own, hB, hne, hbq, hq, hO, hbl⟩ := h
  refine (string_any wr 92 [] b own l hB).mono ?_
  rintro e w' ⟨rfl, hf⟩
  exact ⟨rfl, hbl.trans (hf.below (Nat.le_refl b) (fun g hg => by have := hB.own_lt g hg; omega) (by have := hB.lt; omega))⟩
end
theorem getD_lt {α : Type} (l : List α) (d : α) {k : Nat} (h : k < l.length) : l.getD k d = l[k] := by simp [List.getD, List.getElem?_eq_getElem h]
theorem quote_take (s : List UInt8) (k : Nat) (hk : k < s.length) : (s.take (k + 1)).flatMap sp.quoteB = (s.take k).flatMap sp.quoteB ++ sp.quoteB s[k] := by
  rw [List.take_add_one, List.getElem?_eq_getElem hk, List.flatMap_append]
  simp
theorem quote_len (s : List UInt8) : (s.flatMap sp.quoteB).length ≤ 4 * s.length := by
  have h1 : ∀ c, (sp.quoteB c).length ≤ 4 := fun c => by
    unfold sp.quoteB
    split
    · simp
    · split
      · simp
      · split <;> simp
  induction s with
  | nil => simp
  | cons c s ih =>
    rw [List.flatMap_cons, List.length_append, List.length_cons]
    have := h1 c
    omega

theorem quoteB_ctl {K : UInt8} (h1 : K ≠ 34) (h2 : K ≠ 92) (h3 : K ≠ 10) (h : K.toNat < 32 ∨ 127 ≤ K.toNat) : sp.quoteB K = [92, 120, sp.hexd (K.toNat / 16), sp.hexd (K.toNat % 16)] := by
  unfold sp.quoteB
  rw [if_neg (by simp [h1, h2]), if_neg h3, if_pos h]
theorem quoteB_plain {K : UInt8} (h1 : K ≠ 34) (h2 : K ≠ 92) (h3 : K ≠ 10) (h : ¬ (K.toNat < 32 ∨ 127 ≤ K.toNat)) : sp.quoteB K = [K] := by
  unfold sp.quoteB
  rw [if_neg (by simp [h1, h2]), if_neg h3, if_neg h]
theorem hexAt (k : Nat) (h : k < (⟨#[48, 49, 50, 51, 52, 53, 54, 55, 56, 57, 97, 98, 99, 100, 101, 102]⟩ : ByteArray).size) : (⟨#[48, 49, 50, 51, 52, 53, 54, 55, 56, 57, 97, 98, 99, 100, 101, 102]⟩ : ByteArray)[k] = sp.hexd k := by
  have h' : k < 16 := h
  have : ∀ j : Fin 16, (⟨#[48, 49, 50, 51, 52, 53, 54, 55, 56, 57, 97, 98, 99, 100, 101, 102]⟩ : ByteArray)[j.val] = sp.hexd j.val := by decide
  exact this ⟨k, h'⟩
theorem u8c (k : Nat) (h : k < 256) : UInt8.ofNat ((k : Int)).toNat = UInt8.ofNat k := by simp
set_option maxRecDepth 100000 in
set_option maxHeartbeats 8000000 in
/-- script.quoted. -/
theorem quoted_any (s : ByteArray) (w : World) (hs : s.size ≤ 1099511627776) : Calls Tryz.prog 36 #[.string s] w fun e w' => e = .returned (.string (bstr (sp.quoteS s.data.toList))) ∧ Below w.heap.size w w' := by
  have HS := Lib.hid hs; clear hs
  go_enter Tryz.func36, Tryz.ntmps36
  go_wp2_with (go_at_call 41; refine (writeByte_any _ 92 [] w.heap.size none [] 34 bt92 (bld_new 92 [] w.heap.size (heap_alloc_at _ _)) (by decide)).mono ?_; rintro e w1 ⟨rfl, own1, hw1, hf1, ho1⟩; have HW1 := Lib.hid hw1; have HF1 := Lib.hid hf1; have HO1 := Lib.hid ho1; clear hw1 hf1 ho1; refine Hid.out ?_)
  refine Lib.hid ?_
  have hb1 : Below w.heap.size w w1 := (below_new w _).trans (HF1.out.below (Nat.le_refl _) (fun g hg => by cases hg) (by simp))
  have hlt : w.heap.size < w1.heap.size := HW1.out.lt
  have hq0 : some w1.heap.size ≠ own1 := fun e => by have := HW1.out.own_lt w1.heap.size e.symm; omega
  have hcv := Lib.run_convert_string_bytes (P := Tryz.prog) w1 9 22 5 s Tryz.underlying9 Tryz.underlying22 Tryz.underlying5
  have HC := Lib.hid (fun j (hj : j < s.size) => Lib.bytesWorld_cell w1 5 s j hj)
  have HQ : Hid (QS w w.heap.size w1.heap.size (Lib.bytesWorld w1 5 s).heap[w1.heap.size]? [34] (Lib.bytesWorld w1 5 s)) := Lib.hid ⟨own1, Bld.below (Or.inr HW1.out) (below_bytes w1 s), hq0, hlt, by rw [Lib.bytesWorld_size]; omega, rfl, hb1.trans ((below_bytes w1 s).mono (by omega))⟩
  generalize Lib.bytesWorld w1 5 s = W2 at hcv HC HQ
  generalize grownCap w1 s.size 0 5 = cp at hcv
  generalize w1.heap.size = q at hcv HC HQ hlt hq0
  clear hb1 hlt hq0 HW1 HF1 HO1
  go_wp2
  go_loopw [10] (fun i wr => ∃ k : Nat, k ≤ s.size ∧ i = .int .i64 k ∧ QS w w.heap.size q W2.heap[q]? (34 :: (s.data.toList.take k).flatMap sp.quoteB) wr) (fun i _ => s.size - (intOf i).toNat)
  case atStart => exact ⟨0, Nat.zero_le _, rfl, HQ.out⟩
  case round =>
    obtain ⟨k, hk, rfl, hr⟩ := hrel
    clear HQ
    have HQ := Lib.hid hr; clear hr
    have hlen : s.data.toList.length = s.size := by rw [Array.length_toList]; rfl
    by_cases hlt : k < s.size
    · have hc : wr.cell? ⟨q, k, none⟩ = some (.int .u8 (s.data.toList.getD k 0).toNat) := by
        obtain ⟨_, _, _, _, _, hO, _⟩ := HQ.out
        rw [World.cell?_of_block (a := ⟨q, k, none⟩) hO]
        exact HC.out k hlt
      have HX : Hid ((34 :: (s.data.toList.take (k + 1)).flatMap sp.quoteB) = (34 :: (s.data.toList.take k).flatMap sp.quoteB) ++ sp.quoteB (s.data.toList.getD k 0)) := Lib.hid (by
        rw [quote_take _ k (by omega), getD_lt _ _ (by omega)]; rfl)
      have HL : Hid ((34 :: (s.data.toList.take k).flatMap sp.quoteB).length + 8 ≤ 140737488355328) := Lib.hid (by
        have h1 := quote_len (s.data.toList.take k)
        have h2 : (s.data.toList.take k).length ≤ s.size := by rw [List.length_take]; omega
        have := HS.out
        simp only [List.length_cons]
        omega)
      generalize hl1 : (34 :: (s.data.toList.take (k + 1)).flatMap sp.quoteB) = l1 at HX
      have HL1 := Lib.hid hl1; clear hl1
      have hkb : (k : Int) ≤ 1099511627776 := by have := HS.out; omega
      generalize (34 :: (s.data.toList.take k).flatMap sp.quoteB) = l0 at HX HL HQ
      generalize s.data.toList.getD k 0 = K at hc HX
      have hK : (K.toNat : Int) ≤ 255 := by have := K.toNat_lt; omega
      have hK0 : (0 : Int) ≤ K.toNat := by omega
      have HK : Hid (K = UInt8.ofNat ((K.toNat : Int)).toNat) := Lib.hid (u8_back K).symm
      clear hcv HC
      by_cases c34 : K = 34
      · subst c34
        have HX2 : Hid (l1 = l0 ++ [92] ++ [34]) := Lib.hid (by rw [HX.out, List.append_assoc]; rfl)
        go_wp2_with (first
          | (have hgd := HQ1; clear hgd; go_at_call 41; refine (HQ1.out.byte (by decide) (by decide) (by have := HL.out; first | omega | (simp only [List.length_append, List.length_cons, List.length_nil]; omega))).mono ?_; rintro e w2 ⟨rfl, h2⟩; have HQ2 := Lib.hid h2; clear h2)
          | (go_at_call 41; refine (HQ.out.byte (by decide) (by decide) (by have := HL.out; first | omega | (simp only [List.length_append, List.length_cons, List.length_nil]; omega))).mono ?_; rintro e w1 ⟨rfl, h1⟩; have HQ1 := Lib.hid h1; clear h1))
        refine ⟨⟨k + 1, by omega, by go_num, ?_⟩, by simp [intOf]; omega⟩
        rw [HL1.out, HX2.out]
        exact HQ2.out
      by_cases c92 : K = 92
      · subst c92
        have HX2 : Hid (l1 = l0 ++ [92] ++ [92]) := Lib.hid (by rw [HX.out, List.append_assoc]; rfl)
        go_wp2_with (first
          | (have hgd := HQ1; clear hgd; go_at_call 41; refine (HQ1.out.byte (by decide) (by decide) (by have := HL.out; first | omega | (simp only [List.length_append, List.length_cons, List.length_nil]; omega))).mono ?_; rintro e w2 ⟨rfl, h2⟩; have HQ2 := Lib.hid h2; clear h2)
          | (go_at_call 41; refine (HQ.out.byte (by decide) (by decide) (by have := HL.out; first | omega | (simp only [List.length_append, List.length_cons, List.length_nil]; omega))).mono ?_; rintro e w1 ⟨rfl, h1⟩; have HQ1 := Lib.hid h1; clear h1))
        refine ⟨⟨k + 1, by omega, by go_num, ?_⟩, by simp [intOf]; omega⟩
        rw [HL1.out, HX2.out]
        exact HQ2.out
      by_cases c10 : K = 10
      · subst c10
        have HX2 : Hid (l1 = l0 ++ (⟨#[92, 110]⟩ : ByteArray).data.toList) := Lib.hid (by rw [HX.out]; rfl)
        go_wp2_with (first
          | (go_at_call 40; refine (HQ.out.str _ (by have := HL.out; have : ByteArray.size ⟨#[92, 110]⟩ = 2 := rfl; omega)).mono ?_; rintro e w1 ⟨rfl, h1⟩; have HQ1 := Lib.hid h1; clear h1))
        refine ⟨⟨k + 1, by omega, by go_num, ?_⟩, by simp [intOf]; omega⟩
        rw [HL1.out, HX2.out]
        exact HQ1.out
      have n34 : ((K.toNat : Int) == 34) = false := by simp; intro h; exact c34 (UInt8.toNat_inj.1 (by simpa using (by omega : K.toNat = 34)))
      have n92 : ((K.toNat : Int) == 92) = false := by simp; intro h; exact c92 (UInt8.toNat_inj.1 (by simpa using (by omega : K.toNat = 92)))
      have n10 : ((K.toNat : Int) == 10) = false := by simp; intro h; exact c10 (UInt8.toNat_inj.1 (by simpa using (by omega : K.toNat = 10)))
      by_cases cc : K.toNat < 32 ∨ 127 ≤ K.toNat
      · have HX2 : Hid (l1 = l0 ++ (⟨#[92, 120]⟩ : ByteArray).data.toList ++ [sp.hexd (K.toNat / 16)] ++ [sp.hexd (K.toNat % 16)]) := Lib.hid (by
          rw [HX.out, quoteB_ctl c34 c92 c10 cc]
          simp)
        cases t1 : decide ((K.toNat : Int) < 32) <;> cases t2 : decide (127 ≤ (K.toNat : Int))
        · exfalso
          simp at t1 t2
          omega
        all_goals
          clear c34 c92 c10 cc
          go_wp2_with (first
            | (go_at_call 40; refine (HQ.out.str _ (by have := HL.out; have : ByteArray.size ⟨#[92, 120]⟩ = 2 := rfl; omega)).mono ?_; rintro e w1 ⟨rfl, h1⟩; have HQ1 := Lib.hid h1; clear h1)
            | (have hgd := HQ2; clear hgd; go_at_call 41; refine (HQ2.out.byteU _ (by have := HL.out; have : (⟨#[92, 120]⟩ : ByteArray).data.toList.length = 2 := rfl; first | omega | (simp only [List.length_append, List.length_cons, List.length_nil]; omega))).mono ?_; rintro e w3 ⟨rfl, h3⟩; have HQ3 := Lib.hid h3; clear h3)
            | (go_at_call 41; refine (HQ1.out.byteU _ (by have := HL.out; have : (⟨#[92, 120]⟩ : ByteArray).data.toList.length = 2 := rfl; first | omega | (simp only [List.length_append, List.length_cons, List.length_nil]; omega))).mono ?_; rintro e w2 ⟨rfl, h2⟩; have HQ2 := Lib.hid h2; clear h2))
          refine ⟨⟨k + 1, by omega, by go_num, ?_⟩, by simp [intOf]; omega⟩
          rw [HL1.out, HX2.out, ← hexAt (K.toNat / 16), ← hexAt (K.toNat % 16)]
          exact HQ3.out
      · have HX2 : Hid (l1 = l0 ++ [K]) := Lib.hid (by rw [HX.out, quoteB_plain c34 c92 c10 cc])
        have t1 : decide ((K.toNat : Int) < 32) = false := by simp; omega
        have t2 : decide (127 ≤ (K.toNat : Int)) = false := by simp; omega
        clear c34 c92 c10 cc
        go_wp2_with (go_at_call 41; refine (HQ.out.byteU _ (by have := HL.out; omega)).mono ?_; rintro e w1 ⟨rfl, h1⟩; have HQ1 := Lib.hid h1; clear h1)
        refine ⟨⟨k + 1, by omega, by go_num, ?_⟩, by simp [intOf]; omega⟩
        rw [HL1.out, HX2.out]
        exact HQ1.out
    · have : k = s.size := by omega
      subst this
      have HE : Hid ((34 :: (s.data.toList.take s.size).flatMap sp.quoteB) ++ [34] = sp.quoteS s.data.toList) := Lib.hid (by rw [← hlen, List.take_length]; rfl)
      have HL : Hid ((34 :: (s.data.toList.take s.size).flatMap sp.quoteB).length + 8 ≤ 140737488355328) := Lib.hid (by
        have h1 := quote_len (s.data.toList.take s.size)
        have h2 : (s.data.toList.take s.size).length ≤ s.size := by rw [List.length_take]; omega
        have := HS.out
        simp only [List.length_cons]
        omega)
      generalize (34 :: (s.data.toList.take s.size).flatMap sp.quoteB) = l0 at HE HL HQ
      go_wp2_with (first
        | (go_at_call 41; refine (HQ.out.byte (by decide) (by decide) (by have := HL.out; omega)).mono ?_; rintro e w1 ⟨rfl, h1⟩; have HQ1 := Lib.hid h1; clear h1)
        | (go_at_call 42; refine HQ1.out.text.mono ?_; rintro e w2 ⟨rfl, h2⟩; have HB := Lib.hid h2; clear h2))
      go_ret
      exact ⟨ret_str HE.out, HB.out⟩
end Go.Proofs.YtihlneenajlhoaaGreatDoor
/-
  Contract, for a run of one goroutine, of jalousieref27.Quote: a text between quotes. Condition: its length fits.
-/
set_option linter.unusedSimpArgs false
set_option linter.unusedVariables false
namespace Go.Proofs.YtihlneenajlhoaaGreatDoor
open Go Go.RowKit

/-- A row of bytes that the call made holds l; block q is what it was; what lies below b stands. -/
def QR (wb : World) (b q : Nat) (O : Option Obj) (l : List UInt8) (d : Value) (wr : World) : Prop :=
  wr.ownsRow b 5 1 d l.length (Lib.byteCells l) ∧ d.ownBlock ≠ some q ∧ b ≤ q ∧ q < wr.heap.size ∧ wr.heap[q]? = O ∧ Below b wb wr
section
variable {wb wr w' : World} {b q : Nat} {O : Option Obj} {l ys : List UInt8} {d v' : Value}
theorem QR.alloc (h : QR wb b q O l d wr) (o : Obj) : QR wb b q O l d (wr.alloc o) := by
  obtain ⟨h1, h2, h3, h4, h5, h6⟩ := h
  exact ⟨h1.alloc o, h2, h3, by simp; omega, by rw [Below.heap_alloc _ _ _ h4]; exact h5, h6.alloc (by omega) o⟩
theorem QR.drew (h : QR wb b q O l d wr) : QR wb b q O l d wr.drew := by
  obtain ⟨h1, h2, h3, h4, h5, h6⟩ := h
  exact ⟨h1, h2, h3, h4, h5, h6.drew⟩
theorem QR.app (h : QR wb b q O l d wr) (hown : w'.ownsRow b 5 1 v' (l ++ ys).length (Lib.byteCells (l ++ ys))) (hg : wr.grownBy w' d.ownBlock) (hat : v'.ownBlock = d.ownBlock ∨ v'.ownBlock = some wr.heap.size) : QR wb b q O (l ++ ys) v' w' := by
  obtain ⟨h1, h2, h3, h4, h5, h6⟩ := h
  refine ⟨hown, ?_, h3, Nat.lt_of_lt_of_le h4 hg.size, by rw [hg.block q h4 (fun e => h2 e.symm)]; exact h5, h6.grown hg (by omega) (fun k hk => (h1.lt k hk).1)⟩
  rcases hat with e | e
  · rw [e]; exact h2
  · rw [e]; intro k; have := Option.some.inj k; omega
end
set_option maxRecDepth 100000 in
/-- A row of bytes as a text. -/
theorem conv_own {w : World} {base : Nat} {v : Value} {l : List UInt8} (h : w.ownsRow base 5 1 v l.length (Lib.byteCells l)) : (convert 22 9 v).run Tryz.prog w = .ok (.string (bstr l)) w := by
  rcases h.2 with ⟨rfl, h0⟩ | ⟨g, cap, cur, rfl, hbg, hg, hnc, hcm, hcs, htake⟩
  · have : l = [] := List.eq_nil_of_length_eq_zero h0
    subst this
    exact Go.run_convert_bytes_back (P := Tryz.prog) w 22 9 5 ⟨0, 0, none⟩ 0 [] Tryz.underlying22 Tryz.underlying5 Tryz.underlying9 (fun j hj => by cases hj)
  · refine Go.run_convert_bytes_back (P := Tryz.prog) w 22 9 5 ⟨g, 0, none⟩ cap l Tryz.underlying22 Tryz.underlying5 Tryz.underlying9 (fun j hj => ?_)
    have := h.cells (g := g) rfl j (.int .u8 l[j].toNat) (by simp [Lib.byteCells, hj])
    exact this
set_option maxRecDepth 100000 in
set_option maxHeartbeats 8000000 in
/-- jalousieref27.Quote. -/
theorem quote_any (s : ByteArray) (w : World) (hs : s.size ≤ 1099511627776) : Calls Tryz.prog 38 #[.string s] w fun e w' => e = .returned (.string (bstr (sp.quoteS s.data.toList))) ∧ Below w.heap.size w w' := by
  have HS := Lib.hid hs
  have hcv := fun W => Lib.run_convert_string_bytes (P := Tryz.prog) W 9 22 5 s Tryz.underlying9 Tryz.underlying22 Tryz.underlying5
  clear hs
  go_enter Tryz.func38, Tryz.ntmps38
  go_wp2
  have HQ : Hid (QR w w.heap.size (w.heap.size + 1) (Lib.bytesWorld (w.alloc (.cells #[.int .u8 34] 5)) 5 s).heap[w.heap.size + 1]? [34] (.slice (some ⟨w.heap.size, 0, none⟩) 1 1) (Lib.bytesWorld (w.alloc (.cells #[.int .u8 34] 5)) 5 s)) := Lib.hid (by
    have hb := below_bytes (w.alloc (.cells #[.int .u8 34] 5)) s
    refine ⟨⟨rfl, Or.inr ⟨w.heap.size, 1, #[.int .u8 34], rfl, Nat.le_refl _, ?_, Nat.le_refl _, by decide, rfl, rfl⟩⟩, ?_, by omega, by rw [Lib.bytesWorld_size]; simp, rfl, (below_new w _).trans (hb.mono (by simp))⟩
    · rw [hb.block w.heap.size (by simp)]; exact heap_alloc_at _ _
    · intro e; have : some w.heap.size = some (w.heap.size + 1) := e; simp at this)
  have HC := Lib.hid (fun j (hj : j < s.size) => Lib.bytesWorld_cell (w.alloc (.cells #[.int .u8 34] 5)) 5 s j hj)
  have hq : (w.alloc (.cells #[.int .u8 34] 5)).heap.size = w.heap.size + 1 := by simp
  rw [hq] at HC
  clear hq hcv
  generalize Lib.bytesWorld (w.alloc (.cells #[.int .u8 34] 5)) 5 s = W2 at HQ HC
  generalize grownCap (w.alloc (.cells #[.int .u8 34] 5)) s.size 0 5 = cp
  generalize hqq : w.heap.size + 1 = q at HQ HC
  have HQQ := Lib.hid hqq; clear hqq
  generalize Value.slice (some ⟨w.heap.size, 0, none⟩) 1 1 = d0 at HQ
  go_loopw [3, 10] (fun d i wr => ∃ k : Nat, k ≤ s.size ∧ i = .int .i64 k ∧ QR w w.heap.size q W2.heap[q]? (34 :: (s.data.toList.take k).flatMap sp.quoteB) d wr) (fun _ i _ => s.size - (intOf i).toNat)
  case atStart => exact ⟨0, Nat.zero_le _, rfl, HQ.out⟩
  case round =>
    obtain ⟨k, hk, rfl, hr⟩ := hrel
    clear HQ
    have HQ := Lib.hid hr; clear hr
    have hlen : s.data.toList.length = s.size := by rw [Array.length_toList]; rfl
    by_cases hlt : k < s.size
    · have hc : wr.cell? ⟨q, k, none⟩ = some (.int .u8 (s.data.toList.getD k 0).toNat) := by
        obtain ⟨_, _, _, _, hO, _⟩ := HQ.out
        rw [World.cell?_of_block (a := ⟨q, k, none⟩) hO]
        exact HC.out k hlt
      have HX : Hid ((34 :: (s.data.toList.take (k + 1)).flatMap sp.quoteB) = (34 :: (s.data.toList.take k).flatMap sp.quoteB) ++ sp.quoteB (s.data.toList.getD k 0)) := Lib.hid (by
        rw [quote_take _ k (by omega), getD_lt _ _ (by omega)]; rfl)
      have HL : Hid ((34 :: (s.data.toList.take k).flatMap sp.quoteB).length + 8 ≤ 140737488355328) := Lib.hid (by
        have h1 := quote_len (s.data.toList.take k)
        have h2 : (s.data.toList.take k).length ≤ s.size := by rw [List.length_take]; omega
        have := HS.out
        simp only [List.length_cons]
        omega)
      generalize hl1 : (34 :: (s.data.toList.take (k + 1)).flatMap sp.quoteB) = l1 at HX
      have HL1 := Lib.hid hl1; clear hl1
      have hkb : (k : Int) ≤ 1099511627776 := by have := HS.out; omega
      generalize (34 :: (s.data.toList.take k).flatMap sp.quoteB) = l0 at HX HL HQ
      generalize s.data.toList.getD k 0 = K at hc HX
      have hK : (K.toNat : Int) ≤ 255 := by have := K.toNat_lt; omega
      have hK0 : (0 : Int) ≤ K.toNat := by omega
      clear HC
      by_cases c34 : K = 34
      · subst c34
        have HX2 : Hid (l1 = l0 ++ [92, 34]) := Lib.hid (by rw [HX.out]; rfl)
        go_wp2_with (at_builtin; refine wpl_append_bytes rfl _ _ rfl w.heap.size l0 _ rfl (HQ.out.alloc _).1 wr.heap.size 2 [92, 34] _ (0, 0) rfl rfl rfl (heap_alloc_at _ _) (by have := HL.out; omega) (by have := (HQ.out.alloc (.cells #[] 5)).2.2.2.1; have := HQ.out.2.2.1; simp at *; omega) ?_; intro v' w1 hown hgrow _ hat; have HQ1 := Lib.hid ((HQ.out.alloc _).app hown hgrow hat); clear hown hgrow hat)
        refine ⟨⟨k + 1, by omega, by go_num, ?_⟩, by simp [intOf]; omega⟩
        rw [HL1.out, HX2.out]
        exact HQ1.out
      by_cases c92 : K = 92
      · subst c92
        have HX2 : Hid (l1 = l0 ++ [92, 92]) := Lib.hid (by rw [HX.out]; rfl)
        go_wp2_with (at_builtin; refine wpl_append_bytes rfl _ _ rfl w.heap.size l0 _ rfl (HQ.out.alloc _).1 wr.heap.size 2 [92, 92] _ (0, 0) rfl rfl rfl (heap_alloc_at _ _) (by have := HL.out; omega) (by have := (HQ.out.alloc (.cells #[] 5)).2.2.2.1; have := HQ.out.2.2.1; simp at *; omega) ?_; intro v' w1 hown hgrow _ hat; have HQ1 := Lib.hid ((HQ.out.alloc _).app hown hgrow hat); clear hown hgrow hat)
        refine ⟨⟨k + 1, by omega, by go_num, ?_⟩, by simp [intOf]; omega⟩
        rw [HL1.out, HX2.out]
        exact HQ1.out
      by_cases c10 : K = 10
      · subst c10
        have HX2 : Hid (l1 = l0 ++ [92, 110]) := Lib.hid (by rw [HX.out]; rfl)
        go_wp2_with (at_builtin; refine wpl_append_bytes rfl _ _ rfl w.heap.size l0 _ rfl (HQ.out.alloc _).1 wr.heap.size 2 [92, 110] _ (0, 0) rfl rfl rfl (heap_alloc_at _ _) (by have := HL.out; omega) (by have := (HQ.out.alloc (.cells #[] 5)).2.2.2.1; have := HQ.out.2.2.1; simp at *; omega) ?_; intro v' w1 hown hgrow _ hat; have HQ1 := Lib.hid ((HQ.out.alloc _).app hown hgrow hat); clear hown hgrow hat)
        refine ⟨⟨k + 1, by omega, by go_num, ?_⟩, by simp [intOf]; omega⟩
        rw [HL1.out, HX2.out]
        exact HQ1.out
      have n34 : ((K.toNat : Int) == 34) = false := by simp; intro h; exact c34 (UInt8.toNat_inj.1 (by simpa using (by omega : K.toNat = 34)))
      have n92 : ((K.toNat : Int) == 92) = false := by simp; intro h; exact c92 (UInt8.toNat_inj.1 (by simpa using (by omega : K.toNat = 92)))
      have n10 : ((K.toNat : Int) == 10) = false := by simp; intro h; exact c10 (UInt8.toNat_inj.1 (by simpa using (by omega : K.toNat = 10)))
      by_cases cc : K.toNat < 32 ∨ 127 ≤ K.toNat
      · have HX2 : Hid (l1 = l0 ++ [92, 120, sp.hexd (K.toNat / 16), sp.hexd (K.toNat % 16)]) := Lib.hid (by
          rw [HX.out, quoteB_ctl c34 c92 c10 cc])
        cases t1 : decide ((K.toNat : Int) < 32) <;> cases t2 : decide (127 ≤ (K.toNat : Int))
        · exfalso
          simp at t1 t2
          omega
        all_goals
          have b1 : (0 : Int) ≤ (K.toNat : Int) / 16 := by omega
          have b2 : (K.toNat : Int) / 16 < 16 := by omega
          have b3 : (0 : Int) ≤ (K.toNat : Int) % 16 := by omega
          have b4 : (K.toNat : Int) % 16 < 16 := by omega
          have b5 : bits BinOp.and IntKind.u8 (K.toNat : Int) 15 = (K.toNat : Int) % 16 := bits_mask .u8 8 (by decide) wraps_u8 4 (by decide) _ (by omega) (by omega)
          clear c34 c92 c10 cc
          go_wp2
          go_region_law ((refine step_append_bytes rfl _ _ rfl w.heap.size l0 _ rfl (HQ.out.alloc _).drew.1 wr.heap.size 4 [92, 120, sp.hexd (K.toNat / 16), sp.hexd (K.toNat % 16)] _ (0, 0) rfl rfl (heap_alloc_at _ _) (by rw [hexAt, hexAt]; rfl) (by have := HL.out; omega) (by have := HQ.out.2.2.1; have := HQ.out.2.2.2.1; simp; omega) ?_; intro v' w1 hown hgrow hat; have HQ1 := Lib.hid ((HQ.out.alloc _).drew.app hown hgrow hat); clear hown hgrow hat))
          all_goals
            go_wp2
            refine ⟨⟨k + 1, by omega, by go_num, ?_⟩, by simp [intOf]; omega⟩
            rw [HL1.out, HX2.out]
            exact HQ1.out
      · have HX2 : Hid (l1 = l0 ++ [K]) := Lib.hid (by rw [HX.out, quoteB_plain c34 c92 c10 cc])
        have t1 : decide ((K.toNat : Int) < 32) = false := by simp; omega
        have t2 : decide (127 ≤ (K.toNat : Int)) = false := by simp; omega
        clear c34 c92 c10 cc
        go_wp2_with (at_builtin; refine wpl_append_bytes rfl _ _ rfl w.heap.size l0 _ rfl (HQ.out.alloc _).1 wr.heap.size 1 [K] _ (0, 0) rfl rfl rfl (heap_alloc_at _ _) (by have := HL.out; omega) (by have := (HQ.out.alloc (.cells #[] 5)).2.2.2.1; have := HQ.out.2.2.1; simp at *; omega) ?_; intro v' w1 hown hgrow _ hat; have HQ1 := Lib.hid ((HQ.out.alloc _).app hown hgrow hat); clear hown hgrow hat)
        refine ⟨⟨k + 1, by omega, by go_num, ?_⟩, by simp [intOf]; omega⟩
        rw [HL1.out, HX2.out]
        exact HQ1.out
    · have : k = s.size := by omega
      subst this
      have HE : Hid ((34 :: (s.data.toList.take s.size).flatMap sp.quoteB) ++ [34] = sp.quoteS s.data.toList) := Lib.hid (by rw [← hlen, List.take_length]; rfl)
      have HL : Hid ((34 :: (s.data.toList.take s.size).flatMap sp.quoteB).length + 8 ≤ 140737488355328) := Lib.hid (by
        have h1 := quote_len (s.data.toList.take s.size)
        have h2 : (s.data.toList.take s.size).length ≤ s.size := by rw [List.length_take]; omega
        have := HS.out
        simp only [List.length_cons]
        omega)
      generalize (34 :: (s.data.toList.take s.size).flatMap sp.quoteB) = l0 at HE HL HQ
      clear HC
      go_wp2_with (at_builtin; refine wpl_append_bytes rfl _ _ rfl w.heap.size l0 _ rfl (HQ.out.alloc _).1 wr.heap.size 1 [34] _ (0, 0) rfl rfl rfl (heap_alloc_at _ _) (by have := HL.out; omega) (by have := (HQ.out.alloc (.cells #[] 5)).2.2.2.1; have := HQ.out.2.2.1; simp at *; omega) ?_; intro v' w1 hown hgrow _ hat; have HQ1 := Lib.hid ((HQ.out.alloc _).app hown hgrow hat); clear hown hgrow hat; rw [HE.out] at HQ1; have hcw := conv_own HQ1.out.1)
      go_ret
      exact ⟨rfl, HQ1.out.2.2.2.2.2⟩
end Go.Proofs.YtihlneenajlhoaaGreatDoor
/-
  Contracts, for a run of one goroutine, of style.Text and jalousieref22.Text: a computed value as a text. Condition: numbers of their kinds; strconv's table stands.
-/
set_option linter.unusedSimpArgs false
set_option linter.unusedVariables false
namespace Go.Proofs.YtihlneenajlhoaaGreatDoor
open Go Go.RowKit

/-- A computed value as a text. -/
def compS (k n d : Int) (word : ByteArray) : ByteArray := if k = 1 then bstr (sp.ratS n d) ++ ⟨#[112, 120]⟩ else if k = 2 then bstr (sp.ratS n d) else if k = 3 then word else ⟨#[]⟩
theorem ratLen {n d : Int} (hn : I64 n) (hd : I64 d) : (bstr (sp.ratS n d)).size ≤ 43 := by
  rw [bstr_size]
  by_cases hs : SureP n d
  · rw [rratS_eq n d hs, List.length_append]
    have h1 := Lib.itoa_length_le n hn.1 hn.2
    have h2 := Lib.itoa_length_le d hd.1 hd.2
    cases decide (1 < d)
    · simp; omega
    · simp; omega
  · rw [over_of hs]; decide
def compV (k n d : Int) (word : ByteArray) : Value := .agg #[.int .i64 k, .int .i64 n, .int .i64 d, .string word]
set_option maxRecDepth 100000 in
set_option maxHeartbeats 4000000 in
/-- style.Text. -/
theorem styleText_any (k n d : Int) (word : ByteArray) (w : World) (hn : I64 n) (hd : I64 d) : Calls Tryz.prog 35 #[.agg #[.int .i64 k, .int .i64 n, .int .i64 d, .string word]] w fun e w' => e = .returned (.string (compS k n d word)) ∧ Below w.heap.size w w' := by
  have HN := Lib.hid hn; have HD := Lib.hid hd
  have Z := ratLen hn hd
  clear hn hd
  by_cases k1 : k = 1
  · subst k1
    go_enter Tryz.func35, Tryz.ntmps35
    go_wp2_with (go_at_call 73; refine (ratText_any n d _ HN.out HD.out).mono ?_; rintro e w1 ⟨rfl, hb1⟩; have HB1 := Lib.hid ((below_new w _).trans (hb1.mono (by simp))); clear hb1)
    go_ret
    exact ⟨rfl, HB1.out⟩
  by_cases k2 : k = 2
  · subst k2
    go_enter Tryz.func35, Tryz.ntmps35
    go_wp2_with (go_at_call 73; refine (ratText_any n d _ HN.out HD.out).mono ?_; rintro e w1 ⟨rfl, hb1⟩; have HB1 := Lib.hid ((below_new w _).trans (hb1.mono (by simp))); clear hb1)
    go_ret
    exact ⟨rfl, HB1.out⟩
  have q1 : (k == 1) = false := by simpa using k1
  have q2 : (k == 2) = false := by simpa using k2
  by_cases k3 : k = 3
  · subst k3
    clear k1 k2
    go_enter Tryz.func35, Tryz.ntmps35
    go_wp2
    go_ret
    exact ⟨rfl, below_new w _⟩
  have q3 : (k == 3) = false := by simpa using k3
  have HR : Hid (compS k n d word = ⟨#[]⟩) := Lib.hid (by unfold compS; rw [if_neg k1, if_neg k2, if_neg k3])
  clear k1 k2 k3
  go_enter Tryz.func35, Tryz.ntmps35
  go_wp2
  go_ret
  exact ⟨ret_s HR.out.symm, below_new w _⟩
set_option maxRecDepth 100000 in
set_option maxHeartbeats 4000000 in
/-- jalousieref22.Text. -/
theorem rstyleText_any (k n d : Int) (word : ByteArray) (w : World) (hn : I64 n) (hd : I64 d) (hp : Pow w) : Calls Tryz.prog 37 #[.agg #[.int .i64 k, .int .i64 n, .int .i64 d, .string word]] w fun e w' => e = .returned (.string (compS k n d word)) ∧ Below w.heap.size w w' := by
  have HN := Lib.hid hn; have HD := Lib.hid hd; have HP := Lib.hid hp
  have Z := ratLen hn hd
  clear hn hd hp
  by_cases k1 : k = 1
  · subst k1
    go_enter Tryz.func37, Tryz.ntmps37
    go_wp2_with (go_at_call 74; refine (rratText_any n d _ HN.out HD.out (HP.out.on (below_new w _))).mono ?_; rintro e w1 ⟨rfl, hb1⟩; have HB1 := Lib.hid ((below_new w _).trans (hb1.mono (by simp))); clear hb1)
    go_ret
    exact ⟨rfl, HB1.out⟩
  by_cases k2 : k = 2
  · subst k2
    go_enter Tryz.func37, Tryz.ntmps37
    go_wp2_with (go_at_call 74; refine (rratText_any n d _ HN.out HD.out (HP.out.on (below_new w _))).mono ?_; rintro e w1 ⟨rfl, hb1⟩; have HB1 := Lib.hid ((below_new w _).trans (hb1.mono (by simp))); clear hb1)
    go_ret
    exact ⟨rfl, HB1.out⟩
  have q1 : (k == 1) = false := by simpa using k1
  have q2 : (k == 2) = false := by simpa using k2
  by_cases k3 : k = 3
  · subst k3
    clear k1 k2
    go_enter Tryz.func37, Tryz.ntmps37
    go_wp2
    go_ret
    exact ⟨rfl, below_new w _⟩
  have q3 : (k == 3) = false := by simpa using k3
  have HR : Hid (compS k n d word = ⟨#[]⟩) := Lib.hid (by unfold compS; rw [if_neg k1, if_neg k2, if_neg k3])
  clear k1 k2 k3
  go_enter Tryz.func37, Tryz.ntmps37
  go_wp2
  go_ret
  exact ⟨ret_s HR.out.symm, below_new w _⟩
end Go.Proofs.YtihlneenajlhoaaGreatDoor
/-
  Rows of structs in memory: as they came; one element loaded. Operations, answers and their rules as values. No condition of its own.
-/
set_option linter.unusedSimpArgs false
set_option linter.unusedVariables false
namespace Go.Proofs.YtihlneenajlhoaaGreatDoor
open Go Go.RowKit

/-- A slice value with n elements over the cells cs, in a block below B. -/
def RowAt (B : Nat) (w : World) (v : Value) (n : Nat) (cs : List Value) : Prop :=
  ∃ a cap, v = .slice a n cap ∧ n ≤ cap ∧ cap ≤ maxLen ∧ ((n = 0 ∧ cs = [] ∧ (a = none → cap = 0)) ∨ (0 < n ∧ ∃ b off, a = some ⟨b, off, none⟩ ∧ b < B ∧ w.rangeAt b off cs))
theorem RowAt.mono {B B' : Nat} {w : World} {v : Value} {n : Nat} {cs : List Value} (h : RowAt B w v n cs) (hB : B ≤ B') : RowAt B' w v n cs := by
  obtain ⟨a, cap, h1, h2, h3, h4⟩ := h
  exact ⟨a, cap, h1, h2, h3, h4.imp id fun ⟨x, b, off, y1, y2, y3⟩ => ⟨x, b, off, y1, by omega, y3⟩⟩
theorem rangeAt_below {B : Nat} {w w' : World} (hb : Below B w w') {b off : Nat} {cs : List Value} (h : b < B) (hr : w.rangeAt b off cs) : w'.rangeAt b off cs := fun j v hv => by
  rw [(bcell hb).1 b (off + j) h]; exact hr j v hv
theorem RowAt.keep {B : Nat} {w w' : World} {v : Value} {n : Nat} {cs : List Value} (h : RowAt B w v n cs) (hb : Below B w w') : RowAt B w' v n cs := by
  obtain ⟨a, cap, h1, h2, h3, h4⟩ := h
  exact ⟨a, cap, h1, h2, h3, h4.imp id fun ⟨x, b, off, y1, y2, y3⟩ => ⟨x, b, off, y1, y2, rangeAt_below hb y2 y3⟩⟩
theorem RowAt.slice {B : Nat} {w : World} {v : Value} {n : Nat} {cs : List Value} (h : RowAt B w v n cs) : ∃ a cap, v = .slice a n cap := by
  obtain ⟨a, cap, h1, _⟩ := h; exact ⟨a, cap, h1⟩
theorem RowAt.le {B : Nat} {w : World} {v : Value} {n : Nat} {cs : List Value} (h : RowAt B w v n cs) : n ≤ maxLen := by
  obtain ⟨a, cap, _, h1, h2, _⟩ := h; omega
/-- Where the cells of a row that is not empty lie. -/
theorem RowAt.place {B : Nat} {w : World} {a : Option Addr} {n cap : Nat} {cs : List Value} (h : RowAt B w (.slice a n cap) n cs) (hn : 0 < n) : ∃ b off, a = some ⟨b, off, none⟩ ∧ b < B ∧ w.rangeAt b off cs := by
  obtain ⟨a', cap', e, _, _, h | ⟨_, b, off, h1, h2, h3⟩⟩ := h
  · omega
  · cases e; exact ⟨b, off, h1, h2, h3⟩
/-- A load of a struct whose cells are known, wherever it stands. -/
theorem run_loadVar_range {P : Program} (w : World) (b off : Nat) (ty : TypeId) (cs : Array Value) (d : TypeDesc) (hg : ∀ j u, cs.toList[j]? = some u → w.cell? ⟨b, off + j, none⟩ = some u)
    (hu : P.underlying ty = some d) (hd : (match d with | .struct _ | .array _ _ => true | _ => false) = true) (hi : (P.info? ty).map (·.size) = some cs.size) : (loadVar ty ⟨b, off, none⟩).run P w = .ok (.agg cs) w := by
  have hl : (loadCells ⟨b, off, none⟩ cs.toList.length).run P w = .ok cs.toList.toArray w :=
    run_loadCells_list (P := P) w ⟨b, off, none⟩ cs.toList (fun j v hv => by
      have hadd : (⟨b, off, none⟩ : Addr).add j = ⟨b, off + j, none⟩ := Addr.add_mid b off j
      rw [hadd]
      exact hg j v hv)
  cases hq : P.info? ty with
  | none => simp [hq] at hi
  | some i =>
    have hs : i.size = cs.size := by simpa [hq] using hi
    have hagg : (isAgg ty).run P w = .ok true w := by
      unfold isAgg
      rw [Sem.run_bind, run_underlying hu w]
      cases d <;> simp_all
    simp only [Array.length_toList, Array.toArray_toList] at hl
    simp [loadVar, Sem.run_bind, hagg, sizeOf, typeInfo, hq, hs, hl]
theorem wpList_load_range {P : Program} {ops : Array Oper} {rest : List Oper} {o : Oper} {a : Act} {w : World} {Q : Exit → Act → World → Prop} (hgd : o.guard = none) (ty : TypeId) (x : Operand) (ho : o.op = .load ty x)
    (b off : Nat) (hx : a.eval x = .pointer (some ⟨b, off, none⟩)) (cs : Array Value) (d : TypeDesc) (hg : ∀ j u, cs.toList[j]? = some u → w.cell? ⟨b, off + j, none⟩ = some u)
    (hu : P.underlying ty = some d) (hd : (match d with | .struct _ | .array _ _ => true | _ => false) = true) (hi : (P.info? ty).map (·.size) = some cs.size) (h : wpList P ops Q rest (a.put o.dst (.agg cs)) w) : wpList P ops Q (o :: rest) a w :=
  wpList_plain hgd fun _ hK => by
    unfold Oper.wp execOp
    simp only [ho, hx, Instr.loadAt, Instr.sureAddr, Sem.run_bind, Sem.run_pure, Result.andThen_ok, run_loadVar_range w b off ty cs d hg hu hd hi]
    exact hK _ _ h

/-- The cells of a row of equal pieces. -/
theorem flat_at {α : Type} {cells : α → List Value} {k : Nat} (hl : ∀ a, (cells a).length = k) : ∀ (l : List α) (i : Nat) (h : i < l.length) (q : Nat), q < k → (l.flatMap cells)[i * k + q]? = (cells l[i])[q]? := by
  intro l
  induction l with
  | nil => intro i h; simp at h
  | cons a l ih =>
    intro i h q hq
    rw [List.flatMap_cons]
    cases i with
    | zero => rw [Nat.zero_mul, Nat.zero_add, List.getElem?_append_left (by rw [hl]; exact hq)]; rfl
    | succ i =>
      rw [List.getElem?_append_right (by rw [hl, Nat.succ_mul]; omega), hl, show (i + 1) * k + q - k = i * k + q by rw [Nat.succ_mul]; omega, ih i (by simpa using h) q hq]
      rfl
/-- One element of a row: its cells. -/
theorem piece_cells {α : Type} {cells : α → List Value} {k : Nat} (hl : ∀ a, (cells a).length = k) {w : World} {b off : Nat} {l : List α} (h : w.rangeAt b off (l.flatMap cells)) {i : Nat} (hi : i < l.length) : ∀ j u, (cells l[i])[j]? = some u → w.cell? ⟨b, off + i * k + j, none⟩ = some u := by
  intro j u hu
  have hj : j < k := by
    have := (List.getElem?_eq_some_iff.1 hu).1
    rw [hl] at this
    exact this
  rw [Nat.add_assoc]
  exact h (i * k + j) u (by rw [flat_at hl l i hi j hj]; exact hu)

/-- A style rule's reference: its origin, its number, its weight. -/
structure Rf where
  a : Int
  b : Int
  x : Int
  y : Int
  z : Int
instance : Inhabited Rf := ⟨⟨0, 0, 0, 0, 0⟩⟩
def Rf.cells (r : Rf) : List Value := [.int .i64 r.a, .int .i64 r.b, .int .i64 r.x, .int .i64 r.y, .int .i64 r.z]
structure Rf.ok (r : Rf) : Prop where
  a : I64 r.a
  b : I64 r.b
/-- An answer. -/
structure Ans where
  err : Int
  id : Int
  k : Int
  n : Int
  d : Int
  word : ByteArray
  text : ByteArray
  has : Bool
  rv : Value
  rules : List Rf
  count : Int
abbrev Ans.v (a : Ans) : Value := .agg #[.int .i64 a.err, .int .i64 a.id, .int .i64 a.k, .int .i64 a.n, .int .i64 a.d, .string a.word, .string a.text, .bool a.has, a.rv, .int .i64 a.count]
structure AnsAt (w : World) (a : Ans) : Prop where
  err : I64 a.err
  id : I64 a.id
  n : I64 a.n
  d : I64 a.d
  text : a.text.size ≤ 1099511627776
  rules : RowAt w.heap.size w a.rv a.rules.length (a.rules.flatMap Rf.cells)
  ok : ∀ r ∈ a.rules, r.ok
  few : a.rules.length ≤ 1099511627776
  count : I64 a.count
/-- What an operation is told, as a text. -/
def refS (r : Rf) : ByteArray := ⟨#[32]⟩ ++ bstr (Lib.itoa r.a) ++ ⟨#[58]⟩ ++ bstr (Lib.itoa r.b)
def refsS (l : List Rf) : ByteArray := l.foldl (fun s r => s ++ refS r) ⟨#[114, 117, 108, 101, 115]⟩
end Go.Proofs.YtihlneenajlhoaaGreatDoor
/-
  Contract, for a run of one goroutine, of script.Tell: what an operation is told, as a text. Condition: the answer's rules lie in memory; strconv's table stands.
-/
set_option linter.unusedSimpArgs false
set_option linter.unusedVariables false
namespace Go.Proofs.YtihlneenajlhoaaGreatDoor
open Go Go.RowKit

/-- An operation as a value. -/
structure Opv where
  kind : Int
  node : Int
  at_ : Int
  org : Int
  name : ByteArray
  word : ByteArray
  ta : Option Addr
  tl : Nat
  tc : Nat
  wn : Int
  wd : Int
  hn : Int
  hd : Int
  bt : Int
  bn : ByteArray
  bwn : Int
  bwd : Int
  bhn : Int
  bhd : Int
  on : Bool
abbrev Opv.cells (o : Opv) : Array Value := #[.int .i64 o.kind, .int .i64 o.node, .int .i64 o.at_, .int .i64 o.org, .string o.name, .string o.word, .slice o.ta o.tl o.tc, .int .i64 o.wn, .int .i64 o.wd, .int .i64 o.hn, .int .i64 o.hd, .int .i64 o.bt, .string o.bn, .int .i64 o.bwn, .int .i64 o.bwd, .int .i64 o.bhn, .int .i64 o.bhd, .bool o.on]
def tellS (k : Int) (a : Ans) : ByteArray :=
  if a.err = 0 then
    if k = 5 then ⟨#[105, 100, 32]⟩ ++ bstr (Lib.itoa a.id)
    else if k = 10 then compS a.k a.n a.d a.word
    else if k = 11 then (if a.has then bstr (sp.quoteS a.text.data.toList) else ⟨#[110, 111, 110, 101]⟩)
    else if k = 12 then refsS a.rules
    else if k = 15 then ⟨#[99, 111, 117, 110, 116, 32]⟩ ++ bstr (Lib.itoa a.count)
    else ⟨#[111, 107]⟩
  else ⟨#[101, 114, 114, 111, 114, 32]⟩ ++ bstr (Lib.itoa a.err)
theorem refsS_take (l : List Rf) (k : Nat) (h : k < l.length) : refsS (l.take (k + 1)) = refsS (l.take k) ++ refS l[k] := by
  unfold refsS
  rw [List.take_add_one, List.getElem?_eq_getElem h, List.foldl_append]
  rfl
theorem size_app (a b : ByteArray) : (a ++ b).size = a.size + b.size := by simp
theorem refS_size {r : Rf} (h : r.ok) : (refS r).size ≤ 44 := by
  unfold refS
  rw [size_app, size_app, size_app]
  have h1 := itoaLen h.a
  have h2 := itoaLen h.b
  have h3 : (⟨#[32]⟩ : ByteArray).size = 1 := rfl
  have h4 : (⟨#[58]⟩ : ByteArray).size = 1 := rfl
  omega
theorem refsS_size {l : List Rf} (h : ∀ r ∈ l, r.ok) : (refsS l).size ≤ 5 + 44 * l.length := by
  have : ∀ (l : List Rf) (s : ByteArray), (∀ r ∈ l, r.ok) → (l.foldl (fun s r => s ++ refS r) s).size ≤ s.size + 44 * l.length := by
    intro l
    induction l with
    | nil => intro s _; simp
    | cons a l ih =>
      intro s h
      rw [List.foldl_cons]
      have h1 := ih (s ++ refS a) (fun r hr => h r (List.mem_cons_of_mem _ hr))
      have h2 := refS_size (h a List.mem_cons_self)
      rw [size_app] at h1
      rw [List.length_cons]
      omega
  exact this l _ h
theorem rf_cells {w : World} {b : Nat} {x0 x1 x2 x3 x4 : Value} (h : w.heap[b]? = some (.cells #[x0, x1, x2, x3, x4] 89 (0, 0))) : w.cell? ⟨b, 0, none⟩ = some x0 ∧ w.cell? ⟨b, 1, none⟩ = some x1 :=
  ⟨by rw [cell_of_row w b 0 _ _ _ h]; rfl, by rw [cell_of_row w b 1 _ _ _ h]; rfl⟩
theorem und89 : ∃ d, Tryz.prog.underlying 89 = some d ∧ (match d with | .struct _ | .array _ _ => true | _ => false) = true := ⟨_, Tryz.underlying89, rfl⟩
theorem info89 : (Tryz.prog.info? 89).map (·.size) = some 5 := by kernel_rfl
set_option maxRecDepth 100000 in
set_option maxHeartbeats 4000000 in
theorem tell_err (kind node at_ org : Int) (name word : ByteArray) (ta : Option Addr) (tl tc : Nat) (wn wd hn hd bt : Int) (bn : ByteArray) (bwn bwd bhn bhd : Int) (on : Bool) (err id k n d : Int) (cw text : ByteArray) (has : Bool) (ra : Option Addr) (rl rc : Nat) (count : Int) (w : World) (hp : Pow w) (h0 : err ≠ 0) (hz : I64 err) :
    Calls Tryz.prog 16 #[.agg #[.int .i64 kind, .int .i64 node, .int .i64 at_, .int .i64 org, .string name, .string word, .slice ta tl tc, .int .i64 wn, .int .i64 wd, .int .i64 hn, .int .i64 hd, .int .i64 bt, .string bn, .int .i64 bwn, .int .i64 bwd, .int .i64 bhn, .int .i64 bhd, .bool on], .agg #[.int .i64 err, .int .i64 id, .int .i64 k, .int .i64 n, .int .i64 d, .string cw, .string text, .bool has, .slice ra rl rc, .int .i64 count]] w fun e w' => e = .returned (.string (⟨#[101, 114, 114, 111, 114, 32]⟩ ++ bstr (Lib.itoa err))) ∧ Below w.heap.size w w' := by
  have HP := Lib.hid hp
  have hb2 : Below w.heap.size w ((w.alloc (.cells #[.int .i64 kind, .int .i64 node, .int .i64 at_, .int .i64 org, .string name, .string word, .slice ta tl tc, .int .i64 wn, .int .i64 wd, .int .i64 hn, .int .i64 hd, .int .i64 bt, .string bn, .int .i64 bwn, .int .i64 bwd, .int .i64 bhn, .int .i64 bhd, .bool on] 28)).alloc (.cells #[.int .i64 err, .int .i64 id, .int .i64 k, .int .i64 n, .int .i64 d, .string cw, .string text, .bool has, .slice ra rl rc, .int .i64 count] 44)) := ((Below.refl _ _).alloc (Nat.le_refl _) _).alloc (by simp) _
  have HB2 := Lib.hid hb2
  clear hb2 hp
  have q0 : (err != 0) = true := by simpa using h0
  clear h0
  have Z := itoaLen hz
  have HZ := Lib.hid hz
  clear hz
  go_enter Tryz.func16, Tryz.ntmps16
  go_wp2_with (go_at_call 34; refine (itoa_any _ _ HZ.out (HP.out.on HB2.out)).mono ?_; rintro e w1 ⟨rfl, hb1⟩; have HB1 := Lib.hid (HB2.out.trans (hb1.mono HB2.out.size)); clear hb1)
  go_ret
  exact ⟨rfl, HB1.out⟩
set_option maxRecDepth 100000 in
set_option maxHeartbeats 4000000 in
theorem tell_id (kind node at_ org : Int) (name word : ByteArray) (ta : Option Addr) (tl tc : Nat) (wn wd hn hd bt : Int) (bn : ByteArray) (bwn bwd bhn bhd : Int) (on : Bool) (err id k n d : Int) (cw text : ByteArray) (has : Bool) (ra : Option Addr) (rl rc : Nat) (count : Int) (w : World) (hp : Pow w) (h0 : err = 0) (hk : kind = 5) (hz : I64 id) :
    Calls Tryz.prog 16 #[.agg #[.int .i64 kind, .int .i64 node, .int .i64 at_, .int .i64 org, .string name, .string word, .slice ta tl tc, .int .i64 wn, .int .i64 wd, .int .i64 hn, .int .i64 hd, .int .i64 bt, .string bn, .int .i64 bwn, .int .i64 bwd, .int .i64 bhn, .int .i64 bhd, .bool on], .agg #[.int .i64 err, .int .i64 id, .int .i64 k, .int .i64 n, .int .i64 d, .string cw, .string text, .bool has, .slice ra rl rc, .int .i64 count]] w fun e w' => e = .returned (.string (⟨#[105, 100, 32]⟩ ++ bstr (Lib.itoa id))) ∧ Below w.heap.size w w' := by
  have HP := Lib.hid hp
  have hb2 : Below w.heap.size w ((w.alloc (.cells #[.int .i64 kind, .int .i64 node, .int .i64 at_, .int .i64 org, .string name, .string word, .slice ta tl tc, .int .i64 wn, .int .i64 wd, .int .i64 hn, .int .i64 hd, .int .i64 bt, .string bn, .int .i64 bwn, .int .i64 bwd, .int .i64 bhn, .int .i64 bhd, .bool on] 28)).alloc (.cells #[.int .i64 err, .int .i64 id, .int .i64 k, .int .i64 n, .int .i64 d, .string cw, .string text, .bool has, .slice ra rl rc, .int .i64 count] 44)) := ((Below.refl _ _).alloc (Nat.le_refl _) _).alloc (by simp) _
  have HB2 := Lib.hid hb2
  clear hb2 hp
  subst h0 hk
  have Z := itoaLen hz
  have HZ := Lib.hid hz
  clear hz
  go_enter Tryz.func16, Tryz.ntmps16
  go_wp2_with (go_at_call 34; refine (itoa_any _ _ HZ.out (HP.out.on HB2.out)).mono ?_; rintro e w1 ⟨rfl, hb1⟩; have HB1 := Lib.hid (HB2.out.trans (hb1.mono HB2.out.size)); clear hb1)
  go_ret
  exact ⟨rfl, HB1.out⟩
set_option maxRecDepth 100000 in
set_option maxHeartbeats 4000000 in
theorem tell_comp (kind node at_ org : Int) (name word : ByteArray) (ta : Option Addr) (tl tc : Nat) (wn wd hn hd bt : Int) (bn : ByteArray) (bwn bwd bhn bhd : Int) (on : Bool) (err id k n d : Int) (cw text : ByteArray) (has : Bool) (ra : Option Addr) (rl rc : Nat) (count : Int) (w : World) (hp : Pow w) (h0 : err = 0) (hk : kind = 10) (hn' : I64 n) (hd' : I64 d) :
    Calls Tryz.prog 16 #[.agg #[.int .i64 kind, .int .i64 node, .int .i64 at_, .int .i64 org, .string name, .string word, .slice ta tl tc, .int .i64 wn, .int .i64 wd, .int .i64 hn, .int .i64 hd, .int .i64 bt, .string bn, .int .i64 bwn, .int .i64 bwd, .int .i64 bhn, .int .i64 bhd, .bool on], .agg #[.int .i64 err, .int .i64 id, .int .i64 k, .int .i64 n, .int .i64 d, .string cw, .string text, .bool has, .slice ra rl rc, .int .i64 count]] w fun e w' => e = .returned (.string (compS k n d cw)) ∧ Below w.heap.size w w' := by
  have HP := Lib.hid hp
  have hb2 : Below w.heap.size w ((w.alloc (.cells #[.int .i64 kind, .int .i64 node, .int .i64 at_, .int .i64 org, .string name, .string word, .slice ta tl tc, .int .i64 wn, .int .i64 wd, .int .i64 hn, .int .i64 hd, .int .i64 bt, .string bn, .int .i64 bwn, .int .i64 bwd, .int .i64 bhn, .int .i64 bhd, .bool on] 28)).alloc (.cells #[.int .i64 err, .int .i64 id, .int .i64 k, .int .i64 n, .int .i64 d, .string cw, .string text, .bool has, .slice ra rl rc, .int .i64 count] 44)) := ((Below.refl _ _).alloc (Nat.le_refl _) _).alloc (by simp) _
  have HB2 := Lib.hid hb2
  clear hb2 hp
  subst h0 hk
  have HN := Lib.hid hn'; have HD := Lib.hid hd'; clear hn' hd'
  go_enter Tryz.func16, Tryz.ntmps16
  go_wp2_with (go_at_call 35; refine (styleText_any _ _ _ _ _ HN.out HD.out).mono ?_; rintro e w1 ⟨rfl, hb1⟩; have HB1 := Lib.hid (HB2.out.trans (hb1.mono HB2.out.size)); clear hb1)
  go_ret
  exact ⟨rfl, HB1.out⟩
set_option maxRecDepth 100000 in
set_option maxHeartbeats 4000000 in
theorem tell_none (kind node at_ org : Int) (name word : ByteArray) (ta : Option Addr) (tl tc : Nat) (wn wd hn hd bt : Int) (bn : ByteArray) (bwn bwd bhn bhd : Int) (on : Bool) (err id k n d : Int) (cw text : ByteArray) (has : Bool) (ra : Option Addr) (rl rc : Nat) (count : Int) (w : World) (hp : Pow w) (h0 : err = 0) (hk : kind = 11) (hh : has = false) :
    Calls Tryz.prog 16 #[.agg #[.int .i64 kind, .int .i64 node, .int .i64 at_, .int .i64 org, .string name, .string word, .slice ta tl tc, .int .i64 wn, .int .i64 wd, .int .i64 hn, .int .i64 hd, .int .i64 bt, .string bn, .int .i64 bwn, .int .i64 bwd, .int .i64 bhn, .int .i64 bhd, .bool on], .agg #[.int .i64 err, .int .i64 id, .int .i64 k, .int .i64 n, .int .i64 d, .string cw, .string text, .bool has, .slice ra rl rc, .int .i64 count]] w fun e w' => e = .returned (.string (⟨#[110, 111, 110, 101]⟩)) ∧ Below w.heap.size w w' := by
  have HP := Lib.hid hp
  have hb2 : Below w.heap.size w ((w.alloc (.cells #[.int .i64 kind, .int .i64 node, .int .i64 at_, .int .i64 org, .string name, .string word, .slice ta tl tc, .int .i64 wn, .int .i64 wd, .int .i64 hn, .int .i64 hd, .int .i64 bt, .string bn, .int .i64 bwn, .int .i64 bwd, .int .i64 bhn, .int .i64 bhd, .bool on] 28)).alloc (.cells #[.int .i64 err, .int .i64 id, .int .i64 k, .int .i64 n, .int .i64 d, .string cw, .string text, .bool has, .slice ra rl rc, .int .i64 count] 44)) := ((Below.refl _ _).alloc (Nat.le_refl _) _).alloc (by simp) _
  have HB2 := Lib.hid hb2
  clear hb2 hp
  subst h0 hk hh
  go_enter Tryz.func16, Tryz.ntmps16
  go_wp2
  go_ret
  exact ⟨rfl, HB2.out⟩
set_option maxRecDepth 100000 in
set_option maxHeartbeats 4000000 in
theorem tell_text (kind node at_ org : Int) (name word : ByteArray) (ta : Option Addr) (tl tc : Nat) (wn wd hn hd bt : Int) (bn : ByteArray) (bwn bwd bhn bhd : Int) (on : Bool) (err id k n d : Int) (cw text : ByteArray) (has : Bool) (ra : Option Addr) (rl rc : Nat) (count : Int) (w : World) (hp : Pow w) (h0 : err = 0) (hk : kind = 11) (hh : has = true) (ht : text.size ≤ 1099511627776) :
    Calls Tryz.prog 16 #[.agg #[.int .i64 kind, .int .i64 node, .int .i64 at_, .int .i64 org, .string name, .string word, .slice ta tl tc, .int .i64 wn, .int .i64 wd, .int .i64 hn, .int .i64 hd, .int .i64 bt, .string bn, .int .i64 bwn, .int .i64 bwd, .int .i64 bhn, .int .i64 bhd, .bool on], .agg #[.int .i64 err, .int .i64 id, .int .i64 k, .int .i64 n, .int .i64 d, .string cw, .string text, .bool has, .slice ra rl rc, .int .i64 count]] w fun e w' => e = .returned (.string (bstr (sp.quoteS text.data.toList))) ∧ Below w.heap.size w w' := by
  have HP := Lib.hid hp
  have hb2 : Below w.heap.size w ((w.alloc (.cells #[.int .i64 kind, .int .i64 node, .int .i64 at_, .int .i64 org, .string name, .string word, .slice ta tl tc, .int .i64 wn, .int .i64 wd, .int .i64 hn, .int .i64 hd, .int .i64 bt, .string bn, .int .i64 bwn, .int .i64 bwd, .int .i64 bhn, .int .i64 bhd, .bool on] 28)).alloc (.cells #[.int .i64 err, .int .i64 id, .int .i64 k, .int .i64 n, .int .i64 d, .string cw, .string text, .bool has, .slice ra rl rc, .int .i64 count] 44)) := ((Below.refl _ _).alloc (Nat.le_refl _) _).alloc (by simp) _
  have HB2 := Lib.hid hb2
  clear hb2 hp
  subst h0 hk hh
  have HT := Lib.hid ht; clear ht
  go_enter Tryz.func16, Tryz.ntmps16
  go_wp2_with (go_at_call 36; refine (quoted_any _ _ HT.out).mono ?_; rintro e w1 ⟨rfl, hb1⟩; have HB1 := Lib.hid (HB2.out.trans (hb1.mono HB2.out.size)); clear hb1)
  go_ret
  exact ⟨rfl, HB1.out⟩
set_option maxRecDepth 100000 in
set_option maxHeartbeats 4000000 in
theorem tell_count (kind node at_ org : Int) (name word : ByteArray) (ta : Option Addr) (tl tc : Nat) (wn wd hn hd bt : Int) (bn : ByteArray) (bwn bwd bhn bhd : Int) (on : Bool) (err id k n d : Int) (cw text : ByteArray) (has : Bool) (ra : Option Addr) (rl rc : Nat) (count : Int) (w : World) (hp : Pow w) (h0 : err = 0) (hk : kind = 15) (hz : I64 count) :
    Calls Tryz.prog 16 #[.agg #[.int .i64 kind, .int .i64 node, .int .i64 at_, .int .i64 org, .string name, .string word, .slice ta tl tc, .int .i64 wn, .int .i64 wd, .int .i64 hn, .int .i64 hd, .int .i64 bt, .string bn, .int .i64 bwn, .int .i64 bwd, .int .i64 bhn, .int .i64 bhd, .bool on], .agg #[.int .i64 err, .int .i64 id, .int .i64 k, .int .i64 n, .int .i64 d, .string cw, .string text, .bool has, .slice ra rl rc, .int .i64 count]] w fun e w' => e = .returned (.string (⟨#[99, 111, 117, 110, 116, 32]⟩ ++ bstr (Lib.itoa count))) ∧ Below w.heap.size w w' := by
  have HP := Lib.hid hp
  have hb2 : Below w.heap.size w ((w.alloc (.cells #[.int .i64 kind, .int .i64 node, .int .i64 at_, .int .i64 org, .string name, .string word, .slice ta tl tc, .int .i64 wn, .int .i64 wd, .int .i64 hn, .int .i64 hd, .int .i64 bt, .string bn, .int .i64 bwn, .int .i64 bwd, .int .i64 bhn, .int .i64 bhd, .bool on] 28)).alloc (.cells #[.int .i64 err, .int .i64 id, .int .i64 k, .int .i64 n, .int .i64 d, .string cw, .string text, .bool has, .slice ra rl rc, .int .i64 count] 44)) := ((Below.refl _ _).alloc (Nat.le_refl _) _).alloc (by simp) _
  have HB2 := Lib.hid hb2
  clear hb2 hp
  subst h0 hk
  have Z := itoaLen hz
  have HZ := Lib.hid hz
  clear hz
  go_enter Tryz.func16, Tryz.ntmps16
  go_wp2_with (go_at_call 34; refine (itoa_any _ _ HZ.out (HP.out.on HB2.out)).mono ?_; rintro e w1 ⟨rfl, hb1⟩; have HB1 := Lib.hid (HB2.out.trans (hb1.mono HB2.out.size)); clear hb1)
  go_ret
  exact ⟨rfl, HB1.out⟩
set_option maxRecDepth 100000 in
set_option maxHeartbeats 4000000 in
theorem tell_ok (kind node at_ org : Int) (name word : ByteArray) (ta : Option Addr) (tl tc : Nat) (wn wd hn hd bt : Int) (bn : ByteArray) (bwn bwd bhn bhd : Int) (on : Bool) (err id k n d : Int) (cw text : ByteArray) (has : Bool) (ra : Option Addr) (rl rc : Nat) (count : Int) (w : World) (hp : Pow w) (h0 : err = 0) (k5 : kind ≠ 5) (k10 : kind ≠ 10) (k11 : kind ≠ 11) (k12 : kind ≠ 12) (k15 : kind ≠ 15) :
    Calls Tryz.prog 16 #[.agg #[.int .i64 kind, .int .i64 node, .int .i64 at_, .int .i64 org, .string name, .string word, .slice ta tl tc, .int .i64 wn, .int .i64 wd, .int .i64 hn, .int .i64 hd, .int .i64 bt, .string bn, .int .i64 bwn, .int .i64 bwd, .int .i64 bhn, .int .i64 bhd, .bool on], .agg #[.int .i64 err, .int .i64 id, .int .i64 k, .int .i64 n, .int .i64 d, .string cw, .string text, .bool has, .slice ra rl rc, .int .i64 count]] w fun e w' => e = .returned (.string (⟨#[111, 107]⟩)) ∧ Below w.heap.size w w' := by
  have HP := Lib.hid hp
  have hb2 : Below w.heap.size w ((w.alloc (.cells #[.int .i64 kind, .int .i64 node, .int .i64 at_, .int .i64 org, .string name, .string word, .slice ta tl tc, .int .i64 wn, .int .i64 wd, .int .i64 hn, .int .i64 hd, .int .i64 bt, .string bn, .int .i64 bwn, .int .i64 bwd, .int .i64 bhn, .int .i64 bhd, .bool on] 28)).alloc (.cells #[.int .i64 err, .int .i64 id, .int .i64 k, .int .i64 n, .int .i64 d, .string cw, .string text, .bool has, .slice ra rl rc, .int .i64 count] 44)) := ((Below.refl _ _).alloc (Nat.le_refl _) _).alloc (by simp) _
  have HB2 := Lib.hid hb2
  clear hb2 hp
  subst h0
  have q5 : (kind == 5) = false := by simpa using k5
  clear k5
  have q10 : (kind == 10) = false := by simpa using k10
  clear k10
  have q11 : (kind == 11) = false := by simpa using k11
  clear k11
  have q12 : (kind == 12) = false := by simpa using k12
  clear k12
  have q15 : (kind == 15) = false := by simpa using k15
  clear k15
  go_enter Tryz.func16, Tryz.ntmps16
  go_wp2
  go_ret
  exact ⟨rfl, HB2.out⟩
set_option maxRecDepth 100000 in
set_option maxHeartbeats 4000000 in
theorem tell_rules (kind node at_ org : Int) (name word : ByteArray) (ta : Option Addr) (tl tc : Nat) (wn wd hn hd bt : Int) (bn : ByteArray) (bwn bwd bhn bhd : Int) (on : Bool) (err id k n d : Int) (cw text : ByteArray) (has : Bool) (ra : Option Addr) (rl rc : Nat) (count : Int) (w : World) (rules : List Rf) (hp : Pow w) (h0 : err = 0) (hk : kind = 12) (hr : RowAt w.heap.size w (.slice ra rl rc) rules.length (rules.flatMap Rf.cells)) (hok : ∀ r ∈ rules, r.ok) (hfew : rules.length ≤ 1099511627776) :
    Calls Tryz.prog 16 #[.agg #[.int .i64 kind, .int .i64 node, .int .i64 at_, .int .i64 org, .string name, .string word, .slice ta tl tc, .int .i64 wn, .int .i64 wd, .int .i64 hn, .int .i64 hd, .int .i64 bt, .string bn, .int .i64 bwn, .int .i64 bwd, .int .i64 bhn, .int .i64 bhd, .bool on], .agg #[.int .i64 err, .int .i64 id, .int .i64 k, .int .i64 n, .int .i64 d, .string cw, .string text, .bool has, .slice ra rl rc, .int .i64 count]] w fun e w' => e = .returned (.string (refsS rules)) ∧ Below w.heap.size w w' := by
  have HP := Lib.hid hp
  have hb2 : Below w.heap.size w ((w.alloc (.cells #[.int .i64 kind, .int .i64 node, .int .i64 at_, .int .i64 org, .string name, .string word, .slice ta tl tc, .int .i64 wn, .int .i64 wd, .int .i64 hn, .int .i64 hd, .int .i64 bt, .string bn, .int .i64 bwn, .int .i64 bwd, .int .i64 bhn, .int .i64 bhd, .bool on] 28)).alloc (.cells #[.int .i64 err, .int .i64 id, .int .i64 k, .int .i64 n, .int .i64 d, .string cw, .string text, .bool has, .slice ra rl rc, .int .i64 count] 44)) := ((Below.refl _ _).alloc (Nat.le_refl _) _).alloc (by simp) _
  have HB2 := Lib.hid hb2
  clear hb2 hp
  subst h0 hk
  have HR := Lib.hid hr; have HOK := Lib.hid hok; have HFEW := Lib.hid hfew
  have hr2 := hr
  obtain ⟨a0, cap0, e0, _, _, _⟩ := hr2
  cases e0
  clear hr hok hfew
  go_enter Tryz.func16, Tryz.ntmps16
  go_wp2
  generalize (w.alloc (.cells #[.int .i64 12, .int .i64 node, .int .i64 at_, .int .i64 org, .string name, .string word, .slice ta tl tc, .int .i64 wn, .int .i64 wd, .int .i64 hn, .int .i64 hd, .int .i64 bt, .string bn, .int .i64 bwn, .int .i64 bwd, .int .i64 bhn, .int .i64 bhd, .bool on] 28)).alloc (.cells #[.int .i64 0, .int .i64 id, .int .i64 k, .int .i64 n, .int .i64 d, .string cw, .string text, .bool has, .slice ra rules.length rc, .int .i64 count] 44) = W2 at HB2
  go_loopw [5, 40] (fun s i wr => ∃ m : Nat, m ≤ rules.length ∧ i = .int .i64 m ∧ s = .string (refsS (rules.take m)) ∧ Below w.heap.size w wr) (fun _ i _ => rules.length - (intOf i).toNat)
  case atStart => exact ⟨0, Nat.zero_le _, rfl, rfl, HB2.out⟩
  case round =>
    obtain ⟨m, hm, rfl, rfl, hbl⟩ := hrel
    have HBL := Lib.hid hbl; clear hbl
    have hmb : (m : Int) ≤ 1099511627776 := by have := HFEW.out; omega
    by_cases hlt : m < rules.length
    · obtain ⟨b, off, rfl, hbb, hrg⟩ := HR.out.place (by omega)
      have hc := piece_cells (cells := Rf.cells) (k := 5) (fun _ => rfl) (rangeAt_below HBL.out hbb hrg) hlt
      have HC := Lib.hid hc
      have hrok := HOK.out rules[m] (List.getElem_mem hlt)
      have HX := Lib.hid (refsS_take rules m hlt)
      have Z0 : (refsS (rules.take m)).size ≤ 5 + 44 * 1099511627776 := by
        have h1 := refsS_size (l := rules.take m) (fun r hr => HOK.out r (List.mem_of_mem_take hr))
        have h2 : (rules.take m).length ≤ 1099511627776 := by rw [List.length_take]; have := HFEW.out; omega
        omega
      have Z1 := itoaLen hrok.a; have Z2 := itoaLen hrok.b
      have HA := Lib.hid hrok.a; have HBB := Lib.hid hrok.b
      generalize rules[m] = r at hc HX Z1 Z2 HA HBB
      generalize refsS (rules.take m) = s0 at HX Z0
      have c0 := hc 0 _ rfl
      have c1 := hc 1 _ rfl
      have c2 := hc 2 _ rfl
      have c3 := hc 3 _ rfl
      have c4 := hc 4 _ rfl
      rw [Nat.add_zero] at c0
      clear hc hrok hrg HC
      go_wp2
      have HB0_ : Hid (Below w.heap.size w (wr.alloc (.cells #[.int .i64 r.a, .int .i64 r.b, .int .i64 r.x, .int .i64 r.y, .int .i64 r.z] 89)).drew) := Lib.hid ((HBL.out.alloc HBL.out.size _).drew)
      have K0 : Hid ((wr.alloc (.cells #[.int .i64 r.a, .int .i64 r.b, .int .i64 r.x, .int .i64 r.y, .int .i64 r.z] 89)).drew.heap[wr.heap.size]? = some (.cells #[.int .i64 r.a, .int .i64 r.b, .int .i64 r.x, .int .i64 r.y, .int .i64 r.z] 89 (0, 0))) := Lib.hid (heap_alloc_at _ _)
      refine wp_region_held_drew (S := (fun s => s.cell? ⟨wr.heap.size, 0, none⟩ = some (.int .i64 r.a) ∧ s.cell? ⟨wr.heap.size, 1, none⟩ = some (.int .i64 r.b))) (by kernel_rfl) (rf_cells K0.out) (fun hHeld => ?_)
      refine wpAnyH_take (i := 0) (v := .string s0) rfl (by kernel_rfl) (by kernel_rfl) (by kernel_rfl) (fun _ _ _ h => h) (Or.inl ⟨by kernel_rfl, fun s hs => by obtain ⟨s0c, s1c⟩ := hs; go_simp <;> omega⟩) hHeld ?_
      refine wpAnyH_take (i := 1) (v := .pointer (some ⟨wr.heap.size, 0, none⟩)) rfl (by kernel_rfl) (by kernel_rfl) (by kernel_rfl) (fun _ _ _ h => h) (Or.inl ⟨by kernel_rfl, fun s hs => by obtain ⟨s0c, s1c⟩ := hs; go_simp <;> omega⟩) hHeld ?_
      refine wpAnyH_take (i := 2) (v := .int .i64 r.a) rfl (by kernel_rfl) (by kernel_rfl) (by kernel_rfl) (fun _ _ _ h => h) (Or.inl ⟨by kernel_rfl, fun s hs => by obtain ⟨s0c, s1c⟩ := hs; go_simp <;> omega⟩) hHeld ?_
      refine wpAnyH_take (i := 6) (v := .pointer (some ⟨wr.heap.size, 1, none⟩)) rfl (by kernel_rfl) (by kernel_rfl) (by kernel_rfl) (fun _ _ _ h => h) (Or.inl ⟨by kernel_rfl, fun s hs => by obtain ⟨s0c, s1c⟩ := hs; go_simp <;> omega⟩) hHeld ?_
      refine wpAnyH_take (i := 7) (v := .int .i64 r.b) rfl (by kernel_rfl) (by kernel_rfl) (by kernel_rfl) (fun _ _ _ h => h) (Or.inl ⟨by kernel_rfl, fun s hs => by obtain ⟨s0c, s1c⟩ := hs; go_simp <;> omega⟩) hHeld ?_
      refine wpAnyH_ready (rs := [3]) (by kernel_rfl) (by simp) ?_
      refine AllReadyH.cons rfl (fun K hK => ?_) AllReadyH.nil
      rw [if_pos (by kernel_rfl)]
      go_simp
      refine (itoa_any _ _ HA.out (HP.out.on HB0_.out)).mono ?_
      rintro e w1 ⟨rfl, hb1⟩
      have HB1_ := Lib.hid (HB0_.out.trans (hb1.mono HB0_.out.size))
      have k1 := (hb1.block wr.heap.size (lt_of_block K0.out)).trans K0.out
      have K1 := Lib.hid k1
      clear hb1 k1
      refine hK _ _ (rf_cells K1.out) (fun hHeld => ?_)
      refine wpAnyH_take (i := 4) (v := .string (⟨#[32]⟩ ++ bstr (Lib.itoa r.a))) rfl (by kernel_rfl) (by kernel_rfl) (by kernel_rfl) (fun _ _ _ h => h) (Or.inl ⟨by kernel_rfl, fun s hs => by obtain ⟨s0c, s1c⟩ := hs; go_simp <;> omega⟩) hHeld ?_
      refine wpAnyH_take (i := 5) (v := .string ((⟨#[32]⟩ ++ bstr (Lib.itoa r.a)) ++ ⟨#[58]⟩)) rfl (by kernel_rfl) (by kernel_rfl) (by kernel_rfl) (fun _ _ _ h => h) (Or.inl ⟨by kernel_rfl, fun s hs => by obtain ⟨s0c, s1c⟩ := hs; go_simp <;> omega⟩) hHeld ?_
      refine wpAnyH_ready (rs := [8]) (by kernel_rfl) (by simp) ?_
      refine AllReadyH.cons rfl (fun K hK => ?_) AllReadyH.nil
      rw [if_pos (by kernel_rfl)]
      go_simp
      refine (itoa_any _ _ HBB.out (HP.out.on HB1_.out)).mono ?_
      rintro e w2 ⟨rfl, hb2⟩
      have HB2_ := Lib.hid (HB1_.out.trans (hb2.mono HB1_.out.size))
      have k2 := (hb2.block wr.heap.size (lt_of_block K1.out)).trans K1.out
      have K2 := Lib.hid k2
      clear hb2 k2
      refine hK _ _ (rf_cells K2.out) (fun hHeld => ?_)
      refine wpAnyH_take (i := 9) (v := .string (((⟨#[32]⟩ ++ bstr (Lib.itoa r.a)) ++ ⟨#[58]⟩) ++ bstr (Lib.itoa r.b))) rfl (by kernel_rfl) (by kernel_rfl) (by kernel_rfl) (fun _ _ _ h => h) (Or.inl ⟨by kernel_rfl, fun s hs => by obtain ⟨s0c, s1c⟩ := hs; go_simp <;> omega⟩) hHeld ?_
      refine wpAnyH_take (i := 10) (v := .string (s0 ++ (((⟨#[32]⟩ ++ bstr (Lib.itoa r.a)) ++ ⟨#[58]⟩) ++ bstr (Lib.itoa r.b)))) rfl (by kernel_rfl) (by kernel_rfl) (by kernel_rfl) (fun _ _ _ h => h) (Or.inl ⟨by kernel_rfl, fun s hs => by obtain ⟨s0c, s1c⟩ := hs; go_simp <;> omega⟩) hHeld ?_
      refine wpAnyH_take (i := 11) (v := .string (s0 ++ (((⟨#[32]⟩ ++ bstr (Lib.itoa r.a)) ++ ⟨#[58]⟩) ++ bstr (Lib.itoa r.b)))) rfl (by kernel_rfl) (by kernel_rfl) (by kernel_rfl) (fun _ _ _ h => h) (Or.inl ⟨by kernel_rfl, fun s hs => by obtain ⟨s0c, s1c⟩ := hs; go_simp <;> omega⟩) hHeld ?_
      refine wpAnyH_done (by kernel_rfl) ?_ _
      clear hHeld
      go_simp
      go_wp2
      refine ⟨⟨m + 1, by omega, by go_num, ?_, HB2_.out⟩, by simp [intOf]; omega⟩
      rw [HX.out]
      rfl
    · have : m = rules.length := by omega
      subst this
      have HE : Hid (refsS (rules.take rules.length) = refsS rules) := Lib.hid (by rw [List.take_length])
      go_wp2
      go_ret
      exact ⟨ret_s HE.out, HBL.out⟩
end Go.Proofs.YtihlneenajlhoaaGreatDoor
/-
  Contract, for a run of one goroutine, of jalousieref27.Tell: what an operation is told, as a text. Condition: the answer's rules lie in memory; strconv's table stands.
-/
set_option linter.unusedSimpArgs false
set_option linter.unusedVariables false
namespace Go.Proofs.YtihlneenajlhoaaGreatDoor
open Go Go.RowKit

set_option maxRecDepth 100000 in
set_option maxHeartbeats 4000000 in
theorem rtell_err (kind node at_ org : Int) (name word : ByteArray) (ta : Option Addr) (tl tc : Nat) (wn wd hn hd bt : Int) (bn : ByteArray) (bwn bwd bhn bhd : Int) (on : Bool) (err id k n d : Int) (cw text : ByteArray) (has : Bool) (ra : Option Addr) (rl rc : Nat) (count : Int) (w : World) (hp : Pow w) (h0 : err ≠ 0) (hz : I64 err) :
    Calls Tryz.prog 17 #[.agg #[.int .i64 kind, .int .i64 node, .int .i64 at_, .int .i64 org, .string name, .string word, .slice ta tl tc, .int .i64 wn, .int .i64 wd, .int .i64 hn, .int .i64 hd, .int .i64 bt, .string bn, .int .i64 bwn, .int .i64 bwd, .int .i64 bhn, .int .i64 bhd, .bool on], .agg #[.int .i64 err, .int .i64 id, .int .i64 k, .int .i64 n, .int .i64 d, .string cw, .string text, .bool has, .slice ra rl rc, .int .i64 count]] w fun e w' => e = .returned (.string (⟨#[101, 114, 114, 111, 114, 32]⟩ ++ bstr (Lib.itoa err))) ∧ Below w.heap.size w w' := by
  have HP := Lib.hid hp
  have hb2 : Below w.heap.size w ((w.alloc (.cells #[.int .i64 kind, .int .i64 node, .int .i64 at_, .int .i64 org, .string name, .string word, .slice ta tl tc, .int .i64 wn, .int .i64 wd, .int .i64 hn, .int .i64 hd, .int .i64 bt, .string bn, .int .i64 bwn, .int .i64 bwd, .int .i64 bhn, .int .i64 bhd, .bool on] 28)).alloc (.cells #[.int .i64 err, .int .i64 id, .int .i64 k, .int .i64 n, .int .i64 d, .string cw, .string text, .bool has, .slice ra rl rc, .int .i64 count] 44)) := ((Below.refl _ _).alloc (Nat.le_refl _) _).alloc (by simp) _
  have HB2 := Lib.hid hb2
  clear hb2 hp
  have q0 : (err != 0) = true := by simpa using h0
  clear h0
  have Z := itoaLen hz
  have HZ := Lib.hid hz
  clear hz
  go_enter Tryz.func17, Tryz.ntmps17
  go_wp2_with (go_at_call 34; refine (itoa_any _ _ HZ.out (HP.out.on HB2.out)).mono ?_; rintro e w1 ⟨rfl, hb1⟩; have HB1 := Lib.hid (HB2.out.trans (hb1.mono HB2.out.size)); clear hb1)
  go_ret
  exact ⟨rfl, HB1.out⟩
set_option maxRecDepth 100000 in
set_option maxHeartbeats 4000000 in
theorem rtell_id (kind node at_ org : Int) (name word : ByteArray) (ta : Option Addr) (tl tc : Nat) (wn wd hn hd bt : Int) (bn : ByteArray) (bwn bwd bhn bhd : Int) (on : Bool) (err id k n d : Int) (cw text : ByteArray) (has : Bool) (ra : Option Addr) (rl rc : Nat) (count : Int) (w : World) (hp : Pow w) (h0 : err = 0) (hk : kind = 5) (hz : I64 id) :
    Calls Tryz.prog 17 #[.agg #[.int .i64 kind, .int .i64 node, .int .i64 at_, .int .i64 org, .string name, .string word, .slice ta tl tc, .int .i64 wn, .int .i64 wd, .int .i64 hn, .int .i64 hd, .int .i64 bt, .string bn, .int .i64 bwn, .int .i64 bwd, .int .i64 bhn, .int .i64 bhd, .bool on], .agg #[.int .i64 err, .int .i64 id, .int .i64 k, .int .i64 n, .int .i64 d, .string cw, .string text, .bool has, .slice ra rl rc, .int .i64 count]] w fun e w' => e = .returned (.string (⟨#[105, 100, 32]⟩ ++ bstr (Lib.itoa id))) ∧ Below w.heap.size w w' := by
  have HP := Lib.hid hp
  have hb2 : Below w.heap.size w ((w.alloc (.cells #[.int .i64 kind, .int .i64 node, .int .i64 at_, .int .i64 org, .string name, .string word, .slice ta tl tc, .int .i64 wn, .int .i64 wd, .int .i64 hn, .int .i64 hd, .int .i64 bt, .string bn, .int .i64 bwn, .int .i64 bwd, .int .i64 bhn, .int .i64 bhd, .bool on] 28)).alloc (.cells #[.int .i64 err, .int .i64 id, .int .i64 k, .int .i64 n, .int .i64 d, .string cw, .string text, .bool has, .slice ra rl rc, .int .i64 count] 44)) := ((Below.refl _ _).alloc (Nat.le_refl _) _).alloc (by simp) _
  have HB2 := Lib.hid hb2
  clear hb2 hp
  subst h0 hk
  have Z := itoaLen hz
  have HZ := Lib.hid hz
  clear hz
  go_enter Tryz.func17, Tryz.ntmps17
  go_wp2_with (go_at_call 34; refine (itoa_any _ _ HZ.out (HP.out.on HB2.out)).mono ?_; rintro e w1 ⟨rfl, hb1⟩; have HB1 := Lib.hid (HB2.out.trans (hb1.mono HB2.out.size)); clear hb1)
  go_ret
  exact ⟨rfl, HB1.out⟩
set_option maxRecDepth 100000 in
set_option maxHeartbeats 4000000 in
theorem rtell_comp (kind node at_ org : Int) (name word : ByteArray) (ta : Option Addr) (tl tc : Nat) (wn wd hn hd bt : Int) (bn : ByteArray) (bwn bwd bhn bhd : Int) (on : Bool) (err id k n d : Int) (cw text : ByteArray) (has : Bool) (ra : Option Addr) (rl rc : Nat) (count : Int) (w : World) (hp : Pow w) (h0 : err = 0) (hk : kind = 10) (hn' : I64 n) (hd' : I64 d) :
    Calls Tryz.prog 17 #[.agg #[.int .i64 kind, .int .i64 node, .int .i64 at_, .int .i64 org, .string name, .string word, .slice ta tl tc, .int .i64 wn, .int .i64 wd, .int .i64 hn, .int .i64 hd, .int .i64 bt, .string bn, .int .i64 bwn, .int .i64 bwd, .int .i64 bhn, .int .i64 bhd, .bool on], .agg #[.int .i64 err, .int .i64 id, .int .i64 k, .int .i64 n, .int .i64 d, .string cw, .string text, .bool has, .slice ra rl rc, .int .i64 count]] w fun e w' => e = .returned (.string (compS k n d cw)) ∧ Below w.heap.size w w' := by
  have HP := Lib.hid hp
  have hb2 : Below w.heap.size w ((w.alloc (.cells #[.int .i64 kind, .int .i64 node, .int .i64 at_, .int .i64 org, .string name, .string word, .slice ta tl tc, .int .i64 wn, .int .i64 wd, .int .i64 hn, .int .i64 hd, .int .i64 bt, .string bn, .int .i64 bwn, .int .i64 bwd, .int .i64 bhn, .int .i64 bhd, .bool on] 28)).alloc (.cells #[.int .i64 err, .int .i64 id, .int .i64 k, .int .i64 n, .int .i64 d, .string cw, .string text, .bool has, .slice ra rl rc, .int .i64 count] 44)) := ((Below.refl _ _).alloc (Nat.le_refl _) _).alloc (by simp) _
  have HB2 := Lib.hid hb2
  clear hb2 hp
  subst h0 hk
  have HN := Lib.hid hn'; have HD := Lib.hid hd'; clear hn' hd'
  go_enter Tryz.func17, Tryz.ntmps17
  go_wp2_with (go_at_call 37; refine (rstyleText_any _ _ _ _ _ HN.out HD.out (HP.out.on HB2.out)).mono ?_; rintro e w1 ⟨rfl, hb1⟩; have HB1 := Lib.hid (HB2.out.trans (hb1.mono HB2.out.size)); clear hb1)
  go_ret
  exact ⟨rfl, HB1.out⟩
set_option maxRecDepth 100000 in
set_option maxHeartbeats 4000000 in
theorem rtell_none (kind node at_ org : Int) (name word : ByteArray) (ta : Option Addr) (tl tc : Nat) (wn wd hn hd bt : Int) (bn : ByteArray) (bwn bwd bhn bhd : Int) (on : Bool) (err id k n d : Int) (cw text : ByteArray) (has : Bool) (ra : Option Addr) (rl rc : Nat) (count : Int) (w : World) (hp : Pow w) (h0 : err = 0) (hk : kind = 11) (hh : has = false) :
    Calls Tryz.prog 17 #[.agg #[.int .i64 kind, .int .i64 node, .int .i64 at_, .int .i64 org, .string name, .string word, .slice ta tl tc, .int .i64 wn, .int .i64 wd, .int .i64 hn, .int .i64 hd, .int .i64 bt, .string bn, .int .i64 bwn, .int .i64 bwd, .int .i64 bhn, .int .i64 bhd, .bool on], .agg #[.int .i64 err, .int .i64 id, .int .i64 k, .int .i64 n, .int .i64 d, .string cw, .string text, .bool has, .slice ra rl rc, .int .i64 count]] w fun e w' => e = .returned (.string (⟨#[110, 111, 110, 101]⟩)) ∧ Below w.heap.size w w' := by
  have HP := Lib.hid hp
  have hb2 : Below w.heap.size w ((w.alloc (.cells #[.int .i64 kind, .int .i64 node, .int .i64 at_, .int .i64 org, .string name, .string word, .slice ta tl tc, .int .i64 wn, .int .i64 wd, .int .i64 hn, .int .i64 hd, .int .i64 bt, .string bn, .int .i64 bwn, .int .i64 bwd, .int .i64 bhn, .int .i64 bhd, .bool on] 28)).alloc (.cells #[.int .i64 err, .int .i64 id, .int .i64 k, .int .i64 n, .int .i64 d, .string cw, .string text, .bool has, .slice ra rl rc, .int .i64 count] 44)) := ((Below.refl _ _).alloc (Nat.le_refl _) _).alloc (by simp) _
  have HB2 := Lib.hid hb2
  clear hb2 hp
  subst h0 hk hh
  go_enter Tryz.func17, Tryz.ntmps17
  go_wp2
  go_ret
  exact ⟨rfl, HB2.out⟩
set_option maxRecDepth 100000 in
set_option maxHeartbeats 4000000 in
theorem rtell_text (kind node at_ org : Int) (name word : ByteArray) (ta : Option Addr) (tl tc : Nat) (wn wd hn hd bt : Int) (bn : ByteArray) (bwn bwd bhn bhd : Int) (on : Bool) (err id k n d : Int) (cw text : ByteArray) (has : Bool) (ra : Option Addr) (rl rc : Nat) (count : Int) (w : World) (hp : Pow w) (h0 : err = 0) (hk : kind = 11) (hh : has = true) (ht : text.size ≤ 1099511627776) :
    Calls Tryz.prog 17 #[.agg #[.int .i64 kind, .int .i64 node, .int .i64 at_, .int .i64 org, .string name, .string word, .slice ta tl tc, .int .i64 wn, .int .i64 wd, .int .i64 hn, .int .i64 hd, .int .i64 bt, .string bn, .int .i64 bwn, .int .i64 bwd, .int .i64 bhn, .int .i64 bhd, .bool on], .agg #[.int .i64 err, .int .i64 id, .int .i64 k, .int .i64 n, .int .i64 d, .string cw, .string text, .bool has, .slice ra rl rc, .int .i64 count]] w fun e w' => e = .returned (.string (bstr (sp.quoteS text.data.toList))) ∧ Below w.heap.size w w' := by
  have HP := Lib.hid hp
  have hb2 : Below w.heap.size w ((w.alloc (.cells #[.int .i64 kind, .int .i64 node, .int .i64 at_, .int .i64 org, .string name, .string word, .slice ta tl tc, .int .i64 wn, .int .i64 wd, .int .i64 hn, .int .i64 hd, .int .i64 bt, .string bn, .int .i64 bwn, .int .i64 bwd, .int .i64 bhn, .int .i64 bhd, .bool on] 28)).alloc (.cells #[.int .i64 err, .int .i64 id, .int .i64 k, .int .i64 n, .int .i64 d, .string cw, .string text, .bool has, .slice ra rl rc, .int .i64 count] 44)) := ((Below.refl _ _).alloc (Nat.le_refl _) _).alloc (by simp) _
  have HB2 := Lib.hid hb2
  clear hb2 hp
  subst h0 hk hh
  have HT := Lib.hid ht; clear ht
  go_enter Tryz.func17, Tryz.ntmps17
  go_wp2_with (go_at_call 38; refine (quote_any _ _ HT.out).mono ?_; rintro e w1 ⟨rfl, hb1⟩; have HB1 := Lib.hid (HB2.out.trans (hb1.mono HB2.out.size)); clear hb1)
  go_ret
  exact ⟨rfl, HB1.out⟩
set_option maxRecDepth 100000 in
set_option maxHeartbeats 4000000 in
theorem rtell_count (kind node at_ org : Int) (name word : ByteArray) (ta : Option Addr) (tl tc : Nat) (wn wd hn hd bt : Int) (bn : ByteArray) (bwn bwd bhn bhd : Int) (on : Bool) (err id k n d : Int) (cw text : ByteArray) (has : Bool) (ra : Option Addr) (rl rc : Nat) (count : Int) (w : World) (hp : Pow w) (h0 : err = 0) (hk : kind = 15) (hz : I64 count) :
    Calls Tryz.prog 17 #[.agg #[.int .i64 kind, .int .i64 node, .int .i64 at_, .int .i64 org, .string name, .string word, .slice ta tl tc, .int .i64 wn, .int .i64 wd, .int .i64 hn, .int .i64 hd, .int .i64 bt, .string bn, .int .i64 bwn, .int .i64 bwd, .int .i64 bhn, .int .i64 bhd, .bool on], .agg #[.int .i64 err, .int .i64 id, .int .i64 k, .int .i64 n, .int .i64 d, .string cw, .string text, .bool has, .slice ra rl rc, .int .i64 count]] w fun e w' => e = .returned (.string (⟨#[99, 111, 117, 110, 116, 32]⟩ ++ bstr (Lib.itoa count))) ∧ Below w.heap.size w w' := by
  have HP := Lib.hid hp
  have hb2 : Below w.heap.size w ((w.alloc (.cells #[.int .i64 kind, .int .i64 node, .int .i64 at_, .int .i64 org, .string name, .string word, .slice ta tl tc, .int .i64 wn, .int .i64 wd, .int .i64 hn, .int .i64 hd, .int .i64 bt, .string bn, .int .i64 bwn, .int .i64 bwd, .int .i64 bhn, .int .i64 bhd, .bool on] 28)).alloc (.cells #[.int .i64 err, .int .i64 id, .int .i64 k, .int .i64 n, .int .i64 d, .string cw, .string text, .bool has, .slice ra rl rc, .int .i64 count] 44)) := ((Below.refl _ _).alloc (Nat.le_refl _) _).alloc (by simp) _
  have HB2 := Lib.hid hb2
  clear hb2 hp
  subst h0 hk
  have Z := itoaLen hz
  have HZ := Lib.hid hz
  clear hz
  go_enter Tryz.func17, Tryz.ntmps17
  go_wp2_with (go_at_call 34; refine (itoa_any _ _ HZ.out (HP.out.on HB2.out)).mono ?_; rintro e w1 ⟨rfl, hb1⟩; have HB1 := Lib.hid (HB2.out.trans (hb1.mono HB2.out.size)); clear hb1)
  go_ret
  exact ⟨rfl, HB1.out⟩
set_option maxRecDepth 100000 in
set_option maxHeartbeats 4000000 in
theorem rtell_ok (kind node at_ org : Int) (name word : ByteArray) (ta : Option Addr) (tl tc : Nat) (wn wd hn hd bt : Int) (bn : ByteArray) (bwn bwd bhn bhd : Int) (on : Bool) (err id k n d : Int) (cw text : ByteArray) (has : Bool) (ra : Option Addr) (rl rc : Nat) (count : Int) (w : World) (hp : Pow w) (h0 : err = 0) (k5 : kind ≠ 5) (k10 : kind ≠ 10) (k11 : kind ≠ 11) (k12 : kind ≠ 12) (k15 : kind ≠ 15) :
    Calls Tryz.prog 17 #[.agg #[.int .i64 kind, .int .i64 node, .int .i64 at_, .int .i64 org, .string name, .string word, .slice ta tl tc, .int .i64 wn, .int .i64 wd, .int .i64 hn, .int .i64 hd, .int .i64 bt, .string bn, .int .i64 bwn, .int .i64 bwd, .int .i64 bhn, .int .i64 bhd, .bool on], .agg #[.int .i64 err, .int .i64 id, .int .i64 k, .int .i64 n, .int .i64 d, .string cw, .string text, .bool has, .slice ra rl rc, .int .i64 count]] w fun e w' => e = .returned (.string (⟨#[111, 107]⟩)) ∧ Below w.heap.size w w' := by
  have HP := Lib.hid hp
  have hb2 : Below w.heap.size w ((w.alloc (.cells #[.int .i64 kind, .int .i64 node, .int .i64 at_, .int .i64 org, .string name, .string word, .slice ta tl tc, .int .i64 wn, .int .i64 wd, .int .i64 hn, .int .i64 hd, .int .i64 bt, .string bn, .int .i64 bwn, .int .i64 bwd, .int .i64 bhn, .int .i64 bhd, .bool on] 28)).alloc (.cells #[.int .i64 err, .int .i64 id, .int .i64 k, .int .i64 n, .int .i64 d, .string cw, .string text, .bool has, .slice ra rl rc, .int .i64 count] 44)) := ((Below.refl _ _).alloc (Nat.le_refl _) _).alloc (by simp) _
  have HB2 := Lib.hid hb2
  clear hb2 hp
  subst h0
  have q5 : (kind == 5) = false := by simpa using k5
  clear k5
  have q10 : (kind == 10) = false := by simpa using k10
  clear k10
  have q11 : (kind == 11) = false := by simpa using k11
  clear k11
  have q12 : (kind == 12) = false := by simpa using k12
  clear k12
  have q15 : (kind == 15) = false := by simpa using k15
  clear k15
  go_enter Tryz.func17, Tryz.ntmps17
  go_wp2
  go_ret
  exact ⟨rfl, HB2.out⟩
set_option maxRecDepth 100000 in
set_option maxHeartbeats 4000000 in
theorem rtell_rules (kind node at_ org : Int) (name word : ByteArray) (ta : Option Addr) (tl tc : Nat) (wn wd hn hd bt : Int) (bn : ByteArray) (bwn bwd bhn bhd : Int) (on : Bool) (err id k n d : Int) (cw text : ByteArray) (has : Bool) (ra : Option Addr) (rl rc : Nat) (count : Int) (w : World) (rules : List Rf) (hp : Pow w) (h0 : err = 0) (hk : kind = 12) (hr : RowAt w.heap.size w (.slice ra rl rc) rules.length (rules.flatMap Rf.cells)) (hok : ∀ r ∈ rules, r.ok) (hfew : rules.length ≤ 1099511627776) :
    Calls Tryz.prog 17 #[.agg #[.int .i64 kind, .int .i64 node, .int .i64 at_, .int .i64 org, .string name, .string word, .slice ta tl tc, .int .i64 wn, .int .i64 wd, .int .i64 hn, .int .i64 hd, .int .i64 bt, .string bn, .int .i64 bwn, .int .i64 bwd, .int .i64 bhn, .int .i64 bhd, .bool on], .agg #[.int .i64 err, .int .i64 id, .int .i64 k, .int .i64 n, .int .i64 d, .string cw, .string text, .bool has, .slice ra rl rc, .int .i64 count]] w fun e w' => e = .returned (.string (refsS rules)) ∧ Below w.heap.size w w' := by
  have HP := Lib.hid hp
  have hb2 : Below w.heap.size w ((w.alloc (.cells #[.int .i64 kind, .int .i64 node, .int .i64 at_, .int .i64 org, .string name, .string word, .slice ta tl tc, .int .i64 wn, .int .i64 wd, .int .i64 hn, .int .i64 hd, .int .i64 bt, .string bn, .int .i64 bwn, .int .i64 bwd, .int .i64 bhn, .int .i64 bhd, .bool on] 28)).alloc (.cells #[.int .i64 err, .int .i64 id, .int .i64 k, .int .i64 n, .int .i64 d, .string cw, .string text, .bool has, .slice ra rl rc, .int .i64 count] 44)) := ((Below.refl _ _).alloc (Nat.le_refl _) _).alloc (by simp) _
  have HB2 := Lib.hid hb2
  clear hb2 hp
  subst h0 hk
  have HR := Lib.hid hr; have HOK := Lib.hid hok; have HFEW := Lib.hid hfew
  have hr2 := hr
  obtain ⟨a0, cap0, e0, _, _, _⟩ := hr2
  cases e0
  clear hr hok hfew
  go_enter Tryz.func17, Tryz.ntmps17
  go_wp2
  generalize (w.alloc (.cells #[.int .i64 12, .int .i64 node, .int .i64 at_, .int .i64 org, .string name, .string word, .slice ta tl tc, .int .i64 wn, .int .i64 wd, .int .i64 hn, .int .i64 hd, .int .i64 bt, .string bn, .int .i64 bwn, .int .i64 bwd, .int .i64 bhn, .int .i64 bhd, .bool on] 28)).alloc (.cells #[.int .i64 0, .int .i64 id, .int .i64 k, .int .i64 n, .int .i64 d, .string cw, .string text, .bool has, .slice ra rules.length rc, .int .i64 count] 44) = W2 at HB2
  go_loopw [5, 41] (fun s i wr => ∃ m : Nat, m ≤ rules.length ∧ i = .int .i64 m ∧ s = .string (refsS (rules.take m)) ∧ Below w.heap.size w wr) (fun _ i _ => rules.length - (intOf i).toNat)
  case atStart => exact ⟨0, Nat.zero_le _, rfl, rfl, HB2.out⟩
  case round =>
    obtain ⟨m, hm, rfl, rfl, hbl⟩ := hrel
    have HBL := Lib.hid hbl; clear hbl
    have hmb : (m : Int) ≤ 1099511627776 := by have := HFEW.out; omega
    by_cases hlt : m < rules.length
    · obtain ⟨b, off, rfl, hbb, hrg⟩ := HR.out.place (by omega)
      have hc := piece_cells (cells := Rf.cells) (k := 5) (fun _ => rfl) (rangeAt_below HBL.out hbb hrg) hlt
      have HC := Lib.hid hc
      have hrok := HOK.out rules[m] (List.getElem_mem hlt)
      have HX := Lib.hid (refsS_take rules m hlt)
      have Z0 : (refsS (rules.take m)).size ≤ 5 + 44 * 1099511627776 := by
        have h1 := refsS_size (l := rules.take m) (fun r hr => HOK.out r (List.mem_of_mem_take hr))
        have h2 : (rules.take m).length ≤ 1099511627776 := by rw [List.length_take]; have := HFEW.out; omega
        omega
      have Z1 := itoaLen hrok.a; have Z2 := itoaLen hrok.b
      have HA := Lib.hid hrok.a; have HBB := Lib.hid hrok.b
      generalize rules[m] = r at hc HX Z1 Z2 HA HBB
      generalize refsS (rules.take m) = s0 at HX Z0
      have c0 := hc 0 _ rfl
      have c1 := hc 1 _ rfl
      have c2 := hc 2 _ rfl
      have c3 := hc 3 _ rfl
      have c4 := hc 4 _ rfl
      rw [Nat.add_zero] at c0
      clear hc hrok hrg HC
      go_wp2
      have HB0_ : Hid (Below w.heap.size w (wr.alloc (.cells #[.int .i64 r.a, .int .i64 r.b, .int .i64 r.x, .int .i64 r.y, .int .i64 r.z] 89)).drew) := Lib.hid ((HBL.out.alloc HBL.out.size _).drew)
      have K0 : Hid ((wr.alloc (.cells #[.int .i64 r.a, .int .i64 r.b, .int .i64 r.x, .int .i64 r.y, .int .i64 r.z] 89)).drew.heap[wr.heap.size]? = some (.cells #[.int .i64 r.a, .int .i64 r.b, .int .i64 r.x, .int .i64 r.y, .int .i64 r.z] 89 (0, 0))) := Lib.hid (heap_alloc_at _ _)
      refine wp_region_held_drew (S := (fun s => s.cell? ⟨wr.heap.size, 0, none⟩ = some (.int .i64 r.a) ∧ s.cell? ⟨wr.heap.size, 1, none⟩ = some (.int .i64 r.b))) (by kernel_rfl) (rf_cells K0.out) (fun hHeld => ?_)
      refine wpAnyH_take (i := 0) (v := .string s0) rfl (by kernel_rfl) (by kernel_rfl) (by kernel_rfl) (fun _ _ _ h => h) (Or.inl ⟨by kernel_rfl, fun s hs => by obtain ⟨s0c, s1c⟩ := hs; go_simp <;> omega⟩) hHeld ?_
      refine wpAnyH_take (i := 1) (v := .pointer (some ⟨wr.heap.size, 0, none⟩)) rfl (by kernel_rfl) (by kernel_rfl) (by kernel_rfl) (fun _ _ _ h => h) (Or.inl ⟨by kernel_rfl, fun s hs => by obtain ⟨s0c, s1c⟩ := hs; go_simp <;> omega⟩) hHeld ?_
      refine wpAnyH_take (i := 2) (v := .int .i64 r.a) rfl (by kernel_rfl) (by kernel_rfl) (by kernel_rfl) (fun _ _ _ h => h) (Or.inl ⟨by kernel_rfl, fun s hs => by obtain ⟨s0c, s1c⟩ := hs; go_simp <;> omega⟩) hHeld ?_
      refine wpAnyH_take (i := 6) (v := .pointer (some ⟨wr.heap.size, 1, none⟩)) rfl (by kernel_rfl) (by kernel_rfl) (by kernel_rfl) (fun _ _ _ h => h) (Or.inl ⟨by kernel_rfl, fun s hs => by obtain ⟨s0c, s1c⟩ := hs; go_simp <;> omega⟩) hHeld ?_
      refine wpAnyH_take (i := 7) (v := .int .i64 r.b) rfl (by kernel_rfl) (by kernel_rfl) (by kernel_rfl) (fun _ _ _ h => h) (Or.inl ⟨by kernel_rfl, fun s hs => by obtain ⟨s0c, s1c⟩ := hs; go_simp <;> omega⟩) hHeld ?_
      refine wpAnyH_ready (rs := [3]) (by kernel_rfl) (by simp) ?_
      refine AllReadyH.cons rfl (fun K hK => ?_) AllReadyH.nil
      rw [if_pos (by kernel_rfl)]
      go_simp
      refine (itoa_any _ _ HA.out (HP.out.on HB0_.out)).mono ?_
      rintro e w1 ⟨rfl, hb1⟩
      have HB1_ := Lib.hid (HB0_.out.trans (hb1.mono HB0_.out.size))
      have k1 := (hb1.block wr.heap.size (lt_of_block K0.out)).trans K0.out
      have K1 := Lib.hid k1
      clear hb1 k1
      refine hK _ _ (rf_cells K1.out) (fun hHeld => ?_)
      refine wpAnyH_take (i := 4) (v := .string (⟨#[32]⟩ ++ bstr (Lib.itoa r.a))) rfl (by kernel_rfl) (by kernel_rfl) (by kernel_rfl) (fun _ _ _ h => h) (Or.inl ⟨by kernel_rfl, fun s hs => by obtain ⟨s0c, s1c⟩ := hs; go_simp <;> omega⟩) hHeld ?_
      refine wpAnyH_take (i := 5) (v := .string ((⟨#[32]⟩ ++ bstr (Lib.itoa r.a)) ++ ⟨#[58]⟩)) rfl (by kernel_rfl) (by kernel_rfl) (by kernel_rfl) (fun _ _ _ h => h) (Or.inl ⟨by kernel_rfl, fun s hs => by obtain ⟨s0c, s1c⟩ := hs; go_simp <;> omega⟩) hHeld ?_
      refine wpAnyH_ready (rs := [8]) (by kernel_rfl) (by simp) ?_
      refine AllReadyH.cons rfl (fun K hK => ?_) AllReadyH.nil
      rw [if_pos (by kernel_rfl)]
      go_simp
      refine (itoa_any _ _ HBB.out (HP.out.on HB1_.out)).mono ?_
      rintro e w2 ⟨rfl, hb2⟩
      have HB2_ := Lib.hid (HB1_.out.trans (hb2.mono HB1_.out.size))
      have k2 := (hb2.block wr.heap.size (lt_of_block K1.out)).trans K1.out
      have K2 := Lib.hid k2
      clear hb2 k2
      refine hK _ _ (rf_cells K2.out) (fun hHeld => ?_)
      refine wpAnyH_take (i := 9) (v := .string (((⟨#[32]⟩ ++ bstr (Lib.itoa r.a)) ++ ⟨#[58]⟩) ++ bstr (Lib.itoa r.b))) rfl (by kernel_rfl) (by kernel_rfl) (by kernel_rfl) (fun _ _ _ h => h) (Or.inl ⟨by kernel_rfl, fun s hs => by obtain ⟨s0c, s1c⟩ := hs; go_simp <;> omega⟩) hHeld ?_
      refine wpAnyH_take (i := 10) (v := .string (s0 ++ (((⟨#[32]⟩ ++ bstr (Lib.itoa r.a)) ++ ⟨#[58]⟩) ++ bstr (Lib.itoa r.b)))) rfl (by kernel_rfl) (by kernel_rfl) (by kernel_rfl) (fun _ _ _ h => h) (Or.inl ⟨by kernel_rfl, fun s hs => by obtain ⟨s0c, s1c⟩ := hs; go_simp <;> omega⟩) hHeld ?_
      refine wpAnyH_take (i := 11) (v := .string (s0 ++ (((⟨#[32]⟩ ++ bstr (Lib.itoa r.a)) ++ ⟨#[58]⟩) ++ bstr (Lib.itoa r.b)))) rfl (by kernel_rfl) (by kernel_rfl) (by kernel_rfl) (fun _ _ _ h => h) (Or.inl ⟨by kernel_rfl, fun s hs => by obtain ⟨s0c, s1c⟩ := hs; go_simp <;> omega⟩) hHeld ?_
      refine wpAnyH_done (by kernel_rfl) ?_ _
      clear hHeld
      go_simp
      go_wp2
      refine ⟨⟨m + 1, by omega, by go_num, ?_, HB2_.out⟩, by simp [intOf]; omega⟩
      rw [HX.out]
      rfl
    · have : m = rules.length := by omega
      subst this
      have HE : Hid (refsS (rules.take rules.length) = refsS rules) := Lib.hid (by rw [List.take_length])
      go_wp2
      go_ret
      exact ⟨ret_s HE.out, HBL.out⟩
end Go.Proofs.YtihlneenajlhoaaGreatDoor
/-
  The law ScriptTells answers true. Condition: the answer's rules lie in memory; strconv's table stands; awake answers true.
-/
set_option linter.unusedSimpArgs false
set_option linter.unusedVariables false
namespace Go.Proofs.YtihlneenajlhoaaGreatDoor
open Go Go.RowKit

/-- script.Tell. -/
theorem tell_any (kind node at_ org : Int) (name word : ByteArray) (ta : Option Addr) (tl tc : Nat) (wn wd hn hd bt : Int) (bn : ByteArray) (bwn bwd bhn bhd : Int) (on : Bool) (err id k n d : Int) (cw text : ByteArray) (has : Bool) (ra : Option Addr) (rl rc : Nat) (count : Int) (w : World) (rules : List Rf) (hp : Pow w) (he : I64 err) (hi : I64 id) (hn' : I64 n) (hd' : I64 d) (ht : text.size ≤ 1099511627776) (hr : RowAt w.heap.size w (.slice ra rl rc) rules.length (rules.flatMap Rf.cells)) (hok : ∀ r ∈ rules, r.ok) (hfew : rules.length ≤ 1099511627776) (hc : I64 count) :
    Calls Tryz.prog 16 #[.agg #[.int .i64 kind, .int .i64 node, .int .i64 at_, .int .i64 org, .string name, .string word, .slice ta tl tc, .int .i64 wn, .int .i64 wd, .int .i64 hn, .int .i64 hd, .int .i64 bt, .string bn, .int .i64 bwn, .int .i64 bwd, .int .i64 bhn, .int .i64 bhd, .bool on], .agg #[.int .i64 err, .int .i64 id, .int .i64 k, .int .i64 n, .int .i64 d, .string cw, .string text, .bool has, .slice ra rl rc, .int .i64 count]] w fun e w' => e = .returned (.string (tellS kind ⟨err, id, k, n, d, cw, text, has, .slice ra rl rc, rules, count⟩)) ∧ Below w.heap.size w w' := by
  unfold tellS
  by_cases h0 : err = 0
  · rw [if_pos h0]
    by_cases k5 : kind = 5
    · rw [if_pos k5]; exact tell_id kind node at_ org name word ta tl tc wn wd hn hd bt bn bwn bwd bhn bhd on err id k n d cw text has ra rl rc count w hp h0 k5 hi
    rw [if_neg k5]
    by_cases k10 : kind = 10
    · rw [if_pos k10]; exact tell_comp kind node at_ org name word ta tl tc wn wd hn hd bt bn bwn bwd bhn bhd on err id k n d cw text has ra rl rc count w hp h0 k10 hn' hd'
    rw [if_neg k10]
    by_cases k11 : kind = 11
    · rw [if_pos k11]
      cases hh : has
      · rw [if_neg (by simp)]; subst hh; exact tell_none kind node at_ org name word ta tl tc wn wd hn hd bt bn bwn bwd bhn bhd on err id k n d cw text false ra rl rc count w hp h0 k11 rfl
      · rw [if_pos (by simp)]; subst hh; exact tell_text kind node at_ org name word ta tl tc wn wd hn hd bt bn bwn bwd bhn bhd on err id k n d cw text true ra rl rc count w hp h0 k11 rfl ht
    rw [if_neg k11]
    by_cases k12 : kind = 12
    · rw [if_pos k12]; exact tell_rules kind node at_ org name word ta tl tc wn wd hn hd bt bn bwn bwd bhn bhd on err id k n d cw text has ra rl rc count w rules hp h0 k12 hr hok hfew
    rw [if_neg k12]
    by_cases k15 : kind = 15
    · rw [if_pos k15]; exact tell_count kind node at_ org name word ta tl tc wn wd hn hd bt bn bwn bwd bhn bhd on err id k n d cw text has ra rl rc count w hp h0 k15 hc
    rw [if_neg k15]
    exact tell_ok kind node at_ org name word ta tl tc wn wd hn hd bt bn bwn bwd bhn bhd on err id k n d cw text has ra rl rc count w hp h0 k5 k10 k11 k12 k15
  · rw [if_neg h0]; exact tell_err kind node at_ org name word ta tl tc wn wd hn hd bt bn bwn bwd bhn bhd on err id k n d cw text has ra rl rc count w hp h0 he
/-- jalousieref27.Tell. -/
theorem rtell_any (kind node at_ org : Int) (name word : ByteArray) (ta : Option Addr) (tl tc : Nat) (wn wd hn hd bt : Int) (bn : ByteArray) (bwn bwd bhn bhd : Int) (on : Bool) (err id k n d : Int) (cw text : ByteArray) (has : Bool) (ra : Option Addr) (rl rc : Nat) (count : Int) (w : World) (rules : List Rf) (hp : Pow w) (he : I64 err) (hi : I64 id) (hn' : I64 n) (hd' : I64 d) (ht : text.size ≤ 1099511627776) (hr : RowAt w.heap.size w (.slice ra rl rc) rules.length (rules.flatMap Rf.cells)) (hok : ∀ r ∈ rules, r.ok) (hfew : rules.length ≤ 1099511627776) (hc : I64 count) :
    Calls Tryz.prog 17 #[.agg #[.int .i64 kind, .int .i64 node, .int .i64 at_, .int .i64 org, .string name, .string word, .slice ta tl tc, .int .i64 wn, .int .i64 wd, .int .i64 hn, .int .i64 hd, .int .i64 bt, .string bn, .int .i64 bwn, .int .i64 bwd, .int .i64 bhn, .int .i64 bhd, .bool on], .agg #[.int .i64 err, .int .i64 id, .int .i64 k, .int .i64 n, .int .i64 d, .string cw, .string text, .bool has, .slice ra rl rc, .int .i64 count]] w fun e w' => e = .returned (.string (tellS kind ⟨err, id, k, n, d, cw, text, has, .slice ra rl rc, rules, count⟩)) ∧ Below w.heap.size w w' := by
  unfold tellS
  by_cases h0 : err = 0
  · rw [if_pos h0]
    by_cases k5 : kind = 5
    · rw [if_pos k5]; exact rtell_id kind node at_ org name word ta tl tc wn wd hn hd bt bn bwn bwd bhn bhd on err id k n d cw text has ra rl rc count w hp h0 k5 hi
    rw [if_neg k5]
    by_cases k10 : kind = 10
    · rw [if_pos k10]; exact rtell_comp kind node at_ org name word ta tl tc wn wd hn hd bt bn bwn bwd bhn bhd on err id k n d cw text has ra rl rc count w hp h0 k10 hn' hd'
    rw [if_neg k10]
    by_cases k11 : kind = 11
    · rw [if_pos k11]
      cases hh : has
      · rw [if_neg (by simp)]; subst hh; exact rtell_none kind node at_ org name word ta tl tc wn wd hn hd bt bn bwn bwd bhn bhd on err id k n d cw text false ra rl rc count w hp h0 k11 rfl
      · rw [if_pos (by simp)]; subst hh; exact rtell_text kind node at_ org name word ta tl tc wn wd hn hd bt bn bwn bwd bhn bhd on err id k n d cw text true ra rl rc count w hp h0 k11 rfl ht
    rw [if_neg k11]
    by_cases k12 : kind = 12
    · rw [if_pos k12]; exact rtell_rules kind node at_ org name word ta tl tc wn wd hn hd bt bn bwn bwd bhn bhd on err id k n d cw text has ra rl rc count w rules hp h0 k12 hr hok hfew
    rw [if_neg k12]
    by_cases k15 : kind = 15
    · rw [if_pos k15]; exact rtell_count kind node at_ org name word ta tl tc wn wd hn hd bt bn bwn bwd bhn bhd on err id k n d cw text has ra rl rc count w hp h0 k15 hc
    rw [if_neg k15]
    exact rtell_ok kind node at_ org name word ta tl tc wn wd hn hd bt bn bwn bwd bhn bhd on err id k n d cw text has ra rl rc count w hp h0 k5 k10 k11 k12 k15
  · rw [if_neg h0]; exact rtell_err kind node at_ org name word ta tl tc wn wd hn hd bt bn bwn bwd bhn bhd on err id k n d cw text has ra rl rc count w hp h0 he
/-- awake answers true in whatever comes of this world. -/
def Awakes (w : World) : Prop := ∀ wx, Below w.heap.size w wx → Calls Tryz.prog 12 #[] wx fun e w' => e = .returned (.bool true) ∧ Below wx.heap.size wx w'
theorem size28 : (Tryz.prog.info? 28).map (·.size) = some 18 := by kernel_rfl
theorem size44 : (Tryz.prog.info? 44).map (·.size) = some 10 := by kernel_rfl
/-- A whole block read. -/
theorem load_whole {s : World} {b : Nat} {c : Array Value} {t : TypeId} {fs : Array Field} (h : s.heap[b]? = some (.cells c t (0, 0))) (hu : Tryz.prog.underlying t = some (.struct fs)) (hi : (Tryz.prog.info? t).map (·.size) = some c.size) {ev : Operand → Value} {o : Oper} {x : Operand} (ho : o.op = .load t x) (hx : ev x = .pointer (some ⟨b, 0, none⟩)) : (execOp ev o).run Tryz.prog s = Result.ok (Next.value (.agg c)) s := by
  have e := run_loadVar_range (P := Tryz.prog) s b 0 t c _ (fun j u hj => by rw [Nat.zero_add, cell_of_row s b j c t (0, 0) h]; simpa using hj) hu rfl hi
  unfold execOp
  simp only [ho, hx, Instr.loadAt, Instr.sureAddr, Sem.run_bind, Sem.run_pure, Result.andThen_ok, e]
set_option maxRecDepth 100000 in
set_option maxHeartbeats 4000000 in
theorem scriptTells_any (kind node at_ org : Int) (name word : ByteArray) (ta : Option Addr) (tl tc : Nat) (wn wd hn hd bt : Int) (bn : ByteArray) (bwn bwd bhn bhd : Int) (on : Bool) (err id k n d : Int) (cw text : ByteArray) (has : Bool) (ra : Option Addr) (rl rc : Nat) (count : Int) (w : World)(rules : List Rf) (hp : Pow w) (he : I64 err) (hi : I64 id) (hn' : I64 n) (hd' : I64 d) (ht : text.size ≤ 1099511627776) (hr : RowAt w.heap.size w (.slice ra rl rc) rules.length (rules.flatMap Rf.cells)) (hok : ∀ r ∈ rules, r.ok) (hfew : rules.length ≤ 1099511627776) (hc : I64 count) (haw : Awakes w) :
    Calls Tryz.prog 5 #[.agg #[.int .i64 kind, .int .i64 node, .int .i64 at_, .int .i64 org, .string name, .string word, .slice ta tl tc, .int .i64 wn, .int .i64 wd, .int .i64 hn, .int .i64 hd, .int .i64 bt, .string bn, .int .i64 bwn, .int .i64 bwd, .int .i64 bhn, .int .i64 bhd, .bool on], .agg #[.int .i64 err, .int .i64 id, .int .i64 k, .int .i64 n, .int .i64 d, .string cw, .string text, .bool has, .slice ra rl rc, .int .i64 count]] w fun e w' => e = .returned (.bool true) ∧ Below w.heap.size w w' := by
  have HP := Lib.hid hp; have HAW := Lib.hid haw
  have HT1 := Lib.hid (fun w2 (hb : Below w.heap.size w w2) => tell_any kind node at_ org name word ta tl tc wn wd hn hd bt bn bwn bwd bhn bhd on err id k n d cw text has ra rl rc count w2 rules (hp.on hb) he hi hn' hd' ht ((hr.keep hb).mono hb.size) hok hfew hc)
  have HT2 := Lib.hid (fun w2 (hb : Below w.heap.size w w2) => rtell_any kind node at_ org name word ta tl tc wn wd hn hd bt bn bwn bwd bhn bhd on err id k n d cw text has ra rl rc count w2 rules (hp.on hb) he hi hn' hd' ht ((hr.keep hb).mono hb.size) hok hfew hc)
  have hb2 : Below w.heap.size w ((w.alloc (.cells #[.int .i64 kind, .int .i64 node, .int .i64 at_, .int .i64 org, .string name, .string word, .slice ta tl tc, .int .i64 wn, .int .i64 wd, .int .i64 hn, .int .i64 hd, .int .i64 bt, .string bn, .int .i64 bwn, .int .i64 bwd, .int .i64 bhn, .int .i64 bhd, .bool on] 28)).alloc (.cells #[.int .i64 err, .int .i64 id, .int .i64 k, .int .i64 n, .int .i64 d, .string cw, .string text, .bool has, .slice ra rl rc, .int .i64 count] 44)) := ((Below.refl _ _).alloc (Nat.le_refl _) _).alloc (by simp) _
  have ha : ((w.alloc (.cells #[.int .i64 kind, .int .i64 node, .int .i64 at_, .int .i64 org, .string name, .string word, .slice ta tl tc, .int .i64 wn, .int .i64 wd, .int .i64 hn, .int .i64 hd, .int .i64 bt, .string bn, .int .i64 bwn, .int .i64 bwd, .int .i64 bhn, .int .i64 bhd, .bool on] 28)).alloc (.cells #[.int .i64 err, .int .i64 id, .int .i64 k, .int .i64 n, .int .i64 d, .string cw, .string text, .bool has, .slice ra rl rc, .int .i64 count] 44)).heap[w.heap.size]? = some (.cells #[.int .i64 kind, .int .i64 node, .int .i64 at_, .int .i64 org, .string name, .string word, .slice ta tl tc, .int .i64 wn, .int .i64 wd, .int .i64 hn, .int .i64 hd, .int .i64 bt, .string bn, .int .i64 bwn, .int .i64 bwd, .int .i64 bhn, .int .i64 bhd, .bool on] 28 (0, 0)) := heap_old _ _ _ (heap_alloc_at _ _)
  have hb : ((w.alloc (.cells #[.int .i64 kind, .int .i64 node, .int .i64 at_, .int .i64 org, .string name, .string word, .slice ta tl tc, .int .i64 wn, .int .i64 wd, .int .i64 hn, .int .i64 hd, .int .i64 bt, .string bn, .int .i64 bwn, .int .i64 bwd, .int .i64 bhn, .int .i64 bhd, .bool on] 28)).alloc (.cells #[.int .i64 err, .int .i64 id, .int .i64 k, .int .i64 n, .int .i64 d, .string cw, .string text, .bool has, .slice ra rl rc, .int .i64 count] 44)).heap[w.heap.size + 1]? = some (.cells #[.int .i64 err, .int .i64 id, .int .i64 k, .int .i64 n, .int .i64 d, .string cw, .string text, .bool has, .slice ra rl rc, .int .i64 count] 44 (0, 0)) := by
    have := heap_alloc_at (w.alloc (.cells #[.int .i64 kind, .int .i64 node, .int .i64 at_, .int .i64 org, .string name, .string word, .slice ta tl tc, .int .i64 wn, .int .i64 wd, .int .i64 hn, .int .i64 hd, .int .i64 bt, .string bn, .int .i64 bwn, .int .i64 bwd, .int .i64 bhn, .int .i64 bhd, .bool on] 28)) (.cells #[.int .i64 err, .int .i64 id, .int .i64 k, .int .i64 n, .int .i64 d, .string cw, .string text, .bool has, .slice ra rl rc, .int .i64 count] 44)
    simpa using this
  have HB2 := Lib.hid hb2; have HA := Lib.hid ha; have HB := Lib.hid hb
  clear hb2 ha hb hp he hi hn' hd' ht hr hok hfew hc haw
  go_enter Tryz.func5, Tryz.ntmps5
  go_wp2
  generalize (w.alloc (.cells #[.int .i64 kind, .int .i64 node, .int .i64 at_, .int .i64 org, .string name, .string word, .slice ta tl tc, .int .i64 wn, .int .i64 wd, .int .i64 hn, .int .i64 hd, .int .i64 bt, .string bn, .int .i64 bwn, .int .i64 bwd, .int .i64 bhn, .int .i64 bhd, .bool on] 28)).alloc (.cells #[.int .i64 err, .int .i64 id, .int .i64 k, .int .i64 n, .int .i64 d, .string cw, .string text, .bool has, .slice ra rl rc, .int .i64 count] 44) = W2 at HB2 HA HB
  generalize tellS kind ⟨err, id, k, n, d, cw, text, has, .slice ra rl rc, rules, count⟩ = S0 at HT1 HT2
  have HB0_ : Hid (Below w.heap.size w W2.drew) := Lib.hid HB2.out.drew
  have HA0 : Hid (W2.drew.heap[w.heap.size]? = _) := Lib.hid HA.out
  have HC0 : Hid (W2.drew.heap[w.heap.size + 1]? = _) := Lib.hid HB.out
  refine wp_region_held_drew (S := (fun s => s.heap[w.heap.size]? = some (.cells #[.int .i64 kind, .int .i64 node, .int .i64 at_, .int .i64 org, .string name, .string word, .slice ta tl tc, .int .i64 wn, .int .i64 wd, .int .i64 hn, .int .i64 hd, .int .i64 bt, .string bn, .int .i64 bwn, .int .i64 bwd, .int .i64 bhn, .int .i64 bhd, .bool on] 28 (0, 0)) ∧ s.heap[w.heap.size + 1]? = some (.cells #[.int .i64 err, .int .i64 id, .int .i64 k, .int .i64 n, .int .i64 d, .string cw, .string text, .bool has, .slice ra rl rc, .int .i64 count] 44 (0, 0)))) (by kernel_rfl) ⟨HA0.out, HC0.out⟩ (fun hHeld => ?_)
  refine wpAnyH_take (i := 0) (v := .agg #[.int .i64 kind, .int .i64 node, .int .i64 at_, .int .i64 org, .string name, .string word, .slice ta tl tc, .int .i64 wn, .int .i64 wd, .int .i64 hn, .int .i64 hd, .int .i64 bt, .string bn, .int .i64 bwn, .int .i64 bwd, .int .i64 bhn, .int .i64 bhd, .bool on]) rfl (by kernel_rfl) (by kernel_rfl) (by kernel_rfl) (fun _ _ _ h => h) (Or.inl ⟨by kernel_rfl, fun s hs => by obtain ⟨s0c, s1c⟩ := hs; exact load_whole s0c Tryz.underlying28 size28 (by rfl) (by rfl)⟩) hHeld ?_
  refine wpAnyH_take (i := 1) (v := .agg #[.int .i64 err, .int .i64 id, .int .i64 k, .int .i64 n, .int .i64 d, .string cw, .string text, .bool has, .slice ra rl rc, .int .i64 count]) rfl (by kernel_rfl) (by kernel_rfl) (by kernel_rfl) (fun _ _ _ h => h) (Or.inl ⟨by kernel_rfl, fun s hs => by obtain ⟨s0c, s1c⟩ := hs; exact load_whole s1c Tryz.underlying44 size44 (by rfl) (by rfl)⟩) hHeld ?_
  refine wpAnyH_take (i := 3) (v := .agg #[.int .i64 kind, .int .i64 node, .int .i64 at_, .int .i64 org, .string name, .string word, .slice ta tl tc, .int .i64 wn, .int .i64 wd, .int .i64 hn, .int .i64 hd, .int .i64 bt, .string bn, .int .i64 bwn, .int .i64 bwd, .int .i64 bhn, .int .i64 bhd, .bool on]) rfl (by kernel_rfl) (by kernel_rfl) (by kernel_rfl) (fun _ _ _ h => h) (Or.inl ⟨by kernel_rfl, fun s hs => by obtain ⟨s0c, s1c⟩ := hs; exact load_whole s0c Tryz.underlying28 size28 (by rfl) (by rfl)⟩) hHeld ?_
  refine wpAnyH_take (i := 4) (v := .agg #[.int .i64 err, .int .i64 id, .int .i64 k, .int .i64 n, .int .i64 d, .string cw, .string text, .bool has, .slice ra rl rc, .int .i64 count]) rfl (by kernel_rfl) (by kernel_rfl) (by kernel_rfl) (fun _ _ _ h => h) (Or.inl ⟨by kernel_rfl, fun s hs => by obtain ⟨s0c, s1c⟩ := hs; exact load_whole s1c Tryz.underlying44 size44 (by rfl) (by rfl)⟩) hHeld ?_
  refine wpAnyH_ready (rs := [2]) (by kernel_rfl) (by simp) ?_
  refine AllReadyH.cons rfl (fun K hK => ?_) AllReadyH.nil
  rw [if_pos (by kernel_rfl)]
  go_simp
  refine (HT1.out _ HB0_.out).mono ?_
  rintro e w1 ⟨rfl, hb1⟩
  have HB1_ := Lib.hid (HB0_.out.trans (hb1.mono HB0_.out.size))
  have HA1 := Lib.hid ((hb1.block w.heap.size (lt_of_block HA0.out)).trans HA0.out)
  have HC1 := Lib.hid ((hb1.block (w.heap.size + 1) (lt_of_block HC0.out)).trans HC0.out)
  clear hb1
  refine hK _ _ ⟨HA1.out, HC1.out⟩ (fun hHeld => ?_)
  refine wpAnyH_ready (rs := [5]) (by kernel_rfl) (by simp) ?_
  refine AllReadyH.cons rfl (fun K hK => ?_) AllReadyH.nil
  rw [if_pos (by kernel_rfl)]
  go_simp
  refine (HT2.out _ HB1_.out).mono ?_
  rintro e w2 ⟨rfl, hb2⟩
  have HB2_ := Lib.hid (HB1_.out.trans (hb2.mono HB1_.out.size))
  have HA2 := Lib.hid ((hb2.block w.heap.size (lt_of_block HA1.out)).trans HA1.out)
  have HC2 := Lib.hid ((hb2.block (w.heap.size + 1) (lt_of_block HC1.out)).trans HC1.out)
  clear hb2
  refine hK _ _ ⟨HA2.out, HC2.out⟩ (fun hHeld => ?_)
  refine wpAnyH_take (i := 6) (v := .bool true) rfl (by kernel_rfl) (by kernel_rfl) (by kernel_rfl) (fun _ _ _ h => h) (Or.inl ⟨by kernel_rfl, fun s hs => by obtain ⟨s0c, s1c⟩ := hs; go_simp⟩) hHeld ?_
  refine wpAnyH_take (i := 7) (v := .bool true) rfl (by kernel_rfl) (by kernel_rfl) (by kernel_rfl) (fun _ _ _ h => h) (Or.inl ⟨by kernel_rfl, fun s hs => by obtain ⟨s0c, s1c⟩ := hs; go_simp⟩) hHeld ?_
  refine wpAnyH_ready (rs := [8]) (by kernel_rfl) (by simp) ?_
  refine AllReadyH.cons rfl (fun K hK => ?_) AllReadyH.nil
  rw [if_pos (by kernel_rfl)]
  go_simp
  refine (HAW.out _ HB2_.out).mono ?_
  rintro e w3 ⟨rfl, hb3⟩
  have HB3_ := Lib.hid (HB2_.out.trans (hb3.mono HB2_.out.size))
  have HA3 := Lib.hid ((hb3.block w.heap.size (lt_of_block HA2.out)).trans HA2.out)
  have HC3 := Lib.hid ((hb3.block (w.heap.size + 1) (lt_of_block HC2.out)).trans HC2.out)
  clear hb3
  refine hK _ _ ⟨HA3.out, HC3.out⟩ (fun hHeld => ?_)
  refine wpAnyH_take (i := 9) (v := .bool true) rfl (by kernel_rfl) (by kernel_rfl) (by kernel_rfl) (fun _ _ _ h => h) (Or.inl ⟨by kernel_rfl, fun s hs => by obtain ⟨s0c, s1c⟩ := hs; go_simp⟩) hHeld ?_
  refine wpAnyH_take (i := 10) (v := .bool true) rfl (by kernel_rfl) (by kernel_rfl) (by kernel_rfl) (fun _ _ _ h => h) (Or.inl ⟨by kernel_rfl, fun s hs => by obtain ⟨s0c, s1c⟩ := hs; go_simp⟩) hHeld ?_
  refine wpAnyH_done (by kernel_rfl) ?_ _
  clear hHeld
  go_simp
  go_wp2
  go_ret
  exact ⟨rfl, HB3_.out⟩
end Go.Proofs.YtihlneenajlhoaaGreatDoor
