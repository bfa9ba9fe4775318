/-
  Contracts, for a run of one goroutine, of script.quoted and jalousieref27.Quote: a text between quotes. Condition: its length fits.
-/
import Derived.Test.YtihlneenajlhoaaGreatDoorS1
import Derived.Deep.RegionLaw
import Derived.Deep.AppendLies
import Derived.Deep.MidRow
import Derived.Maps.RangeWalk
import Derived.StringKeys
import Derived.Laws.EntriesVeiled
import Derived.Sort.KeysCollected
import Derived.Test.YtihlneenajlhoaaGreatDoorProg
import Derived.Shelf.Lay
import Derived.Shelf.Lays
import Derived.Shelf.Strings.IndexAnyAll
import Derived.Shelf.Small.Strs
import Derived.Shelf.Small.Utf8
import Derived.Ground.NamesProg
import Derived.Lib.DecodeN
import Derived.Lib.TrimU
import Derived.Laws.RangeAny
set_option linter.unusedSimpArgs false
set_option linter.unusedVariables false
set_option linter.unusedSimpArgs false
set_option linter.unusedVariables false
namespace Go.Proofs.YtihlneenajlhoaaGreatDoor
open Go Go.RowKit

/-- A builder in block b that holds l; block q is what it was; what lies below b stands. -/
def QS (wb : World) (b q : Nat) (O : Option Obj) (l : List UInt8) (wr : World) : Prop :=
  ∃ own, Bld wr 92 [] b own l ∧ some q ≠ own ∧ b < q ∧ q < wr.heap.size ∧ wr.heap[q]? = O ∧ Below b wb wr
theorem u8_of {c : Int} (h0 : 0 ≤ c) (h1 : c ≤ 255) : ∃ k : UInt8, c = k.toNat ∧ UInt8.ofNat c.toNat = k := by
  refine ⟨UInt8.ofNat c.toNat, ?_, rfl⟩
  rw [UInt8.toNat_ofNat']
  have : c.toNat % 2 ^ 8 = c.toNat := Nat.mod_eq_of_lt (by omega)
  rw [this]
  omega
theorem u8_back (k : UInt8) : UInt8.ofNat ((k.toNat : Int)).toNat = k := by
  apply UInt8.toNat_inj.1
  simp
section
variable {wb wr : World} {b q : Nat} {O : Option Obj} {l : List UInt8}
theorem QS.step {own own' : Option Nat} {w' : World} {l' : List UInt8} (hB : Bld wr 92 [] b own l) (hne : some q ≠ own) (hbq : b < q) (hq : q < wr.heap.size) (hO : wr.heap[q]? = O) (hbl : Below b wb wr) (h1 : BldP w' 92 [] b (selfP b) own' l') (hf : Fr wr w' b own) (ho : Own wr own own') : QS wb b q O l' w' :=
  ⟨own', Or.inr h1, ho.ne hq hne, hbq, Nat.lt_of_lt_of_le hq hf.size, by rw [hf.block q hq (by omega) hne]; exact hO, hbl.trans (hf.below (Nat.le_refl b) (fun g hg => by have := hB.own_lt g hg; omega) (by have := hB.lt; omega))⟩
theorem QS.byte (h : QS wb b q O l wr) {c : Int} (h0 : 0 ≤ c) (h1 : c ≤ 255) (hn : l.length + 1 ≤ 140737488355328) :
    Calls Tryz.prog 41 #[.pointer (some ⟨b, 0, none⟩), .int .u8 c] wr fun e w' => e = .returned .nilIface ∧ QS wb b q O (l ++ [UInt8.ofNat c.toNat]) w' := by
  obtain ⟨own, hB, hne, hbq, hq, hO, hbl⟩ := h
  obtain ⟨k, rfl, _⟩ := u8_of h0 h1
  rw [u8_back]
  refine (writeByte_any wr 92 [] b own l k bt92 hB hn).mono ?_
  rintro e w' ⟨rfl, own', h1, hf, ho⟩
  exact ⟨rfl, QS.step hB hne hbq hq hO hbl h1 hf ho⟩
theorem QS.byteU (h : QS wb b q O l wr) (k : UInt8) (hn : l.length + 1 ≤ 140737488355328) :
    Calls Tryz.prog 41 #[.pointer (some ⟨b, 0, none⟩), .int .u8 k.toNat] wr fun e w' => e = .returned .nilIface ∧ QS wb b q O (l ++ [k]) w' := by
  obtain ⟨own, hB, hne, hbq, hq, hO, hbl⟩ := h
  refine (writeByte_any wr 92 [] b own l k bt92 hB hn).mono ?_
  rintro e w' ⟨rfl, own', h1, hf, ho⟩
  exact ⟨rfl, QS.step hB hne hbq hq hO hbl h1 hf ho⟩
theorem QS.str (h : QS wb b q O l wr) (t : ByteArray) (hn : l.length + t.size ≤ 140737488355328) :
    Calls Tryz.prog 40 #[.pointer (some ⟨b, 0, none⟩), .string t] wr fun e w' => e = .returned (.tuple #[.int .i64 t.size, .nilIface]) ∧ QS wb b q O (l ++ t.data.toList) w' := by
  obtain ⟨own, hB, hne, hbq, hq, hO, hbl⟩ := h
  refine (writeString_any wr 92 [] b own l t bt92 hB hn).mono ?_
  rintro e w' ⟨rfl, own', h1, hf, ho⟩
  exact ⟨rfl, QS.step hB hne hbq hq hO hbl h1 hf ho⟩
theorem QS.text (h : QS wb b q O l wr) : Calls Tryz.prog 42 #[.pointer (some ⟨b, 0, none⟩)] wr fun e w' => e = .returned (.string (bstr l)) ∧ Below b wb w' := by
  obtain ⟨own, hB, hne, hbq, hq, hO, hbl⟩ := h
  refine (string_any wr 92 [] b own l hB).mono ?_
  rintro e w' ⟨rfl, hf⟩
  exact ⟨rfl, hbl.trans (hf.below (Nat.le_refl b) (fun g hg => by have := hB.own_lt g hg; omega) (by have := hB.lt; omega))⟩
end
theorem getD_lt {α : Type} (l : List α) (d : α) {k : Nat} (h : k < l.length) : l.getD k d = l[k] := by simp [List.getD, List.getElem?_eq_getElem h]
theorem quote_take (s : List UInt8) (k : Nat) (hk : k < s.length) : (s.take (k + 1)).flatMap sp.quoteB = (s.take k).flatMap sp.quoteB ++ sp.quoteB s[k] := by
  rw [List.take_add_one, List.getElem?_eq_getElem hk, List.flatMap_append]
  simp
theorem quote_len (s : List UInt8) : (s.flatMap sp.quoteB).length ≤ 4 * s.length := by
  have h1 : ∀ c, (sp.quoteB c).length ≤ 4 := fun c => by
    unfold sp.quoteB
    split
    · simp
    · split
      · simp
      · split <;> simp
  induction s with
  | nil => simp
  | cons c s ih =>
    rw [List.flatMap_cons, List.length_append, List.length_cons]
    have := h1 c
    omega

theorem quoteB_ctl {K : UInt8} (h1 : K ≠ 34) (h2 : K ≠ 92) (h3 : K ≠ 10) (h : K.toNat < 32 ∨ 127 ≤ K.toNat) : sp.quoteB K = [92, 120, sp.hexd (K.toNat / 16), sp.hexd (K.toNat % 16)] := by
  unfold sp.quoteB
  rw [if_neg (by simp [h1, h2]), if_neg h3, if_pos h]
theorem quoteB_plain {K : UInt8} (h1 : K ≠ 34) (h2 : K ≠ 92) (h3 : K ≠ 10) (h : ¬ (K.toNat < 32 ∨ 127 ≤ K.toNat)) : sp.quoteB K = [K] := by
  unfold sp.quoteB
  rw [if_neg (by simp [h1, h2]), if_neg h3, if_neg h]
theorem hexAt (k : Nat) (h : k < (⟨#[48, 49, 50, 51, 52, 53, 54, 55, 56, 57, 97, 98, 99, 100, 101, 102]⟩ : ByteArray).size) : (⟨#[48, 49, 50, 51, 52, 53, 54, 55, 56, 57, 97, 98, 99, 100, 101, 102]⟩ : ByteArray)[k] = sp.hexd k := by
  have h' : k < 16 := h
  have : ∀ j : Fin 16, (⟨#[48, 49, 50, 51, 52, 53, 54, 55, 56, 57, 97, 98, 99, 100, 101, 102]⟩ : ByteArray)[j.val] = sp.hexd j.val := by decide
  exact this ⟨k, h'⟩
theorem u8c (k : Nat) (h : k < 256) : UInt8.ofNat ((k : Int)).toNat = UInt8.ofNat k := by simp
set_option maxRecDepth 100000 in
set_option maxHeartbeats 8000000 in
/-- script.quoted. -/
theorem quoted_any (s : ByteArray) (w : World) (hs : s.size ≤ 1099511627776) : Calls Tryz.prog 36 #[.string s] w fun e w' => e = .returned (.string (bstr (sp.quoteS s.data.toList))) ∧ Below w.heap.size w w' := by
  have HS := Lib.hid hs; clear hs
  go_enter Tryz.func36, Tryz.ntmps36
  go_wp2_with (go_at_call 41; refine (writeByte_any _ 92 [] w.heap.size none [] 34 bt92 (bld_new 92 [] w.heap.size (heap_alloc_at _ _)) (by decide)).mono ?_; rintro e w1 ⟨rfl, own1, hw1, hf1, ho1⟩; have HW1 := Lib.hid hw1; have HF1 := Lib.hid hf1; have HO1 := Lib.hid ho1; clear hw1 hf1 ho1; refine Hid.out ?_)
  refine Lib.hid ?_
  have hb1 : Below w.heap.size w w1 := (below_new w _).trans (HF1.out.below (Nat.le_refl _) (fun g hg => by cases hg) (by simp))
  have hlt : w.heap.size < w1.heap.size := HW1.out.lt
  have hq0 : some w1.heap.size ≠ own1 := fun e => by have := HW1.out.own_lt w1.heap.size e.symm; omega
  have hcv := Lib.run_convert_string_bytes (P := Tryz.prog) w1 9 22 5 s Tryz.underlying9 Tryz.underlying22 Tryz.underlying5
  have HC := Lib.hid (fun j (hj : j < s.size) => Lib.bytesWorld_cell w1 5 s j hj)
  have HQ : Hid (QS w w.heap.size w1.heap.size (Lib.bytesWorld w1 5 s).heap[w1.heap.size]? [34] (Lib.bytesWorld w1 5 s)) := Lib.hid ⟨own1, Bld.below (Or.inr HW1.out) (below_bytes w1 s), hq0, hlt, by rw [Lib.bytesWorld_size]; omega, rfl, hb1.trans ((below_bytes w1 s).mono (by omega))⟩
  generalize Lib.bytesWorld w1 5 s = W2 at hcv HC HQ
  generalize grownCap w1 s.size 0 5 = cp at hcv
  generalize w1.heap.size = q at hcv HC HQ hlt hq0
  clear hb1 hlt hq0 HW1 HF1 HO1
  go_wp2
  go_loopw [10] (fun i wr => ∃ k : Nat, k ≤ s.size ∧ i = .int .i64 k ∧ QS w w.heap.size q W2.heap[q]? (34 :: (s.data.toList.take k).flatMap sp.quoteB) wr) (fun i _ => s.size - (intOf i).toNat)
  case atStart => exact ⟨0, Nat.zero_le _, rfl, HQ.out⟩
  case round =>
    obtain ⟨k, hk, rfl, hr⟩ := hrel
    clear HQ
    have HQ := Lib.hid hr; clear hr
    have hlen : s.data.toList.length = s.size := by rw [Array.length_toList]; rfl
    by_cases hlt : k < s.size
    · have hc : wr.cell? ⟨q, k, none⟩ = some (.int .u8 (s.data.toList.getD k 0).toNat) := by
        obtain ⟨_, _, _, _, _, hO, _⟩ := HQ.out
        rw [World.cell?_of_block (a := ⟨q, k, none⟩) hO]
        exact HC.out k hlt
      have HX : Hid ((34 :: (s.data.toList.take (k + 1)).flatMap sp.quoteB) = (34 :: (s.data.toList.take k).flatMap sp.quoteB) ++ sp.quoteB (s.data.toList.getD k 0)) := Lib.hid (by
        rw [quote_take _ k (by omega), getD_lt _ _ (by omega)]; rfl)
      have HL : Hid ((34 :: (s.data.toList.take k).flatMap sp.quoteB).length + 8 ≤ 140737488355328) := Lib.hid (by
        have h1 := quote_len (s.data.toList.take k)
        have h2 : (s.data.toList.take k).length ≤ s.size := by rw [List.length_take]; omega
        have := HS.out
        simp only [List.length_cons]
        omega)
      generalize hl1 : (34 :: (s.data.toList.take (k + 1)).flatMap sp.quoteB) = l1 at HX
      have HL1 := Lib.hid hl1; clear hl1
      have hkb : (k : Int) ≤ 1099511627776 := by have := HS.out; omega
      generalize (34 :: (s.data.toList.take k).flatMap sp.quoteB) = l0 at HX HL HQ
      generalize s.data.toList.getD k 0 = K at hc HX
      have hK : (K.toNat : Int) ≤ 255 := by have := K.toNat_lt; omega
      have hK0 : (0 : Int) ≤ K.toNat := by omega
      have HK : Hid (K = UInt8.ofNat ((K.toNat : Int)).toNat) := Lib.hid (u8_back K).symm
      clear hcv HC
      by_cases c34 : K = 34
      · subst c34
        have HX2 : Hid (l1 = l0 ++ [92] ++ [34]) := Lib.hid (by rw [HX.out, List.append_assoc]; rfl)
        go_wp2_with (first
          | (have hgd := HQ1; clear hgd; go_at_call 41; refine (HQ1.out.byte (by decide) (by decide) (by have := HL.out; first | omega | (simp only [List.length_append, List.length_cons, List.length_nil]; omega))).mono ?_; rintro e w2 ⟨rfl, h2⟩; have HQ2 := Lib.hid h2; clear h2)
          | (go_at_call 41; refine (HQ.out.byte (by decide) (by decide) (by have := HL.out; first | omega | (simp only [List.length_append, List.length_cons, List.length_nil]; omega))).mono ?_; rintro e w1 ⟨rfl, h1⟩; have HQ1 := Lib.hid h1; clear h1))
        refine ⟨⟨k + 1, by omega, by go_num, ?_⟩, by simp [intOf]; omega⟩
        rw [HL1.out, HX2.out]
        exact HQ2.out
      by_cases c92 : K = 92
      · subst c92
        have HX2 : Hid (l1 = l0 ++ [92] ++ [92]) := Lib.hid (by rw [HX.out, List.append_assoc]; rfl)
        go_wp2_with (first
          | (have hgd := HQ1; clear hgd; go_at_call 41; refine (HQ1.out.byte (by decide) (by decide) (by have := HL.out; first | omega | (simp only [List.length_append, List.length_cons, List.length_nil]; omega))).mono ?_; rintro e w2 ⟨rfl, h2⟩; have HQ2 := Lib.hid h2; clear h2)
          | (go_at_call 41; refine (HQ.out.byte (by decide) (by decide) (by have := HL.out; first | omega | (simp only [List.length_append, List.length_cons, List.length_nil]; omega))).mono ?_; rintro e w1 ⟨rfl, h1⟩; have HQ1 := Lib.hid h1; clear h1))
        refine ⟨⟨k + 1, by omega, by go_num, ?_⟩, by simp [intOf]; omega⟩
        rw [HL1.out, HX2.out]
        exact HQ2.out
      by_cases c10 : K = 10
      · subst c10
        have HX2 : Hid (l1 = l0 ++ (⟨#[92, 110]⟩ : ByteArray).data.toList) := Lib.hid (by rw [HX.out]; rfl)
        go_wp2_with (first
          | (go_at_call 40; refine (HQ.out.str _ (by have := HL.out; have : ByteArray.size ⟨#[92, 110]⟩ = 2 := rfl; omega)).mono ?_; rintro e w1 ⟨rfl, h1⟩; have HQ1 := Lib.hid h1; clear h1))
        refine ⟨⟨k + 1, by omega, by go_num, ?_⟩, by simp [intOf]; omega⟩
        rw [HL1.out, HX2.out]
        exact HQ1.out
      have n34 : ((K.toNat : Int) == 34) = false := by simp; intro h; exact c34 (UInt8.toNat_inj.1 (by simpa using (by omega : K.toNat = 34)))
      have n92 : ((K.toNat : Int) == 92) = false := by simp; intro h; exact c92 (UInt8.toNat_inj.1 (by simpa using (by omega : K.toNat = 92)))
      have n10 : ((K.toNat : Int) == 10) = false := by simp; intro h; exact c10 (UInt8.toNat_inj.1 (by simpa using (by omega : K.toNat = 10)))
      by_cases cc : K.toNat < 32 ∨ 127 ≤ K.toNat
      · have HX2 : Hid (l1 = l0 ++ (⟨#[92, 120]⟩ : ByteArray).data.toList ++ [sp.hexd (K.toNat / 16)] ++ [sp.hexd (K.toNat % 16)]) := Lib.hid (by
          rw [HX.out, quoteB_ctl c34 c92 c10 cc]
          simp)
        cases t1 : decide ((K.toNat : Int) < 32) <;> cases t2 : decide (127 ≤ (K.toNat : Int))
        · exfalso
          simp at t1 t2
          omega
        all_goals
          clear c34 c92 c10 cc
          go_wp2_with (first
            | (go_at_call 40; refine (HQ.out.str _ (by have := HL.out; have : ByteArray.size ⟨#[92, 120]⟩ = 2 := rfl; omega)).mono ?_; rintro e w1 ⟨rfl, h1⟩; have HQ1 := Lib.hid h1; clear h1)
            | (have hgd := HQ2; clear hgd; go_at_call 41; refine (HQ2.out.byteU _ (by have := HL.out; have : (⟨#[92, 120]⟩ : ByteArray).data.toList.length = 2 := rfl; first | omega | (simp only [List.length_append, List.length_cons, List.length_nil]; omega))).mono ?_; rintro e w3 ⟨rfl, h3⟩; have HQ3 := Lib.hid h3; clear h3)
            | (go_at_call 41; refine (HQ1.out.byteU _ (by have := HL.out; have : (⟨#[92, 120]⟩ : ByteArray).data.toList.length = 2 := rfl; first | omega | (simp only [List.length_append, List.length_cons, List.length_nil]; omega))).mono ?_; rintro e w2 ⟨rfl, h2⟩; have HQ2 := Lib.hid h2; clear h2))
          refine ⟨⟨k + 1, by omega, by go_num, ?_⟩, by simp [intOf]; omega⟩
          rw [HL1.out, HX2.out, ← hexAt (K.toNat / 16), ← hexAt (K.toNat % 16)]
          exact HQ3.out
      · have HX2 : Hid (l1 = l0 ++ [K]) := Lib.hid (by rw [HX.out, quoteB_plain c34 c92 c10 cc])
        have t1 : decide ((K.toNat : Int) < 32) = false := by simp; omega
        have t2 : decide (127 ≤ (K.toNat : Int)) = false := by simp; omega
        clear c34 c92 c10 cc
        go_wp2_with (go_at_call 41; refine (HQ.out.byteU _ (by have := HL.out; omega)).mono ?_; rintro e w1 ⟨rfl, h1⟩; have HQ1 := Lib.hid h1; clear h1)
        refine ⟨⟨k + 1, by omega, by go_num, ?_⟩, by simp [intOf]; omega⟩
        rw [HL1.out, HX2.out]
        exact HQ1.out
    · have : k = s.size := by omega
      subst this
      have HE : Hid ((34 :: (s.data.toList.take s.size).flatMap sp.quoteB) ++ [34] = sp.quoteS s.data.toList) := Lib.hid (by rw [← hlen, List.take_length]; rfl)
      have HL : Hid ((34 :: (s.data.toList.take s.size).flatMap sp.quoteB).length + 8 ≤ 140737488355328) := Lib.hid (by
        have h1 := quote_len (s.data.toList.take s.size)
        have h2 : (s.data.toList.take s.size).length ≤ s.size := by rw [List.length_take]; omega
        have := HS.out
        simp only [List.length_cons]
        omega)
      generalize (34 :: (s.data.toList.take s.size).flatMap sp.quoteB) = l0 at HE HL HQ
      go_wp2_with (first
        | (go_at_call 41; refine (HQ.out.byte (by decide) (by decide) (by have := HL.out; omega)).mono ?_; rintro e w1 ⟨rfl, h1⟩; have HQ1 := Lib.hid h1; clear h1)
        | (go_at_call 42; refine HQ1.out.text.mono ?_; rintro e w2 ⟨rfl, h2⟩; have HB := Lib.hid h2; clear h2))
      go_ret
      exact ⟨ret_str HE.out, HB.out⟩
end Go.Proofs.YtihlneenajlhoaaGreatDoor
/-
  Contract, for a run of one goroutine, of jalousieref27.Quote: a text between quotes. Condition: its length fits.
-/
set_option linter.unusedSimpArgs false
set_option linter.unusedVariables false
namespace Go.Proofs.YtihlneenajlhoaaGreatDoor
open Go Go.RowKit

/-- A row of bytes that the call made holds l; block q is what it was; what lies below b stands. -/
def QR (wb : World) (b q : Nat) (O : Option Obj) (l : List UInt8) (d : Value) (wr : World) : Prop :=
  wr.ownsRow b 5 1 d l.length (Lib.byteCells l) ∧ d.ownBlock ≠ some q ∧ b ≤ q ∧ q < wr.heap.size ∧ wr.heap[q]? = O ∧ Below b wb wr
section
variable {wb wr w' : World} {b q : Nat} {O : Option Obj} {l ys : List UInt8} {d v' : Value}
theorem QR.alloc (h : QR wb b q O l d wr) (o : Obj) : QR wb b q O l d (wr.alloc o) := by
  obtain ⟨h1, h2, h3, h4, h5, h6⟩ := h
  exact ⟨h1.alloc o, h2, h3, by simp; omega, by rw [Below.heap_alloc _ _ _ h4]; exact h5, h6.alloc (by omega) o⟩
theorem QR.drew (h : QR wb b q O l d wr) : QR wb b q O l d wr.drew := by
  obtain ⟨h1, h2, h3, h4, h5, h6⟩ := h
  exact ⟨h1, h2, h3, h4, h5, h6.drew⟩
theorem QR.app (h : QR wb b q O l d wr) (hown : w'.ownsRow b 5 1 v' (l ++ ys).length (Lib.byteCells (l ++ ys))) (hg : wr.grownBy w' d.ownBlock) (hat : v'.ownBlock = d.ownBlock ∨ v'.ownBlock = some wr.heap.size) : QR wb b q O (l ++ ys) v' w' := by
  obtain ⟨h1, h2, h3, h4, h5, h6⟩ := h
  refine ⟨hown, ?_, h3, Nat.lt_of_lt_of_le h4 hg.size, by rw [hg.block q h4 (fun e => h2 e.symm)]; exact h5, h6.grown hg (by omega) (fun k hk => (h1.lt k hk).1)⟩
  rcases hat with e | e
  · rw [e]; exact h2
  · rw [e]; intro k; have := Option.some.inj k; omega
end
set_option maxRecDepth 100000 in
/-- A row of bytes as a text. -/
theorem conv_own {w : World} {base : Nat} {v : Value} {l : List UInt8} (h : w.ownsRow base 5 1 v l.length (Lib.byteCells l)) : (convert 22 9 v).run Tryz.prog w = .ok (.string (bstr l)) w := by
  rcases h.2 with ⟨rfl, h0⟩ | ⟨g, cap, cur, rfl, hbg, hg, hnc, hcm, hcs, htake⟩
  · have : l = [] := List.eq_nil_of_length_eq_zero h0
    subst this
    exact Go.run_convert_bytes_back (P := Tryz.prog) w 22 9 5 ⟨0, 0, none⟩ 0 [] Tryz.underlying22 Tryz.underlying5 Tryz.underlying9 (fun j hj => by cases hj)
  · refine Go.run_convert_bytes_back (P := Tryz.prog) w 22 9 5 ⟨g, 0, none⟩ cap l Tryz.underlying22 Tryz.underlying5 Tryz.underlying9 (fun j hj => ?_)
    have := h.cells (g := g) rfl j (.int .u8 l[j].toNat) (by simp [Lib.byteCells, hj])
    exact this
set_option maxRecDepth 100000 in
set_option maxHeartbeats 8000000 in
/-- jalousieref27.Quote. -/
theorem quote_any (s : ByteArray) (w : World) (hs : s.size ≤ 1099511627776) : Calls Tryz.prog 38 #[.string s] w fun e w' => e = .returned (.string (bstr (sp.quoteS s.data.toList))) ∧ Below w.heap.size w w' := by
  have HS := Lib.hid hs
  have hcv := fun W => Lib.run_convert_string_bytes (P := Tryz.prog) W 9 22 5 s Tryz.underlying9 Tryz.underlying22 Tryz.underlying5
  clear hs
  go_enter Tryz.func38, Tryz.ntmps38
  go_wp2
  have HQ : Hid (QR w w.heap.size (w.heap.size + 1) (Lib.bytesWorld (w.alloc (.cells #[.int .u8 34] 5)) 5 s).heap[w.heap.size + 1]? [34] (.slice (some ⟨w.heap.size, 0, none⟩) 1 1) (Lib.bytesWorld (w.alloc (.cells #[.int .u8 34] 5)) 5 s)) := Lib.hid (by
    have hb := below_bytes (w.alloc (.cells #[.int .u8 34] 5)) s
    refine ⟨⟨rfl, Or.inr ⟨w.heap.size, 1, #[.int .u8 34], rfl, Nat.le_refl _, ?_, Nat.le_refl _, by decide, rfl, rfl⟩⟩, ?_, by omega, by rw [Lib.bytesWorld_size]; simp, rfl, (below_new w _).trans (hb.mono (by simp))⟩
    · rw [hb.block w.heap.size (by simp)]; exact heap_alloc_at _ _
    · intro e; have : some w.heap.size = some (w.heap.size + 1) := e; simp at this)
  have HC := Lib.hid (fun j (hj : j < s.size) => Lib.bytesWorld_cell (w.alloc (.cells #[.int .u8 34] 5)) 5 s j hj)
  have hq : (w.alloc (.cells #[.int .u8 34] 5)).heap.size = w.heap.size + 1 := by simp
  rw [hq] at HC
  clear hq hcv
  generalize Lib.bytesWorld (w.alloc (.cells #[.int .u8 34] 5)) 5 s = W2 at HQ HC
  generalize grownCap (w.alloc (.cells #[.int .u8 34] 5)) s.size 0 5 = cp
  generalize hqq : w.heap.size + 1 = q at HQ HC
  have HQQ := Lib.hid hqq; clear hqq
  generalize Value.slice (some ⟨w.heap.size, 0, none⟩) 1 1 = d0 at HQ
  go_loopw [3, 10] (fun d i wr => ∃ k : Nat, k ≤ s.size ∧ i = .int .i64 k ∧ QR w w.heap.size q W2.heap[q]? (34 :: (s.data.toList.take k).flatMap sp.quoteB) d wr) (fun _ i _ => s.size - (intOf i).toNat)
  case atStart => exact ⟨0, Nat.zero_le _, rfl, HQ.out⟩
  case round =>
    obtain ⟨k, hk, rfl, hr⟩ := hrel
    clear HQ
    have HQ := Lib.hid hr; clear hr
    have hlen : s.data.toList.length = s.size := by rw [Array.length_toList]; rfl
    by_cases hlt : k < s.size
    · have hc : wr.cell? ⟨q, k, none⟩ = some (.int .u8 (s.data.toList.getD k 0).toNat) := by
        obtain ⟨_, _, _, _, hO, _⟩ := HQ.out
        rw [World.cell?_of_block (a := ⟨q, k, none⟩) hO]
        exact HC.out k hlt
      have HX : Hid ((34 :: (s.data.toList.take (k + 1)).flatMap sp.quoteB) = (34 :: (s.data.toList.take k).flatMap sp.quoteB) ++ sp.quoteB (s.data.toList.getD k 0)) := Lib.hid (by
        rw [quote_take _ k (by omega), getD_lt _ _ (by omega)]; rfl)
      have HL : Hid ((34 :: (s.data.toList.take k).flatMap sp.quoteB).length + 8 ≤ 140737488355328) := Lib.hid (by
        have h1 := quote_len (s.data.toList.take k)
        have h2 : (s.data.toList.take k).length ≤ s.size := by rw [List.length_take]; omega
        have := HS.out
        simp only [List.length_cons]
        omega)
      generalize hl1 : (34 :: (s.data.toList.take (k + 1)).flatMap sp.quoteB) = l1 at HX
      have HL1 := Lib.hid hl1; clear hl1
      have hkb : (k : Int) ≤ 1099511627776 := by have := HS.out; omega
      generalize (34 :: (s.data.toList.take k).flatMap sp.quoteB) = l0 at HX HL HQ
      generalize s.data.toList.getD k 0 = K at hc HX
      have hK : (K.toNat : Int) ≤ 255 := by have := K.toNat_lt; omega
      have hK0 : (0 : Int) ≤ K.toNat := by omega
      clear HC
      by_cases c34 : K = 34
      · subst c34
        have HX2 : Hid (l1 = l0 ++ [92, 34]) := Lib.hid (by rw [HX.out]; rfl)
        go_wp2_with (at_builtin; refine wpl_append_bytes rfl _ _ rfl w.heap.size l0 _ rfl (HQ.out.alloc _).1 wr.heap.size 2 [92, 34] _ (0, 0) rfl rfl rfl (heap_alloc_at _ _) (by have := HL.out; omega) (by have := (HQ.out.alloc (.cells #[] 5)).2.2.2.1; have := HQ.out.2.2.1; simp at *; omega) ?_; intro v' w1 hown hgrow _ hat; have HQ1 := Lib.hid ((HQ.out.alloc _).app hown hgrow hat); clear hown hgrow hat)
        refine ⟨⟨k + 1, by omega, by go_num, ?_⟩, by simp [intOf]; omega⟩
        rw [HL1.out, HX2.out]
        exact HQ1.out
      by_cases c92 : K = 92
      · subst c92
        have HX2 : Hid (l1 = l0 ++ [92, 92]) := Lib.hid (by rw [HX.out]; rfl)
        go_wp2_with (at_builtin; refine wpl_append_bytes rfl _ _ rfl w.heap.size l0 _ rfl (HQ.out.alloc _).1 wr.heap.size 2 [92, 92] _ (0, 0) rfl rfl rfl (heap_alloc_at _ _) (by have := HL.out; omega) (by have := (HQ.out.alloc (.cells #[] 5)).2.2.2.1; have := HQ.out.2.2.1; simp at *; omega) ?_; intro v' w1 hown hgrow _ hat; have HQ1 := Lib.hid ((HQ.out.alloc _).app hown hgrow hat); clear hown hgrow hat)
        refine ⟨⟨k + 1, by omega, by go_num, ?_⟩, by simp [intOf]; omega⟩
        rw [HL1.out, HX2.out]
        exact HQ1.out
      by_cases c10 : K = 10
      · subst c10
        have HX2 : Hid (l1 = l0 ++ [92, 110]) := Lib.hid (by rw [HX.out]; rfl)
        go_wp2_with (at_builtin; refine wpl_append_bytes rfl _ _ rfl w.heap.size l0 _ rfl (HQ.out.alloc _).1 wr.heap.size 2 [92, 110] _ (0, 0) rfl rfl rfl (heap_alloc_at _ _) (by have := HL.out; omega) (by have := (HQ.out.alloc (.cells #[] 5)).2.2.2.1; have := HQ.out.2.2.1; simp at *; omega) ?_; intro v' w1 hown hgrow _ hat; have HQ1 := Lib.hid ((HQ.out.alloc _).app hown hgrow hat); clear hown hgrow hat)
        refine ⟨⟨k + 1, by omega, by go_num, ?_⟩, by simp [intOf]; omega⟩
        rw [HL1.out, HX2.out]
        exact HQ1.out
      have n34 : ((K.toNat : Int) == 34) = false := by simp; intro h; exact c34 (UInt8.toNat_inj.1 (by simpa using (by omega : K.toNat = 34)))
      have n92 : ((K.toNat : Int) == 92) = false := by simp; intro h; exact c92 (UInt8.toNat_inj.1 (by simpa using (by omega : K.toNat = 92)))
      have n10 : ((K.toNat : Int) == 10) = false := by simp; intro h; exact c10 (UInt8.toNat_inj.1 (by simpa using (by omega : K.toNat = 10)))
      by_cases cc : K.toNat < 32 ∨ 127 ≤ K.toNat
      · have HX2 : Hid (l1 = l0 ++ [92, 120, sp.hexd (K.toNat / 16), sp.hexd (K.toNat % 16)]) := Lib.hid (by
          rw [HX.out, quoteB_ctl c34 c92 c10 cc])
        cases t1 : decide ((K.toNat : Int) < 32) <;> cases t2 : decide (127 ≤ (K.toNat : Int))
        · exfalso
          simp at t1 t2
          omega
        all_goals
          have b1 : (0 : Int) ≤ (K.toNat : Int) / 16 := by omega
          have b2 : (K.toNat : Int) / 16 < 16 := by omega
          have b3 : (0 : Int) ≤ (K.toNat : Int) % 16 := by omega
          have b4 : (K.toNat : Int) % 16 < 16 := by omega
          have b5 : bits BinOp.and IntKind.u8 (K.toNat : Int) 15 = (K.toNat : Int) % 16 := bits_mask .u8 8 (by decide) wraps_u8 4 (by decide) _ (by omega) (by omega)
          clear c34 c92 c10 cc
          go_wp2
          go_region_law ((refine step_append_bytes rfl _ _ rfl w.heap.size l0 _ rfl (HQ.out.alloc _).drew.1 wr.heap.size 4 [92, 120, sp.hexd (K.toNat / 16), sp.hexd (K.toNat % 16)] _ (0, 0) rfl rfl (heap_alloc_at _ _) (by rw [hexAt, hexAt]; rfl) (by have := HL.out; omega) (by have := HQ.out.2.2.1; have := HQ.out.2.2.2.1; simp; omega) ?_; intro v' w1 hown hgrow hat; have HQ1 := Lib.hid ((HQ.out.alloc _).drew.app hown hgrow hat); clear hown hgrow hat))
          all_goals
            go_wp2
            refine ⟨⟨k + 1, by omega, by go_num, ?_⟩, by simp [intOf]; omega⟩
            rw [HL1.out, HX2.out]
            exact HQ1.out
      · have HX2 : Hid (l1 = l0 ++ [K]) := Lib.hid (by rw [HX.out, quoteB_plain c34 c92 c10 cc])
        have t1 : decide ((K.toNat : Int) < 32) = false := by simp; omega
        have t2 : decide (127 ≤ (K.toNat : Int)) = false := by simp; omega
        clear c34 c92 c10 cc
        go_wp2_with (at_builtin; refine wpl_append_bytes rfl _ _ rfl w.heap.size l0 _ rfl (HQ.out.alloc _).1 wr.heap.size 1 [K] _ (0, 0) rfl rfl rfl (heap_alloc_at _ _) (by have := HL.out; omega) (by have := (HQ.out.alloc (.cells #[] 5)).2.2.2.1; have := HQ.out.2.2.1; simp at *; omega) ?_; intro v' w1 hown hgrow _ hat; have HQ1 := Lib.hid ((HQ.out.alloc _).app hown hgrow hat); clear hown hgrow hat)
        refine ⟨⟨k + 1, by omega, by go_num, ?_⟩, by simp [intOf]; omega⟩
        rw [HL1.out, HX2.out]
        exact HQ1.out
    · have : k = s.size := by omega
      subst this
      have HE : Hid ((34 :: (s.data.toList.take s.size).flatMap sp.quoteB) ++ [34] = sp.quoteS s.data.toList) := Lib.hid (by rw [← hlen, List.take_length]; rfl)
      have HL : Hid ((34 :: (s.data.toList.take s.size).flatMap sp.quoteB).length + 8 ≤ 140737488355328) := Lib.hid (by
        have h1 := quote_len (s.data.toList.take s.size)
        have h2 : (s.data.toList.take s.size).length ≤ s.size := by rw [List.length_take]; omega
        have := HS.out
        simp only [List.length_cons]
        omega)
      generalize (34 :: (s.data.toList.take s.size).flatMap sp.quoteB) = l0 at HE HL HQ
      clear HC
      go_wp2_with (at_builtin; refine wpl_append_bytes rfl _ _ rfl w.heap.size l0 _ rfl (HQ.out.alloc _).1 wr.heap.size 1 [34] _ (0, 0) rfl rfl rfl (heap_alloc_at _ _) (by have := HL.out; omega) (by have := (HQ.out.alloc (.cells #[] 5)).2.2.2.1; have := HQ.out.2.2.1; simp at *; omega) ?_; intro v' w1 hown hgrow _ hat; have HQ1 := Lib.hid ((HQ.out.alloc _).app hown hgrow hat); clear hown hgrow hat; rw [HE.out] at HQ1; have hcw := conv_own HQ1.out.1)
      go_ret
      exact ⟨rfl, HQ1.out.2.2.2.2.2⟩
end Go.Proofs.YtihlneenajlhoaaGreatDoor
/-
  Rows of structs in memory: as they came; one element loaded. Operations, answers and their rules as values. No condition of its own.
-/
set_option linter.unusedSimpArgs false
set_option linter.unusedVariables false
namespace Go.Proofs.YtihlneenajlhoaaGreatDoor
open Go Go.RowKit

/-- A slice value with n elements over the cells cs, in a block below B. -/
def RowAt (B : Nat) (w : World) (v : Value) (n : Nat) (cs : List Value) : Prop :=
  ∃ a cap, v = .slice a n cap ∧ n ≤ cap ∧ cap ≤ maxLen ∧ ((n = 0 ∧ cs = [] ∧ (a = none → cap = 0)) ∨ (0 < n ∧ ∃ b off, a = some ⟨b, off, none⟩ ∧ b < B ∧ w.rangeAt b off cs))
theorem RowAt.mono {B B' : Nat} {w : World} {v : Value} {n : Nat} {cs : List Value} (h : RowAt B w v n cs) (hB : B ≤ B') : RowAt B' w v n cs := by
  obtain ⟨a, cap, h1, h2, h3, h4⟩ := h
  exact ⟨a, cap, h1, h2, h3, h4.imp id fun ⟨x, b, off, y1, y2, y3⟩ => ⟨x, b, off, y1, by omega, y3⟩⟩
theorem rangeAt_below {B : Nat} {w w' : World} (hb : Below B w w') {b off : Nat} {cs : List Value} (h : b < B) (hr : w.rangeAt b off cs) : w'.rangeAt b off cs := fun j v hv => by
  rw [(bcell hb).1 b (off + j) h]; exact hr j v hv
theorem RowAt.keep {B : Nat} {w w' : World} {v : Value} {n : Nat} {cs : List Value} (h : RowAt B w v n cs) (hb : Below B w w') : RowAt B w' v n cs := by
  obtain ⟨a, cap, h1, h2, h3, h4⟩ := h
  exact ⟨a, cap, h1, h2, h3, h4.imp id fun ⟨x, b, off, y1, y2, y3⟩ => ⟨x, b, off, y1, y2, rangeAt_below hb y2 y3⟩⟩
theorem RowAt.slice {B : Nat} {w : World} {v : Value} {n : Nat} {cs : List Value} (h : RowAt B w v n cs) : ∃ a cap, v = .slice a n cap := by
  obtain ⟨a, cap, h1, _⟩ := h; exact ⟨a, cap, h1⟩
theorem RowAt.le {B : Nat} {w : World} {v : Value} {n : Nat} {cs : List Value} (h : RowAt B w v n cs) : n ≤ maxLen := by
  obtain ⟨a, cap, _, h1, h2, _⟩ := h; omega
/-- Where the cells of a row that is not empty lie. -/
theorem RowAt.place {B : Nat} {w : World} {a : Option Addr} {n cap : Nat} {cs : List Value} (h : RowAt B w (.slice a n cap) n cs) (hn : 0 < n) : ∃ b off, a = some ⟨b, off, none⟩ ∧ b < B ∧ w.rangeAt b off cs := by
  obtain ⟨a', cap', e, _, _, h | ⟨_, b, off, h1, h2, h3⟩⟩ := h
  · omega
  · cases e; exact ⟨b, off, h1, h2, h3⟩
/-- A load of a struct whose cells are known, wherever it stands. -/
theorem run_loadVar_range {P : Program} (w : World) (b off : Nat) (ty : TypeId) (cs : Array Value) (d : TypeDesc) (hg : ∀ j u, cs.toList[j]? = some u → w.cell? ⟨b, off + j, none⟩ = some u)
    (hu : P.underlying ty = some d) (hd : (match d with | .struct _ | .array _ _ => true | _ => false) = true) (hi : (P.info? ty).map (·.size) = some cs.size) : (loadVar ty ⟨b, off, none⟩).run P w = .ok (.agg cs) w := by
  have hl : (loadCells ⟨b, off, none⟩ cs.toList.length).run P w = .ok cs.toList.toArray w :=
    run_loadCells_list (P := P) w ⟨b, off, none⟩ cs.toList (fun j v hv => by
      have hadd : (⟨b, off, none⟩ : Addr).add j = ⟨b, off + j, none⟩ := Addr.add_mid b off j
      rw [hadd]
      exact hg j v hv)
  cases hq : P.info? ty with
  | none => simp [hq] at hi
  | some i =>
    have hs : i.size = cs.size := by simpa [hq] using hi
    have hagg : (isAgg ty).run P w = .ok true w := by
      unfold isAgg
      rw [Sem.run_bind, run_underlying hu w]
      cases d <;> simp_all
    simp only [Array.length_toList, Array.toArray_toList] at hl
    simp [loadVar, Sem.run_bind, hagg, sizeOf, typeInfo, hq, hs, hl]
theorem wpList_load_range {P : Program} {ops : Array Oper} {rest : List Oper} {o : Oper} {a : Act} {w : World} {Q : Exit → Act → World → Prop} (hgd : o.guard = none) (ty : TypeId) (x : Operand) (ho : o.op = .load ty x)
    (b off : Nat) (hx : a.eval x = .pointer (some ⟨b, off, none⟩)) (cs : Array Value) (d : TypeDesc) (hg : ∀ j u, cs.toList[j]? = some u → w.cell? ⟨b, off + j, none⟩ = some u)
    (hu : P.underlying ty = some d) (hd : (match d with | .struct _ | .array _ _ => true | _ => false) = true) (hi : (P.info? ty).map (·.size) = some cs.size) (h : wpList P ops Q rest (a.put o.dst (.agg cs)) w) : wpList P ops Q (o :: rest) a w :=
  wpList_plain hgd fun _ hK => by
    unfold Oper.wp execOp
    simp only [ho, hx, Instr.loadAt, Instr.sureAddr, Sem.run_bind, Sem.run_pure, Result.andThen_ok, run_loadVar_range w b off ty cs d hg hu hd hi]
    exact hK _ _ h

/-- The cells of a row of equal pieces. -/
theorem flat_at {α : Type} {cells : α → List Value} {k : Nat} (hl : ∀ a, (cells a).length = k) : ∀ (l : List α) (i : Nat) (h : i < l.length) (q : Nat), q < k → (l.flatMap cells)[i * k + q]? = (cells l[i])[q]? := by
  intro l
  induction l with
  | nil => intro i h; simp at h
  | cons a l ih =>
    intro i h q hq
    rw [List.flatMap_cons]
    cases i with
    | zero => rw [Nat.zero_mul, Nat.zero_add, List.getElem?_append_left (by rw [hl]; exact hq)]; rfl
    | succ i =>
      rw [List.getElem?_append_right (by rw [hl, Nat.succ_mul]; omega), hl, show (i + 1) * k + q - k = i * k + q by rw [Nat.succ_mul]; omega, ih i (by simpa using h) q hq]
      rfl
/-- One element of a row: its cells. -/
theorem piece_cells {α : Type} {cells : α → List Value} {k : Nat} (hl : ∀ a, (cells a).length = k) {w : World} {b off : Nat} {l : List α} (h : w.rangeAt b off (l.flatMap cells)) {i : Nat} (hi : i < l.length) : ∀ j u, (cells l[i])[j]? = some u → w.cell? ⟨b, off + i * k + j, none⟩ = some u := by
  intro j u hu
  have hj : j < k := by
    have := (List.getElem?_eq_some_iff.1 hu).1
    rw [hl] at this
    exact this
  rw [Nat.add_assoc]
  exact h (i * k + j) u (by rw [flat_at hl l i hi j hj]; exact hu)

/-- A style rule's reference: its origin, its number, its weight. -/
structure Rf where
  a : Int
  b : Int
  x : Int
  y : Int
  z : Int
instance : Inhabited Rf := ⟨⟨0, 0, 0, 0, 0⟩⟩
def Rf.cells (r : Rf) : List Value := [.int .i64 r.a, .int .i64 r.b, .int .i64 r.x, .int .i64 r.y, .int .i64 r.z]
structure Rf.ok (r : Rf) : Prop where
  a : I64 r.a
  b : I64 r.b
/-- An answer. -/
structure Ans where
  err : Int
  id : Int
  k : Int
  n : Int
  d : Int
  word : ByteArray
  text : ByteArray
  has : Bool
  rv : Value
  rules : List Rf
  count : Int
abbrev Ans.v (a : Ans) : Value := .agg #[.int .i64 a.err, .int .i64 a.id, .int .i64 a.k, .int .i64 a.n, .int .i64 a.d, .string a.word, .string a.text, .bool a.has, a.rv, .int .i64 a.count]
structure AnsAt (w : World) (a : Ans) : Prop where
  err : I64 a.err
  id : I64 a.id
  n : I64 a.n
  d : I64 a.d
  text : a.text.size ≤ 1099511627776
  rules : RowAt w.heap.size w a.rv a.rules.length (a.rules.flatMap Rf.cells)
  ok : ∀ r ∈ a.rules, r.ok
  few : a.rules.length ≤ 1099511627776
  count : I64 a.count
/-- What an operation is told, as a text. -/
def refS (r : Rf) : ByteArray := ⟨#[32]⟩ ++ bstr (Lib.itoa r.a) ++ ⟨#[58]⟩ ++ bstr (Lib.itoa r.b)
def refsS (l : List Rf) : ByteArray := l.foldl (fun s r => s ++ refS r) ⟨#[114, 117, 108, 101, 115]⟩
end Go.Proofs.YtihlneenajlhoaaGreatDoor
/-
  The map of the lines by their first words in memory: what looking up, laying in, counting and ranging do; jalousie script.rows and script.first. Condition: the words' lengths fit.
-/
set_option linter.unusedSimpArgs false
set_option linter.unusedVariables false
namespace Go.Proofs.YtihlneenajlhoaaGreatDoor
open Go Go.RowKit

/-- How many words stand behind a line's first one, and what they make. -/
structure Rw where
  k : Int
  n : Int
  g : Nat
deriving DecidableEq
def Rw.v (r : Rw) : Value := .agg #[.int .i64 r.k, .int .i64 r.n, .func (.func r.g) #[] #[]]
def Rw.d (r : Rw) : DataW Unit := .agg [.lit (.int .i64 r.k), .lit (.int .i64 r.n), .lit (.int .i64 (r.g : Int))]
def noRow : Value := .agg #[.int .i64 0, .int .i64 0, .nilFunc]
/-- How an element of the map reads. -/
def rowE (v : Value) : Option (DataW Unit × List MemPlace) := match v with
  | .agg c => (match c.toList with
    | [.int .i64 k, .int .i64 n, .func (.func g) p q] => if p = #[] ∧ q = #[] then some ((Rw.mk k n g).d, []) else none
    | [.int .i64 0, .int .i64 0, .nilFunc] => some (.nil, [])
    | _ => none)
  | _ => none
theorem rowE_nil {v : Value} {ps : List MemPlace} (h : rowE v = some (.nil, ps)) : v = noRow := by
  unfold rowE at h
  split at h
  · rename_i c
    split at h
    · split at h
      · cases h
      · cases h
    · rename_i hc
      unfold noRow
      congr 1
      apply Array.ext'
      exact hc
    · cases h
  · cases h
theorem rowE_at {v : Value} {b : Rw} {ps : List MemPlace} (h : rowE v = some (b.d, ps)) : v = b.v := by
  unfold rowE at h
  split at h
  · rename_i c
    split at h
    · rename_i k n g p q hc
      split at h
      · rename_i hpq
        obtain ⟨rfl, rfl⟩ := hpq
        simp only [Option.some.injEq, Prod.mk.injEq, Rw.d, DataW.agg.injEq, List.cons.injEq, DataW.lit.injEq, Lit.int.injEq, true_and, and_true] at h
        obtain ⟨⟨h1, h2, h3⟩, _⟩ := h
        have h3' : g = b.g := Int.ofNat_inj.1 h3
        unfold Rw.v
        congr 1
        apply Array.ext'
        rw [hc, h1, h2, h3']
      · cases h
    · cases h
    · cases h
  · cases h
theorem rowE_of (b : Rw) : rowE b.v = some (b.d, []) := by
  unfold rowE Rw.v
  simp
theorem isKL {x : List UInt8} : WideAt.IsKeyLit (.string x) := by unfold WideAt.IsKeyLit; trivial
theorem nodup_of_fst : ∀ {l : List (List UInt8 × Rw)}, (l.map (·.1)).Nodup → l.Nodup
  | [], _ => List.nodup_nil
  | p :: l, h => by
    rw [List.map_cons, List.nodup_cons] at h
    exact List.nodup_cons.2 ⟨fun hm => h.1 (List.mem_map_of_mem hm), nodup_of_fst h.2⟩
theorem eq_of_fst : ∀ {l : List (List UInt8 × Rw)}, (l.map (·.1)).Nodup → ∀ {p q}, p ∈ l → q ∈ l → p.1 = q.1 → p = q
  | [], _, _, _, h, _, _ => by cases h
  | a :: l, h, p, q, hp, hq, e => by
    rw [List.map_cons, List.nodup_cons] at h
    rcases List.mem_cons.1 hp with h1 | h1
    · rcases List.mem_cons.1 hq with h2 | h2
      · rw [h1, h2]
      · exact absurd (show a.1 ∈ l.map (·.1) by rw [← h1, e]; exact List.mem_map_of_mem (f := (·.1)) h2) h.1
    · rcases List.mem_cons.1 hq with h2 | h2
      · exact absurd (show a.1 ∈ l.map (·.1) by rw [← h2, ← e]; exact List.mem_map_of_mem (f := (·.1)) h1) h.1
      · exact eq_of_fst h.2 h1 h2 e
theorem keyed : Maps.Keyed Tryz.prog 9 := Maps.string_keyed Tryz.underlying9
abbrev KL (x : List UInt8) : Lit := .string x
theorem keyOf_ok {x : List UInt8} (h : x.length ≤ maxLen) : keyOf Tryz.prog 9 (.string (bstr x)) = some (KL x) := by
  have := WideMaps.keyOf_string_mk (P := Tryz.prog) Tryz.underlying9 (s := bstr x) (by rw [bstr_size]; exact h)
  rw [bstr_toList] at this
  exact this
/-- What a datum says of the map of the elements f. -/
structure Reads (D : DataW Unit) (f : List (List UInt8 × Rw)) : Prop where
  size : Maps.size D = f.length
  at_ : ∀ x b, (x, b) ∈ f → ∀ z, D.atKey (KL x) z = b.d
  has : ∀ kl, Maps.has D kl = true ↔ ∃ p ∈ f, kl = KL p.1
structure MapIs (w : World) (B : Nat) (f : List (List UInt8 × Rw)) : Prop where
  own : ∃ D, w.ownsMap Tryz.prog 9 rowE B f.length D ∧ Reads D f
  keys : (f.map (·.1)).Nodup
  wf : ∀ p ∈ f, p.1.length ≤ maxLen

theorem MapIs.made (w : World) : MapIs (w.alloc (.map #[] 0)) w.heap.size [] :=
  ⟨⟨_, World.ownsMap_made w Tryz.prog 9 rowE, ⟨rfl, fun x b h => (by cases h), fun kl => ⟨fun h => (by cases h), fun ⟨p, h, _⟩ => (by cases h)⟩⟩⟩, List.nodup_nil, fun p h => by cases h⟩
theorem MapIs.lt {w : World} {B : Nat} {f : List (List UInt8 × Rw)} (h : MapIs w B f) : B < w.heap.size := by obtain ⟨D, h1, _⟩ := h.own; exact h1.lt
theorem MapIs.kept {w w' : World} {B : Nat} {f : List (List UInt8 × Rw)} (h : MapIs w B f) (hb : w'.heap[B]? = w.heap[B]?) : MapIs w' B f := by
  obtain ⟨D, ⟨es, clock, h1, h2⟩, hr⟩ := h.own
  exact ⟨⟨D, ⟨es, clock, hb.trans h1, h2⟩, hr⟩, h.keys, h.wf⟩
theorem MapIs.below {w w' : World} {B C : Nat} {f : List (List UInt8 × Rw)} (h : MapIs w B f) (hb : Below C w w') (hc : B < C) : MapIs w' B f := h.kept (hb.block B hc)

theorem MapIs.look_some {w : World} {B : Nat} {f : List (List UInt8 × Rw)} (h : MapIs w B f) {x : List UInt8} {b : Rw} (hx : (x, b) ∈ f) : (Instr.lookup 67 (.map (some B)) (.string (bstr x)) false).run Tryz.prog w = .ok b.v w := by
  obtain ⟨D, h1, hr⟩ := h.own
  obtain ⟨v, ps, hrun, hv⟩ := h1.lookup keyed Tryz.underlying67 (Tryz.zeroValue65 w) (zd := .nil) (zp := []) rfl (keyOf_ok (h.wf _ hx))
  rw [hr.at_ x b hx] at hv
  rw [hrun, rowE_at hv]
theorem MapIs.look_none {w : World} {B : Nat} {f : List (List UInt8 × Rw)} (h : MapIs w B f) {x : List UInt8} (hi : x.length ≤ maxLen) (hx : x ∉ f.map (·.1)) : (Instr.lookup 67 (.map (some B)) (.string (bstr x)) false).run Tryz.prog w = .ok noRow w := by
  obtain ⟨D, h1, hr⟩ := h.own
  obtain ⟨v, ps, hrun, hv⟩ := h1.lookup keyed Tryz.underlying67 (Tryz.zeroValue65 w) (zd := .nil) (zp := []) rfl (keyOf_ok hi)
  have hno : Maps.has D (KL x) = false := by
    cases hh : Maps.has D (KL x) with
    | false => rfl
    | true =>
      obtain ⟨p, hp, e⟩ := (hr.has _).1 hh
      simp only [KL, Lit.string.injEq] at e
      exact absurd (e ▸ List.mem_map_of_mem (f := (·.1)) hp) hx
  rw [Maps.atKey_of_not_has hno] at hv
  rw [hrun, rowE_nil hv]
theorem MapIs.len {w : World} {B : Nat} {f : List (List UInt8 × Rw)} (h : MapIs w B f) (ty : TypeId) : (Builtin.len_ #[67] ty #[.map (some B)]).run Tryz.prog w = .ok (.int .i64 f.length) w := by
  obtain ⟨D, h1, hr⟩ := h.own
  rw [h1.len Tryz.underlying67 ty, hr.size]
theorem reads_put {D : DataW Unit} {f : List (List UInt8 × Rw)} {x : List UInt8} {b : Rw} (h : Reads D f) (ht : Maps.Tidy D) (hx : x ∉ f.map (·.1)) : Reads (D.put (KL x) b.d) (f ++ [(x, b)]) := by
  have hno : Maps.has D (KL x) = false := by
    cases hh : Maps.has D (KL x) with
    | false => rfl
    | true =>
      obtain ⟨p, hp, e⟩ := (h.has _).1 hh
      simp only [KL, Lit.string.injEq] at e
      exact absurd (e ▸ List.mem_map_of_mem (f := (·.1)) hp) hx
  refine ⟨?_, ?_, ?_⟩
  · rw [Maps.size_put ht, hno, h.size]; simp
  · intro y c hy z
    rcases List.mem_append.1 hy with hy | hy
    · have hne : KL y ≠ KL x := fun e => by
        simp only [KL, Lit.string.injEq] at e
        exact hx (e ▸ List.mem_map_of_mem (f := (·.1)) hy)
      rw [Maps.atKey_put_other hne]
      exact h.at_ y c hy z
    · simp only [List.mem_singleton, Prod.mk.injEq] at hy
      obtain ⟨rfl, rfl⟩ := hy
      exact Maps.atKey_put_same ht.isMap isKL _ _
  · intro kl
    by_cases e : kl = KL x
    · subst e
      rw [Maps.has_put_same ht.isMap isKL]
      exact ⟨fun _ => ⟨(x, b), by simp, rfl⟩, fun _ => rfl⟩
    · rw [Maps.has_put_other e, h.has]
      constructor
      · rintro ⟨p, hp, rfl⟩; exact ⟨p, List.mem_append_left _ hp, rfl⟩
      · rintro ⟨p, hp, rfl⟩
        rcases List.mem_append.1 hp with hp | hp
        · exact ⟨p, hp, rfl⟩
        · simp only [List.mem_singleton] at hp; subst hp; exact absurd rfl e
/-- A new element is laid in. -/
theorem MapIs.put {w : World} {B : Nat} {f : List (List UInt8 × Rw)} (h : MapIs w B f) {x : List UInt8} {b : Rw} (hi : x.length ≤ maxLen) (hx : x ∉ f.map (·.1)) (hl : f.length < 1000000) :
    ∃ w', (Instr.mapUpdate 67 (.map (some B)) (.string (bstr x)) b.v).run Tryz.prog w = .ok () w' ∧ MapIs w' B (f ++ [(x, b)]) ∧ w.grownBy w' (some B) := by
  obtain ⟨D, h1, hr⟩ := h.own
  obtain ⟨w', hrun, h2, h3⟩ := h1.update keyed Tryz.underlying67 (by unfold maxLen; omega) (keyOf_ok hi) (val := b.v) (d := b.d) (ps := []) rfl
  refine ⟨w', hrun, ⟨⟨_, by simpa using h2, reads_put hr (h1.tidy keyed) hx⟩, ?_, ?_⟩, h3⟩
  · rw [List.map_append, List.nodup_append]
    refine ⟨h.keys, by simp, ?_⟩
    intro a ha c hc e
    simp only [List.map_cons, List.map_nil, List.mem_singleton] at hc
    exact hx (by rw [← hc, ← e]; exact ha)
  · intro p hp
    rcases List.mem_append.1 hp with hp | hp
    · exact h.wf p hp
    · simp only [List.mem_singleton] at hp; subst hp; exact hi

/-- A range over the map under way: what is still to come. -/
def RangeIs (w : World) (B r : Nat) (f rest : List (List UInt8 × Rw)) (cnt : Nat) : Prop :=
  ∃ D left, Reads D f ∧ w.ranges Tryz.prog 9 rowE B r f.length D left cnt ∧ (∀ kl, left kl = true ↔ ∃ p ∈ rest, kl = KL p.1) ∧ (∀ p ∈ rest, p ∈ f) ∧ (rest.map (·.1)).Nodup
theorem RangeIs.left {w : World} {B r : Nat} {f rest : List (List UInt8 × Rw)} {cnt : Nat} (h : RangeIs w B r f rest cnt) : w.rangeLeft B r = cnt := by
  obtain ⟨D, left, _, h2, _⟩ := h; exact h2.left_eq
theorem RangeIs.kept {w w' : World} {B r : Nat} {f rest : List (List UInt8 × Rw)} {cnt : Nat} (h : RangeIs w B r f rest cnt) (hB : w'.heap[B]? = w.heap[B]?) (hr : w'.heap[r]? = w.heap[r]?) : RangeIs w' B r f rest cnt := by
  obtain ⟨D, left, h1, ⟨es, clock, since, seen, c0, g1, g2, g3, g4, g5, g6⟩, h3⟩ := h
  exact ⟨D, left, h1, ⟨es, clock, since, seen, c0, hB.trans g1, g2, g3, g4, hr.trans g5, g6⟩, h3⟩
theorem RangeIs.lt {w : World} {B r : Nat} {f rest : List (List UInt8 × Rw)} {cnt : Nat} (h : RangeIs w B r f rest cnt) : B < w.heap.size ∧ r < w.heap.size ∧ r ≠ B := by
  obtain ⟨D, left, _, h2, _⟩ := h; exact ⟨h2.owns.lt, h2.lt, h2.ne⟩
theorem MapIs.range {w : World} {B : Nat} {f : List (List UInt8 × Rw)} (h : MapIs w B f) : ∃ w', (Instr.range 67 (.map (some B))).run Tryz.prog w = .ok (.pointer (some ⟨w.heap.size, 0, none⟩)) w' ∧ RangeIs w' B w.heap.size f f f.length ∧ w.grownBy w' none ∧ w'.heap.size = w.heap.size + 1 := by
  obtain ⟨D, h1, hr⟩ := h.own
  obtain ⟨w', hrun, h2, h3, h4⟩ := h1.range keyed Tryz.underlying67
  exact ⟨w', hrun, ⟨D, Maps.has D, hr, (by rw [← hr.size] at h2 ⊢; exact h2), hr.has, fun p hp => hp, h.keys⟩, h3, h4⟩
theorem RangeIs.next {w : World} {B r : Nat} {f rest : List (List UInt8 × Rw)} {cnt : Nat} (h : RangeIs w B r f rest cnt) (ty : TypeId) :
    (rest = [] ∧ (Instr.next (.pointer (some ⟨r, 0, none⟩)) false ty).run Tryz.prog w = .ok (.tuple #[.bool false]) w) ∨
    ∃ x b w' cnt', (x, b) ∈ rest ∧ (Instr.next (.pointer (some ⟨r, 0, none⟩)) false ty).run Tryz.prog w = .ok (.tuple #[.bool true, .string (bstr x), b.v]) w' ∧ RangeIs w' B r f (rest.erase (x, b)) cnt' ∧ cnt' < cnt ∧
      w.grownBy w' (some r) ∧ w'.heap.size = w.heap.size ∧ (Instr.entry (.pointer (some ⟨r, 0, none⟩))).run Tryz.prog w' = .ok (.tuple #[.string (bstr x), b.v]) w' := by
  obtain ⟨D, left, hr, h2, hl, hf, hn⟩ := h
  rcases h2.next keyed ty with ⟨h0, hk, hrun⟩ | ⟨key, v, kl, y, w', cnt', hkey, hlk, hv, hat, hrun, hrg, hlt, hgr, hsz, hen⟩
  · refine .inl ⟨?_, hrun⟩
    cases rest with
    | nil => rfl
    | cons p l =>
      have := (hl (KL p.1)).2 ⟨p, List.mem_cons_self, rfl⟩
      rw [hk] at this
      cases this
  · obtain ⟨⟨x, b⟩, hp, rfl⟩ := (hl kl).1 hlk
    obtain ⟨x', rfl, e, _⟩ := Maps.keyOf_str Tryz.underlying9 hkey
    simp only [KL, Lit.string.injEq] at e
    subst e
    have hd := hr.at_ x b (hf _ hp)
    have e2 : y = (b.d, y.2) := Prod.ext ((hat .nil).symm.trans (hd .nil)) rfl
    rw [e2] at hv
    obtain rfl := rowE_at hv
    have hnd : rest.Nodup := nodup_of_fst hn
    refine .inr ⟨x, b, w', cnt', hp, hrun, ⟨D, _, hr, hrg, fun kl => ?_, fun p hp => hf p (List.mem_of_mem_erase hp), hn.sublist (List.erase_sublist.map _)⟩, hlt, hgr, hsz, hen⟩
    simp only [Bool.and_eq_true, Bool.not_eq_true', hl]
    constructor
    · rintro ⟨⟨p, hp', rfl⟩, hs⟩
      refine ⟨p, (List.mem_erase_of_ne fun e => ?_).2 hp', rfl⟩
      subst e
      have := WideAt.sameKey_self (a := KL x) isKL
      rw [hs] at this
      cases this
    · rintro ⟨p, hp', rfl⟩
      have hm := List.mem_of_mem_erase hp'
      refine ⟨⟨p, hm, rfl⟩, Maps.sameKey_ne fun e => ?_⟩
      simp only [KL, Lit.string.injEq] at e
      have : p = (x, b) := by
        exact eq_of_fst hn hm hp e
      subst this
      exact (List.Nodup.not_mem_erase hnd) hp'
section
variable {ops : Array Oper} {rest : List Oper} {o : Oper} {a : Act} {Q : Exit → Act → World → Prop} {w : World} {B : Nat} {f : List (List UInt8 × Rw)}
/-- m[k] = row, k not there, as a literal lays it. -/
theorem wpl_row_ins (hg : o.guard = none) (m x v : Operand) (hop : o.op = Op.insert 67 m x v) (hm : a.eval m = .map (some B)) (h : MapIs w B f) (c : List UInt8) (hx : a.eval x = .string ⟨c.toArray⟩) (k n : Int) (g : Nat) (hv : a.eval v = .agg #[.int .i64 k, .int .i64 n, .func (.func g) #[] #[]]) (hi : c.length ≤ maxLen) (hk : c ∉ f.map (·.1)) (hl : f.length < 1000000)
    (hS : ∀ w', MapIs w' B (f ++ [(c, ⟨k, n, g⟩)]) → w.grownBy w' (some B) → wpList Tryz.prog ops Q rest (a.put o.dst undef) w') : wpList Tryz.prog ops Q (o :: rest) a w := by
  refine wpList_plain hg fun K' hK' => ?_
  obtain ⟨w', hrun, h1, h2⟩ := h.put hi hk hl (b := ⟨k, n, g⟩)
  have hrun' : (Instr.mapUpdate 67 (.map (some B)) (.string ⟨c.toArray⟩) (.agg #[.int .i64 k, .int .i64 n, .func (.func g) #[] #[]])).run Tryz.prog w = .ok () w' := hrun
  unfold Oper.wp
  simp [execOp, hop, hm, hx, hv, hrun', Result.andThen]
  exact hK' _ _ (hS w' h1 h2)
theorem wpl_row_range (hg : o.guard = none) (m : Operand) (hop : o.op = Op.range 67 m) (hm : a.eval m = .map (some B)) (h : MapIs w B f)
    (hS : ∀ w', RangeIs w' B w.heap.size f f f.length → w.grownBy w' none → w'.heap.size = w.heap.size + 1 → wpList Tryz.prog ops Q rest (a.put o.dst (.pointer (some ⟨w.heap.size, 0, none⟩))) w') : wpList Tryz.prog ops Q (o :: rest) a w := by
  refine wpList_plain hg fun K' hK' => ?_
  obtain ⟨w', hrun, h1, h2, h3⟩ := h.range
  unfold Oper.wp
  simp [execOp, hop, hm, hrun, Result.andThen]
  exact hK' _ _ (hS w' h1 h2 h3)
theorem wpl_row_next {r cnt : Nat} {left : List (List UInt8 × Rw)} (hg : o.guard = none) (it : Operand) (hop : o.op = Op.next it false) (hit : a.eval it = .pointer (some ⟨r, 0, none⟩)) (h : RangeIs w B r f left cnt)
    (hDone : left = [] → wpList Tryz.prog ops Q rest (a.put o.dst (.tuple #[.bool false])) w)
    (hMore : ∀ (x : List UInt8) (b : Rw) (w' : World) (cnt' : Nat), (x, b) ∈ left → RangeIs w' B r f (left.erase (x, b)) cnt' → cnt' < cnt → w.grownBy w' (some r) → w'.heap.size = w.heap.size →
      (Instr.entry (.pointer (some ⟨r, 0, none⟩))).run Tryz.prog w' = .ok (.tuple #[.string (bstr x), b.v]) w' → wpList Tryz.prog ops Q rest (a.put o.dst (.tuple #[.bool true, .string (bstr x), b.v])) w') :
    wpList Tryz.prog ops Q (o :: rest) a w := by
  refine wpList_plain hg fun K' hK' => ?_
  unfold Oper.wp
  rcases h.next o.type with ⟨h0, hrun⟩ | ⟨x, b, w', cnt', hx, hrun, h1, h2, h3, h4, h5⟩
  · simp [execOp, hop, hit, hrun, Result.andThen]
    exact hK' _ _ (hDone h0)
  · simp [execOp, hop, hit, hrun, Result.andThen]
    exact hK' _ _ (hMore x b w' cnt' hx h1 h2 h3 h4 h5)
end
/-- The lines by their first words. -/
def rowsL : List (List UInt8 × Rw) := [([115, 104, 101, 101, 116], ⟨1, 2, 54⟩), ([118, 105, 101, 119], ⟨2, 2, 56⟩), ([102, 111, 110, 116], ⟨3, 1, 52⟩), ([99, 111, 108, 111, 114], ⟨13, 1, 52⟩), ([112, 114, 105, 110, 116], ⟨14, 1, 57⟩), ([119, 111, 114, 100], ⟨4, 2, 58⟩), ([105, 110, 115, 101, 114, 116], ⟨5, 3, 59⟩), ([114, 101, 109, 111, 118, 101], ⟨6, 1, 49⟩), ([115, 101, 116], ⟨7, 3, 60⟩), ([117, 110, 115, 101, 116], ⟨8, 2, 51⟩), ([98, 111, 120], ⟨9, 5, 61⟩), ([97, 115, 107], ⟨10, 2, 51⟩), ([99, 117, 115, 116, 111, 109], ⟨11, 2, 51⟩), ([114, 117, 108, 101, 115], ⟨12, 1, 49⟩), ([99, 111, 117, 110, 116], ⟨15, 0, 62⟩)]
set_option maxRecDepth 100000 in
set_option maxHeartbeats 4000000 in
/-- script.rows. -/
theorem rows_any (w : World) : Calls Tryz.prog 27 #[] w fun e w' => e = .returned (.map (some w.heap.size)) ∧ MapIs w' w.heap.size rowsL ∧ Below w.heap.size w w' := by
  have hmm := @run_makeMap Tryz.prog
  have HM : Hid (MapIs (w.alloc (.map #[] 0)) w.heap.size []) := Lib.hid (MapIs.made w)
  have HB : Hid (Below w.heap.size w (w.alloc (.map #[] 0))) := Lib.hid (below_new w _)
  go_enter Tryz.func27, Tryz.ntmps27
  go_wp2_with (refine wpl_row_ins rfl _ _ _ rfl rfl HM.out _ rfl _ _ _ rfl (by decide) (by decide) (by decide) ?_; intro w' hm' hg'; clear HM; have HM := Lib.hid hm'; have HB2 := Lib.hid (HB.out.grown hg' HB.out.size (fun k hk => by cases hk; exact Nat.le_refl _)); clear HB; have HB := Lib.hid HB2.out; clear HB2 hm' hg')
  go_ret
  exact ⟨rfl, HM.out, HB.out⟩
theorem kinds_once : ∀ p ∈ rowsL, ∀ q ∈ rowsL, p.2.k = q.2.k → p = q := by decide
/-- The first word of a kind's line. -/
def firstS (k : Int) : List UInt8 := match rowsL.find? (fun p => p.2.k == k) with | some p => p.1 | none => []
theorem first_at {p : List UInt8 × Rw} (h : p ∈ rowsL) : firstS p.2.k = p.1 := by
  unfold firstS
  cases hf : rowsL.find? (fun q => q.2.k == p.2.k) with
  | none => exact absurd (List.find?_eq_none.1 hf p h) (by simp)
  | some q =>
    have h1 := List.mem_of_find?_eq_some hf
    have h2 : q.2.k = p.2.k := by simpa using List.find?_some hf
    rw [kinds_once q h1 p h h2]
theorem first_no {k : Int} (h : ∀ p ∈ rowsL, p.2.k ≠ k) : firstS k = [] := by
  unfold firstS
  rw [List.find?_eq_none.2 fun p hp => by simpa using h p hp]
set_option maxRecDepth 100000 in
set_option maxHeartbeats 4000000 in
/-- script.first. -/
theorem first_any (k : Int) (w : World) : Calls Tryz.prog 75 #[.int .i64 k] w fun e w' => e = .returned (.string (bstr (firstS k))) ∧ Below w.heap.size w w' := by
  go_enter Tryz.func75, Tryz.ntmps75
  go_wp2_with (first
    | (go_at_call 27; refine (rows_any w).mono ?_; rintro e w1 ⟨rfl, hm1, hb1⟩; have HM := Lib.hid hm1; have HB1 := Lib.hid hb1; clear hm1 hb1)
    | (at_range; refine wpl_row_range rfl _ rfl rfl HM.out ?_; intro w2 hr2 hg2 hs2; have HR := Lib.hid hr2; have HB2 := Lib.hid (HB1.out.grown hg2 HB1.out.size (fun k hk => by cases hk)); have HS := Lib.hid hs2; clear hr2 hg2 hs2))
  go_frame
  have HR0 : Hid (∀ p ∈ rowsL, p ∈ rowsL ∨ p.2.k ≠ k) := Lib.hid (fun p hp => Or.inl hp)
  go_loopw [8] (fun _ wr => ∃ (left : List (List UInt8 × Rw)) (cnt : Nat), RangeIs wr w.heap.size w1.heap.size rowsL left cnt ∧ (∀ p ∈ rowsL, p ∈ left ∨ p.2.k ≠ k) ∧ Below w.heap.size w wr) (fun _ wr => wr.rangeLeft w.heap.size w1.heap.size)
  case atStart => exact ⟨rowsL, _, HR.out, HR0.out, HB2.out⟩
  case round =>
    obtain ⟨left, cnt, hrg, hno, hbl⟩ := hrel
    have HRG := Lib.hid hrg; have HNO := Lib.hid hno; have HBL := Lib.hid hbl
    clear hrg hno hbl HR HR0 HB2 HM
    go_wp2_with (at_next; refine wpl_row_next rfl _ rfl rfl HRG.out ?_ ?_)
    · intro hnil
      have HF : Hid (firstS k = []) := Lib.hid (first_no fun p hp => by
        rcases HNO.out p hp with h | h
        · rw [hnil] at h; cases h
        · exact h)
      clear hnil
      go_wp2
      go_ret
      exact ⟨ret_str HF.out.symm, HBL.out⟩
    · intro x b w3 cnt1 hx hrg1 hlt hg1 hs1 hen
      have HX := Lib.hid hx; have HRG1 := Lib.hid hrg1; have HLT := Lib.hid hlt
      have HB3 := Lib.hid (HBL.out.grown hg1 HBL.out.size (fun q hq => by cases hq; exact HB1.out.size))
      have HIN : Hid ((x, b) ∈ rowsL) := Lib.hid (by obtain ⟨_, _, _, _, _, h5, _⟩ := HRG.out; exact h5 _ hx)
      clear hx hrg1 hlt hg1 hs1
      obtain ⟨bk, bn, bg⟩ := b
      simp only [Rw.v] at hen ⊢
      by_cases hk : bk = k
      · subst hk
        have HF : Hid (firstS bk = x) := Lib.hid (first_at HIN.out)
        go_wp2
        go_ret
        exact ⟨ret_str HF.out.symm, HB3.out.alloc HB3.out.size _⟩
      · have hk' : (bk == k) = false := by simpa using hk
        have HK := Lib.hid hk; clear hk
        go_wp2
        have hlt := HRG1.out.lt
        have hrg2 := RangeIs.kept (w' := w3.alloc (.cells #[.int .i64 bk, .int .i64 bn, .func (.func bg) #[] #[]] 65)) HRG1.out (Below.heap_alloc _ _ _ hlt.1) (Below.heap_alloc _ _ _ hlt.2.1)
        refine ⟨⟨_, _, hrg2, fun p hp => ?_, HB3.out.alloc HB3.out.size _⟩, ?_⟩
        · rcases HNO.out p hp with h | h
          · by_cases e : p = (x, ⟨bk, bn, bg⟩)
            · right; rw [e]; exact HK.out
            · left; exact (List.mem_erase_of_ne e).2 h
          · exact Or.inr h
        · rw [hrg2.left, HRG.out.left]; exact HLT.out
end Go.Proofs.YtihlneenajlhoaaGreatDoor
/-
  Contracts, for a run of one goroutine, of what writes a line's words: (*script.writer).put, numbers, fractions. Condition: the writer's block is not the words' own; lengths that fit; strconv's table stands.
-/
set_option linter.unusedSimpArgs false
set_option linter.unusedVariables false
namespace Go.Proofs.YtihlneenajlhoaaGreatDoor
open Go Go.RowKit

/-- Words, a space ahead of each. -/
def putS (ss : List ByteArray) : List UInt8 := ss.flatMap fun s => 32 :: s.data.toList
theorem putS_take (ss : List ByteArray) (k : Nat) (h : k < ss.length) : putS (ss.take (k + 1)) = putS (ss.take k) ++ (32 :: ss[k].data.toList) := by
  unfold putS
  rw [List.take_add_one, List.getElem?_eq_getElem h, List.flatMap_append]
  simp
theorem putS_len (ss : List ByteArray) (k : Nat) : (putS (ss.take k)).length ≤ (putS ss).length := by
  have h : putS ss = putS (ss.take k) ++ putS (ss.drop k) := by
    unfold putS
    rw [← List.flatMap_append, List.take_append_drop]
  rw [h, List.length_append]
  omega
/-- What a call at a writer leaves: a writer, what stood beside it. -/
def Wrote (w : World) (b : Nat) (own : Option Nat) (l : List UInt8) (ok : Bool) (w' : World) : Prop :=
  ∃ own', Bld w' 123 [.bool ok] b own' l ∧ Fr w w' b own ∧ Own w own own'
theorem Wrote.refl {w : World} {b : Nat} {own : Option Nat} {l : List UInt8} {ok : Bool} (h : Bld w 123 [.bool ok] b own l) : Wrote w b own l ok w := ⟨own, h, Fr.refl _ _ _, Own.refl _ _⟩
/-- A call behind a call. -/
theorem Wrote.then {w w1 w2 : World} {b : Nat} {own own1 own2 : Option Nat} {l : List UInt8} {ok : Bool} (hf : Fr w w1 b own) (ho : Own w own own1) (h2 : Bld w2 123 [.bool ok] b own2 l) (hf2 : Fr w1 w2 b own1) (ho2 : Own w1 own1 own2) : Wrote w b own l ok w2 :=
  ⟨own2, h2, hf.trans hf2 ho, ho.trans hf.size ho2⟩
/-- The row of a builder is another block than c, which stood before the call and is not its row. -/
theorem Fr.keepOwn {w w1 : World} {b c : Nat} {own : Option Nat} (hf : Fr w w1 b own) (hc : c < w.heap.size) (hb : c ≠ b) (ho : some c ≠ own) : w1.heap[c]? = w.heap[c]? := hf.block c hc hb ho
theorem bld_flag {w : World} {b : Nat} {own : Option Nat} {l : List UInt8} {ok : Bool} (h : Bld w 123 [.bool ok] b own l) (ok' : Bool) : Bld (w.setCell ⟨b, 2, none⟩ (.bool ok')) 123 [.bool ok'] b own l := by
  refine h.imp (fun h => ?_) (fun h => ?_)
  all_goals
    obtain ⟨sl, h1, h2, h3, h4⟩ := h
    refine ⟨sl, ?_, ownsRow_setCell_below h2 (a := ⟨b, 2, none⟩) (Nat.lt_succ_self b) _, h3, h4⟩
    have := blk_set h1 2 (.bool ok')
    simp at this
    exact this
theorem bld_ok {w : World} {b : Nat} {own : Option Nat} {l : List UInt8} {ok : Bool} (h : Bld w 123 [.bool ok] b own l) : w.cell? ⟨b, 2, none⟩ = some (.bool ok) ∧ w.frozen? ⟨b, 2, none⟩ = false := by
  rcases h with h | h
  all_goals
    obtain ⟨sl, h1, _⟩ := h
    exact ⟨by rw [Lib.cell_of_heap h1]; rfl, Lib.frozen_of_heap h1 2⟩
/-- Texts side by side in a block. -/
def StrsAt (w : World) (c : Nat) (ss : List ByteArray) : Prop := w.heap[c]? = some (.cells (ss.map Value.string).toArray 9 (0, 0))
set_option maxRecDepth 100000 in
set_option maxHeartbeats 4000000 in
/-- (*script.writer).put. -/
theorem put_any (w : World) (b : Nat) (own : Option Nat) (l : List UInt8) (ok : Bool) (c : Nat) (ss : List ByteArray) (h : Bld w 123 [.bool ok] b own l) (hc : StrsAt w c ss) (hcb : c ≠ b) (hco : some c ≠ own) (hn : l.length + (putS ss).length ≤ 140737488355328) (hss : ss.length ≤ 1000) :
    Calls Tryz.prog 77 #[.pointer (some ⟨b, 0, none⟩), .slice (some ⟨c, 0, none⟩) ss.length ss.length] w fun e w' => e = .returned (.tuple #[]) ∧ Wrote w b own (l ++ putS ss) ok w' := by
  have HB := Lib.hid h; have HC := Lib.hid hc; have HCB := Lib.hid hcb; have HCO := Lib.hid hco; have HN := Lib.hid hn; have HSS := Lib.hid hss
  clear h hc hcb hco hn hss
  go_enter Tryz.func77, Tryz.ntmps77
  go_wp2
  go_loopw [8] (fun i wr => ∃ k : Nat, k ≤ ss.length ∧ i = .int .i64 k ∧ Wrote w b own (l ++ putS (ss.take k)) ok wr) (fun i _ => ss.length - (intOf i).toNat)
  case atStart => exact ⟨0, Nat.zero_le _, rfl, by simpa [putS] using Wrote.refl HB.out⟩
  case round =>
    obtain ⟨k, hk, rfl, own1, hb1, hf1, ho1⟩ := hrel
    have hkb : (k : Int) ≤ 1000 := by have := HSS.out; omega
    have HB1 := Lib.hid hb1; have HF1 := Lib.hid hf1; have HO1 := Lib.hid ho1
    clear hb1 hf1 ho1
    by_cases hlt : k < ss.length
    · have hclt := lt_of_block HC.out
      have hcell : wr.cell? ⟨c, k, none⟩ = some (.string ss[k]) := by
        have := HF1.out.keepOwn hclt HCB.out HCO.out
        rw [cell_of_row wr c k _ 9 (0, 0) (this.trans HC.out)]
        simp [hlt]
      have HX := Lib.hid (putS_take ss k hlt)
      have HL : Hid ((l ++ putS (ss.take k)).length + 1 + ss[k].size ≤ 140737488355328) := Lib.hid (by
        have h1 := putS_len ss (k + 1)
        have h3 : ss[k].data.toList.length = ss[k].size := by rw [Array.length_toList]; rfl
        rw [putS_take ss k hlt, List.length_append, List.length_cons, h3] at h1
        have := HN.out
        rw [List.length_append]
        omega)
      generalize ss[k] = s at hcell HX HL
      have HX2 : Hid (l ++ putS (ss.take (k + 1)) = (l ++ putS (ss.take k)) ++ [32] ++ s.data.toList) := Lib.hid (by rw [HX.out]; simp)
      generalize l ++ putS (ss.take k) = l0 at HB1 HL HX2
      clear HX
      go_wp2_with (first
        | (go_at_call 41; refine (writeByte_any _ 123 [.bool ok] b own1 l0 32 bt123 HB1.out (by have := HL.out; omega)).mono ?_; rintro e w1 ⟨rfl, own2, h2, hf2, ho2⟩; have HB2 : Hid (Bld w1 123 [.bool ok] b own2 (l0 ++ [32])) := Lib.hid (Or.inr h2); have HF2 := Lib.hid (HF1.out.trans hf2 HO1.out); have HO2 := Lib.hid (HO1.out.trans HF1.out.size ho2); clear h2 hf2 ho2)
        | (go_at_call 40; refine (writeString_any _ 123 [.bool ok] b own2 (l0 ++ [32]) s bt123 HB2.out (by have := HL.out; rw [List.length_append]; simp only [List.length_cons, List.length_nil]; omega)).mono ?_; rintro e w2 ⟨rfl, own3, h3, hf3, ho3⟩; have HW3 : Hid (Wrote w b own (l0 ++ [32] ++ s.data.toList) ok w2) := Lib.hid (Wrote.then HF2.out HO2.out (Or.inr h3) hf3 ho3); clear h3 hf3 ho3))
      refine ⟨⟨k + 1, by omega, by go_num, ?_⟩, by simp [intOf]; omega⟩
      rw [HX2.out]
      exact HW3.out
    · have : k = ss.length := by omega
      subst this
      have HE : Hid (l ++ putS (ss.take ss.length) = l ++ putS ss) := Lib.hid (by rw [List.take_length])
      go_wp2
      go_end0
      rw [← HE.out]
      exact ⟨rfl, own1, HB1.out, HF1.out, HO1.out⟩
def smallB (n : Int) : Bool := decide (-1000000000 < n) && decide (n < 1000000000)
theorem ok_take (f : Int → Bool) (ok : Bool) (ns : List Int) (k : Nat) (h : k < ns.length) : (ok && (ns.take (k + 1)).all f) = ((ok && (ns.take k).all f) && f ns[k]) := by
  rw [List.take_add_one, List.getElem?_eq_getElem h, List.all_append]
  simp [Bool.and_assoc]
def IntsIn (w : World) (c : Nat) (ns : List Int) : Prop := w.heap[c]? = some (.cells (ns.map (Value.int .i64)).toArray 3 (0, 0))
def numsS (ns : List Int) : List ByteArray := ns.map fun n => bstr (Lib.itoa n)
theorem putS_nums (ns : List Int) (h : ∀ n ∈ ns, I64 n) : (putS (numsS ns)).length ≤ 22 * ns.length := by
  induction ns with
  | nil => simp [putS, numsS]
  | cons n ns ih =>
    have h1 := ih (fun m hm => h m (List.mem_cons_of_mem _ hm))
    have h2 := itoaLen (h n List.mem_cons_self)
    rw [bstr_size] at h2
    have e : putS (numsS (n :: ns)) = 32 :: Lib.itoa n ++ putS (numsS ns) := by simp [putS, numsS, bstr]
    rw [e, List.length_append, List.length_cons, List.length_cons]
    omega
theorem putS_nums_take (ns : List Int) (k : Nat) (h : k < ns.length) : putS (numsS (ns.take (k + 1))) = putS (numsS (ns.take k)) ++ putS [bstr (Lib.itoa ns[k])] := by
  have e1 : numsS (ns.take (k + 1)) = (numsS ns).take (k + 1) := by simp [numsS]
  have e2 : numsS (ns.take k) = (numsS ns).take k := by simp [numsS]
  rw [e1, e2, putS_take (numsS ns) k (by simpa [numsS] using h)]
  simp [numsS, putS]
set_option maxRecDepth 100000 in
set_option maxHeartbeats 4000000 in
/-- (*script.writer).numbers. -/
theorem numbers_any (w : World) (b : Nat) (own : Option Nat) (l : List UInt8) (ok : Bool) (c : Nat) (ns : List Int) (h : Bld w 123 [.bool ok] b own l) (hc : IntsIn w c ns) (hcb : c ≠ b) (hco : some c ≠ own) (hn : l.length + 22 * ns.length ≤ 1407374883553) (hns : ns.length ≤ 1000) (hi : ∀ n ∈ ns, I64 n) (hp : Pow w) (hbw : ∀ w', Fr w w' b own → Pow w') :
    Calls Tryz.prog 76 #[.pointer (some ⟨b, 0, none⟩), .slice (some ⟨c, 0, none⟩) ns.length ns.length] w fun e w' => e = .returned (.tuple #[]) ∧ Wrote w b own (l ++ putS (numsS ns)) (ok && ns.all smallB) w' := by
  have HB := Lib.hid h; have HC := Lib.hid hc; have HCB := Lib.hid hcb; have HCO := Lib.hid hco; have HN := Lib.hid hn; have HNS := Lib.hid hns; have HI := Lib.hid hi; have HP := Lib.hid hbw
  clear h hc hcb hco hn hns hi hp hbw
  go_enter Tryz.func76, Tryz.ntmps76
  go_wp2
  go_loopw [8] (fun i wr => ∃ k : Nat, k ≤ ns.length ∧ i = .int .i64 k ∧ Wrote w b own (l ++ putS (numsS (ns.take k))) (ok && (ns.take k).all smallB) wr) (fun i _ => ns.length - (intOf i).toNat)
  case atStart => exact ⟨0, Nat.zero_le _, rfl, by simpa [putS, numsS] using Wrote.refl HB.out⟩
  case round =>
    obtain ⟨k, hk, rfl, own1, hb1, hf1, ho1⟩ := hrel
    have hkb : (k : Int) ≤ 1000 := by have := HNS.out; omega
    have HB1 := Lib.hid hb1; have HF1 := Lib.hid hf1; have HO1 := Lib.hid ho1
    clear hb1 hf1 ho1
    by_cases hlt : k < ns.length
    · have hclt := lt_of_block HC.out
      have hcell : wr.cell? ⟨c, k, none⟩ = some (.int .i64 ns[k]) := by
        have := HF1.out.keepOwn hclt HCB.out HCO.out
        rw [cell_of_row wr c k _ 3 (0, 0) (this.trans HC.out)]
        simp [hlt]
      have HX := Lib.hid (putS_nums_take ns k hlt)
      have HO := Lib.hid (ok_take smallB ok ns k hlt)
      have HI1 := Lib.hid (HI.out ns[k] (List.getElem_mem hlt))
      have hz := itoaLen HI1.out
      have HL : Hid ((l ++ putS (numsS (ns.take k))).length + (putS [bstr (Lib.itoa ns[k])]).length ≤ 1407374883553) := Lib.hid (by
        have h1 := putS_nums (ns.take (k + 1)) (fun n hn => HI.out n (List.mem_of_mem_take hn))
        rw [putS_nums_take ns k hlt, List.length_append, List.length_take] at h1
        have := HN.out
        rw [List.length_append]
        omega)
      obtain ⟨hok, hfz⟩ := bld_ok HB1.out
      have hs : smallB ns[k] = (decide (-1000000000 < ns[k]) && decide (ns[k] < 1000000000)) := rfl
      generalize ns[k] = n at hcell HX HO HI1 HL hs hz
      have HX2 : Hid (l ++ putS (numsS (ns.take (k + 1))) = (l ++ putS (numsS (ns.take k))) ++ putS [bstr (Lib.itoa n)]) := Lib.hid (by rw [HX.out]; simp)
      generalize l ++ putS (numsS (ns.take k)) = l0 at HB1 HL HX2
      generalize (ok && (ns.take k).all smallB) = ok0 at HB1 hok HO
      clear HX
      cases ok0 <;> cases t1 : decide (-1000000000 < n) <;> cases t2 : decide (n < 1000000000)
      all_goals
        rw [t1, t2] at hs
        have HS := Lib.hid hs; clear hs
        go_wp2_with (first
          | (go_at_call 34; refine (itoa_any n _ HI1.out (HP.out _ (HF1.out.trans (Fr.set 2 _) HO1.out))).mono ?_; rintro e w1 ⟨rfl, hb1⟩; have HB2 := Lib.hid (Bld.below (bld_flag HB1.out _) hb1); have HF2 := Lib.hid (HF1.out.trans ((Fr.set 2 _).trans (Fr.of_below hb1) (Own.refl _ _)) HO1.out); have HO2 : Hid (Own w own own1) := HO1; have HSZ : Hid (wr.heap.size ≤ w1.heap.size) := Lib.hid (by have := hb1.size; simpa [World.setCell] using this); clear hb1)
          | (go_at_call 77; refine (put_any _ b own1 l0 _ w1.heap.size [bstr (Lib.itoa n)] (HB2.out.below (below_new _ _)) (heap_alloc_at _ _) (Nat.ne_of_gt HB2.out.lt) (fun e => by have := HB2.out.own_lt w1.heap.size e.symm; omega) (by have := HL.out; omega) (by simp)).mono ?_; rintro e w2 ⟨rfl, own2, h2, hf2, ho2⟩; have HW : Hid (Wrote w b own _ _ w2) := Lib.hid (Wrote.then (HF2.out.trans (Fr.of_below (below_new _ _)) HO2.out) HO2.out h2 hf2 ho2); clear h2 hf2 ho2))
        refine ⟨⟨k + 1, by omega, by go_num, ?_⟩, by simp [intOf]; omega⟩
        rw [HX2.out, HO.out, HS.out]
        exact HW.out
    · have : k = ns.length := by omega
      subst this
      have HE : Hid (ns.take ns.length = ns) := Lib.hid (by rw [List.take_length])
      go_wp2
      go_end0
      refine ⟨rfl, own1, ?_, HF1.out, HO1.out⟩
      have := HB1.out
      rw [HE.out] at this
      exact this
/-! ### Fractions -/
def ratCells (r : Int × Int) : List Value := [.int .i64 r.1, .int .i64 r.2]
def RatsIn (w : World) (c : Nat) (rs : List (Int × Int)) : Prop := w.heap[c]? = some (.cells (rs.flatMap ratCells).toArray 24 (0, 0))
def ratsS (rs : List (Int × Int)) : List ByteArray := rs.map fun r => bstr (sp.ratS r.1 r.2)
noncomputable def mayR (r : Int × Int) : Bool := mayB r.1 r.2
theorem rats_get : ∀ (rs : List (Int × Int)) (k : Nat) (h : k < rs.length), (rs.flatMap ratCells)[k * 2]? = some (.int .i64 rs[k].1) ∧ (rs.flatMap ratCells)[k * 2 + 1]? = some (.int .i64 rs[k].2) := by
  intro rs
  induction rs with
  | nil => intro k h; simp at h
  | cons a l ih =>
    intro k h
    have e : (a :: l).flatMap ratCells = .int .i64 a.1 :: .int .i64 a.2 :: l.flatMap ratCells := rfl
    cases k with
    | zero => exact ⟨rfl, rfl⟩
    | succ k =>
      have := ih k (by simpa using h)
      rw [e, show (k + 1) * 2 = k * 2 + 1 + 1 by omega]
      simp only [List.getElem?_cons_succ, List.getElem_cons_succ]
      exact this
theorem ok_takeR (f : Int × Int → Bool) (ok : Bool) (ns : List (Int × Int)) (k : Nat) (h : k < ns.length) : (ok && (ns.take (k + 1)).all f) = ((ok && (ns.take k).all f) && f ns[k]) := by
  rw [List.take_add_one, List.getElem?_eq_getElem h, List.all_append]
  simp [Bool.and_assoc]
theorem ratLen {n d : Int} (hn : I64 n) (hd : I64 d) : (bstr (sp.ratS n d)).size ≤ 43 := by
  rw [bstr_size]
  by_cases hs : SureP n d
  · rw [rratS_eq n d hs, List.length_append]
    have h1 := Lib.itoa_length_le n hn.1 hn.2
    have h2 := Lib.itoa_length_le d hd.1 hd.2
    cases decide (1 < d)
    · simp; omega
    · simp; omega
  · rw [over_of hs]; decide
theorem putS_rats (rs : List (Int × Int)) (h : ∀ r ∈ rs, I64 r.1 ∧ I64 r.2) : (putS (ratsS rs)).length ≤ 44 * rs.length := by
  induction rs with
  | nil => simp [putS, ratsS]
  | cons n ns ih =>
    have h1 := ih (fun m hm => h m (List.mem_cons_of_mem _ hm))
    have h2 := ratLen (h n List.mem_cons_self).1 (h n List.mem_cons_self).2
    rw [bstr_size] at h2
    have e : putS (ratsS (n :: ns)) = 32 :: sp.ratS n.1 n.2 ++ putS (ratsS ns) := by simp [putS, ratsS, bstr]
    rw [e, List.length_append, List.length_cons, List.length_cons]
    omega
theorem putS_rats_take (rs : List (Int × Int)) (k : Nat) (h : k < rs.length) : putS (ratsS (rs.take (k + 1))) = putS (ratsS (rs.take k)) ++ putS [bstr (sp.ratS rs[k].1 rs[k].2)] := by
  have e1 : ratsS (rs.take (k + 1)) = (ratsS rs).take (k + 1) := by simp [ratsS]
  have e2 : ratsS (rs.take k) = (ratsS rs).take k := by simp [ratsS]
  rw [e1, e2, putS_take (ratsS rs) k (by simpa [ratsS] using h)]
  simp [ratsS, putS]
theorem flag_other {w : World} {b c o : Nat} {v x : Value} (h : w.cell? ⟨c, o, none⟩ = some x) (hb : b ≠ c) : (w.setCell ⟨b, 2, none⟩ v).cell? ⟨c, o, none⟩ = some x := by
  rw [World.cell?_of_block (w := w) (Below.heap_setCell _ _ _ _ (fun e => hb e.symm))]
  exact h
set_option maxRecDepth 100000 in
set_option maxHeartbeats 4000000 in
/-- (*script.writer).fractions. -/
theorem fractions_any (w : World) (b : Nat) (own : Option Nat) (l : List UInt8) (ok : Bool) (c : Nat) (rs : List (Int × Int)) (h : Bld w 123 [.bool ok] b own l) (hc : RatsIn w c rs) (hcb : c ≠ b) (hco : some c ≠ own) (hn : l.length + 44 * rs.length ≤ 1407374883553) (hns : rs.length ≤ 1000) (hi : ∀ r ∈ rs, I64 r.1 ∧ I64 r.2) :
    Calls Tryz.prog 78 #[.pointer (some ⟨b, 0, none⟩), .slice (some ⟨c, 0, none⟩) rs.length rs.length] w fun e w' => e = .returned (.tuple #[]) ∧ Wrote w b own (l ++ putS (ratsS rs)) (ok && rs.all mayR) w' := by
  have HB := Lib.hid h; have HC := Lib.hid hc; have HCB := Lib.hid hcb; have HCO := Lib.hid hco; have HN := Lib.hid hn; have HNS := Lib.hid hns; have HI := Lib.hid hi
  clear h hc hcb hco hn hns hi
  go_enter Tryz.func78, Tryz.ntmps78
  go_wp2
  go_loopw [8] (fun i wr => ∃ k : Nat, k ≤ rs.length ∧ i = .int .i64 k ∧ Wrote w b own (l ++ putS (ratsS (rs.take k))) (ok && (rs.take k).all mayR) wr) (fun i _ => rs.length - (intOf i).toNat)
  case atStart => exact ⟨0, Nat.zero_le _, rfl, by simpa [putS, ratsS] using Wrote.refl HB.out⟩
  case round =>
    obtain ⟨k, hk, rfl, own1, hb1, hf1, ho1⟩ := hrel
    have hkb : (k : Int) ≤ 1000 := by have := HNS.out; omega
    have HB1 := Lib.hid hb1; have HF1 := Lib.hid hf1; have HO1 := Lib.hid ho1
    clear hb1 hf1 ho1
    by_cases hlt : k < rs.length
    · have hclt := lt_of_block HC.out
      have hrow := (HF1.out.keepOwn hclt HCB.out HCO.out).trans HC.out
      have hcell0 : wr.cell? ⟨c, k * 2, none⟩ = some (.int .i64 rs[k].1) := by
        rw [cell_of_row wr c (k * 2) _ 24 (0, 0) hrow, List.getElem?_toArray, (rats_get rs k hlt).1]
      have hcell1 : wr.cell? ⟨c, k * 2 + 1, none⟩ = some (.int .i64 rs[k].2) := by
        rw [cell_of_row wr c (k * 2 + 1) _ 24 (0, 0) hrow, List.getElem?_toArray, (rats_get rs k hlt).2]
      have HX := Lib.hid (putS_rats_take rs k hlt)
      have HO := Lib.hid (ok_takeR mayR ok rs k hlt)
      obtain ⟨i1, i2⟩ := HI.out rs[k] (List.getElem_mem hlt)
      have HI1 := Lib.hid i1; have HI2 := Lib.hid i2
      have hz := ratLen i1 i2
      have HL : Hid ((l ++ putS (ratsS (rs.take k))).length + (putS [bstr (sp.ratS rs[k].1 rs[k].2)]).length ≤ 1407374883553) := Lib.hid (by
        have h1 := putS_rats (rs.take (k + 1)) (fun n hn => HI.out n (List.mem_of_mem_take hn))
        rw [putS_rats_take rs k hlt, List.length_append, List.length_take] at h1
        have := HN.out
        rw [List.length_append]
        omega)
      have hs : mayR rs[k] = mayB rs[k].1 rs[k].2 := rfl
      obtain ⟨hok, hfz⟩ := bld_ok HB1.out
      have hok2 := (Below.heap_alloc wr (.cells #[.int .i64 rs[k].1, .int .i64 rs[k].2] 24) b HB1.out.lt)
      generalize rs[k] = r at hcell0 hcell1 HX HO HI1 HI2 HL hs hz hok2
      obtain ⟨n, d⟩ := r
      simp only at hcell0 hcell1 HX HO HI1 HI2 HL hs hz hok2
      have HX2 : Hid (l ++ putS (ratsS (rs.take (k + 1))) = (l ++ putS (ratsS (rs.take k))) ++ putS [bstr (sp.ratS n d)]) := Lib.hid (by rw [HX.out]; simp)
      generalize l ++ putS (ratsS (rs.take k)) = l0 at HB1 HL HX2
      generalize (ok && (rs.take k).all mayR) = ok0 at HB1 hok HO
      have HRB := Lib.hid (heap_alloc_at wr (.cells #[.int .i64 n, .int .i64 d] 24))
      have HBA := Lib.hid (HB1.out.below (below_new wr (.cells #[.int .i64 n, .int .i64 d] 24)))
      have HFA := Lib.hid (HF1.out.trans (Fr.of_below (below_new wr (.cells #[.int .i64 n, .int .i64 d] 24))) HO1.out)
      have HNB : Hid (b ≠ wr.heap.size) := Lib.hid (Nat.ne_of_lt HB1.out.lt)
      obtain ⟨g0, g1⟩ := rat_cells HRB.out
      obtain ⟨f0, f1⟩ := bld_ok HBA.out
      have q0 := fun v => flag_other (v := v) g0 HNB.out
      have q1 := fun v => flag_other (v := v) g1 HNB.out
      clear HX hok2 hrow i1 i2
      cases hm : mayB n d
      all_goals
        rw [hm] at hs
        have HS := Lib.hid hs; have HM := Lib.hid hm; clear hs hm
        cases ok0
        · go_wp2_with (first
            | (go_at_call 73; refine (ratText_any n d _ HI1.out HI2.out).mono ?_; rintro e w2 ⟨rfl, hb2⟩; have HB2 := Lib.hid (Bld.below (bld_flag HBA.out _) hb2); have HF2 := Lib.hid (HFA.out.trans ((Fr.set 2 _).trans (Fr.of_below hb2) (Own.refl _ _)) HO1.out); clear hb2)
            | (go_at_call 77; refine (put_any _ b own1 l0 _ w2.heap.size [bstr (sp.ratS n d)] (HB2.out.below (below_new _ _)) (heap_alloc_at _ _) (Nat.ne_of_gt HB2.out.lt) (fun e => by have := HB2.out.own_lt w2.heap.size e.symm; omega) (by have := HL.out; omega) (by simp)).mono ?_; rintro e w3 ⟨rfl, own2, h2, hf2, ho2⟩; have HW : Hid (Wrote w b own _ _ w3) := Lib.hid (Wrote.then (HF2.out.trans (Fr.of_below (below_new _ _)) HO1.out) HO1.out h2 hf2 ho2); clear h2 hf2 ho2))
          refine ⟨⟨k + 1, by omega, by go_num, ?_⟩, by simp [intOf]; omega⟩
          rw [HX2.out, HO.out, HS.out]
          exact HW.out
        · go_wp2_with (first
            | (go_at_call 111; refine (may_any n d _ HI1.out HI2.out).mono ?_; rintro e w1 ⟨rfl, hb1⟩; rw [HM.out]; have hk1 := (hb1.block wr.heap.size (by simp)).trans HRB.out; obtain ⟨g2, g3⟩ := rat_cells hk1; have q2 := fun v => flag_other (v := v) g2 HNB.out; have q3 := fun v => flag_other (v := v) g3 HNB.out; have HBB := Lib.hid (HBA.out.below hb1); obtain ⟨f2, f3⟩ := bld_ok HBB.out; have HFB := Lib.hid (HFA.out.trans (Fr.of_below hb1) HO1.out); clear hb1 hk1)
            | (go_at_call 73; refine (ratText_any n d _ HI1.out HI2.out).mono ?_; rintro e w2 ⟨rfl, hb2⟩; have HB2 := Lib.hid (Bld.below (bld_flag HBB.out _) hb2); have HF2 := Lib.hid (HFB.out.trans ((Fr.set 2 _).trans (Fr.of_below hb2) (Own.refl _ _)) HO1.out); clear hb2)
            | (go_at_call 77; refine (put_any _ b own1 l0 _ w2.heap.size [bstr (sp.ratS n d)] (HB2.out.below (below_new _ _)) (heap_alloc_at _ _) (Nat.ne_of_gt HB2.out.lt) (fun e => by have := HB2.out.own_lt w2.heap.size e.symm; omega) (by have := HL.out; omega) (by simp)).mono ?_; rintro e w3 ⟨rfl, own2, h2, hf2, ho2⟩; have HW : Hid (Wrote w b own _ _ w3) := Lib.hid (Wrote.then (HF2.out.trans (Fr.of_below (below_new _ _)) HO1.out) HO1.out h2 hf2 ho2); clear h2 hf2 ho2))
          refine ⟨⟨k + 1, by omega, by go_num, ?_⟩, by simp [intOf]; omega⟩
          rw [HX2.out, HO.out, HS.out]
          exact HW.out
    · have : k = rs.length := by omega
      subst this
      have HE : Hid (rs.take rs.length = rs) := Lib.hid (by rw [List.take_length])
      go_wp2
      go_end0
      refine ⟨rfl, own1, ?_, HF1.out, HO1.out⟩
      have := HB1.out
      rw [HE.out] at this
      exact this
end Go.Proofs.YtihlneenajlhoaaGreatDoor
/-
  The shelf's contracts of strings.IndexAny, strings.IndexByte, utf8.ValidRune at this program. No condition: the premises are facts of the program's text.
-/
namespace Go.Proofs.YtihlneenajlhoaaGreatDoor
open Go Go.RowKit Go.Shelf

def Tryz.laysAny_ren : Go.Shelf.Ren := ⟨fun | 153 => 148 | 152 => 154 | 226 => 211 | 227 => 87 | 228 => 119 | 137 => 212 | 119 => 213 | 224 => 117 | 225 => 116 | 217 => 115 | 266 => 151 | n => n, fun | 9 => 9 | 3 => 3 | 4 => 4 | 5 => 5 | 21 => 21 | 117 => 135 | 116 => 134 | 0 => 0 | 46 => 120 | 124 => 138 | n => n, fun | n => n⟩
theorem Tryz.laysAny : Go.Proofs.Lays.n153 Tryz.prog Tryz.laysAny_ren := {
  mixed := by kernel_rfl,
  f119 := Tryz.func213.trans (congrArg some (by kernel_rfl)),
  f137 := Tryz.func212.trans (congrArg some (by kernel_rfl)),
  f152 := Tryz.func154.trans (congrArg some (by kernel_rfl)),
  f153 := Tryz.func148.trans (congrArg some (by kernel_rfl)),
  f217 := Tryz.func115.trans (congrArg some (by kernel_rfl)),
  f224 := Tryz.func117.trans (congrArg some (by kernel_rfl)),
  f225 := Tryz.func116.trans (congrArg some (by kernel_rfl)),
  f226 := Tryz.func211.trans (congrArg some (by kernel_rfl)),
  f227 := Tryz.func87.trans (congrArg some (by kernel_rfl)),
  f228 := Tryz.func119.trans (congrArg some (by kernel_rfl)),
  f266 := Tryz.func151.trans (congrArg some (by kernel_rfl)),
  t0 := Tryz.underlying0,
  a0 := Tryz.isAgg0,
  z0 := Tryz.sizeOf0,
  v0 := Tryz.zeroValue0,
  t3 := Tryz.underlying3,
  a3 := Tryz.isAgg3,
  z3 := Tryz.sizeOf3,
  v3 := Tryz.zeroValue3,
  t4 := Tryz.underlying4,
  a4 := Tryz.isAgg4,
  z4 := Tryz.sizeOf4,
  v4 := Tryz.zeroValue4,
  t5 := Tryz.underlying5,
  a5 := Tryz.isAgg5,
  z5 := Tryz.sizeOf5,
  v5 := Tryz.zeroValue5,
  t9 := Tryz.underlying9,
  a9 := Tryz.isAgg9,
  z9 := Tryz.sizeOf9,
  v9 := Tryz.zeroValue9,
  t21 := Tryz.underlying21,
  a21 := Tryz.isAgg21,
  z21 := Tryz.sizeOf21,
  v21 := Tryz.zeroValue21,
  t46 := Tryz.underlying120,
  a46 := Tryz.isAgg120,
  z46 := Tryz.sizeOf120,
  v46 := Tryz.zeroValue120,
  t116 := Tryz.underlying134,
  a116 := Tryz.isAgg134,
  z116 := Tryz.sizeOf134,
  t117 := Tryz.underlying135,
  a117 := Tryz.isAgg135,
  z117 := Tryz.sizeOf135,
  v117 := Tryz.zeroValue135,
  t124 := Tryz.underlying138,
  a124 := Tryz.isAgg138,
  z124 := Tryz.sizeOf138,
  v124 := Tryz.zeroValue138 }
def Tryz.laysByte_ren : Go.Shelf.Ren := ⟨fun | 137 => 212 | 217 => 115 | 266 => 151 | n => n, fun | 9 => 9 | 5 => 5 | 3 => 3 | n => n, fun | n => n⟩
theorem Tryz.laysByte : Go.Proofs.Lays.n137 Tryz.prog Tryz.laysByte_ren := {
  mixed := by kernel_rfl,
  f137 := Tryz.func212.trans (congrArg some (by kernel_rfl)),
  f217 := Tryz.func115.trans (congrArg some (by kernel_rfl)),
  f266 := Tryz.func151.trans (congrArg some (by kernel_rfl)),
  t3 := Tryz.underlying3,
  a3 := Tryz.isAgg3,
  z3 := Tryz.sizeOf3,
  v3 := Tryz.zeroValue3,
  t5 := Tryz.underlying5,
  a5 := Tryz.isAgg5,
  z5 := Tryz.sizeOf5,
  v5 := Tryz.zeroValue5,
  t9 := Tryz.underlying9,
  a9 := Tryz.isAgg9,
  z9 := Tryz.sizeOf9,
  v9 := Tryz.zeroValue9 }
def Tryz.laysValid_ren : Go.Shelf.Ren := ⟨fun | 119 => 213 | n => n, fun | 21 => 21 | 4 => 4 | n => n, fun | n => n⟩
theorem Tryz.laysValid : Go.Proofs.Lays.n119 Tryz.prog Tryz.laysValid_ren := {
  mixed := by kernel_rfl,
  f119 := Tryz.func213.trans (congrArg some (by kernel_rfl)),
  t4 := Tryz.underlying4,
  a4 := Tryz.isAgg4,
  z4 := Tryz.sizeOf4,
  v4 := Tryz.zeroValue4,
  t21 := Tryz.underlying21,
  a21 := Tryz.isAgg21,
  z21 := Tryz.sizeOf21,
  v21 := Tryz.zeroValue21 }
end Go.Proofs.YtihlneenajlhoaaGreatDoor
/-
  Contract, for a run of one goroutine, of strings.ContainsAny at the set of a space, a line feed and a quote: whatever the text. Condition: its length fits.
-/
set_option linter.unusedSimpArgs false
set_option linter.unusedVariables false
namespace Go.Proofs.YtihlneenajlhoaaGreatDoor
open Go Go.RowKit

/-- A space, a line feed, a quote. -/
def seps : ByteArray := ⟨#[32, 10, 34]⟩
theorem seps_list : seps.data.toList = [32, 10, 34] := rfl
theorem decodeN_hi (n b0 b1 b2 b3 : Nat) (h : 128 ≤ b0) (h0 : b0 < 256) (hn : 0 < n) : let p := Lib.decodeN n b0 b1 b2 b3; (1 ≤ p.2 ∧ p.2 ≤ 4 ∧ p.2 ≤ n) ∧ (2 ≤ p.2 → 128 ≤ b1) ∧ (3 ≤ p.2 → 128 ≤ b2) ∧ (4 ≤ p.2 → 128 ≤ b3) ∧ 128 ≤ p.1 ∧ (p.1 < 55296 ∨ (57344 ≤ p.1 ∧ p.1 ≤ 1114111)) := by
  simp only
  unfold Lib.decodeN
  repeat' split
  all_goals (simp only; omega)
/-- What a byte that is none of ASCII decodes to: a rune that is none either; its bytes are none. -/
theorem decode_hi (s : ByteArray) (i : Nat) (h : i < s.size) (hx : 128 ≤ (s[i]'h).toNat) : (1 ≤ (Utf8.decode s i).2 ∧ i + (Utf8.decode s i).2 ≤ s.size) ∧ (∀ j, j < (Utf8.decode s i).2 → 128 ≤ (s.get! (i + j)).toNat) ∧ 128 ≤ (Utf8.decode s i).1 ∧ ((Utf8.decode s i).1 < 55296 ∨ (57344 ≤ (Utf8.decode s i).1 ∧ (Utf8.decode s i).1 ≤ 1114111)) := by
  have h0 : 128 ≤ (s.get! i).toNat := by have := get_at s i h; rw [Nat.add_zero] at this; rw [this]; exact hx
  have key := decodeN_hi (s.size - i) (s.get! i).toNat (s.get! (i + 1)).toNat (s.get! (i + 2)).toNat (s.get! (i + 3)).toNat h0 (UInt8.toNat_lt _) (by omega)
  rw [← Lib.decode_at s i] at key
  obtain ⟨⟨k1, k2, k3⟩, k4, k5, k6, k7, k8⟩ := key
  refine ⟨⟨k1, by omega⟩, fun j hj => ?_, k7, k8⟩
  have : j = 0 ∨ j = 1 ∨ j = 2 ∨ j = 3 := by omega
  rcases this with rfl | rfl | rfl | rfl
  · exact h0
  · exact k4 (by omega)
  · exact k5 (by omega)
  · exact k6 (by omega)
theorem sep_hi (b : UInt8) (h : 128 ≤ b.toNat) : seps.data.toList.contains b = false := by
  rw [seps_list]
  simp only [List.contains_eq_mem, decide_eq_false_iff_not, List.mem_cons, List.not_mem_nil, or_false]
  rintro (rfl | rfl | rfl) <;> simp at h
theorem noAny_step {s : ByteArray} {i n : Nat} (h : Lib.NoAny s.data.toList seps.data.toList i) (hh : ∀ j, j < n → 128 ≤ (s.get! (i + j)).toNat) (hn : i + n ≤ s.size) : Lib.NoAny s.data.toList seps.data.toList (i + n) := by
  intro j b hj hb
  by_cases hlt : j < i
  · exact h j b hlt hb
  · have h1 := hh (j - i) (by omega)
    rw [show i + (j - i) = j by omega] at h1
    have h2 : s.get! j = b := by
      have h3 : j < s.size := by omega
      have h4 := get_at s j h3
      rw [Nat.add_zero] at h4
      rw [h4]
      have h5 : s.data.toList[j]? = some (s[j]'h3) := Lib.data_getElem? s j h3
      rw [hb] at h5
      exact (Option.some.inj h5).symm
    rw [h2] at h1
    exact sep_hi b h1
theorem below_iter (w : World) (s : ByteArray) (i : Nat) : Below w.heap.size w (w.iter s i) := below_new w _
set_option maxRecDepth 100000 in
set_option maxHeartbeats 4000000 in
/-- strings.IndexRune of the set, at a rune that is none of ASCII. -/
theorem indexRune_err (w : World) : Calls Tryz.prog 154 #[.string ⟨#[32, 10, 34]⟩, .int .i32 65533] w fun e w' => e = .returned (.int .i64 (-1)) ∧ Below w.heap.size w w' := by
  go_enter Tryz.func154, Tryz.ntmps154
  go_wp2
  go_loopg [5, 6] 3 (fun g _ _ wx => ∃ i : Nat, i + g = 3 ∧ wx = w.iter ⟨#[32, 10, 34]⟩ i)
  case atStart => exact ⟨0, rfl, rfl⟩
  case round =>
    obtain ⟨i, hig, rfl⟩ := hrel
    cases gk with
    | zero =>
      obtain rfl : i = 3 := by omega
      have hnx := fun ty => run_next_end (P := Tryz.prog) w ⟨#[32, 10, 34]⟩ 3 ty (by decide)
      go_wp2
      go_ret
      exact ⟨rfl, below_iter w _ _⟩
    | succ g =>
      have hi : i = 0 ∨ i = 1 ∨ i = 2 := by omega
      rcases hi with rfl | rfl | rfl
      · have hnx := fun ty => run_next_ascii (P := Tryz.prog) w ⟨#[32, 10, 34]⟩ 0 ty (by decide) (by decide)
        have hb : ((⟨#[32, 10, 34]⟩ : ByteArray)[0]'(by decide)).toNat = 32 := by decide
        go_wp2
        go_roundg g
        case measure => omega
        case rel => exact ⟨1, by omega, rfl⟩
      · have hnx := fun ty => run_next_ascii (P := Tryz.prog) w ⟨#[32, 10, 34]⟩ 1 ty (by decide) (by decide)
        have hb : ((⟨#[32, 10, 34]⟩ : ByteArray)[1]'(by decide)).toNat = 10 := by decide
        go_wp2
        go_roundg g
        case measure => omega
        case rel => exact ⟨2, by omega, rfl⟩
      · have hnx := fun ty => run_next_ascii (P := Tryz.prog) w ⟨#[32, 10, 34]⟩ 2 ty (by decide) (by decide)
        have hb : ((⟨#[32, 10, 34]⟩ : ByteArray)[2]'(by decide)).toNat = 34 := by decide
        go_wp2
        go_roundg g
        case measure => omega
        case rel => exact ⟨3, by omega, rfl⟩
theorem encode_two {r : Nat} (h0 : 128 ≤ r) (h1 : r < 2048) : Utf8.encode (r : Int) = ⟨#[UInt8.ofNat (0xC0 + r / 64), UInt8.ofNat (0x80 + r % 64)]⟩ := by
  have hv : Utf8.valid (r : Int) = true := by unfold Utf8.valid; simp; omega
  unfold Utf8.encode
  rw [if_pos hv]
  simp only [Int.toNat_natCast]
  rw [if_neg (by omega), if_pos (by omega)]
theorem encode_three {r : Nat} (h0 : 2048 ≤ r) (h1 : r < 65536) (hv : r < 55296 ∨ (57344 ≤ r ∧ r ≤ 1114111)) : Utf8.encode (r : Int) = ⟨#[UInt8.ofNat (0xE0 + r / 4096), UInt8.ofNat (0x80 + r / 64 % 64), UInt8.ofNat (0x80 + r % 64)]⟩ := by
  have hv : Utf8.valid (r : Int) = true := by unfold Utf8.valid; simp; omega
  unfold Utf8.encode
  rw [if_pos hv]
  simp only [Int.toNat_natCast]
  rw [if_neg (by omega), if_neg (by omega), if_pos (by omega)]
theorem encode_four {r : Nat} (h0 : 65536 ≤ r) (h1 : r ≤ 1114111) : Utf8.encode (r : Int) = ⟨#[UInt8.ofNat (0xF0 + r / 262144), UInt8.ofNat (0x80 + r / 4096 % 64), UInt8.ofNat (0x80 + r / 64 % 64), UInt8.ofNat (0x80 + r % 64)]⟩ := by
  have hv : Utf8.valid (r : Int) = true := by unfold Utf8.valid; simp; omega
  unfold Utf8.encode
  rw [if_pos hv]
  simp only [Int.toNat_natCast]
  rw [if_neg (by omega), if_neg (by omega), if_neg (by omega)]
theorem last_hi (k : Nat) : 128 ≤ (UInt8.ofNat (128 + k % 64)).toNat := by
  rw [UInt8.toNat_ofNat']
  omega
theorem valid_of {r : Nat} (h : r < 55296 ∨ (57344 ≤ r ∧ r ≤ 1114111)) : Lib.validRune (r : Int) = true := by
  unfold Lib.validRune
  simp
  omega
theorem index_no : ∀ (l : List UInt8) (y : UInt8), y ∉ l → Lib.indexByte l y = -1
  | [], _, _ => rfl
  | a :: l, y, h => by
    have h1 : (a == y) = false := by simpa using fun e => h (by rw [e]; exact List.mem_cons_self)
    have h2 := index_no l y (fun hm => h (List.mem_cons_of_mem _ hm))
    unfold Lib.indexByte
    rw [h1, h2]
    rfl
theorem byte_no (i j : Nat) (y : UInt8) (hy : 128 ≤ y.toNat) (w : World) : Calls Tryz.prog 212 #[.string ((⟨#[32, 10, 34]⟩ : ByteArray).extract i j), .int .u8 y.toNat] w fun e w' => e = .returned (.int .i64 (-1)) ∧ w' = w := by
  refine (Any.strings_IndexByte Tryz.laysByte _ (y.toNat : Int) w).mono ?_
  rintro e w' ⟨rfl, rfl⟩
  refine ⟨?_, rfl⟩
  have e1 : ((y.toNat : Int)).toNat.toUInt8 = y := by simp
  rw [e1, index_no _ _ ?_]
  intro hm
  have h2 : y ∈ [(32 : UInt8), 10, 34] := by
    have : ((⟨#[32, 10, 34]⟩ : ByteArray).extract i j).data.toList = ([32, 10, 34] : List UInt8).extract i j := by simp
    rw [this] at hm
    exact List.mem_of_mem_drop (List.mem_of_mem_take (by simpa [List.extract] using hm))
  simp only [List.mem_cons, List.not_mem_nil, or_false] at h2
  rcases h2 with rfl | rfl | rfl <;> simp at hy
theorem byte_no' (y : UInt8) (hy : 128 ≤ y.toNat) (w : World) : Calls Tryz.prog 212 #[.string ByteArray.empty, .int .u8 y.toNat] w fun e w' => e = .returned (.int .i64 (-1)) ∧ w' = w := byte_no 3 3 y hy w
theorem ret_goto {Q : Exit → Act → World → Prop} {a : Act} {w : World} (h : Q .ret a w) : Exit.noGoto Q .ret a w := h
theorem ret_block {Q : Exit → Act → World → Prop} {a : Act} {w : World} {n : Nat} (h : Q .ret a w) : Exit.inBlock n Q .ret a w := h
theorem ret_then {Q : Exit → Act → World → Prop} {K : Act → World → Prop} {a : Act} {w : World} (h : Q .ret a w) : Exit.then K Q .ret a w := h
end Go.Proofs.YtihlneenajlhoaaGreatDoor
/-
  strings.IndexRune of the set of a space, a line feed and a quote, at a rune of two bytes.
-/
set_option linter.unusedSimpArgs false
set_option linter.unusedVariables false
namespace Go.Proofs.YtihlneenajlhoaaGreatDoor
open Go Go.RowKit

set_option maxRecDepth 1000000 in
set_option maxHeartbeats 4000000 in
theorem indexRune_two (r : Nat) (w : World) (h0 : 128 ≤ r) (h1 : r < 2048) : Calls Tryz.prog 154 #[.string ⟨#[32, 10, 34]⟩, .int .i32 r] w fun e w' => e = .returned (.int .i64 (-1)) ∧ Below w.heap.size w w' := by
  obtain ⟨x, y, he, hy⟩ : ∃ x y : UInt8, Utf8.encode (r : Int) = ⟨#[x, y]⟩ ∧ 128 ≤ y.toNat := ⟨_, _, encode_two h0 h1, last_hi r⟩
  have e10 : ∀ h, (((⟨#[32, 10, 34]⟩ : ByteArray)[1]'h).toNat : Int) = 10 := fun _ => rfl
  have ey : ∀ h, (((⟨#[x, y]⟩ : ByteArray)[1]'h).toNat : Int) = y.toNat := fun _ => rfl
  have hw2 : IntKind.i64.wrap 2 = 2 := by decide
  have hsz : (⟨#[32, 10, 34]⟩ : ByteArray).size = 3 := rfl
  have hy1 : ((10 : Int) != (y.toNat : Int)) = true := by simp; omega
  have HV := Lib.hid (valid_of (r := r) (by omega))
  have q1 : decide ((0 : Int) ≤ (r : Int)) = true := by simp
  have q2 : decide ((r : Int) < 128) = false := by simp; omega
  have q3 : ((r : Int) == 65533) = false := by simp; omega
  clear h0 h1
  go_enter Tryz.func154, Tryz.ntmps154
  go_wp2_with (first
    | (go_at_call 213; refine (Any.utf8_ValidRune Tryz.laysValid r w).mono ?_; rintro e w1 ⟨rfl, hw⟩; rw [hw, HV.out]; clear hw))
  go_step3
  go_wp2
  refine wp_loop_rounds 1 ?_
  rw [rounds_succ]
  go_wp2
  go_step3
  go_wp2
  go_quiet (fail)
  go_wp2
  go_quiet ((go_at_call 212; exact (byte_no _ _ y hy _).mono (fun _ _ hq => ⟨hq.1, _, hq.2⟩)))
  go_wp2
  repeat (first | refine ret_goto ?_ | refine ret_block ?_ | refine ret_then ?_)
  go_ret
  exact ⟨rfl, below_drewN (Below.refl _ _) _⟩
end Go.Proofs.YtihlneenajlhoaaGreatDoor
/-
  strings.IndexRune of the set of a space, a line feed and a quote, at a rune of three bytes.
-/
set_option linter.unusedSimpArgs false
set_option linter.unusedVariables false
namespace Go.Proofs.YtihlneenajlhoaaGreatDoor
open Go Go.RowKit

set_option maxRecDepth 1000000 in
set_option maxHeartbeats 4000000 in
theorem indexRune_three (r : Nat) (w : World) (h0 : 2048 ≤ r) (h1 : r < 65536) (h3 : r ≠ 65533) (h2 : r < 55296 ∨ (57344 ≤ r ∧ r ≤ 1114111)) : Calls Tryz.prog 154 #[.string ⟨#[32, 10, 34]⟩, .int .i32 r] w fun e w' => e = .returned (.int .i64 (-1)) ∧ Below w.heap.size w w' := by
  obtain ⟨x1, x2, y, he, hy⟩ : ∃ x1 x2 y : UInt8, Utf8.encode (r : Int) = ⟨#[x1, x2, y]⟩ ∧ 128 ≤ y.toNat := ⟨_, _, _, encode_three h0 h1 h2, last_hi r⟩
  have e10 : ∀ h, (((⟨#[32, 10, 34]⟩ : ByteArray)[2]'h).toNat : Int) = 34 := fun _ => rfl
  have ey : ∀ h, (((⟨#[x1, x2, y]⟩ : ByteArray)[2]'h).toNat : Int) = y.toNat := fun _ => rfl
  have hw2 : IntKind.i64.wrap 3 = 3 := by decide
  have hsz : (⟨#[32, 10, 34]⟩ : ByteArray).size = 3 := rfl
  have hy1 : ((34 : Int) != (y.toNat : Int)) = true := by simp; omega
  have HV := Lib.hid (valid_of (r := r) h2)
  have q1 : decide ((0 : Int) ≤ (r : Int)) = true := by simp
  have q2 : decide ((r : Int) < 128) = false := by simp; omega
  have q3 : ((r : Int) == 65533) = false := by simp; omega
  clear h0 h1 h2 h3
  go_enter Tryz.func154, Tryz.ntmps154
  go_wp2_with (first
    | (go_at_call 213; refine (Any.utf8_ValidRune Tryz.laysValid r w).mono ?_; rintro e w1 ⟨rfl, hw⟩; rw [hw, HV.out]; clear hw))
  go_step3
  go_wp2
  refine wp_loop_rounds 1 ?_
  rw [rounds_succ]
  go_wp2
  go_step3
  go_wp2
  go_quiet (fail)
  go_wp2
  go_quiet ((go_at_call 212; exact (byte_no' y hy _).mono (fun _ _ hq => ⟨hq.1, _, hq.2⟩)))
  go_wp2
  repeat (first | refine ret_goto ?_ | refine ret_block ?_ | refine ret_then ?_)
  go_ret
  exact ⟨rfl, below_drewN (Below.refl _ _) _⟩
end Go.Proofs.YtihlneenajlhoaaGreatDoor
/-
  strings.IndexRune of the set of a space, a line feed and a quote, at a rune of four bytes.
-/
set_option linter.unusedSimpArgs false
set_option linter.unusedVariables false
namespace Go.Proofs.YtihlneenajlhoaaGreatDoor
open Go Go.RowKit

set_option maxRecDepth 1000000 in
set_option maxHeartbeats 4000000 in
theorem indexRune_four (r : Nat) (w : World) (h0 : 65536 ≤ r) (h1 : r ≤ 1114111) : Calls Tryz.prog 154 #[.string ⟨#[32, 10, 34]⟩, .int .i32 r] w fun e w' => e = .returned (.int .i64 (-1)) ∧ Below w.heap.size w w' := by
  obtain ⟨x1, x2, x3, y, he⟩ : ∃ x1 x2 x3 y : UInt8, Utf8.encode (r : Int) = ⟨#[x1, x2, x3, y]⟩ := ⟨_, _, _, _, encode_four h0 h1⟩
  have hsz : (⟨#[32, 10, 34]⟩ : ByteArray).size = 3 := rfl
  have HV := Lib.hid (valid_of (r := r) (by omega))
  have q1 : decide ((0 : Int) ≤ (r : Int)) = true := by simp
  have q2 : decide ((r : Int) < 128) = false := by simp; omega
  have q3 : ((r : Int) == 65533) = false := by simp; omega
  clear h0 h1
  go_enter Tryz.func154, Tryz.ntmps154
  go_wp2_with (first
    | (go_at_call 213; refine (Any.utf8_ValidRune Tryz.laysValid r w).mono ?_; rintro e w1 ⟨rfl, hw⟩; rw [hw, HV.out]; clear hw))
  go_step3
  go_wp2
  refine wp_loop_rounds 1 ?_
  rw [rounds_succ]
  go_wp2
  rw [Exit.noGoto_ret]
  go_ret
  exact ⟨rfl, Below.refl _ _⟩
end Go.Proofs.YtihlneenajlhoaaGreatDoor
/-
  Contract, for a run of one goroutine, of strings.ContainsAny at the set of a space, a line feed and a quote: whatever the text. Condition: its length fits.
-/
set_option linter.unusedSimpArgs false
set_option linter.unusedVariables false
namespace Go.Proofs.YtihlneenajlhoaaGreatDoor
open Go Go.RowKit

theorem indexRune_hi (r : Nat) (w : World) (h0 : 128 ≤ r) (h1 : r < 55296 ∨ (57344 ≤ r ∧ r ≤ 1114111)) : Calls Tryz.prog 154 #[.string ⟨#[32, 10, 34]⟩, .int .i32 r] w fun e w' => e = .returned (.int .i64 (-1)) ∧ Below w.heap.size w w' := by
  by_cases hr : r = 65533
  · subst hr; exact indexRune_err w
  · by_cases h2 : r < 2048
    · exact indexRune_two r w h0 h2
    · by_cases h3 : r < 65536
      · exact indexRune_three r w (by omega) h3 hr h1
      · exact indexRune_four r w (by omega) (by omega)
/-- The next rune of a text that is gone through, at whatever block its place lies in. -/
theorem next_at {w : World} {b : Nat} {s : ByteArray} {pos : Nat} (hg : w.heap[b]? = some (.stringIter s pos)) (h : pos < s.size) (ty : TypeId) :
    (Instr.next (.pointer (some ⟨b, 0, none⟩)) true ty).run Tryz.prog w =
      .ok (.tuple #[.bool true, .int .i64 pos, .int .i32 (Utf8.decode s pos).1]) { w with heap := w.heap.setIfInBounds b (.stringIter s (pos + (Utf8.decode s pos).2)) } := by
  simp only [Instr.next, getObj, setObj, Sem.run_bind, Sem.run, hg, Result.andThen, h, if_true]
  simp [goInt]
theorem next_end {w : World} {b : Nat} {s : ByteArray} {pos : Nat} (hg : w.heap[b]? = some (.stringIter s pos)) (h : ¬ pos < s.size) (ty : TypeId) :
    (Instr.next (.pointer (some ⟨b, 0, none⟩)) true ty).run Tryz.prog w = .ok (.tuple #[.bool false]) w := by
  simp [Instr.next, getObj, Sem.run, hg, h]
theorem below_set {B b : Nat} {a w : World} (x : Obj) (hB : B ≤ b) (h : Below B a w) : Below B a { w with heap := w.heap.setIfInBounds b x } :=
  ⟨h.os, h.tape, h.output, by simpa using h.size, fun k hk => by
    have := h.block k hk
    rw [← this]
    simp only [Array.getElem?_setIfInBounds]
    rw [if_neg (by omega)]⟩
theorem get_set {w : World} {b : Nat} {x : Obj} (y : Obj) (h : w.heap[b]? = some x) : ({ w with heap := w.heap.setIfInBounds b y } : World).heap[b]? = some y := by
  have hb : b < w.heap.size := by
    rcases Nat.lt_or_ge b w.heap.size with h1 | h1
    · exact h1
    · rw [Array.getElem?_eq_none h1] at h; cases h
  show (w.heap.setIfInBounds b y)[b]? = _
  simp [Array.getElem?_setIfInBounds, hb]
set_option maxRecDepth 1000000 in
set_option maxHeartbeats 4000000 in
theorem indexAny_short (s : ByteArray) (w : World) (h8 : s.size ≤ 8) : Calls Tryz.prog 148 #[.string s, .string ⟨#[32, 10, 34]⟩] w fun e w' => e = .returned (.int .i64 (Lib.indexAny s.data.toList seps.data.toList)) ∧ Below w.heap.size w w' := by
  have h8z : decide ((8 : Int) < (s.size : Int)) = false := decide_eq_false (by omega)
  go_enter Tryz.func148, Tryz.ntmps148
  go_wp2_with (go_at_call 211; refine (Any.strings_shouldUseASCIISet { Tryz.laysAny with } _ _).mono ?_; rintro e w' ⟨rfl, hw⟩; rw [hw, h8z]; clear hw)
  go_loopg [9, 10] s.size (fun g _ _ wx => ∃ i : Nat, i + g = s.size ∧ wx.heap[w.heap.size]? = some (.stringIter s i) ∧ Below w.heap.size w wx ∧ Lib.NoAny s.data.toList seps.data.toList i)
  case atStart => exact ⟨0, by omega, World.iter_heap w s 0, below_iter w s 0, Lib.NoAny.zero _ _⟩
  case round =>
    obtain ⟨i, hig, hit, hbel, hno⟩ := hrel
    have HN := Lib.hid hno
    clear hno
    cases gk with
    | zero =>
      obtain rfl : i = s.size := by omega
      have hnx := fun ty => next_end hit (Nat.lt_irrefl _) ty
      go_wp2
      go_ret
      exact ⟨by rw [Lib.indexAny_none (by rw [← Lib.size_eq]; exact HN.out)]; rfl, hbel⟩
    | succ g =>
      have hi : i < s.size := by omega
      have hnx := fun ty => next_at hit hi ty
      have hw1 := get_set (.stringIter s (i + (Utf8.decode s i).2)) hit
      have hb1 := below_set (.stringIter s (i + (Utf8.decode s i).2)) (Nat.le_refl _) hbel
      generalize ({ wr with heap := wr.heap.setIfInBounds w.heap.size (.stringIter s (i + (Utf8.decode s i).2)) } : World) = w1 at hnx hw1 hb1
      clear hit hbel
      obtain ⟨x, hx⟩ : ∃ x : UInt8, s[i]'hi = x := ⟨_, rfl⟩
      have Hx := Lib.hid (show s.data.toList[i]? = some x by rw [← hx]; exact Lib.data_getElem? s i hi)
      by_cases hlo : x.toNat < 128
      · have hd := decode_ascii s i hi (by rw [hx]; exact hlo)
        rw [hx] at hd
        rw [hd] at hnx hw1
        have hcon := Lib.contains_iff_indexByte seps.data.toList x
        have hback : ((x.toNat : Int)).toNat.toUInt8 = x := by simp
        clear hd hx
        cases hin : seps.data.toList.contains x
        · rw [hin] at hcon
          have hlt : decide ((0 : Int) ≤ Lib.indexByte [32, 10, 34] x) = false := hcon.symm
          clear hcon
          go_wp2_with (go_at_call 154; refine (Any.strings_IndexRune_ascii { Tryz.laysAny with } _ _ _ (by omega) (by omega)).mono ?_; rintro e w' ⟨rfl, hw⟩; rw [hw, hback]; clear hw)
          go_roundg g
          case measure => omega
          case rel => exact ⟨i + 1, by omega, hw1, hb1, HN.out.succ Hx.out hin⟩
        · rw [hin] at hcon
          have hge : decide ((0 : Int) ≤ Lib.indexByte [32, 10, 34] x) = true := hcon.symm
          clear hcon
          go_wp2_with (go_at_call 154; refine (Any.strings_IndexRune_ascii { Tryz.laysAny with } _ _ _ (by omega) (by omega)).mono ?_; rintro e w' ⟨rfl, hw⟩; rw [hw, hback]; clear hw)
          go_ret
          exact ⟨by rw [Lib.indexAny_hit HN.out Hx.out hin]; rfl, hb1⟩
      · obtain ⟨⟨k1, k2⟩, k3, k4, k5⟩ := decode_hi s i hi (by rw [hx]; omega)
        have HN2 := Lib.hid (noAny_step HN.out k3 k2)
        have HR := Lib.hid (fun w => indexRune_hi (Utf8.decode s i).1 w k4 k5)
        clear k3 k4 k5 HN Hx hx
        generalize (Utf8.decode s i).1 = r at hnx HR
        generalize (Utf8.decode s i).2 = k at k1 k2 hnx hw1 hb1 HN2
        have hs1 : w.heap.size < w1.heap.size := by
          rcases Nat.lt_or_ge w.heap.size w1.heap.size with h1 | h1
          · exact h1
          · rw [Array.getElem?_eq_none h1] at hw1; cases hw1
        go_wp2_with (go_at_call 154; refine (HR.out _).mono ?_; rintro e w2 ⟨rfl, hw2⟩; have hw3 := hw2.block _ hs1; have hb3 := hb1.trans (hw2.mono (Nat.le_of_lt hs1)))
        go_roundg (g + 1 - k)
        case measure => omega
        case rel => exact ⟨i + k, by omega, by rw [hw3]; exact hw1, hb3, HN2.out⟩
theorem indexAny_long (s : ByteArray) (w : World) (h8 : 8 < s.size) (hs : s.size < 4294967281) : Calls Tryz.prog 148 #[.string s, .string ⟨#[32, 10, 34]⟩] w fun e w' => e = .returned (.int .i64 (Lib.indexAny s.data.toList seps.data.toList)) ∧ Below w.heap.size w w' := by
  have z := zero_of_info (P := Tryz.prog) (t := 134) (v := .agg (Array.replicate 256 (.bool false))) (n := 256) (by kernel_rfl)
  refine (Any.strings_IndexAny_long Tryz.laysAny z.1 z.2 s seps w (by decide) h8 hs (by decide) ?_).mono fun e w' ⟨h1, h2⟩ => ⟨h1, ?_⟩
  · intro j b hb
    have hm : b ∈ seps.data.toList := List.mem_of_getElem? hb
    rw [seps_list] at hm
    simp only [List.mem_cons, List.not_mem_nil, or_false] at hm
    rcases hm with rfl | rfl | rfl <;> decide
  · rw [h2]
    exact ((Below.refl _ _).alloc (Nat.le_refl _) _).alloc (by simp) _
theorem indexAny_any (s : ByteArray) (w : World) (hs : s.size < 4294967281) : Calls Tryz.prog 148 #[.string s, .string ⟨#[32, 10, 34]⟩] w fun e w' => e = .returned (.int .i64 (Lib.indexAny s.data.toList seps.data.toList)) ∧ Below w.heap.size w w' := by
  by_cases h8 : s.size ≤ 8
  · exact indexAny_short s w h8
  · exact indexAny_long s w (by omega) hs
def sepIn (l : List UInt8) : Bool := l.any fun c => c == 32 || c == 10 || c == 34
theorem sepIn_eq : ∀ l : List UInt8, decide (0 ≤ Lib.indexAny l seps.data.toList) = sepIn l
  | [] => rfl
  | a :: l => by
    have ih := sepIn_eq l
    have hg := Lib.indexAny_ge seps.data.toList l
    have hc : seps.data.toList.contains a = (a == 32 || a == 10 || a == 34) := by
      rw [seps_list]
      simp only [List.contains_eq_mem, List.mem_cons, List.not_mem_nil, or_false, Bool.decide_or, Bool.or_assoc]
      rfl
    unfold Lib.indexAny
    simp only [sepIn, List.any_cons]
    rw [hc]
    cases a == 32 || a == 10 || a == 34
    · simp only [Bool.false_or, Bool.false_eq_true, if_false]
      rw [← sepIn, ← ih]
      generalize Lib.indexAny l seps.data.toList = n at *
      by_cases hn : n = -1
      · subst hn; rfl
      · rw [if_neg (by simpa using hn)]
        exact decide_eq_decide.2 ⟨fun _ => by omega, fun _ => by omega⟩
    · simp
set_option maxRecDepth 100000 in
theorem contains_any (s : ByteArray) (w : World) (hs : s.size < 4294967281) : Calls Tryz.prog 112 #[.string s, .string ⟨#[32, 10, 34]⟩] w fun e w' => e = .returned (.bool (sepIn s.data.toList)) ∧ Below w.heap.size w w' := by
  have h := sepIn_eq s.data.toList
  generalize sepIn s.data.toList = v at h ⊢
  go_enter Tryz.func112, Tryz.ntmps112
  go_wp2_with (go_at_call 148; refine (indexAny_any s _ hs).mono ?_; rintro e w1 ⟨rfl, hb1⟩)
  go_ret
  exact ⟨rfl, hb1⟩
end Go.Proofs.YtihlneenajlhoaaGreatDoor
/-
  Contracts, for a run of one goroutine, of what writes a line's plain words and a box: (*script.writer).plain, boxes, (*script.writer).box. Condition: the writer's block is not the words' own; lengths that fit; strconv's table stands.
-/
set_option linter.unusedSimpArgs false
set_option linter.unusedVariables false
namespace Go.Proofs.YtihlneenajlhoaaGreatDoor
open Go Go.RowKit

def plainV (s : ByteArray) : Bool := sp.plainB s.data.toList
theorem sep_not (l : List UInt8) : (l.all fun c => c != 32 && c != 10 && c != 34) = !sepIn l := by
  induction l with
  | nil => rfl
  | cons a l ih =>
    unfold sepIn at *
    rw [List.all_cons, List.any_cons, ih]
    cases h1 : a == 32 <;> cases h2 : a == 10 <;> cases h3 : a == 34 <;> simp [bne, h1, h2, h3]
theorem plainV_eq (s : ByteArray) : plainV s = (!s.data.toList.isEmpty && !sepIn s.data.toList) := by
  unfold plainV sp.plainB
  rw [sep_not]
theorem ok_takeS (f : ByteArray → Bool) (ok : Bool) (ns : List ByteArray) (k : Nat) (h : k < ns.length) : (ok && (ns.take (k + 1)).all f) = ((ok && (ns.take k).all f) && f ns[k]) := by
  rw [List.take_add_one, List.getElem?_eq_getElem h, List.all_append]
  simp [Bool.and_assoc]
theorem putS_take1 (ss : List ByteArray) (k : Nat) (h : k < ss.length) : putS (ss.take (k + 1)) = putS (ss.take k) ++ putS [ss[k]] := by
  rw [putS_take ss k h]
  simp [putS]
/-- A word put, behind a store of the flag. -/
theorem put_one (w : World) (b : Nat) (own : Option Nat) (l : List UInt8) (ok ok' : Bool) (s : ByteArray) (h : Bld w 123 [.bool ok] b own l) (hn : l.length + (putS [s]).length ≤ 140737488355328) :
    Calls Tryz.prog 77 #[.pointer (some ⟨b, 0, none⟩), .slice (some ⟨w.heap.size, 0, none⟩) 1 1] ((w.setCell ⟨b, 2, none⟩ (.bool ok')).alloc (.cells #[.string s] 9)) fun e w' => e = .returned (.tuple #[]) ∧ Wrote w b own (l ++ putS [s]) ok' w' := by
  have hsz : (w.setCell ⟨b, 2, none⟩ (.bool ok')).heap.size = w.heap.size := by simp [World.setCell]
  have h1 := bld_flag h ok'
  have f1 : Fr w (w.setCell ⟨b, 2, none⟩ (.bool ok')) b own := Fr.set 2 _
  have hlt := h.lt
  have hol := h.own_lt
  generalize w.setCell ⟨b, 2, none⟩ (.bool ok') = w1 at hsz h1 f1 ⊢
  refine (put_any _ b own l ok' w.heap.size [s] (h1.below (below_new _ _)) ?_ (by omega) (fun e => by have := hol w.heap.size e.symm; omega) hn (by simp)).mono ?_
  · rw [← hsz]; exact heap_alloc_at _ _
  · rintro e w2 ⟨rfl, own2, h2, hf2, ho2⟩
    exact ⟨rfl, Wrote.then (f1.trans (Fr.of_below (below_new _ _)) (Own.refl _ _)) (Own.refl _ _) h2 hf2 ho2⟩
set_option maxRecDepth 100000 in
set_option maxHeartbeats 4000000 in
/-- (*script.writer).plain. -/
theorem plain_any (w : World) (b : Nat) (own : Option Nat) (l : List UInt8) (ok : Bool) (c : Nat) (ss : List ByteArray) (h : Bld w 123 [.bool ok] b own l) (hc : StrsAt w c ss) (hcb : c ≠ b) (hco : some c ≠ own) (hn : l.length + (putS ss).length ≤ 140737488355328) (hss : ss.length ≤ 1000) (hsz : ∀ s ∈ ss, s.size ≤ 1048576) :
    Calls Tryz.prog 79 #[.pointer (some ⟨b, 0, none⟩), .slice (some ⟨c, 0, none⟩) ss.length ss.length] w fun e w' => e = .returned (.tuple #[]) ∧ Wrote w b own (l ++ putS ss) (ok && ss.all plainV) w' := by
  have HB := Lib.hid h; have HC := Lib.hid hc; have HCB := Lib.hid hcb; have HCO := Lib.hid hco; have HN := Lib.hid hn; have HSS := Lib.hid hss; have HSZ := Lib.hid hsz
  clear h hc hcb hco hn hss hsz
  go_enter Tryz.func79, Tryz.ntmps79
  go_wp2
  go_loopw [8] (fun i wr => ∃ k : Nat, k ≤ ss.length ∧ i = .int .i64 k ∧ Wrote w b own (l ++ putS (ss.take k)) (ok && (ss.take k).all plainV) wr) (fun i _ => ss.length - (intOf i).toNat)
  case atStart => exact ⟨0, Nat.zero_le _, rfl, by simpa [putS] using Wrote.refl HB.out⟩
  case round =>
    obtain ⟨k, hk, rfl, own1, hb1, hf1, ho1⟩ := hrel
    have hkb : (k : Int) ≤ 1000 := by have := HSS.out; omega
    have HB1 := Lib.hid hb1; have HF1 := Lib.hid hf1; have HO1 := Lib.hid ho1
    clear hb1 hf1 ho1
    by_cases hlt : k < ss.length
    · have hclt := lt_of_block HC.out
      have hcell : wr.cell? ⟨c, k, none⟩ = some (.string ss[k]) := by
        have := HF1.out.keepOwn hclt HCB.out HCO.out
        rw [cell_of_row wr c k _ 9 (0, 0) (this.trans HC.out)]
        simp [hlt]
      have HX := Lib.hid (putS_take1 ss k hlt)
      have HO := Lib.hid (ok_takeS plainV ok ss k hlt)
      have HZ := Lib.hid (HSZ.out _ (List.getElem_mem hlt))
      have HL : Hid ((l ++ putS (ss.take k)).length + (putS [ss[k]]).length ≤ 140737488355328) := Lib.hid (by
        have h1 := putS_len ss (k + 1)
        rw [HX.out, List.length_append] at h1
        have := HN.out
        rw [List.length_append]
        omega)
      have hs := plainV_eq ss[k]
      obtain ⟨hok, hfz⟩ := bld_ok HB1.out
      generalize ss[k] = s at hcell HX HL HO HZ hs
      have HX2 : Hid (l ++ putS (ss.take (k + 1)) = (l ++ putS (ss.take k)) ++ putS [s]) := Lib.hid (by rw [HX.out]; simp)
      generalize l ++ putS (ss.take k) = l0 at HB1 HL HX2
      generalize (ok && (ss.take k).all plainV) = ok0 at HB1 hok HO
      clear HX
      have hdat : s.data.toList.isEmpty = s.toList.isEmpty := by rw [Lib.toList_data]
      rw [hdat] at hs
      cases ok0 <;> cases t1 : s.toList.isEmpty <;> cases t2 : sepIn s.data.toList
      all_goals
        rw [t1, t2] at hs
        have HS := Lib.hid hs; clear hs
        have HT2 := Lib.hid t2; clear t2 hdat
        have HB2 := Lib.hid HB1.out
        have HF2 := Lib.hid HF1.out
        have HSB : Hid (wr.heap.size ≤ wr.heap.size) := Lib.hid (Nat.le_refl _)
        go_wp2_with (first
          | (go_at_call 112; refine (contains_any s _ (by have := HZ.out; omega)).mono ?_; rintro e w1 ⟨rfl, hb1⟩; rw [HT2.out]; have HB3 := Lib.hid (HB2.out.below hb1); have HF3 := Lib.hid (HF2.out.trans (Fr.of_below hb1) HO1.out); clear HB2 HF2; have HB2 := HB3; have HF2 := HF3; obtain ⟨hok3, hfz3⟩ := bld_ok HB3.out; clear HB3 HF3)
          | (go_at_call 77; refine (put_one _ b own1 l0 _ _ s HB2.out (by have := HL.out; omega)).mono ?_; rintro e w2 ⟨rfl, own2, h2, hf2, ho2⟩; have HW : Hid (Wrote w b own _ _ w2) := Lib.hid (Wrote.then HF2.out HO1.out h2 hf2 ho2); clear h2 hf2 ho2))
        refine ⟨⟨k + 1, by omega, by go_num, ?_⟩, by simp [intOf]; omega⟩
        rw [HX2.out, HO.out, HS.out]
        exact HW.out
    · have : k = ss.length := by omega
      subst this
      have HE : Hid (l ++ putS (ss.take ss.length) = l ++ putS ss) := Lib.hid (by rw [List.take_length])
      have HE2 : Hid ((ok && (ss.take ss.length).all plainV) = (ok && ss.all plainV)) := Lib.hid (by rw [List.take_length])
      go_wp2
      go_end0
      rw [← HE.out, ← HE2.out]
      exact ⟨rfl, own1, HB1.out, HF1.out, HO1.out⟩
end Go.Proofs.YtihlneenajlhoaaGreatDoor
/-
  A writer's calls at words newly laid side by side: put, numbers, fractions, plain. Condition: lengths that fit; strconv's table stands.
-/
set_option linter.unusedSimpArgs false
set_option linter.unusedVariables false
namespace Go.Proofs.YtihlneenajlhoaaGreatDoor
open Go Go.RowKit

theorem datLen (s : ByteArray) : s.data.toList.length = s.size := by rw [Array.length_toList]; rfl
section
variable {w0 w : World} {b : Nat} {own : Option Nat} {l : List UInt8} {ok : Bool}
theorem Wrote.new (h : Wrote w0 b own l ok w) (x : Obj) : ∃ own1, Bld (w.alloc x) 123 [.bool ok] b own1 l ∧ Fr w0 (w.alloc x) b own ∧ Own w0 own own1 ∧ w.heap.size ≠ b ∧ some w.heap.size ≠ own1 := by
  obtain ⟨own1, hb, hf, ho⟩ := h
  refine ⟨own1, hb.below (below_new _ _), hf.trans (Fr.of_below (below_new _ _)) ho, ho, by have := hb.lt; omega, fun e => ?_⟩
  have := hb.own_lt _ e.symm
  omega
theorem Wrote.below {w1 : World} (h : Wrote w0 b own l ok w) (hb : Below w.heap.size w w1) : Wrote w0 b own l ok w1 := by
  obtain ⟨own1, h1, hf, ho⟩ := h
  exact ⟨own1, h1.below hb, hf.trans (Fr.of_below hb) ho, ho⟩
theorem put_new (c : Nat) (hc : w.heap.size = c) (h : Wrote w0 b own l ok w) (s : ByteArray) (hl : l.length ≤ 1000000000) (hs : s.size ≤ 100000000) :
    Calls Tryz.prog 77 #[.pointer (some ⟨b, 0, none⟩), .slice (some ⟨c, 0, none⟩) 1 1] (w.alloc (.cells #[.string s] 9)) fun e w' => e = .returned (.tuple #[]) ∧ Wrote w0 b own (l ++ 32 :: s.data.toList) ok w' := by
  subst hc
  obtain ⟨own1, hb, hf, ho, n1, n2⟩ := h.new (.cells #[.string s] 9)
  have e : putS [s] = 32 :: s.data.toList := by simp [putS]
  refine (put_any _ b own1 l ok w.heap.size [s] hb (heap_alloc_at _ _) n1 n2 ?_ (by simp)).mono ?_
  · rw [e, List.length_cons, datLen]; omega
  · rw [e]
    rintro e w2 ⟨rfl, own2, h2, hf2, ho2⟩
    exact ⟨rfl, Wrote.then hf ho h2 hf2 ho2⟩
theorem plain_new (c : Nat) (hc : w.heap.size = c) (h : Wrote w0 b own l ok w) (s : ByteArray) (hl : l.length ≤ 1000000000) (hs : s.size ≤ 1048576) :
    Calls Tryz.prog 79 #[.pointer (some ⟨b, 0, none⟩), .slice (some ⟨c, 0, none⟩) 1 1] (w.alloc (.cells #[.string s] 9)) fun e w' => e = .returned (.tuple #[]) ∧ Wrote w0 b own (l ++ 32 :: s.data.toList) (ok && plainV s) w' := by
  subst hc
  obtain ⟨own1, hb, hf, ho, n1, n2⟩ := h.new (.cells #[.string s] 9)
  have e : putS [s] = 32 :: s.data.toList := by simp [putS]
  refine (plain_any _ b own1 l ok w.heap.size [s] hb (heap_alloc_at _ _) n1 n2 ?_ (by simp) (by simpa using hs)).mono ?_
  · rw [e, List.length_cons, datLen]; omega
  · rw [e]
    rintro e w2 ⟨rfl, own2, h2, hf2, ho2⟩
    exact ⟨rfl, Wrote.then hf ho (by simpa using h2) hf2 ho2⟩
theorem plain_new2 (c : Nat) (hc : w.heap.size = c) (h : Wrote w0 b own l ok w) (s t : ByteArray) (hl : l.length ≤ 1000000000) (hs : s.size ≤ 1048576) (ht : t.size ≤ 1048576) :
    Calls Tryz.prog 79 #[.pointer (some ⟨b, 0, none⟩), .slice (some ⟨c, 0, none⟩) 2 2] (w.alloc (.cells #[.string s, .string t] 9)) fun e w' => e = .returned (.tuple #[]) ∧ Wrote w0 b own (l ++ 32 :: s.data.toList ++ 32 :: t.data.toList) (ok && plainV s && plainV t) w' := by
  subst hc
  obtain ⟨own1, hb, hf, ho, n1, n2⟩ := h.new (.cells #[.string s, .string t] 9)
  have e : putS [s, t] = 32 :: s.data.toList ++ 32 :: t.data.toList := by simp [putS]
  refine (plain_any _ b own1 l ok w.heap.size [s, t] hb (heap_alloc_at _ _) n1 n2 ?_ (by simp) (by simpa using ⟨hs, ht⟩)).mono ?_
  · rw [e, List.length_append, List.length_cons, List.length_cons, datLen, datLen]; omega
  · rw [e]
    rintro e w2 ⟨rfl, own2, h2, hf2, ho2⟩
    exact ⟨rfl, Wrote.then hf ho (by simpa [Bool.and_assoc] using h2) hf2 ho2⟩
theorem numbers_new (c : Nat) (hc : w.heap.size = c) (h : Wrote w0 b own l ok w) (n : Int) (hn : I64 n) (hl : l.length ≤ 1000000000) (hp : ∀ w', Fr w0 w' b own → Pow w') :
    Calls Tryz.prog 76 #[.pointer (some ⟨b, 0, none⟩), .slice (some ⟨c, 0, none⟩) 1 1] (w.alloc (.cells #[.int .i64 n] 3)) fun e w' => e = .returned (.tuple #[]) ∧ Wrote w0 b own (l ++ 32 :: Lib.itoa n) (ok && smallB n) w' := by
  subst hc
  obtain ⟨own1, hb, hf, ho, n1, n2⟩ := h.new (.cells #[.int .i64 n] 3)
  have e : putS (numsS [n]) = 32 :: Lib.itoa n := by simp [putS, numsS, bstr]
  refine (numbers_any _ b own1 l ok w.heap.size [n] hb (heap_alloc_at _ _) n1 n2 (by simp; omega) (by simp) (by simpa using hn) (hp _ hf) (fun w' h => hp _ (hf.trans h ho))).mono ?_
  rw [e]
  rintro e w2 ⟨rfl, own2, h2, hf2, ho2⟩
  exact ⟨rfl, Wrote.then hf ho (by simpa using h2) hf2 ho2⟩
theorem numbers_new2 (c : Nat) (hc : w.heap.size = c) (h : Wrote w0 b own l ok w) (n k : Int) (hn : I64 n) (hk : I64 k) (hl : l.length ≤ 1000000000) (hp : ∀ w', Fr w0 w' b own → Pow w') :
    Calls Tryz.prog 76 #[.pointer (some ⟨b, 0, none⟩), .slice (some ⟨c, 0, none⟩) 2 2] (w.alloc (.cells #[.int .i64 n, .int .i64 k] 3)) fun e w' => e = .returned (.tuple #[]) ∧ Wrote w0 b own (l ++ 32 :: Lib.itoa n ++ 32 :: Lib.itoa k) (ok && smallB n && smallB k) w' := by
  subst hc
  obtain ⟨own1, hb, hf, ho, n1, n2⟩ := h.new (.cells #[.int .i64 n, .int .i64 k] 3)
  have e : putS (numsS [n, k]) = 32 :: Lib.itoa n ++ 32 :: Lib.itoa k := by simp [putS, numsS, bstr]
  refine (numbers_any _ b own1 l ok w.heap.size [n, k] hb (heap_alloc_at _ _) n1 n2 (by simp; omega) (by simp) (by simpa using ⟨hn, hk⟩) (hp _ hf) (fun w' h => hp _ (hf.trans h ho))).mono ?_
  rw [e]
  rintro e w2 ⟨rfl, own2, h2, hf2, ho2⟩
  exact ⟨rfl, Wrote.then hf ho (by simpa [Bool.and_assoc] using h2) hf2 ho2⟩
theorem fractions_new (c : Nat) (hc : w.heap.size = c) (h : Wrote w0 b own l ok w) (r : Int × Int) (hr : I64 r.1 ∧ I64 r.2) (hl : l.length ≤ 1000000000) :
    Calls Tryz.prog 78 #[.pointer (some ⟨b, 0, none⟩), .slice (some ⟨c, 0, none⟩) 1 1] (w.alloc (.cells #[.int .i64 r.1, .int .i64 r.2] 24)) fun e w' => e = .returned (.tuple #[]) ∧ Wrote w0 b own (l ++ 32 :: sp.ratS r.1 r.2) (ok && mayR r) w' := by
  subst hc
  obtain ⟨own1, hb, hf, ho, n1, n2⟩ := h.new (.cells #[.int .i64 r.1, .int .i64 r.2] 24)
  have e : putS (ratsS [r]) = 32 :: sp.ratS r.1 r.2 := by simp [putS, ratsS, bstr]
  refine (fractions_any _ b own1 l ok w.heap.size [r] hb (heap_alloc_at _ _) n1 n2 (by simp; omega) (by simp) (by simpa using hr)).mono ?_
  rw [e]
  rintro e w2 ⟨rfl, own2, h2, hf2, ho2⟩
  exact ⟨rfl, Wrote.then hf ho (by simpa using h2) hf2 ho2⟩
theorem fractions_new2 (c : Nat) (hc : w.heap.size = c) (h : Wrote w0 b own l ok w) (r q : Int × Int) (hr : I64 r.1 ∧ I64 r.2) (hq : I64 q.1 ∧ I64 q.2) (hl : l.length ≤ 1000000000) :
    Calls Tryz.prog 78 #[.pointer (some ⟨b, 0, none⟩), .slice (some ⟨c, 0, none⟩) 2 2] (w.alloc (.cells #[.int .i64 r.1, .int .i64 r.2, .int .i64 q.1, .int .i64 q.2] 24)) fun e w' => e = .returned (.tuple #[]) ∧ Wrote w0 b own (l ++ 32 :: sp.ratS r.1 r.2 ++ 32 :: sp.ratS q.1 q.2) (ok && mayR r && mayR q) w' := by
  subst hc
  obtain ⟨own1, hb, hf, ho, n1, n2⟩ := h.new (.cells #[.int .i64 r.1, .int .i64 r.2, .int .i64 q.1, .int .i64 q.2] 24)
  have e : putS (ratsS [r, q]) = 32 :: sp.ratS r.1 r.2 ++ 32 :: sp.ratS q.1 q.2 := by simp [putS, ratsS, bstr]
  refine (fractions_any _ b own1 l ok w.heap.size [r, q] hb (heap_alloc_at _ _) n1 n2 (by simp; omega) (by simp) ?_).mono ?_
  · intro x hx
    simp only [List.mem_cons, List.not_mem_nil, or_false] at hx
    rcases hx with rfl | rfl
    · exact hr
    · exact hq
  rw [e]
  rintro e w2 ⟨rfl, own2, h2, hf2, ho2⟩
  exact ⟨rfl, Wrote.then hf ho (by simpa [Bool.and_assoc] using h2) hf2 ho2⟩
end
end Go.Proofs.YtihlneenajlhoaaGreatDoor
