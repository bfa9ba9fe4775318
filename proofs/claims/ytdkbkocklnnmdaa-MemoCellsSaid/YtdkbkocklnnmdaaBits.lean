/-
  The mutex's word and the bit operations of lockSlow and unlockSlow: their arithmetic faces. Conditions: the word's parts are small.
-/
import Derived.Test.YtdkbkocklnnmdaaLock
import Derived.Lib.QuoteBits
set_option linter.unusedVariables false
set_option linter.unusedSimpArgs false
set_option linter.unusedSectionVars false
namespace Go.Proofs.Ytdkbkocklnnmdaa.lock
open Go Go.Lib

theorem testb {c r : Nat} (hr : r < 8) (i : Nat) : (8 * c + r).testBit i = if i < 3 then r.testBit i else c.testBit (i - 3) := Nat.testBit_two_pow_mul_add (i := 3) c (by omega) i
theorem small_bit {r : Nat} (hr : r < 8) {i : Nat} (hi : ¬ i < 3) : r.testBit i = false := Nat.testBit_lt_two_pow (Nat.lt_of_lt_of_le hr (by
  have : 2 ^ 3 ≤ 2 ^ i := Nat.pow_le_pow_right (by omega) (by omega)
  omega))
theorem and8 (c r m : Nat) (hr : r < 8) (hm : m < 8) : (8 * c + r) &&& m = r &&& m := by
  refine Nat.eq_of_testBit_eq fun i => ?_
  rw [Nat.testBit_and, Nat.testBit_and, testb hr]
  split
  · rfl
  · rename_i h; rw [small_bit hm h]; simp
theorem or8 (c r m : Nat) (hr : r < 8) (hm : m < 8) : (8 * c + r) ||| m = 8 * c + (r ||| m) := by
  have hx : r ||| m < 8 := Nat.or_lt_two_pow (n := 3) hr hm
  refine Nat.eq_of_testBit_eq fun i => ?_
  rw [Nat.testBit_or, testb hr, testb hx]
  split
  · rw [Nat.testBit_or]
  · rename_i h; rw [small_bit hm h]; simp
theorem not8 (c r : Nat) (hc : c < 268435456) (hr : r < 8) : (8 * c + r) &&& (4294967295 - 2) = 8 * c + (r &&& 5) := by
  have hx : r &&& 5 < 8 := Nat.lt_of_le_of_lt Nat.and_le_left hr
  have e : 4294967295 - 2 = 8 * 536870911 + 5 := by decide
  have hcm : c &&& 536870911 = c := by
    have : (536870911 : Nat) = 2 ^ 29 - 1 := by decide
    rw [this, Nat.and_two_pow_sub_one_eq_mod]
    exact Nat.mod_eq_of_lt (by omega)
  rw [e]
  refine Nat.eq_of_testBit_eq fun i => ?_
  rw [Nat.testBit_and, testb hr, testb hx, testb (by omega : 5 < 8)]
  split
  · rw [Nat.testBit_and]
  · rw [← Nat.testBit_and, hcm]

theorem bits_and (x y : Nat) (hx : x < 2147483648) (hy : y < 2147483648) : bits .and .i32 (x : Int) (y : Int) = ((x &&& y : Nat) : Int) := by
  show IntKind.i32.wrap ((BitVec.ofInt 32 (x : Int) &&& BitVec.ofInt 32 (y : Int)).toNat : Int) = _
  rw [BitVec.toNat_and, ofInt_u32 x (by omega), ofInt_u32 y (by omega)]
  exact wrap_i32_small _ (Nat.lt_of_le_of_lt Nat.and_le_left hx)
theorem bits_or (x y : Nat) (hx : x < 2147483648) (hy : y < 2147483648) : bits .or .i32 (x : Int) (y : Int) = ((x ||| y : Nat) : Int) := by
  show IntKind.i32.wrap ((BitVec.ofInt 32 (x : Int) ||| BitVec.ofInt 32 (y : Int)).toNat : Int) = _
  rw [BitVec.toNat_or, ofInt_u32 x (by omega), ofInt_u32 y (by omega)]
  exact wrap_i32_small _ (Nat.or_lt_two_pow (n := 31) hx hy)
theorem bits_not2 (x : Nat) (hx : x < 2147483648) : bits .andNot .i32 (x : Int) 2 = ((x &&& (4294967295 - 2) : Nat) : Int) := by
  show IntKind.i32.wrap ((BitVec.ofInt 32 (x : Int) &&& ~~~BitVec.ofInt 32 ((2 : Nat) : Int)).toNat : Int) = _
  rw [BitVec.toNat_and, BitVec.toNat_not, ofInt_u32 x (by omega), ofInt_u32 2 (by omega)]
  exact wrap_i32_small _ (Nat.lt_of_le_of_lt Nat.and_le_left hx)

theorem enc_nat (l w s c : Nat) : Mst.enc ⟨l, w, s, c⟩ = ((8 * c + (l + 2 * w + 4 * s) : Nat) : Int) := by simp only [Mst.enc]; omega
section
variable {l w s c : Nat} (hl : l ≤ 1) (hw : w ≤ 1) (hs : s ≤ 1) (hc : c ≤ 1048577)
include hl hw hs hc
theorem enc_and5 : bits .and .i32 (Mst.enc ⟨l, w, s, c⟩) 5 = ((l + 4 * s : Nat) : Int) := by
  rw [enc_nat, show (5 : Int) = ((5 : Nat) : Int) from rfl, bits_and _ _ (by omega) (by omega), and8 _ _ _ (by omega) (by omega)]
  rcases (by omega : l = 0 ∨ l = 1) with rfl | rfl <;> rcases (by omega : w = 0 ∨ w = 1) with rfl | rfl <;> rcases (by omega : s = 0 ∨ s = 1) with rfl | rfl <;> rfl
theorem enc_and4 : bits .and .i32 (Mst.enc ⟨l, w, s, c⟩) 4 = ((4 * s : Nat) : Int) := by
  rw [enc_nat, show (4 : Int) = ((4 : Nat) : Int) from rfl, bits_and _ _ (by omega) (by omega), and8 _ _ _ (by omega) (by omega)]
  rcases (by omega : l = 0 ∨ l = 1) with rfl | rfl <;> rcases (by omega : w = 0 ∨ w = 1) with rfl | rfl <;> rcases (by omega : s = 0 ∨ s = 1) with rfl | rfl <;> rfl
theorem enc_and3 : bits .and .i32 (Mst.enc ⟨l, w, s, c⟩) 3 = ((l + 2 * w : Nat) : Int) := by
  rw [enc_nat, show (3 : Int) = ((3 : Nat) : Int) from rfl, bits_and _ _ (by omega) (by omega), and8 _ _ _ (by omega) (by omega)]
  rcases (by omega : l = 0 ∨ l = 1) with rfl | rfl <;> rcases (by omega : w = 0 ∨ w = 1) with rfl | rfl <;> rcases (by omega : s = 0 ∨ s = 1) with rfl | rfl <;> rfl
theorem enc_and2 : bits .and .i32 (Mst.enc ⟨l, w, s, c⟩) 2 = ((2 * w : Nat) : Int) := by
  rw [enc_nat, show (2 : Int) = ((2 : Nat) : Int) from rfl, bits_and _ _ (by omega) (by omega), and8 _ _ _ (by omega) (by omega)]
  rcases (by omega : l = 0 ∨ l = 1) with rfl | rfl <;> rcases (by omega : w = 0 ∨ w = 1) with rfl | rfl <;> rcases (by omega : s = 0 ∨ s = 1) with rfl | rfl <;> rfl
theorem enc_and1 : bits .and .i32 (Mst.enc ⟨l, w, s, c⟩) 1 = ((l : Nat) : Int) := by
  rw [enc_nat, show (1 : Int) = ((1 : Nat) : Int) from rfl, bits_and _ _ (by omega) (by omega), and8 _ _ _ (by omega) (by omega)]
  rcases (by omega : l = 0 ∨ l = 1) with rfl | rfl <;> rcases (by omega : w = 0 ∨ w = 1) with rfl | rfl <;> rcases (by omega : s = 0 ∨ s = 1) with rfl | rfl <;> rfl
theorem enc_and7 : bits .and .i32 (Mst.enc ⟨l, w, s, c⟩) 7 = ((l + 2 * w + 4 * s : Nat) : Int) := by
  rw [enc_nat, show (7 : Int) = ((7 : Nat) : Int) from rfl, bits_and _ _ (by omega) (by omega), and8 _ _ _ (by omega) (by omega)]
  rcases (by omega : l = 0 ∨ l = 1) with rfl | rfl <;> rcases (by omega : w = 0 ∨ w = 1) with rfl | rfl <;> rcases (by omega : s = 0 ∨ s = 1) with rfl | rfl <;> rfl
theorem enc_or1 : bits .or .i32 (Mst.enc ⟨l, w, s, c⟩) 1 = Mst.enc ⟨1, w, s, c⟩ := by
  rw [enc_nat, enc_nat, show (1 : Int) = ((1 : Nat) : Int) from rfl, bits_or _ _ (by omega) (by omega), or8 _ _ _ (by omega) (by omega)]
  rcases (by omega : l = 0 ∨ l = 1) with rfl | rfl <;> rcases (by omega : w = 0 ∨ w = 1) with rfl | rfl <;> rcases (by omega : s = 0 ∨ s = 1) with rfl | rfl <;> rfl
theorem enc_or2 : bits .or .i32 (Mst.enc ⟨l, w, s, c⟩) 2 = Mst.enc ⟨l, 1, s, c⟩ := by
  rw [enc_nat, enc_nat, show (2 : Int) = ((2 : Nat) : Int) from rfl, bits_or _ _ (by omega) (by omega), or8 _ _ _ (by omega) (by omega)]
  rcases (by omega : l = 0 ∨ l = 1) with rfl | rfl <;> rcases (by omega : w = 0 ∨ w = 1) with rfl | rfl <;> rcases (by omega : s = 0 ∨ s = 1) with rfl | rfl <;> rfl
theorem enc_or4 : bits .or .i32 (Mst.enc ⟨l, w, s, c⟩) 4 = Mst.enc ⟨l, w, 1, c⟩ := by
  rw [enc_nat, enc_nat, show (4 : Int) = ((4 : Nat) : Int) from rfl, bits_or _ _ (by omega) (by omega), or8 _ _ _ (by omega) (by omega)]
  rcases (by omega : l = 0 ∨ l = 1) with rfl | rfl <;> rcases (by omega : w = 0 ∨ w = 1) with rfl | rfl <;> rcases (by omega : s = 0 ∨ s = 1) with rfl | rfl <;> rfl
theorem enc_not2 : bits .andNot .i32 (Mst.enc ⟨l, w, s, c⟩) 2 = Mst.enc ⟨l, 0, s, c⟩ := by
  rw [enc_nat, enc_nat, bits_not2 _ (by omega), not8 _ _ (by omega) (by omega)]
  rcases (by omega : l = 0 ∨ l = 1) with rfl | rfl <;> rcases (by omega : w = 0 ∨ w = 1) with rfl | rfl <;> rcases (by omega : s = 0 ∨ s = 1) with rfl | rfl <;> rfl
theorem enc_add8 : IntKind.i32.wrap (Mst.enc ⟨l, w, s, c⟩ + 8) = Mst.enc ⟨l, w, s, c + 1⟩ := by
  rw [enc_nat, enc_nat, show ((8 * c + (l + 2 * w + 4 * s) : Nat) : Int) + 8 = ((8 * (c + 1) + (l + 2 * w + 4 * s) : Nat) : Int) by omega]
  exact wrap_i32_small _ (by omega)
theorem enc_div8 : Mst.enc ⟨l, w, s, c⟩ / 8 = (c : Int) := by
  rw [enc_nat]; omega
end
theorem enc_sub1 {w s c : Nat} (hw : w ≤ 1) (hs : s ≤ 1) (hc : c ≤ 1048577) : IntKind.i32.wrap (Mst.enc ⟨1, w, s, c⟩ + -1) = Mst.enc ⟨0, w, s, c⟩ := by
  rw [enc_nat, enc_nat, show ((8 * c + (1 + 2 * w + 4 * s) : Nat) : Int) + -1 = ((8 * c + (0 + 2 * w + 4 * s) : Nat) : Int) by omega]
  exact wrap_i32_small _ (by omega)
theorem enc_add1 {w s c : Nat} (hw : w ≤ 1) (hs : s ≤ 1) (hc : c ≤ 1048577) : IntKind.i32.wrap (Mst.enc ⟨0, w, s, c⟩ + 1) = Mst.enc ⟨1, w, s, c⟩ := by
  rw [enc_nat, enc_nat, show ((8 * c + (0 + 2 * w + 4 * s) : Nat) : Int) + 1 = ((8 * c + (1 + 2 * w + 4 * s) : Nat) : Int) by omega]
  exact wrap_i32_small _ (by omega)
theorem enc_sub8 {l w s c : Nat} (hl : l ≤ 1) (hw : w ≤ 1) (hs : s ≤ 1) (h0 : 0 < c) (hc : c ≤ 1048577) : IntKind.i32.wrap (Mst.enc ⟨l, w, s, c⟩ - 8) = Mst.enc ⟨l, w, s, c - 1⟩ := by
  rw [enc_nat, enc_nat, show ((8 * c + (l + 2 * w + 4 * s) : Nat) : Int) - 8 = ((8 * (c - 1) + (l + 2 * w + 4 * s) : Nat) : Int) by omega]
  exact wrap_i32_small _ (by omega)
theorem enc_m7 {w c : Nat} (hw : w ≤ 1) (h0 : 0 < c) (hc : c ≤ 1048577) : IntKind.i32.wrap (Mst.enc ⟨0, w, 1, c⟩ + -7) = Mst.enc ⟨1, w, 1, c - 1⟩ := by
  rw [enc_nat, enc_nat, show ((8 * c + (0 + 2 * w + 4 * 1) : Nat) : Int) + -7 = ((8 * (c - 1) + (1 + 2 * w + 4 * 1) : Nat) : Int) by omega]
  exact wrap_i32_small _ (by omega)
theorem enc_m11 {w c : Nat} (hw : w ≤ 1) (h0 : 0 < c) (hc : c ≤ 1048577) : IntKind.i32.wrap (Mst.enc ⟨0, w, 1, c⟩ + -11) = Mst.enc ⟨1, w, 0, c - 1⟩ := by
  rw [enc_nat, enc_nat, show ((8 * c + (0 + 2 * w + 4 * 1) : Nat) : Int) + -11 = ((8 * (c - 1) + (1 + 2 * w + 4 * 0) : Nat) : Int) by omega]
  exact wrap_i32_small _ (by omega)
end Go.Proofs.Ytdkbkocklnnmdaa.lock
