/-
  The walk of MemoBoxes, for a run of one goroutine: it returns true, and nothing that was there has changed. Condition: the argument is nil or leads to a row of Puts.
-/
import Derived.Test.YtdkbkocklnnmdaaBox
import Derived.LoopTactic
set_option linter.unusedSimpArgs false
set_option linter.unusedVariables false
namespace Go.Proofs.Ytdkbkocklnnmdaa
open Go Go.MuLone Go.RowKit

/-- What the walk is told of the argument: it has no element; or a row of pairs, a number and a string each. -/
def IsPuts (w : World) (a : Option Addr) (len : Nat) : Prop :=
  len = 0 ∨ ∃ b off, a = some ⟨b, off, none⟩ ∧ b < w.heap.size ∧ len ≤ maxLen ∧ ∀ i, i < len → ∃ (d : Int) (s : ByteArray), w.cell? ⟨b, off + i * 2, none⟩ = some (.int .i64 d) ∧ w.cell? ⟨b, off + i * 2 + 1, none⟩ = some (.string s)

/-- What holds at each round's head. -/
def BoxRel (w : World) (v has i : Value) (wr : World) : Prop :=
  ∃ (k : Nat) (o : Option ByteArray), k ≤ 60 ∧ v = .string (o.getD ⟨#[]⟩) ∧ has = .bool o.isSome ∧ i = .int .i64 k ∧ Holds9 wr w.heap.size o ∧ Holds9 wr (w.heap.size + 1) none ∧ Only (fun _ => False) w wr

theorem cell_only {w w' : World} {S : Nat → Prop} (h : Only S w w') {a : Addr} {v : Value} (hs : ¬ S a.block) (hc : w.cell? a = some v) : w'.cell? a = some v := by
  have hlt : a.block < w.heap.size := by
    obtain ⟨e, n, hsh, _, _⟩ := World.shape?_of_cell? hc
    unfold World.shape? at hsh
    split at hsh
    · rename_i c e fr hb; exact lt_of_block hb
    · cases hsh
  unfold World.cell? at hc ⊢
  rw [h.block _ hlt hs]; exact hc

theorem boxRel_next {w wr w1 : World} {k : Nat} {s : ByteArray} (hk : k < 60) (ho : Only (fun _ => False) w wr) (hn : Holds9 wr (w.heap.size + 1) none) (h1 : Only (fun i => i = w.heap.size) wr w1) (hb : Holds9 w1 w.heap.size (some s)) :
    BoxRel w (.string s) (.bool true) (.int .i64 ((k : Int) + 1)) w1 := by
  have hlt : w.heap.size + 1 < wr.heap.size := lt_of_block (show wr.heap[w.heap.size + 1]? = some (boxBlk none) from hn)
  refine ⟨k + 1, some s, by omega, rfl, rfl, by go_num, hb, ?_, ho.step h1 (fun i hi e => by omega)⟩
  exact (h1.block _ hlt (by omega)).trans hn

theorem boxRel_same {w wr : World} {k : Nat} {o : Option ByteArray} (hk : k < 60) (ho : Only (fun _ => False) w wr) (hn : Holds9 wr (w.heap.size + 1) none) (hb : Holds9 wr w.heap.size o) :
    BoxRel w (.string (o.getD ⟨#[]⟩)) (.bool o.isSome) (.int .i64 ((k : Int) + 1)) wr := ⟨k + 1, o, by omega, rfl, rfl, by go_num, hb, hn, ho⟩

set_option maxRecDepth 100000 in
set_option maxHeartbeats 4000000 in
theorem boxes_walk (a : Option Addr) (len cap : Nat) (w : World) (h : IsPuts w a len) :
    Calls Try.prog 4 #[.slice a len cap] w fun e w' => e = .returned (.bool true) ∧ Only (fun _ => False) w w' := by
  have hnot := hnot
  have e1 := box_new w (boxBlk none)
  have e2 := box_new (w.alloc (boxBlk none)) (boxBlk none)
  have e1' := box_old (x := boxBlk none) e1
  have e2' : ((w.alloc (boxBlk none)).alloc (boxBlk none)).heap[w.heap.size + 1]? = some (boxBlk none) := by simpa using e2
  have o0 : Only (fun _ => False) w ((w.alloc (boxBlk none)).alloc (boxBlk none)) := ((Only.refl _ w).alloc _).alloc _
  have H1 := Lib.hid e1'; have H2 := Lib.hid e2'; have H0 := Lib.hid o0; have HP := Lib.hid h; clear e1 e2 e1' e2' o0 h
  go_enter Try.func4, Try.ntmps4
  go_wp2
  go_loopw [5, 6, 7] (fun v has i wr => BoxRel w v has i wr) (fun _ _ i _ => 60 - (intOf i).toNat)
  case atStart => exact ⟨0, none, by omega, rfl, rfl, rfl, H1.out, H2.out, H0.out⟩
  case round =>
    obtain ⟨k, o, hk, rfl, rfl, rfl, hb, hn, ho⟩ := hrel
    have HB := Lib.hid hb; have HN := Lib.hid hn; have HO := Lib.hid ho; clear hb hn ho
    generalize ho1 : o.getD ⟨#[]⟩ = v
    generalize ho2 : o.isSome = has
    have HV := Lib.hid ho1; have HH := Lib.hid ho2; clear ho1 ho2
    by_cases hc : k < len ∧ k < 60
    · obtain ⟨hlt, h60⟩ := hc
      rcases HP.out with hz | ⟨b, off, ha, hbl, hmax, hcell⟩
      · omega
      subst ha
      obtain ⟨d, s, hd, hs⟩ := hcell k hlt
      have hd' := cell_only HO.out (fun h => h) hd
      have hs' := cell_only HO.out (fun h => h) hs
      clear hcell hd hs
      unfold maxLen at hmax
      by_cases hd0 : d = 0
      · subst hd0
        go_wp2_with (go_at_call 14; refine (box_put w.heap.size o s _ HB.out).mono ?_; rintro e w1 ⟨rfl, hx, hy⟩; have HX := Lib.hid hx; have HY := Lib.hid hy; have hs2 := cell_only hx (by simp; omega) hs'; clear hx hy)
        exact ⟨boxRel_next h60 HO.out HN.out HX.out HY.out, by simp [intOf]; omega⟩
      · have q0 : (d == 0) = false := by simpa using hd0
        by_cases hd1 : d = 1
        · subst hd1
          go_wp2_with (go_at_call 15; refine (box_get w.heap.size o _ HB.out).mono ?_; rintro e w1 ⟨rfl, rfl⟩; rw [HV.out, HH.out])
          exact ⟨HV.out ▸ HH.out ▸ boxRel_same h60 HO.out HN.out HB.out, by simp [intOf]; omega⟩
        · have q1 : (d == 1) = false := by simpa using hd1
          go_wp2_with (go_at_call 16; refine (box_swap w.heap.size o s _ HB.out).mono ?_; rintro e w1 ⟨rfl, hx, hy⟩; rw [HV.out, HH.out]; have HX := Lib.hid hx; have HY := Lib.hid hy; have hs2 := cell_only hx (by simp; omega) hs'; clear hx hy)
          exact ⟨boxRel_next h60 HO.out HN.out HX.out HY.out, by simp [intOf]; omega⟩
    · have hx : len ≤ k ∨ k = 60 := by omega
      clear hc
      rcases hx with hx | hx
      · go_wp2_with fail
        refine (box_get w.heap.size o _ HB.out).mono ?_
        rintro e w1 ⟨rfl, rfl⟩
        rw [HV.out, HH.out]
        go_wp2_with fail
        refine (box_get (w.heap.size + 1) none _ HN.out).mono ?_
        rintro e w1 ⟨rfl, rfl⟩
        go_wp2_with (go_at_call 13; refine (awake_true _).mono ?_; rintro e w1 ⟨rfl, hx⟩; have HX := Lib.hid hx; clear hx)
        go_ret
        exact ⟨rfl, HO.out.trans HX.out⟩
      · subst hx
        by_cases hlt : 60 < len
        · rcases HP.out with hz | ⟨b, off, ha, hbl, hmax, hcell⟩
          · omega
          unfold maxLen at hmax
          clear hcell
          go_wp2_with fail
          refine (box_get w.heap.size o _ HB.out).mono ?_
          rintro e w1 ⟨rfl, rfl⟩
          rw [HV.out, HH.out]
          go_wp2_with fail
          refine (box_get (w.heap.size + 1) none _ HN.out).mono ?_
          rintro e w1 ⟨rfl, rfl⟩
          go_wp2_with (go_at_call 13; refine (awake_true _).mono ?_; rintro e w1 ⟨rfl, hx⟩; have HX := Lib.hid hx; clear hx)
          go_ret
          exact ⟨rfl, HO.out.trans HX.out⟩
        · have hx : len ≤ 60 := by omega
          go_wp2_with fail
          refine (box_get w.heap.size o _ HB.out).mono ?_
          rintro e w1 ⟨rfl, rfl⟩
          rw [HV.out, HH.out]
          go_wp2_with fail
          refine (box_get (w.heap.size + 1) none _ HN.out).mono ?_
          rintro e w1 ⟨rfl, rfl⟩
          go_wp2_with (go_at_call 13; refine (awake_true _).mono ?_; rintro e w1 ⟨rfl, hx⟩; have HX := Lib.hid hx; clear hx)
          go_ret
          exact ⟨rfl, HO.out.trans HX.out⟩
end Go.Proofs.Ytdkbkocklnnmdaa
