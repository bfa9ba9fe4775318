/-
  The walk of MemoChain, for a run of one goroutine: it returns true, and nothing that was there has changed. Condition: the second argument has no element or leads to a row of numbers.
-/
import Derived.Test.YtdkbkocklnnmdaaChainGet
import Derived.LoopTactic
import Derived.Deep.RegionWith
import Derived.Laws.MakeOwn
import Derived.Deep.Cut
import Derived.Deep.CutRange
set_option linter.unusedSimpArgs false
set_option linter.unusedVariables false
namespace Go.Proofs.Ytdkbkocklnnmdaa.chain
open Go Go.MuLone Go.RowKit

theorem info3 : (Try.prog.info? 3).map (fun i => (i.zero, i.size, i.bytes)) = some (some (.int .i64 0), 1, 8) := by kernel_rfl
theorem info24 : (Try.prog.info? 24).map (fun i => (i.zero, i.size, i.bytes)) = some (some (.pointer none), 1, 8) := by kernel_rfl

theorem made_ofFn (z : Value) (n : Nat) : madeCells #[z] (n * 1) = Array.ofFn (n := n) fun _ => z := by
  apply Array.ext
  · simp [madeCells]
  · intro i h1 h2
    simp [madeCells, Nat.mod_one]

theorem mk22 (n : Nat) (hn : n ≤ 20) (w : World) : (Instr.makeSlice 22 (.int .i64 n) (.int .i64 n)).run Try.prog w = .ok (.slice (some ⟨w.heap.size, 0, none⟩) n n) (w.alloc (.cells (runsArr n fun _ => 0) 3)) := by
  obtain ⟨i, hi, h⟩ := Option.map_eq_some_iff.1 info3
  simp only [Prod.mk.injEq] at h
  have := run_makeSlice (P := Try.prog) (w := w) 22 3 i (.int .i64 0) Try.underlying22 hi h.1 .i64 .i64 n n (by omega) (by omega) (by rw [h.2.1]; omega) (by rw [h.2.2]; omega) (by omega)
  rw [this, h.2.1]
  simp only [Int.toNat_natCast, Value.cells]
  rw [made_ofFn]
  rfl
theorem mk23 (n : Nat) (hn : n ≤ 20) (N : Nat) (w : World) : (Instr.makeSlice 23 (.int .i64 n) (.int .i64 n)).run Try.prog w = .ok (.slice (some ⟨w.heap.size, 0, none⟩) n n) (w.alloc (.cells (ptrArr N n 0) 24)) := by
  obtain ⟨i, hi, h⟩ := Option.map_eq_some_iff.1 info24
  simp only [Prod.mk.injEq] at h
  have := run_makeSlice (P := Try.prog) (w := w) 23 24 i (.pointer none) Try.underlying23 hi h.1 .i64 .i64 n n (by omega) (by omega) (by rw [h.2.1]; omega) (by rw [h.2.2]; omega) (by omega)
  rw [this, h.2.1]
  simp only [Int.toNat_natCast, Value.cells]
  rw [made_ofFn]
  simp [ptrArr]

/-- The chain while it is made: i cells stand. -/
structure Made (w0 : World) (n i : Nat) (w : World) : Prop where
  size : w.heap.size = w0.heap.size + 4 + 2 * i
  counts : w.heap[w0.heap.size]? = some (.cells (runsArr n fun _ => 0) 3 (0, 0))
  runs : w.heap[w0.heap.size + 1]? = some (.cells #[.slice (some ⟨w0.heap.size, 0, none⟩) n n] 22 (0, 0))
  ptrs : w.heap[w0.heap.size + 2]? = some (.cells (ptrArr w0.heap.size n i) 24 (0, 0))
  cells : w.heap[w0.heap.size + 3]? = some (.cells #[.slice (some ⟨w0.heap.size + 2, 0, none⟩) n n] 23 (0, 0))
  ks : ∀ j, j < i → w.heap[w0.heap.size + 4 + 2 * j]? = some (.cells #[.int .i64 j] 3 (0, 0))
  cell : ∀ j, j < i → w.heap[w0.heap.size + 5 + 2 * j]? = some (fresh w0.heap.size j)
  only : Only (fun _ => False) w0 w

def MadeRel (w0 : World) (n : Nat) (i : Value) (w : World) : Prop := ∃ k : Nat, k ≤ n ∧ i = .int .i64 k ∧ Made w0 n k w

theorem made_start (n : Nat) (w : World) : Made w n 0 ((((w.alloc (.cells (runsArr n fun _ => 0) 3)).alloc (.cells #[.slice (some ⟨w.heap.size, 0, none⟩) n n] 22)).alloc (.cells (ptrArr w.heap.size n 0) 24)).alloc (.cells #[.slice (some ⟨w.heap.size + 2, 0, none⟩) n n] 23)) := by
  have h0 := box_new w (.cells (runsArr n fun _ => 0) 3)
  have h1 := box_new (w.alloc (.cells (runsArr n fun _ => 0) 3)) (.cells #[.slice (some ⟨w.heap.size, 0, none⟩) n n] 22)
  have h2 := box_new ((w.alloc (.cells (runsArr n fun _ => 0) 3)).alloc (.cells #[.slice (some ⟨w.heap.size, 0, none⟩) n n] 22)) (.cells (ptrArr w.heap.size n 0) 24)
  have h3 := box_new (((w.alloc (.cells (runsArr n fun _ => 0) 3)).alloc (.cells #[.slice (some ⟨w.heap.size, 0, none⟩) n n] 22)).alloc (.cells (ptrArr w.heap.size n 0) 24)) (.cells #[.slice (some ⟨w.heap.size + 2, 0, none⟩) n n] 23)
  simp only [World.size_alloc] at h1 h2 h3
  exact ⟨by simp, box_old (box_old (box_old h0)), box_old (box_old h1), box_old h2, h3, fun j hj => by omega, fun j hj => by omega, ((((Only.refl _ w).alloc _).alloc _).alloc _).alloc _⟩

theorem ptrArr_set {N n k : Nat} : (ptrArr N n k).setIfInBounds k (.pointer (some ⟨N + 5 + 2 * k, 0, none⟩)) = ptrArr N n (k + 1) := by
  apply Array.ext
  · simp [ptrArr]
  · intro i h1 h2
    simp only [ptrArr, Array.size_setIfInBounds, Array.size_ofFn] at h1 h2
    rw [Array.getElem_setIfInBounds (by simpa [ptrArr] using h1)]
    simp only [ptrArr, Array.getElem_ofFn]
    by_cases e : k = i
    · subst e; simp
    · by_cases e' : i < k
      · simp [e, e', show i < k + 1 by omega]
      · simp [e, e', show ¬ i < k + 1 by omega]

/-- The world behind a round's making. -/
def behind (N k : Nat) (wr : World) : World :=
  ((wr.alloc (.cells #[.int .i64 k] 3)).alloc (fresh N k)).setCell ⟨N + 2, k, none⟩ (.pointer (some ⟨N + 5 + 2 * k, 0, none⟩))

theorem made_next {w0 wr : World} {n k : Nat} (hk : k < n) (h : Made w0 n k wr) : Made w0 n (k + 1) (behind w0.heap.size k wr) := by
  obtain ⟨hs, h0, h1, h2, h3, h4, h5, h6⟩ := h
  unfold behind
  have e1 := box_new wr (.cells #[.int .i64 k] 3)
  have e2 := box_new (wr.alloc (.cells #[.int .i64 k] 3)) (fresh w0.heap.size k)
  rw [hs] at e1
  simp only [World.size_alloc, hs] at e2
  have keep : ∀ (j : Nat) (o : Obj), j ≠ w0.heap.size + 2 → wr.heap[j]? = some o → (((wr.alloc (.cells #[.int .i64 k] 3)).alloc (fresh w0.heap.size k)).setCell ⟨w0.heap.size + 2, k, none⟩ (.pointer (some ⟨w0.heap.size + 5 + 2 * k, 0, none⟩))).heap[j]? = some o := by
    intro j o hj ho
    have := box_old (x := fresh w0.heap.size k) (box_old (x := .cells #[.int .i64 k] 3) ho)
    show (Array.modify _ _ _)[j]? = _
    rw [Array.getElem?_modify]
    simp [hj.symm, this]
  have keep' : ∀ (j : Nat) (o : Obj), j ≠ w0.heap.size + 2 → ((wr.alloc (.cells #[.int .i64 k] 3)).alloc (fresh w0.heap.size k)).heap[j]? = some o → (((wr.alloc (.cells #[.int .i64 k] 3)).alloc (fresh w0.heap.size k)).setCell ⟨w0.heap.size + 2, k, none⟩ (.pointer (some ⟨w0.heap.size + 5 + 2 * k, 0, none⟩))).heap[j]? = some o := by
    intro j o hj ho
    show (Array.modify _ _ _)[j]? = _
    rw [Array.getElem?_modify]
    simp [hj.symm, ho]
  refine ⟨by simp [hs]; omega, keep _ _ (by omega) h0, keep _ _ (by omega) h1, ?_, keep _ _ (by omega) h3, fun j hj => ?_, fun j hj => ?_, ((h6.alloc _).alloc _).set _ _ (.inl (by simp))⟩
  · have h2' := box_old (x := fresh w0.heap.size k) (box_old (x := .cells #[.int .i64 k] 3) h2)
    have hlt := lt_of_block h2'
    have h' : ((wr.alloc (.cells #[.int .i64 k] 3)).alloc (fresh w0.heap.size k)).heap[w0.heap.size + 2] = .cells (ptrArr w0.heap.size n k) 24 (0, 0) := by simpa [Array.getElem?_eq_getElem hlt] using h2'
    show (Array.modify _ _ _)[w0.heap.size + 2]? = _
    rw [Array.getElem?_eq_getElem (by simpa using hlt), Array.getElem_modify_self, h', ← ptrArr_set]
    simp
  · by_cases e : j = k
    · subst e; exact keep' _ _ (by omega) (box_old (by simpa using e1))
    · exact keep _ _ (by omega) (h4 j (by omega))
  · by_cases e : j = k
    · subst e
      refine keep' _ _ (by omega) ?_
      rw [show w0.heap.size + 5 + 2 * j = w0.heap.size + 4 + 2 * j + 1 by omega]
      exact e2
    · exact keep _ _ (by omega) (h5 j (by omega))

theorem made_ptr {w0 wr : World} {n k : Nat} (hk : k < n) (h : Made w0 n k wr) : wr.cell? ⟨w0.heap.size + 1 + 1, k, none⟩ = some (.pointer none) := by
  have h2 : wr.heap[w0.heap.size + 1 + 1]? = some (.cells (ptrArr w0.heap.size n k) 24 (0, 0)) := h.ptrs
  simp only [World.cell?, h2]
  simp [ptrArr, hk]
theorem made_ptr2 {w0 wr : World} {n k : Nat} (hk : k < n) (h : Made w0 n k wr) (o o' : Obj) : ((wr.alloc o).alloc o').cell? ⟨w0.heap.size + 1 + 1, k, none⟩ = some (.pointer none) := by
  have h2 : ((wr.alloc o).alloc o').heap[w0.heap.size + 1 + 1]? = some (.cells (ptrArr w0.heap.size n k) 24 (0, 0)) := box_old (box_old h.ptrs)
  simp only [World.cell?, h2]
  simp [ptrArr, hk]
theorem made_free2 {w0 wr : World} {n k : Nat} (h : Made w0 n k wr) (o o' : Obj) : ((wr.alloc o).alloc o').frozen? ⟨w0.heap.size + 1 + 1, k, none⟩ = false := by
  have h2 : ((wr.alloc o).alloc o').heap[w0.heap.size + 1 + 1]? = some (.cells (ptrArr w0.heap.size n k) 24 (0, 0)) := box_old (box_old h.ptrs)
  simp [World.frozen?, h2]
theorem made_k2 {w0 wr : World} {n k : Nat} (h : Made w0 n k wr) (o' : Obj) : ((wr.alloc (.cells #[.int .i64 k] 3)).alloc o').cell? ⟨wr.heap.size, 0, none⟩ = some (.int .i64 k) :=
  cell_of_one (box_old (box_new wr (.cells #[.int .i64 k] 3)))
theorem made_cells2 {w0 wr : World} {n k : Nat} (h : Made w0 n k wr) (o o' : Obj) : ((wr.alloc o).alloc o').cell? ⟨w0.heap.size + 1 + 1 + 1, 0, none⟩ = some (.slice (some ⟨w0.heap.size + 1 + 1, 0, none⟩) n n) :=
  cell_of_one (box_old (box_old h.cells))
theorem made_free {w0 wr : World} {n k : Nat} (h : Made w0 n k wr) : wr.frozen? ⟨w0.heap.size + 1 + 1, k, none⟩ = false := by
  have h2 : wr.heap[w0.heap.size + 1 + 1]? = some (.cells (ptrArr w0.heap.size n k) 24 (0, 0)) := h.ptrs
  simp [World.frozen?, h2]

theorem made_close {w0 wr : World} {n k : Nat} (hk : k < n) (h : Made w0 n k wr) : Made w0 n (k + 1)
    (((wr.alloc (.cells #[.int .i64 k] 3)).alloc (blk 0 0 (.func (.func 10) #[] #[.pointer (some ⟨w0.heap.size + 1, 0, none⟩), .pointer (some ⟨wr.heap.size, 0, none⟩), .pointer (some ⟨w0.heap.size + 1 + 1 + 1, 0, none⟩)]) 0 0 0)).setCell
        ⟨w0.heap.size + 1 + 1, k, none⟩ (.pointer (some ⟨wr.heap.size + 1, 0, none⟩))).drew := by
  have h1 := made_next hk h
  have hs := h.size
  unfold behind fresh fv at h1
  rw [hs, show w0.heap.size + 4 + 2 * k + 1 = w0.heap.size + 5 + 2 * k by omega]
  obtain ⟨a1, a2, a3, a4, a5, a6, a7, a8⟩ := h1
  exact ⟨a1, a2, a3, a4, a5, a6, a7, a8.drew⟩

/-- The chain as it stands when the cells up to h have run. -/
def rfH (h : Int) (j : Nat) : Int := if (j : Int) ≤ h then 1 else 0
def cfH (N : Nat) (h : Int) (j : Nat) : Obj := if (j : Int) ≤ h then done N j else fresh N j
theorem upto_H (N : Nat) (h : Int) (k : Nat) : Upto N h k (rfH h) (cfH N h) := fun j _ => ⟨fun e => by simp [rfH, cfH, e], fun e => by simp [rfH, cfH, show ¬ (j : Int) ≤ h by omega]⟩

/-- The chain is made: none has run. -/
theorem made_chain {w0 w : World} {n : Nat} (h : Made w0 n n w) : Chain w0.heap.size n (fun _ => False) (rfH (-1)) (cfH w0.heap.size (-1)) w := by
  obtain ⟨a1, a2, a3, a4, a5, a6, a7, a8⟩ := h
  refine ⟨⟨by omega, a3, a4, a5, a6⟩, ?_, fun j hj _ => ?_⟩
  · rw [a2]
    have : runsArr n (fun _ => 0) = runsArr n (rfH (-1)) := by
      unfold runsArr
      congr 1
      funext j
      rw [show rfH (-1) j.1 = 0 from if_neg (by omega)]
    rw [this]
  · rw [a7 j hj, show cfH w0.heap.size (-1) j = fresh w0.heap.size j from if_neg (by omega)]

theorem chain_max {N n : Nat} {h : Int} {k : Nat} {w : World} (hc : Chain N n (fun _ => False) (fun j => if j ≤ k then 1 else rfH h j) (fun j => if j ≤ k then done N j else cfH N h j) w) (m : Int) (hm : m = max h (k : Int)) :
    Chain N n (fun _ => False) (rfH m) (cfH N m) w := by
  refine hc.ext (fun j _ => ?_) (fun j _ _ => ?_)
  · by_cases e : j ≤ k
    · rw [if_pos e]; exact (if_pos (by omega)).symm
    · rw [if_neg e]
      by_cases e' : (j : Int) ≤ h
      · rw [rfH, rfH, if_pos e', if_pos (by omega)]
      · rw [rfH, rfH, if_neg e', if_neg (by omega)]
  · by_cases e : j ≤ k
    · rw [if_pos e]; exact (if_pos (by omega)).symm
    · rw [if_neg e]
      by_cases e' : (j : Int) ≤ h
      · rw [cfH, cfH, if_pos e', if_pos (by omega)]
      · rw [cfH, cfH, if_neg e', if_neg (by omega)]

def HighRel (w0 : World) (n : Nat) (h i : Value) (w : World) : Prop :=
  ∃ (H : Int) (k : Nat), -1 ≤ H ∧ H < n ∧ k ≤ 40 ∧ h = .int .i64 H ∧ i = .int .i64 k ∧ Chain w0.heap.size n (fun _ => False) (rfH H) (cfH w0.heap.size H) w ∧ Only (fun _ => False) w0 w

theorem may_new {N n i : Nat} (hi : i < N) (h : May N n i) : False := by
  rcases h with h | ⟨j, _, h⟩ <;> omega

/-- What the walk is told of the argument: it has no element; or a row of numbers. -/
def IsInts (w : World) (a : Option Addr) (len : Nat) : Prop :=
  len = 0 ∨ ∃ b off, a = some ⟨b, off, none⟩ ∧ b < w.heap.size ∧ len ≤ maxLen ∧ ∀ i, i < len → ∃ d : Int, w.cell? ⟨b, off + i, none⟩ = some (.int .i64 d) ∧ -9223372036854775808 ≤ d ∧ d ≤ 9223372036854775807

set_option maxRecDepth 100000 in
set_option maxHeartbeats 4000000 in
theorem chain_walk (x : Int) (a : Option Addr) (len cap : Nat) (w : World) (hx1 : -9223372036854775808 ≤ x) (hx2 : x ≤ 9223372036854775807) (hP : IsInts w a len) :
    Calls Try.prog 3 #[.int .i64 x, .slice a len cap] w fun e w' => e = .returned (.bool true) ∧ Only (fun _ => False) w w' := by
  have hmf := hmf
  have t1 := Int.tmod_lt_of_pos x (b := 20) (by omega)
  have t2 := Int.lt_tmod_of_pos x (b := 20) (by omega)
  have HP := Lib.hid hP; clear hP
  go_enter Try.func3, Try.ntmps3
  go_wp2_with fail
  obtain ⟨m, hm, hm1, hm2⟩ : ∃ m : Nat, x.tmod 20 % 20 + 1 = (m : Int) ∧ 1 ≤ m ∧ m ≤ 20 := ⟨(x.tmod 20 % 20 + 1).toNat, by omega, by omega, by omega⟩
  rw [hm]
  have HM := Lib.hid hm
  clear hm hx1 hx2 t1 t2
  have g22 := mk22 m hm2
  have g23 := mk23 m hm2 w.heap.size
  go_simp
  go_wp2_with fail
  go_loopw [23] (fun i wr => MadeRel w m i wr) (fun i _ => m - (intOf i).toNat)
  case atStart => exact ⟨0, by omega, rfl, made_start m w⟩
  case round =>
    obtain ⟨k, hk, rfl, hmade⟩ := hrel
    by_cases hlt : k < m
    · have c3 : wr.cell? ⟨w.heap.size + 1 + 1 + 1, 0, none⟩ = some (.slice (some ⟨w.heap.size + 1 + 1, 0, none⟩) m m) := cell_of_one hmade.cells
      have f1 := cell_of_one (box_new wr (.cells #[.int .i64 k] 3))
      have f2 : (wr.alloc (.cells #[.int .i64 k] 3)).cell? ⟨w.heap.size + 1 + 1 + 1, 0, none⟩ = some (.slice (some ⟨w.heap.size + 1 + 1, 0, none⟩) m m) := cell_of_one (box_old hmade.cells)
      have HN := Lib.hid hmade; clear hmade
      have hki : (k : Int) < (m : Int) := by omega
      have fp := made_ptr2 hlt HN.out
      have fz := made_free2 HN.out
      have f3 := made_k2 (w0 := w) HN.out
      have f4 := made_cells2 HN.out
      go_wp2_with fail
      go_region_with (go_at_call 9; refine (new_int _ _ _ _).mono ?_; rintro e w' ⟨rfl, rfl⟩)
      all_goals (go_wp2_with fail; exact ⟨⟨k + 1, by omega, by go_num, made_close hlt HN.out⟩, by simp [intOf]; omega⟩)
    · obtain rfl : k = m := by omega
      have HC := Lib.hid (made_chain hmade)
      have HO := Lib.hid hmade.only
      clear hmade
      go_wp2_with fail
      go_loopw [9, 10] (fun h i wr => HighRel w k h i wr) (fun _ i _ => 40 - (intOf i).toNat)
      case atStart => exact ⟨-1, 0, by omega, by omega, by omega, rfl, rfl, HC.out, HO.out⟩
      case round =>
        obtain ⟨H, i, hH1, hH2, hi, rfl, rfl, hc, ho⟩ := hrel
        have HC2 := Lib.hid hc; have HO2 := Lib.hid ho; clear hc ho
        by_cases hx : i < len ∧ i < 40
        · obtain ⟨hlen, h40⟩ := hx
          rcases HP.out with hz | ⟨b, off, ha, hbl, hmax, hcell⟩
          · omega
          subst ha
          obtain ⟨z, hz, hz1, hz2⟩ := hcell i hlen
          have hz' := cell_only HO2.out (fun h => h) hz
          have c6 : wr.cell? ⟨w.heap.size + 1 + 1 + 1, 0, none⟩ = some (.slice (some ⟨w.heap.size + 1 + 1, 0, none⟩) k k) := cell_of_one HC2.out.fix.cells
          have t1 := Int.tmod_lt_of_pos z (b := (k : Int)) (by omega)
          have t2 := Int.lt_tmod_of_pos z (b := (k : Int)) (by omega)
          clear hcell hz
          unfold maxLen at hmax
          go_upto_region 15 with (fail)
          obtain ⟨q, hq, hqk⟩ : ∃ q : Nat, (z.tmod (k : Int) + (k : Int)) % (k : Int) = (q : Int) ∧ q < k := by
            have e1 := Int.emod_nonneg (z.tmod (k : Int) + (k : Int)) (b := (k : Int)) (by omega)
            have e2 := Int.emod_lt_of_pos (z.tmod (k : Int) + (k : Int)) (b := (k : Int)) (by omega)
            exact ⟨((z.tmod (k : Int) + (k : Int)) % (k : Int)).toNat, by omega, by omega⟩
          rw [hq]
          have HQ := Lib.hid hq
          clear hq t1 t2 hz1 hz2
          have cp := HC2.out.at_ptr hqk
          have hqi : (q : Int) < (k : Int) := by omega
          have HG := Lib.hid (getk w.heap.size k hm2 q hqk H (fun _ => False) _ _ wr HC2.out (fun _ _ h => h) (upto_H _ _ _))
          by_cases hHq : H < (q : Int)
          · go_wp2_with (go_at_call 11; refine HG.out.mono ?_; rintro e w1 ⟨rfl, hx1, hx2⟩; have HX1 := Lib.hid hx1; have HX2 := Lib.hid hx2; clear hx1 hx2)
            have HC3 := Lib.hid (chain_max HX2.out (q : Int) (by omega))
            have HO3 := Lib.hid (HO2.out.step HX1.out (fun j hj hm => may_new hj hm))
            go_loop [65] (fun j => ∃ t : Nat, t ≤ k ∧ j = .int .i64 t) (fun j => k - (intOf j).toNat)
            case atStart => exact ⟨0, by omega, rfl⟩
            case round =>
              obtain ⟨t, ht, rfl⟩ := hrel
              by_cases htk : t < k
              · have htki : (t : Int) < (k : Int) := by omega
                have r5 : w1.cell? ⟨w.heap.size + 1, 0, none⟩ = some (.slice (some ⟨w.heap.size, 0, none⟩) k k) := cell_of_one HC3.out.fix.runs
                have r6 : w1.cell? ⟨w.heap.size + 1 + 1 + 1, 0, none⟩ = some (.slice (some ⟨w.heap.size + 1 + 1, 0, none⟩) k k) := cell_of_one HC3.out.fix.cells
                have rp : w1.cell? ⟨w.heap.size + 1 + 1, t, none⟩ = _ := HC3.out.at_ptr htk
                by_cases hM : (t : Int) ≤ (q : Int)
                · have rc := (HC3.out.at_count htk).trans (by rw [show rfH ((q : Int)) t = 1 from if_pos hM])
                  have rd := HC3.out.cell t htk (fun h => h)
                  rw [show cfH w.heap.size ((q : Int)) t = done w.heap.size t from if_pos hM] at rd
                  have HD := Lib.hid (blk5 rd); clear rd
                  go_wp2_with (go_at_call 12; refine (done_int _ _ _ HD.out).mono ?_; rintro e w2 ⟨rfl, rfl⟩)
                  exact ⟨⟨t + 1, by omega, by go_num⟩, by simp [intOf]; omega⟩
                · have hM' : (q : Int) < (t : Int) := by omega
                  have rc := (HC3.out.at_count htk).trans (by rw [show rfH ((q : Int)) t = 0 from if_neg hM])
                  have rd := HC3.out.cell t htk (fun h => h)
                  rw [show cfH w.heap.size ((q : Int)) t = fresh w.heap.size t from if_neg hM] at rd
                  have HD := Lib.hid (blk5 rd); clear rd hM
                  go_wp2_with (go_at_call 12; refine (done_int _ _ _ HD.out).mono ?_; rintro e w2 ⟨rfl, rfl⟩)
                  exact ⟨⟨t + 1, by omega, by go_num⟩, by simp [intOf]; omega⟩
              · obtain rfl : t = k := by omega
                go_wp2_with fail
                exact ⟨⟨(q : Int), i + 1, by omega, by omega, by omega, rfl, by go_num, HC3.out, HO3.out⟩, by simp [intOf]; omega⟩
          · have hHq' : (q : Int) ≤ H := by omega
            clear hHq
            go_wp2_with (go_at_call 11; refine HG.out.mono ?_; rintro e w1 ⟨rfl, hx1, hx2⟩; have HX1 := Lib.hid hx1; have HX2 := Lib.hid hx2; clear hx1 hx2)
            have HC3 := Lib.hid (chain_max HX2.out H (by omega))
            have HO3 := Lib.hid (HO2.out.step HX1.out (fun j hj hm => may_new hj hm))
            go_loop [65] (fun j => ∃ t : Nat, t ≤ k ∧ j = .int .i64 t) (fun j => k - (intOf j).toNat)
            case atStart => exact ⟨0, by omega, rfl⟩
            case round =>
              obtain ⟨t, ht, rfl⟩ := hrel
              by_cases htk : t < k
              · have htki : (t : Int) < (k : Int) := by omega
                have r5 : w1.cell? ⟨w.heap.size + 1, 0, none⟩ = some (.slice (some ⟨w.heap.size, 0, none⟩) k k) := cell_of_one HC3.out.fix.runs
                have r6 : w1.cell? ⟨w.heap.size + 1 + 1 + 1, 0, none⟩ = some (.slice (some ⟨w.heap.size + 1 + 1, 0, none⟩) k k) := cell_of_one HC3.out.fix.cells
                have rp : w1.cell? ⟨w.heap.size + 1 + 1, t, none⟩ = _ := HC3.out.at_ptr htk
                by_cases hM : (t : Int) ≤ H
                · have rc := (HC3.out.at_count htk).trans (by rw [show rfH (H) t = 1 from if_pos hM])
                  have rd := HC3.out.cell t htk (fun h => h)
                  rw [show cfH w.heap.size (H) t = done w.heap.size t from if_pos hM] at rd
                  have HD := Lib.hid (blk5 rd); clear rd
                  go_wp2_with (go_at_call 12; refine (done_int _ _ _ HD.out).mono ?_; rintro e w2 ⟨rfl, rfl⟩)
                  exact ⟨⟨t + 1, by omega, by go_num⟩, by simp [intOf]; omega⟩
                · have hM' : H < (t : Int) := by omega
                  have rc := (HC3.out.at_count htk).trans (by rw [show rfH (H) t = 0 from if_neg hM])
                  have rd := HC3.out.cell t htk (fun h => h)
                  rw [show cfH w.heap.size (H) t = fresh w.heap.size t from if_neg hM] at rd
                  have HD := Lib.hid (blk5 rd); clear rd hM
                  go_wp2_with (go_at_call 12; refine (done_int _ _ _ HD.out).mono ?_; rintro e w2 ⟨rfl, rfl⟩)
                  exact ⟨⟨t + 1, by omega, by go_num⟩, by simp [intOf]; omega⟩
              · obtain rfl : t = k := by omega
                go_wp2_with fail
                exact ⟨⟨H, i + 1, by omega, by omega, by omega, rfl, by go_num, HC3.out, HO3.out⟩, by simp [intOf]; omega⟩
        · have hx' : len ≤ i ∨ i = 40 := by omega
          clear hx
          rcases hx' with hx | hx
          · go_wp2_with (go_at_call 13; refine (awake_true _).mono ?_; rintro e w1 ⟨rfl, hx⟩; have HX := Lib.hid hx; clear hx)
            go_ret
            exact ⟨rfl, HO2.out.trans HX.out⟩
          · subst hx
            by_cases hlt : 40 < len
            · rcases HP.out with hz | ⟨b, off, ha, hbl, hmax, hcell⟩
              · omega
              unfold maxLen at hmax
              clear hcell
              go_wp2_with (go_at_call 13; refine (awake_true _).mono ?_; rintro e w1 ⟨rfl, hx⟩; have HX := Lib.hid hx; clear hx)
              go_ret
              exact ⟨rfl, HO2.out.trans HX.out⟩
            · have hx : len ≤ 40 := by omega
              go_wp2_with (go_at_call 13; refine (awake_true _).mono ?_; rintro e w1 ⟨rfl, hx⟩; have HX := Lib.hid hx; clear hx)
              go_ret
              exact ⟨rfl, HO2.out.trans HX.out⟩
end Go.Proofs.Ytdkbkocklnnmdaa.chain
