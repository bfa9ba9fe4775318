/-
  The cells of MemoChain, for a run of one goroutine: what Get of cell k tells and leaves, by induction on k. Condition: the blocks that MemoChain has made stand as they were made, and which cells have run is a beginning of the chain.
-/
import Derived.Test.YtdkbkocklnnmdaaAwake
set_option linter.unusedSimpArgs false
set_option linter.unusedVariables false
namespace Go.Proofs.Ytdkbkocklnnmdaa.chain
open Go Go.MuLone Go.RowKit

theorem cell_only {w w' : World} {S : Nat → Prop} (h : Only S w w') {a : Addr} {v : Value} (hs : ¬ S a.block) (hc : w.cell? a = some v) : w'.cell? a = some v := by
  have hlt : a.block < w.heap.size := by
    obtain ⟨e, n, hsh, _, _⟩ := World.shape?_of_cell? hc
    unfold World.shape? at hsh
    split at hsh
    · rename_i c e fr hb; exact lt_of_block hb
    · cases hsh
  unfold World.cell? at hc ⊢
  rw [h.block _ hlt hs]; exact hc

/-- The function of cell k: the closure over runs, k and cells. -/
def fv (N k : Nat) : Value := .func (.func 10) #[] #[.pointer (some ⟨N + 1, 0, none⟩), .pointer (some ⟨N + 4 + 2 * k, 0, none⟩), .pointer (some ⟨N + 3, 0, none⟩)]
def fresh (N k : Nat) : Obj := blk 0 0 (fv N k) 0 0 0
def done (N k : Nat) : Obj := blk 1 0 (fv N k) ((k : Int) + 1) 1 1
def runsArr (n : Nat) (rf : Nat → Int) : Array Value := Array.ofFn (n := n) fun j => Value.int .i64 (rf j)
def ptrArr (N n i : Nat) : Array Value := Array.ofFn (n := n) fun j => if j.1 < i then Value.pointer (some ⟨N + 5 + 2 * j.1, 0, none⟩) else .pointer none

/-- What does not turn once the chain is made. -/
structure Fix (N n : Nat) (w : World) : Prop where
  size : N + 4 + 2 * n ≤ w.heap.size
  runs : w.heap[N + 1]? = some (.cells #[.slice (some ⟨N, 0, none⟩) n n] 22 (0, 0))
  ptrs : w.heap[N + 2]? = some (.cells (ptrArr N n n) 24 (0, 0))
  cells : w.heap[N + 3]? = some (.cells #[.slice (some ⟨N + 2, 0, none⟩) n n] 23 (0, 0))
  ks : ∀ j, j < n → w.heap[N + 4 + 2 * j]? = some (.cells #[.int .i64 j] 3 (0, 0))

/-- The chain: how often each function was run; each cell that is not left out. -/
structure Chain (N n : Nat) (out : Nat → Prop) (rf : Nat → Int) (cf : Nat → Obj) (w : World) : Prop where
  fix : Fix N n w
  runs : w.heap[N]? = some (.cells (runsArr n rf) 3 (0, 0))
  cell : ∀ j, j < n → ¬ out j → w.heap[N + 5 + 2 * j]? = some (cf j)

theorem Chain.ext {N n : Nat} {out : Nat → Prop} {rf rf' : Nat → Int} {cf cf' : Nat → Obj} {w : World} (h : Chain N n out rf cf w) (hr : ∀ j, j < n → rf j = rf' j) (hc : ∀ j, j < n → ¬ out j → cf j = cf' j) : Chain N n out rf' cf' w := by
  refine ⟨h.fix, ?_, fun j hj ho => (hc j hj ho) ▸ h.cell j hj ho⟩
  rw [h.runs]
  have : runsArr n rf = runsArr n rf' := by
    unfold runsArr
    congr 1
    funext j
    rw [hr j.1 j.2]
  rw [this]

/-- The blocks that may turn: the counts, and cells. -/
def May (N k : Nat) (i : Nat) : Prop := i = N ∨ ∃ j, j < k ∧ i = N + 5 + 2 * j

theorem Fix.only {N n k : Nat} {w w' : World} (h : Fix N n w) (ho : Only (May N k) w w') : Fix N n w' := by
  obtain ⟨h0, h1, h2, h3, h4⟩ := h
  have hs := ho.size
  have hb : ∀ i, i < w.heap.size → (∀ j, i ≠ N + 5 + 2 * j) → i ≠ N → w'.heap[i]? = w.heap[i]? := fun i hi h5 hN => ho.block i hi (fun hm => by
    rcases hm with hm | ⟨j, _, hm⟩
    · exact hN hm
    · exact h5 j hm)
  refine ⟨by omega, ?_, ?_, ?_, fun j hj => ?_⟩
  · rw [hb _ (by omega) (by intro j; omega) (by omega)]; exact h1
  · rw [hb _ (by omega) (by intro j; omega) (by omega)]; exact h2
  · rw [hb _ (by omega) (by intro j; omega) (by omega)]; exact h3
  · rw [hb _ (by omega) (by intro j; omega) (by omega)]; exact h4 j hj

theorem Chain.one {N n k : Nat} {out : Nat → Prop} {rf : Nat → Int} {cf : Nat → Obj} {w w' : World} (h : Chain N n out rf cf w) (hk : k < n) (ho : Only (fun i => i = N + 5 + 2 * k) w w') : Chain N n (fun j => out j ∨ j = k) rf cf w' := by
  have hs := h.fix.size
  refine ⟨h.fix.only (ho.mono (T := May N (k + 1)) (fun i _ e => .inr ⟨k, by omega, e⟩)), ?_, fun j hj hn => ?_⟩
  · rw [ho.block _ (by omega) (by omega)]; exact h.runs
  · rw [ho.block _ (by omega) (fun e => hn (.inr (by omega)))]
    exact h.cell j hj (fun e => hn (.inl e))

theorem runsArr_get {n k : Nat} (rf : Nat → Int) (hk : k < n) : (runsArr n rf)[k]? = some (.int .i64 (rf k)) := by
  unfold runsArr
  simp [hk]
theorem runsArr_size (n : Nat) (rf : Nat → Int) : (runsArr n rf).size = n := by simp [runsArr]
theorem runsArr_set {n k : Nat} (rf : Nat → Int) (x : Int) : (runsArr n rf).setIfInBounds k (.int .i64 x) = runsArr n (fun j => if j = k then x else rf j) := by
  apply Array.ext
  · simp [runsArr]
  · intro i h1 h2
    simp only [runsArr, Array.size_setIfInBounds, Array.size_ofFn] at h1 h2
    rw [Array.getElem_setIfInBounds (by simpa [runsArr] using h1)]
    simp only [runsArr, Array.getElem_ofFn]
    by_cases e : k = i
    · subst e; simp
    · have e' : ¬ i = k := fun x => e x.symm
      simp [e, e']
theorem ptrArr_get {N n k i : Nat} (hk : k < n) (hi : k < i) : (ptrArr N n i)[k]? = some (.pointer (some ⟨N + 5 + 2 * k, 0, none⟩)) := by
  unfold ptrArr
  simp [hk, hi]

/-- The counts behind 'runs[k]++'. -/
theorem Chain.count {N n k : Nat} {out : Nat → Prop} {rf : Nat → Int} {cf : Nat → Obj} {w : World} (h : Chain N n out rf cf w) (hk : k < n) (x : Int) :
    Chain N n out (fun j => if j = k then x else rf j) cf (w.setCell ⟨N, k, none⟩ (.int .i64 x)) := by
  have hs := h.fix.size
  have ho : Only (fun i => i = N) w (w.setCell ⟨N, k, none⟩ (.int .i64 x)) := (Only.refl (fun i => i = N) w).set _ _ (.inr rfl)
  refine ⟨h.fix.only (ho.mono (T := May N 0) (fun i _ e => .inl e)), ?_, fun j hj hn => ?_⟩
  · have hlt := lt_of_block h.runs
    have h' : w.heap[N] = .cells (runsArr n rf) 3 (0, 0) := by simpa [Array.getElem?_eq_getElem hlt] using h.runs
    show (w.heap.modify N _)[N]? = _
    rw [Array.getElem?_eq_getElem (by simpa using hlt), Array.getElem_modify_self, h', ← runsArr_set]
    simp
  · rw [ho.block _ (by omega) (by omega)]
    exact h.cell j hj hn

variable {N n k : Nat} {out : Nat → Prop} {rf : Nat → Int} {cf : Nat → Obj} {w : World}
theorem Chain.at_count (h : Chain N n out rf cf w) (hk : k < n) : w.cell? ⟨N, k, none⟩ = some (.int .i64 (rf k)) := by
  simp only [World.cell?, h.runs]
  simpa using runsArr_get rf hk
theorem Chain.free_count (h : Chain N n out rf cf w) : w.frozen? ⟨N, k, none⟩ = false := by simp [World.frozen?, h.runs]
theorem Chain.at_ptr (h : Chain N n out rf cf w) (hk : k < n) : w.cell? ⟨N + 2, k, none⟩ = some (.pointer (some ⟨N + 5 + 2 * k, 0, none⟩)) := by
  simp only [World.cell?, h.fix.ptrs]
  simpa using ptrArr_get (N := N) hk hk
theorem Chain.at_k (h : Chain N n out rf cf w) (hk : k < n) : w.cell? ⟨N + 4 + 2 * k, 0, none⟩ = some (.int .i64 k) := cell_of_one (h.fix.ks k hk)

/-- The closure of cell 0. -/
theorem f_zero {N n : Nat} (hn : 0 < n) (hm : n ≤ 20) {out : Nat → Prop} {rf : Nat → Int} {cf : Nat → Obj} {w : World} (h : Chain N n out rf cf w) (h0 : rf 0 = 0) :
    Calls Try.prog 10 #[.pointer (some ⟨N + 1, 0, none⟩), .pointer (some ⟨N + 4 + 2 * 0, 0, none⟩), .pointer (some ⟨N + 3, 0, none⟩)] w fun e w' =>
      e = .returned (.int .i64 1) ∧ w' = w.setCell ⟨N, 0, none⟩ (.int .i64 1) := by
  have c1 := cell_of_one h.fix.runs
  have ck : w.cell? ⟨N + 4, 0, none⟩ = some (.int .i64 0) := by simpa using h.at_k hn
  have cr := h.at_count hn
  rw [h0] at cr
  have zr := h.free_count (k := 0)
  have ck' : (w.setCell ⟨N, 0, none⟩ (.int .i64 1)).cell? ⟨N + 4, 0, none⟩ = some (.int .i64 0) := by simpa using (h.count hn 1).at_k hn
  clear h h0
  go_enter Try.func10, Try.ntmps10
  go_wp2
  go_ret
  exact ⟨rfl, rfl⟩

theorem f_succ {N n k : Nat} (hk : k + 1 < n) (hm : n ≤ 20) {out : Nat → Prop} {rf : Nat → Int} {cf : Nat → Obj} {w : World} (h : Chain N n out rf cf w) (h0 : rf (k + 1) = 0) (R : World → Prop)
    (hg : Calls Try.prog 11 #[.pointer (some ⟨N + 5 + 2 * k, 0, none⟩)] (w.setCell ⟨N, k + 1, none⟩ (.int .i64 1)) fun e w' => e = .returned (.int .i64 ((k : Int) + 1)) ∧ R w') :
    Calls Try.prog 10 #[.pointer (some ⟨N + 1, 0, none⟩), .pointer (some ⟨N + 4 + 2 * (k + 1), 0, none⟩), .pointer (some ⟨N + 3, 0, none⟩)] w fun e w' =>
      e = .returned (.int .i64 ((k : Int) + 1 + 1)) ∧ R w' := by
  have c1 := cell_of_one h.fix.runs
  have ck := h.at_k hk
  have cr := h.at_count hk
  rw [h0] at cr
  have zr := h.free_count (k := k + 1)
  have h' := h.count hk 1
  have ck' := h'.at_k hk
  have c3 := cell_of_one h'.fix.cells
  have cp := h'.at_ptr (k := k) (by omega)
  have HG := Lib.hid hg
  have HK := Lib.hid hk
  have hki : ((k + 1 : Nat) : Int) < (n : Int) := by omega
  have hk0 : (((k + 1 : Nat) : Int) == 0) = false := by simp; omega
  push_cast at ck ck' cr hki hk0
  clear h h' h0 hg hk
  go_enter Try.func10, Try.ntmps10
  go_wp2_with (go_at_call 11; refine HG.out.mono ?_; rintro e w' ⟨rfl, hr⟩; have HR := Lib.hid hr; clear hr)
  go_ret
  exact ⟨rfl, HR.out⟩

theorem Chain.mono {out' : Nat → Prop} (h : Chain N n out rf cf w) (ho : ∀ j, out j → out' j) : Chain N n out' rf cf w := ⟨h.fix, h.runs, fun j hj hn => h.cell j hj fun x => hn (ho j x)⟩

theorem ent10 (cap : Array Value) (W : World) : (callFunc 10 cap).run Try.prog W = .ok (.enter 10 cap) W := run_callFunc_enter Try.func10 (by kernel_rfl) rfl cap W

/-- How the cells up to k stand: those up to h have run. -/
def Upto (N : Nat) (h : Int) (k : Nat) (rf : Nat → Int) (cf : Nat → Obj) : Prop :=
  ∀ j : Nat, j ≤ k → ((j : Int) ≤ h → rf j = 1 ∧ cf j = done N j) ∧ (h < (j : Int) → rf j = 0 ∧ cf j = fresh N j)

set_option maxHeartbeats 1600000 in
theorem getk (N n : Nat) (hm : n ≤ 20) : ∀ (k : Nat) (_ : k < n) (h : Int) (out : Nat → Prop) (rf : Nat → Int) (cf : Nat → Obj) (w : World), Chain N n out rf cf w → (∀ j, j ≤ k → ¬ out j) → Upto N h k rf cf →
    Calls Try.prog 11 #[.pointer (some ⟨N + 5 + 2 * k, 0, none⟩)] w fun e w' => e = .returned (.int .i64 ((k : Int) + 1)) ∧ Only (May N (k + 1)) w w' ∧
      Chain N n out (fun j => if j ≤ k then 1 else rf j) (fun j => if j ≤ k then done N j else cf j) w' := by
  intro k
  induction k with
  | zero =>
    intro hk h out rf cf w hc ho hu
    by_cases hh : (0 : Int) ≤ h
    · obtain ⟨h1, h2⟩ := (hu 0 (Nat.le_refl _)).1 hh
      have hb : w.heap[N + 5 + 2 * 0]? = some (blk 1 0 (fv N 0) (((0 : Nat) : Int) + 1) 1 1) := by rw [hc.cell 0 hk (ho 0 (Nat.le_refl _)), h2]; rfl
      refine (get_again _ 0 _ 1 1 (fv N 0) w hb).mono fun e w' ⟨he, hw⟩ => ?_
      subst hw
      refine ⟨he, Only.refl _ _, hc.ext (fun j hj => ?_) (fun j hj hn => ?_)⟩
      · by_cases e : j ≤ 0
        · obtain rfl : j = 0 := by omega
          simp [h1]
        · simp [e]
      · by_cases e : j ≤ 0
        · obtain rfl : j = 0 := by omega
          simp [h2]
        · simp [e]
    · obtain ⟨h1, h2⟩ := (hu 0 (Nat.le_refl _)).2 (by simpa using hh)
      have hb : w.heap[N + 5 + 2 * 0]? = some (blk 0 0 (fv N 0) 0 0 0) := by rw [hc.cell 0 hk (ho 0 (Nat.le_refl _)), h2]; rfl
      have hQ : ∀ W W' : World, Chain N n (fun j => out j ∨ j = 0) (fun j => if j = 0 then 1 else rf j) cf W → Only (fun i => i = N + 5 + 2 * 0) W W' → Chain N n (fun j => out j ∨ j = 0) (fun j => if j = 0 then 1 else rf j) cf W' :=
        fun W W' a b => (a.one hk b).mono fun j x => x.elim id .inr
      refine (get_first (N + 5 + 2 * 0) (fv N 0) (((0 : Nat) : Int) + 1) 1 1 w (May N 1) (Chain N n (fun j => out j ∨ j = 0) (fun j => if j = 0 then 1 else rf j) cf) (.inr ⟨0, by omega, rfl⟩) hb ?_ hQ).mono ?_
      · intro W hW hO
        have hcW := hc.one hk hO
        refine (run_body (N + 5 + 2 * 0) 10 _ (((0 : Nat) : Int) + 1) W (May N 0) _ (by rintro (x | ⟨j, hj, _⟩) <;> omega) (by rintro i (x | ⟨j, hj, _⟩); (have := hcW.fix.size; omega); omega) (ent10 _) hW ?_ hQ).mono ?_
        · intro W1 hW1 hO1
          have hcW1 := (hcW.one hk hO1).mono (out' := fun j => out j ∨ j = 0) fun j x => x.elim id .inr
          refine (f_zero hk hm hcW1 h1).mono fun e W' ⟨he, hw⟩ => ?_
          subst hw
          exact ⟨he, (Only.refl (May N 0) W1).set _ _ (.inr (.inl rfl)), hcW1.count hk 1⟩
        · rintro e W' ⟨a1, a2, a3, a4⟩
          exact ⟨a1, a2.mono fun i _ x => x.elim (fun e => .inr ⟨0, by omega, e⟩) (fun y => y.elim .inl (fun ⟨j, hj, _⟩ => by omega)), a3, a4⟩
      · rintro e w' ⟨a1, a2, a3, a4⟩
        refine ⟨a1, a2, a3.fix, (a3.ext (rf' := fun j => if j ≤ 0 then 1 else rf j) (cf' := cf) (fun j _ => by simp) (fun _ _ _ => rfl)).runs, fun j hj hn => ?_⟩
        by_cases e : j = 0
        · subst e
          simpa [done] using a4
        · have := a3.cell j hj (fun x => x.elim hn e)
          simpa [e] using this
  | succ k ih =>
    intro hk h out rf cf w hc ho hu
    by_cases hh : ((k + 1 : Nat) : Int) ≤ h
    · obtain ⟨h1, h2⟩ := (hu (k + 1) (Nat.le_refl _)).1 hh
      have hb : w.heap[N + 5 + 2 * (k + 1)]? = some (blk 1 0 (fv N (k + 1)) (((k + 1 : Nat) : Int) + 1) 1 1) := by rw [hc.cell (k + 1) hk (ho _ (Nat.le_refl _)), h2]; rfl
      refine (get_again _ 0 _ 1 1 (fv N (k + 1)) w hb).mono fun e w' ⟨he, hw⟩ => ?_
      subst hw
      refine ⟨he, Only.refl _ _, hc.ext (fun j hj => ?_) (fun j hj hn => ?_)⟩
      · by_cases e : j ≤ k + 1
        · rw [if_pos e]; exact ((hu j e).1 (by omega)).1
        · simp [e]
      · by_cases e : j ≤ k + 1
        · rw [if_pos e]; exact ((hu j e).1 (by omega)).2
        · simp [e]
    · obtain ⟨h1, h2⟩ := (hu (k + 1) (Nat.le_refl _)).2 (by omega)
      have hb : w.heap[N + 5 + 2 * (k + 1)]? = some (blk 0 0 (fv N (k + 1)) 0 0 0) := by rw [hc.cell (k + 1) hk (ho _ (Nat.le_refl _)), h2]; rfl
      have hQ : ∀ W W' : World, Chain N n (fun j => out j ∨ j = k + 1) (fun j => if j ≤ k + 1 then 1 else rf j) (fun j => if j ≤ k then done N j else cf j) W → Only (fun i => i = N + 5 + 2 * (k + 1)) W W' →
          Chain N n (fun j => out j ∨ j = k + 1) (fun j => if j ≤ k + 1 then 1 else rf j) (fun j => if j ≤ k then done N j else cf j) W' :=
        fun W W' a b => (a.one hk b).mono fun j x => x.elim id .inr
      refine (get_first (N + 5 + 2 * (k + 1)) (fv N (k + 1)) (((k + 1 : Nat) : Int) + 1) 1 1 w (May N (k + 1 + 1)) (Chain N n (fun j => out j ∨ j = k + 1) (fun j => if j ≤ k + 1 then 1 else rf j) (fun j => if j ≤ k then done N j else cf j)) (.inr ⟨k + 1, by omega, rfl⟩) hb ?_ hQ).mono ?_
      · intro W hW hO
        have hcW := hc.one hk hO
        refine (run_body (N + 5 + 2 * (k + 1)) 10 _ (((k + 1 : Nat) : Int) + 1) W (May N (k + 1)) _ (by rintro (x | ⟨j, hj, _⟩) <;> omega) (by rintro i (x | ⟨j, hj, _⟩) <;> (have := hcW.fix.size; omega)) (ent10 _) hW ?_ hQ).mono ?_
        · intro W1 hW1 hO1
          have hcW1 := (hcW.one hk hO1).mono (out' := fun j => out j ∨ j = k + 1) fun j x => x.elim id .inr
          have hcW2 := hcW1.count hk 1
          have hg := ih (by omega) h (fun j => out j ∨ j = k + 1) (fun j => if j = k + 1 then 1 else rf j) cf _ hcW2 (fun j hj x => x.elim (ho j (by omega)) (by omega)) (fun j hj => by
            have := hu j (by omega)
            simpa [show ¬ j = k + 1 by omega] using this)
          refine (f_succ hk hm hcW1 h1 _ hg).mono fun e W' ⟨he, ho', hc'⟩ => ?_
          refine ⟨by push_cast; exact he, ((Only.refl (May N (k + 1)) W1).set _ _ (.inr (.inl rfl))).trans ho', hc'.ext (fun j hj => ?_) (fun _ _ _ => rfl)⟩
          by_cases e : j ≤ k
          · simp [e, show j ≤ k + 1 by omega]
          · by_cases e' : j = k + 1
            · simp [e']
            · simp [e, e', show ¬ j ≤ k + 1 by omega]
        · rintro e W' ⟨a1, a2, a3, a4⟩
          exact ⟨a1, a2.mono fun i _ x => x.elim (fun e => .inr ⟨k + 1, by omega, e⟩) (fun y => y.elim .inl (fun ⟨j, hj, e⟩ => .inr ⟨j, by omega, e⟩)), a3, a4⟩
      · rintro e w' ⟨a1, a2, a3, a4⟩
        refine ⟨a1, a2, a3.fix, a3.runs, fun j hj hn => ?_⟩
        by_cases e : j = k + 1
        · subst e
          simpa [done] using a4
        · have := a3.cell j hj (fun x => x.elim hn e)
          by_cases e' : j ≤ k
          · simpa [e', show j ≤ k + 1 by omega] using this
          · simpa [e', show ¬ j ≤ k + 1 by omega] using this
end Go.Proofs.Ytdkbkocklnnmdaa.chain
