/-
  sync.Mutex with any number of goroutines, as an automaton: where each stands (with lockSlow's and unlockSlow's locals), the word, the semaphore; what ties them together, and that each step keeps it: one holds at most, no throw is come to, whoever waits will be woken. No program here, and no condition.
-/
import Derived.Conc.WgGenN3
set_option linter.unusedVariables false
set_option linter.unusedSimpArgs false
set_option linter.unusedSectionVars false
namespace Go.Proofs.Ytdkbkocklnnmdaa.lock
open Go Go.Conc
open Go.ConcN (upd upd_same upd_ne sumTo sumTo_upd sumTo_congr le_sumTo sumTo_le)

/-- The mutex's word: locked, woken, starving, how many wait. -/
structure Mst where
  l : Nat
  w : Nat
  s : Nat
  c : Nat
  deriving DecidableEq
def Mst.enc (m : Mst) : Int := (m.l : Int) + 2 * m.w + 4 * m.s + 8 * m.c
def Mst.Ok (m : Mst) : Prop := m.l ≤ 1 ∧ m.w ≤ 1 ∧ m.s ≤ 1 ∧ m.c ≤ 1048576
theorem Mst.inj {a b : Mst} (ha : a.Ok) (hb : b.Ok) (h : a.enc = b.enc) : a = b := by
  obtain ⟨a1, a2, a3, a4⟩ := a
  obtain ⟨b1, b2, b3, b4⟩ := b
  unfold Mst.Ok at ha hb
  unfold Mst.enc at h
  simp only at ha hb h
  simp only [Mst.mk.injEq]
  omega

/-- Where a goroutine stands. 'cr': anywhere between its having the lock and its unlocking. -/
inductive Lk where
  | off | ld | l0 | r0
  | sq (o : Mst) (it : Nat) (aw sv : Bool) (ws : Int)
  | c1 (o : Mst) (it : Nat) (ws : Int)
  | r1 (it : Nat) (aw sv : Bool) (ws : Int)
  | c2 (o : Mst) (it : Nat) (aw sv : Bool) (ws : Int)
  | t1 (sv : Bool) | s1 (sv : Bool) (ws : Int) | t2 (ws : Int) | r2 (sv : Bool) (ws : Int) | a1 (o : Mst) (sv : Bool)
  | r3 (it : Nat) (aw sv : Bool) (ws : Int)
  | le | la | cr | ur | ud | u0
  | uc (o : Mst) | ux | us (st : Bool) | ue

/-- lockSlow's loop head, to the next stop. -/
def hd (o : Mst) (it : Nat) (aw sv : Bool) (ws : Int) : Lk := if o.l = 1 ∧ o.s = 0 then .sq o it aw sv ws else .c2 o it aw sv ws
/-- The word that is to be laid. -/
def nw (o : Mst) (aw sv : Bool) : Mst := ⟨if o.s = 0 then 1 else o.l, if aw then 0 else o.w, if sv = true ∧ o.l = 1 then 1 else o.s, if o.l = 1 ∨ o.s = 1 then o.c + 1 else o.c⟩
/-- .. and where one stands behind it. -/
def nx (o : Mst) (sv : Bool) (ws : Int) : Lk := if o.l = 0 ∧ o.s = 0 then .le else if ws = 0 then .t1 sv else .s1 sv ws

def rH : Lk → Nat
  | .le | .la | .cr | .ur | .ud | .u0 => 1
  | _ => 0
def rQ : Lk → Nat
  | .t1 _ | .s1 _ _ => 1
  | _ => 0
def rV : Lk → Nat
  | .t2 _ | .r2 _ _ => 1
  | _ => 0
def rA : Lk → Nat
  | .a1 _ _ => 1
  | _ => 0
def rR : Lk → Nat
  | .us false => 1
  | _ => 0
def rS : Lk → Nat
  | .us true => 1
  | _ => 0
def rU : Lk → Nat
  | .uc _ | .ux => 1
  | _ => 0
def rW : Lk → Nat
  | .sq _ _ true _ _ | .r1 _ true _ _ | .c2 _ _ true _ _ | .r3 _ true _ _ => 1
  | _ => 0
/-- What a snapshot tells. -/
def Snap : Lk → Prop
  | .sq o it aw sv _ => o.Ok ∧ it ≤ 4 ∧ o.l = 1 ∧ o.s = 0 ∧ (aw = true → o.w = 1) ∧ (sv = true → aw = true)
  | .c1 o it _ => o.Ok ∧ it < 4 ∧ o.l = 1 ∧ o.s = 0 ∧ o.w = 0 ∧ 0 < o.c
  | .r1 it aw sv _ => it < 4 ∧ (sv = true → aw = true)
  | .c2 o it aw sv _ => o.Ok ∧ it ≤ 4 ∧ (aw = true → o.w = 1 ∧ o.s = 0) ∧ (sv = true → aw = true)
  | .a1 o _ => o.Ok ∧ o.s = 1 ∧ o.l = 0 ∧ o.w = 0 ∧ 0 < o.c
  | .r3 it aw sv _ => it ≤ 4 ∧ (sv = true → aw = true)
  | .uc o => o.Ok ∧ o.l = 0 ∧ o.w = 0 ∧ o.s = 0 ∧ 0 < o.c
  | _ => True

def sm (r : Lk → Nat) (f : Nat → Lk) (N : Nat) : Nat := sumTo N fun k => r (f k)

structure LockInv (N : Nat) (f : Nat → Lk) (m : Mst) (s : Nat) : Prop where
  ok : m.l ≤ 1 ∧ m.w ≤ 1 ∧ m.s ≤ 1
  hold : sm rH f N = m.l
  norm : m.s = 0 → m.w = sm rW f N + sm rV f N + s + sm rR f N ∧ sm rQ f N = m.c + s + sm rR f N ∧ sm rA f N = 0 ∧ sm rS f N = 0
  starv : m.s = 1 → m.w = 0 ∧ sm rW f N = 0 ∧ sm rR f N = 0 ∧ m.l + sm rS f N + s + sm rV f N + sm rA f N = 1 ∧ m.c = sm rQ f N + sm rV f N + sm rA f N
  live : m.s = 0 → m.l = 0 → m.w = 0 → 0 < m.c → 1 ≤ sm rU f N
  snap : ∀ k, k < N → Snap (f k)

section
variable {N : Nat} {f : Nat → Lk} {m : Mst} {s k : Nat}
theorem sm_upd (r : Lk → Nat) (y : Lk) (hk : k < N) : sm r (upd f k y) N + r (f k) = sm r f N + r y := sumTo_upd f y r hk
theorem sm_ge (r : Lk → Nat) (hk : k < N) : r (f k) ≤ sm r f N := le_sumTo (f := fun k => r (f k)) hk
theorem sm_le (r : Lk → Nat) (h : ∀ x, r x ≤ 1) : sm r f N ≤ N := by
  have := sumTo_le (f := fun k => r (f k)) (c := 1) (j := N) fun i _ => h _
  unfold sm; omega
theorem snap_upd {y : Lk} (h : ∀ k, k < N → Snap (f k)) (hy : Snap y) : ∀ j, j < N → Snap (upd f k y j) := fun j hj => by
  by_cases e : j = k
  · subst e; rw [upd_same]; exact hy
  · rw [upd_ne _ _ e]; exact h j hj
theorem LockInv.c_le (h : LockInv N f m s) : m.c ≤ 3 * N := by
  have h1 := sm_le (f := f) (N := N) rQ (by intro x; cases x <;> simp [rQ])
  have h2 := sm_le (f := f) (N := N) rV (by intro x; cases x <;> simp [rV])
  have h3 := sm_le (f := f) (N := N) rA (by intro x; cases x <;> simp [rA])
  have h4 := h.norm
  have h5 := h.starv
  have := h.ok
  omega
theorem LockInv.mok (h : LockInv N f m s) (hN : N ≤ 300000) : m.Ok := ⟨h.ok.1, h.ok.2.1, h.ok.2.2, by have := h.c_le; omega⟩

/-- All the sums over a step. -/
theorem LockInv.mk' {y : Lk} {m' : Mst} {s' : Nat} (h : LockInv N f m s) (hk : k < N) (hy : Snap y)
    (key : ∀ H Q V A R S U W H' Q' V' A' R' S' U' W' : Nat, H' + rH (f k) = H + rH y → Q' + rQ (f k) = Q + rQ y → V' + rV (f k) = V + rV y → A' + rA (f k) = A + rA y → R' + rR (f k) = R + rR y → S' + rS (f k) = S + rS y → U' + rU (f k) = U + rU y → W' + rW (f k) = W + rW y →
      rH (f k) ≤ H → rQ (f k) ≤ Q → rV (f k) ≤ V → rA (f k) ≤ A → rR (f k) ≤ R → rS (f k) ≤ S → rU (f k) ≤ U → rW (f k) ≤ W →
      H = m.l → (m.s = 0 → m.w = W + V + s + R ∧ Q = m.c + s + R ∧ A = 0 ∧ S = 0) → (m.s = 1 → m.w = 0 ∧ W = 0 ∧ R = 0 ∧ m.l + S + s + V + A = 1 ∧ m.c = Q + V + A) → (m.s = 0 → m.l = 0 → m.w = 0 → 0 < m.c → 1 ≤ U) →
      (m'.l ≤ 1 ∧ m'.w ≤ 1 ∧ m'.s ≤ 1) ∧ H' = m'.l ∧ (m'.s = 0 → m'.w = W' + V' + s' + R' ∧ Q' = m'.c + s' + R' ∧ A' = 0 ∧ S' = 0) ∧ (m'.s = 1 → m'.w = 0 ∧ W' = 0 ∧ R' = 0 ∧ m'.l + S' + s' + V' + A' = 1 ∧ m'.c = Q' + V' + A') ∧ (m'.s = 0 → m'.l = 0 → m'.w = 0 → 0 < m'.c → 1 ≤ U')) :
    LockInv N (upd f k y) m' s' := by
  obtain ⟨a, b, c, d, e⟩ := key _ _ _ _ _ _ _ _ _ _ _ _ _ _ _ _ (sm_upd rH y hk) (sm_upd rQ y hk) (sm_upd rV y hk) (sm_upd rA y hk) (sm_upd rR y hk) (sm_upd rS y hk) (sm_upd rU y hk) (sm_upd rW y hk)
    (sm_ge rH hk) (sm_ge rQ hk) (sm_ge rV hk) (sm_ge rA hk) (sm_ge rR hk) (sm_ge rS hk) (sm_ge rU hk) (sm_ge rW hk) h.hold h.norm h.starv h.live
  exact ⟨a, b, c, d, e, snap_upd h.snap hy⟩

theorem LockInv.ld (h : LockInv N f m s) (hk : k < N) (hx : f k = .ld) : LockInv N (upd f k (.l0)) (m) (s) := by
  have hok := h.ok
  have hsn := h.snap k hk
  rw [hx] at hsn
  simp only [Snap] at hsn
  refine h.mk' hk trivial ?_
  intro H Q V A R S U W H' Q' V' A' R' S' U' W' e1 e2 e3 e4 e5 e6 e7 e8 g1 g2 g3 g4 g5 g6 g7 g8 hH hN hS hL
  simp only [hx, rH, rQ, rV, rA, rR, rS, rU, rW] at e1 e2 e3 e4 e5 e6 e7 e8 g1 g2 g3 g4 g5 g6 g7 g8
  refine ⟨hok, ?_, ?_, ?_, ?_⟩ <;> omega

theorem LockInv.l0hit (h : LockInv N f m s) (hk : k < N) (e : m = ⟨0, 0, 0, 0⟩) (hx : f k = .l0) : LockInv N (upd f k (.le)) (⟨1, 0, 0, 0⟩) (s) := by
  have hok := h.ok
  have hsn := h.snap k hk
  rw [hx] at hsn
  simp only [Snap] at hsn
  refine h.mk' hk trivial ?_
  intro H Q V A R S U W H' Q' V' A' R' S' U' W' e1 e2 e3 e4 e5 e6 e7 e8 g1 g2 g3 g4 g5 g6 g7 g8 hH hN hS hL
  simp only [hx, rH, rQ, rV, rA, rR, rS, rU, rW] at e1 e2 e3 e4 e5 e6 e7 e8 g1 g2 g3 g4 g5 g6 g7 g8
  subst e
  have hN' := hN rfl
  refine ⟨by decide, ?_, ?_, ?_, ?_⟩ <;> simp only at * <;> omega

theorem LockInv.l0miss (h : LockInv N f m s) (hk : k < N) (hx : f k = .l0) : LockInv N (upd f k (.r0)) (m) (s) := by
  have hok := h.ok
  have hsn := h.snap k hk
  rw [hx] at hsn
  simp only [Snap] at hsn
  refine h.mk' hk trivial ?_
  intro H Q V A R S U W H' Q' V' A' R' S' U' W' e1 e2 e3 e4 e5 e6 e7 e8 g1 g2 g3 g4 g5 g6 g7 g8 hH hN hS hL
  simp only [hx, rH, rQ, rV, rA, rR, rS, rU, rW] at e1 e2 e3 e4 e5 e6 e7 e8 g1 g2 g3 g4 g5 g6 g7 g8
  refine ⟨hok, ?_, ?_, ?_, ?_⟩ <;> omega


theorem snap_hd {o : Mst} {it : Nat} {aw sv : Bool} {ws : Int} (ho : o.Ok) (hi : it ≤ 4) (ha : aw = true → o.w = 1 ∧ o.s = 0) (hs : sv = true → aw = true) : Snap (hd o it aw sv ws) := by
  unfold hd
  split
  · rename_i h; exact ⟨ho, hi, h.1, h.2, fun e => (ha e).1, hs⟩
  · exact ⟨ho, hi, ha, hs⟩
theorem r_hd (o : Mst) (it : Nat) (aw sv : Bool) (ws : Int) : rH (hd o it aw sv ws) = 0 ∧ rQ (hd o it aw sv ws) = 0 ∧ rV (hd o it aw sv ws) = 0 ∧ rA (hd o it aw sv ws) = 0 ∧ rR (hd o it aw sv ws) = 0 ∧ rS (hd o it aw sv ws) = 0 ∧ rU (hd o it aw sv ws) = 0 ∧ rW (hd o it aw sv ws) = aw.toNat := by
  unfold hd
  cases aw <;> split <;> simp [rH, rQ, rV, rA, rR, rS, rU, rW]
theorem rw_sq (o : Mst) (it : Nat) (aw sv : Bool) (ws : Int) : rW (.sq o it aw sv ws) = aw.toNat := by cases aw <;> rfl
theorem rw_r1 (it : Nat) (aw sv : Bool) (ws : Int) : rW (.r1 it aw sv ws) = aw.toNat := by cases aw <;> rfl
theorem rw_c2 (o : Mst) (it : Nat) (aw sv : Bool) (ws : Int) : rW (.c2 o it aw sv ws) = aw.toNat := by cases aw <;> rfl
theorem rw_r3 (it : Nat) (aw sv : Bool) (ws : Int) : rW (.r3 it aw sv ws) = aw.toNat := by cases aw <;> rfl
theorem toNat_true {b : Bool} (h : 1 ≤ b.toNat) : b = true := by cases b <;> simp_all


/-- One that has been woken: the word says so, and is not starving. -/
theorem LockInv.woken (h : LockInv N f m s) (hk : k < N) (hw : rW (f k) = 1) : m.w = 1 ∧ m.s = 0 := by
  have h1 := sm_ge (f := f) rW hk
  have h2 := h.norm
  have h3 := h.starv
  have := h.ok
  omega

theorem LockInv.r0 (h : LockInv N f m s) (hk : k < N) (hN : N ≤ 300000) (hx : f k = .r0) : LockInv N (upd f k (hd m 0 false false 0)) (m) (s) := by
  have hok := h.ok
  have hsn := h.snap k hk
  rw [hx] at hsn
  simp only [Snap] at hsn
  refine h.mk' hk (snap_hd (h.mok hN) (by omega) (fun e => by cases e) (fun e => by cases e)) ?_
  intro H Q V A R S U W H' Q' V' A' R' S' U' W' e1 e2 e3 e4 e5 e6 e7 e8 g1 g2 g3 g4 g5 g6 g7 g8 hH hN hS hL
  obtain ⟨q1, q2, q3, q4, q5, q6, q7, q8⟩ := r_hd m 0 false false 0
  simp only [hx, q1, q2, q3, q4, q5, q6, q7, q8, rw_sq, rw_r1, rw_c2, rw_r3] at e1 e2 e3 e4 e5 e6 e7 e8 g1 g2 g3 g4 g5 g6 g7 g8
  simp only [rH, rQ, rV, rA, rR, rS, rU, rW] at e1 e2 e3 e4 e5 e6 e7 e8 g1 g2 g3 g4 g5 g6 g7 g8
  simp only [Bool.toNat_false] at e8
  refine ⟨hok, ?_, ?_, ?_, ?_⟩ <;> omega

theorem LockInv.sqgo (h : LockInv N f m s) (hk : k < N) {o : Mst} {it : Nat} {aw sv : Bool} {ws : Int} (hx : f k = .sq o it aw sv ws) : LockInv N (upd f k (.c2 o it aw sv ws)) (m) (s) := by
  have hok := h.ok
  have hsn := h.snap k hk
  rw [hx] at hsn
  simp only [Snap] at hsn
  refine h.mk' hk (⟨hsn.1, hsn.2.1, fun e => ⟨hsn.2.2.2.2.1 e, hsn.2.2.2.1⟩, hsn.2.2.2.2.2⟩) ?_
  intro H Q V A R S U W H' Q' V' A' R' S' U' W' e1 e2 e3 e4 e5 e6 e7 e8 g1 g2 g3 g4 g5 g6 g7 g8 hH hN hS hL
  simp only [hx, rw_sq, rw_r1, rw_c2, rw_r3] at e1 e2 e3 e4 e5 e6 e7 e8 g1 g2 g3 g4 g5 g6 g7 g8
  simp only [rH, rQ, rV, rA, rR, rS, rU, rW] at e1 e2 e3 e4 e5 e6 e7 e8 g1 g2 g3 g4 g5 g6 g7 g8
  refine ⟨hok, ?_, ?_, ?_, ?_⟩ <;> omega

theorem LockInv.sqspin (h : LockInv N f m s) (hk : k < N) {o : Mst} {it : Nat} {aw sv : Bool} {ws : Int} (hi : it < 4) (hx : f k = .sq o it aw sv ws) : LockInv N (upd f k (.r1 it aw sv ws)) (m) (s) := by
  have hok := h.ok
  have hsn := h.snap k hk
  rw [hx] at hsn
  simp only [Snap] at hsn
  refine h.mk' hk (⟨hi, hsn.2.2.2.2.2⟩) ?_
  intro H Q V A R S U W H' Q' V' A' R' S' U' W' e1 e2 e3 e4 e5 e6 e7 e8 g1 g2 g3 g4 g5 g6 g7 g8 hH hN hS hL
  simp only [hx, rw_sq, rw_r1, rw_c2, rw_r3] at e1 e2 e3 e4 e5 e6 e7 e8 g1 g2 g3 g4 g5 g6 g7 g8
  simp only [rH, rQ, rV, rA, rR, rS, rU, rW] at e1 e2 e3 e4 e5 e6 e7 e8 g1 g2 g3 g4 g5 g6 g7 g8
  refine ⟨hok, ?_, ?_, ?_, ?_⟩ <;> omega

theorem LockInv.sqc1 (h : LockInv N f m s) (hk : k < N) {o : Mst} {it : Nat} {ws : Int} (hi : it < 4) (hw : o.w = 0) (hc : 0 < o.c) (hx : f k = .sq o it false false ws) : LockInv N (upd f k (.c1 o it ws)) (m) (s) := by
  have hok := h.ok
  have hsn := h.snap k hk
  rw [hx] at hsn
  simp only [Snap] at hsn
  refine h.mk' hk (⟨hsn.1, hi, hsn.2.2.1, hsn.2.2.2.1, hw, hc⟩) ?_
  intro H Q V A R S U W H' Q' V' A' R' S' U' W' e1 e2 e3 e4 e5 e6 e7 e8 g1 g2 g3 g4 g5 g6 g7 g8 hH hN hS hL
  simp only [hx, rw_sq, rw_r1, rw_c2, rw_r3] at e1 e2 e3 e4 e5 e6 e7 e8 g1 g2 g3 g4 g5 g6 g7 g8
  simp only [rH, rQ, rV, rA, rR, rS, rU, rW] at e1 e2 e3 e4 e5 e6 e7 e8 g1 g2 g3 g4 g5 g6 g7 g8
  simp only [Bool.toNat_false] at e8 g8
  refine ⟨hok, ?_, ?_, ?_, ?_⟩ <;> omega

theorem LockInv.c1hit (h : LockInv N f m s) (hk : k < N) {o : Mst} {it : Nat} {ws : Int} (e : m = o) (hx : f k = .c1 o it ws) : LockInv N (upd f k (.r1 it true false ws)) (⟨m.l, 1, m.s, m.c⟩) (s) := by
  have hok := h.ok
  have hsn := h.snap k hk
  rw [hx] at hsn
  simp only [Snap] at hsn
  refine h.mk' hk (⟨hsn.2.1, fun _ => rfl⟩) ?_
  intro H Q V A R S U W H' Q' V' A' R' S' U' W' e1 e2 e3 e4 e5 e6 e7 e8 g1 g2 g3 g4 g5 g6 g7 g8 hH hN hS hL
  simp only [hx, rw_sq, rw_r1, rw_c2, rw_r3] at e1 e2 e3 e4 e5 e6 e7 e8 g1 g2 g3 g4 g5 g6 g7 g8
  simp only [rH, rQ, rV, rA, rR, rS, rU, rW] at e1 e2 e3 e4 e5 e6 e7 e8 g1 g2 g3 g4 g5 g6 g7 g8
  simp only [Bool.toNat_true] at e8 g8
  subst e
  refine ⟨⟨hok.1, Nat.le_refl 1, hok.2.2⟩, ?_, ?_, ?_, ?_⟩ <;> simp only <;> omega

theorem LockInv.c1miss (h : LockInv N f m s) (hk : k < N) {o : Mst} {it : Nat} {ws : Int} (hx : f k = .c1 o it ws) : LockInv N (upd f k (.r1 it false false ws)) (m) (s) := by
  have hok := h.ok
  have hsn := h.snap k hk
  rw [hx] at hsn
  simp only [Snap] at hsn
  refine h.mk' hk (⟨hsn.2.1, fun e => by cases e⟩) ?_
  intro H Q V A R S U W H' Q' V' A' R' S' U' W' e1 e2 e3 e4 e5 e6 e7 e8 g1 g2 g3 g4 g5 g6 g7 g8 hH hN hS hL
  simp only [hx, rw_sq, rw_r1, rw_c2, rw_r3] at e1 e2 e3 e4 e5 e6 e7 e8 g1 g2 g3 g4 g5 g6 g7 g8
  simp only [rH, rQ, rV, rA, rR, rS, rU, rW] at e1 e2 e3 e4 e5 e6 e7 e8 g1 g2 g3 g4 g5 g6 g7 g8
  simp only [Bool.toNat_false] at e8 g8
  refine ⟨hok, ?_, ?_, ?_, ?_⟩ <;> omega

theorem LockInv.r1 (h : LockInv N f m s) (hk : k < N) {it : Nat} {aw sv : Bool} {ws : Int} (hN : N ≤ 300000) (hx : f k = .r1 it aw sv ws) : LockInv N (upd f k (hd m (it + 1) aw sv ws)) (m) (s) := by
  have hok := h.ok
  have hsn := h.snap k hk
  rw [hx] at hsn
  simp only [Snap] at hsn
  refine h.mk' hk (snap_hd (h.mok hN) (by omega) (fun e => h.woken hk (by rw [hx, rw_r1, e]; rfl)) hsn.2) ?_
  intro H Q V A R S U W H' Q' V' A' R' S' U' W' e1 e2 e3 e4 e5 e6 e7 e8 g1 g2 g3 g4 g5 g6 g7 g8 hH hN hS hL
  obtain ⟨q1, q2, q3, q4, q5, q6, q7, q8⟩ := r_hd m (it + 1) aw sv ws
  simp only [hx, q1, q2, q3, q4, q5, q6, q7, q8, rw_sq, rw_r1, rw_c2, rw_r3] at e1 e2 e3 e4 e5 e6 e7 e8 g1 g2 g3 g4 g5 g6 g7 g8
  simp only [rH, rQ, rV, rA, rR, rS, rU, rW] at e1 e2 e3 e4 e5 e6 e7 e8 g1 g2 g3 g4 g5 g6 g7 g8
  refine ⟨hok, ?_, ?_, ?_, ?_⟩ <;> omega

theorem LockInv.r3 (h : LockInv N f m s) (hk : k < N) {it : Nat} {aw sv : Bool} {ws : Int} (hN : N ≤ 300000) (hx : f k = .r3 it aw sv ws) : LockInv N (upd f k (hd m it aw sv ws)) (m) (s) := by
  have hok := h.ok
  have hsn := h.snap k hk
  rw [hx] at hsn
  simp only [Snap] at hsn
  refine h.mk' hk (snap_hd (h.mok hN) hsn.1 (fun e => h.woken hk (by rw [hx, rw_r3, e]; rfl)) hsn.2) ?_
  intro H Q V A R S U W H' Q' V' A' R' S' U' W' e1 e2 e3 e4 e5 e6 e7 e8 g1 g2 g3 g4 g5 g6 g7 g8 hH hN hS hL
  obtain ⟨q1, q2, q3, q4, q5, q6, q7, q8⟩ := r_hd m it aw sv ws
  simp only [hx, q1, q2, q3, q4, q5, q6, q7, q8, rw_sq, rw_r1, rw_c2, rw_r3] at e1 e2 e3 e4 e5 e6 e7 e8 g1 g2 g3 g4 g5 g6 g7 g8
  simp only [rH, rQ, rV, rA, rR, rS, rU, rW] at e1 e2 e3 e4 e5 e6 e7 e8 g1 g2 g3 g4 g5 g6 g7 g8
  refine ⟨hok, ?_, ?_, ?_, ?_⟩ <;> omega

theorem LockInv.c2miss (h : LockInv N f m s) (hk : k < N) {o : Mst} {it : Nat} {aw sv : Bool} {ws : Int} (hx : f k = .c2 o it aw sv ws) : LockInv N (upd f k (.r3 it aw sv ws)) (m) (s) := by
  have hok := h.ok
  have hsn := h.snap k hk
  rw [hx] at hsn
  simp only [Snap] at hsn
  refine h.mk' hk (⟨hsn.2.1, hsn.2.2.2⟩) ?_
  intro H Q V A R S U W H' Q' V' A' R' S' U' W' e1 e2 e3 e4 e5 e6 e7 e8 g1 g2 g3 g4 g5 g6 g7 g8 hH hN hS hL
  simp only [hx, rw_sq, rw_r1, rw_c2, rw_r3] at e1 e2 e3 e4 e5 e6 e7 e8 g1 g2 g3 g4 g5 g6 g7 g8
  simp only [rH, rQ, rV, rA, rR, rS, rU, rW] at e1 e2 e3 e4 e5 e6 e7 e8 g1 g2 g3 g4 g5 g6 g7 g8
  refine ⟨hok, ?_, ?_, ?_, ?_⟩ <;> omega


set_option maxHeartbeats 4000000
theorem r_nx (o : Mst) (sv : Bool) (ws : Int) : (o.l = 0 ∧ o.s = 0 → rH (nx o sv ws) = 1 ∧ rQ (nx o sv ws) = 0) ∧ (¬ (o.l = 0 ∧ o.s = 0) → rH (nx o sv ws) = 0 ∧ rQ (nx o sv ws) = 1) ∧ rV (nx o sv ws) = 0 ∧ rA (nx o sv ws) = 0 ∧ rR (nx o sv ws) = 0 ∧ rS (nx o sv ws) = 0 ∧ rU (nx o sv ws) = 0 ∧ rW (nx o sv ws) = 0 := by
  unfold nx
  by_cases h : o.l = 0 ∧ o.s = 0
  · simp [h, rH, rQ, rV, rA, rR, rS, rU, rW]
  · by_cases hw : ws = 0 <;> simp [h, hw, rH, rQ, rV, rA, rR, rS, rU, rW]
theorem nw_f (o : Mst) (aw sv : Bool) : (o.s = 0 → (nw o aw sv).l = 1) ∧ (o.s ≠ 0 → (nw o aw sv).l = o.l) ∧ (aw.toNat = 1 → (nw o aw sv).w = 0) ∧ (aw.toNat = 0 → (nw o aw sv).w = o.w) ∧ (sv.toNat = 1 ∧ o.l = 1 → (nw o aw sv).s = 1) ∧ (¬ (sv.toNat = 1 ∧ o.l = 1) → (nw o aw sv).s = o.s) ∧
    (o.l = 1 ∨ o.s = 1 → (nw o aw sv).c = o.c + 1) ∧ (¬ (o.l = 1 ∨ o.s = 1) → (nw o aw sv).c = o.c) := by
  refine ⟨fun h => by simp [nw, h], fun h => by simp [nw, h], fun h => ?_, fun h => ?_, fun h => ?_, fun h => ?_, fun h => by simp only [nw]; rw [if_pos h], fun h => by simp only [nw]; rw [if_neg h]⟩
  · cases aw <;> simp_all [nw]
  · cases aw <;> simp_all [nw]
  · cases sv <;> simp_all [nw]
  · cases sv <;> simp_all [nw]
theorem LockInv.c2hit {o : Mst} {it : Nat} {aw sv : Bool} {ws : Int} (h : LockInv N f m s) (hk : k < N) (e : m = o) (hx : f k = .c2 o it aw sv ws) : LockInv N (upd f k (nx o sv ws)) (nw o aw sv) s := by
  have hok := h.ok
  have hsn := h.snap k hk
  rw [hx] at hsn
  simp only [Snap] at hsn
  subst e
  obtain ⟨w1, w2, w3, w4, w5, w6, w7, w8⟩ := nw_f m aw sv
  obtain ⟨q1, q2, q3, q4, q5, q6, q7, q8⟩ := r_nx m sv ws
  have b1 : aw.toNat ≤ 1 := by cases aw <;> simp
  have b2 : sv.toNat ≤ 1 := by cases sv <;> simp
  have b3 : sv.toNat = 1 → aw.toNat = 1 := fun h => by have := hsn.2.2.2 (toNat_true (by omega)); rw [this]; rfl
  have b4 : aw.toNat = 1 → m.w = 1 ∧ m.s = 0 := fun h => hsn.2.2.1 (toNat_true (by omega))
  refine h.mk' hk (by unfold nx; split; · trivial
                      · split <;> trivial) ?_
  intro H Q V A R S U W H' Q' V' A' R' S' U' W' e1 e2 e3 e4 e5 e6 e7 e8 g1 g2 g3 g4 g5 g6 g7 g8 hH hN hS hL
  simp only [hx, q3, q4, q5, q6, q7, q8, rw_c2] at e1 e2 e3 e4 e5 e6 e7 e8 g1 g2 g3 g4 g5 g6 g7 g8
  clear hsn hx h
  generalize rH (nx m sv ws) = h1 at *
  generalize rQ (nx m sv ws) = h2 at *
  simp only [rH, rQ, rV, rA, rR, rS, rU, rW] at e1 e2 e3 e4 e5 e6 e7 e8 g1 g2 g3 g4 g5 g6 g7 g8
  clear q3 q4 q5 q6 q7 q8
  generalize (nw m aw sv) = m' at *
  generalize aw.toNat = x at *
  generalize sv.toNat = y at *
  obtain ⟨ml, mw, ms, mc⟩ := m
  obtain ⟨nl, nw, ns, nc⟩ := m'
  simp only at *
  refine ⟨⟨?_, ?_, ?_⟩, ?_, fun _ => ⟨?_, ?_, ?_, ?_⟩, fun _ => ⟨?_, ?_, ?_, ?_, ?_⟩, fun _ _ _ _ => ?_⟩ <;> omega

theorem LockInv.t1 (h : LockInv N f m s) (hk : k < N) {sv : Bool} {ws : Int} (hx : f k = .t1 sv) : LockInv N (upd f k (.s1 sv ws)) (m) (s) := by
  have hok := h.ok
  have hsn := h.snap k hk
  rw [hx] at hsn
  simp only [Snap] at hsn
  refine h.mk' hk (trivial) ?_
  intro H Q V A R S U W H' Q' V' A' R' S' U' W' e1 e2 e3 e4 e5 e6 e7 e8 g1 g2 g3 g4 g5 g6 g7 g8 hH hN hS hL
  simp only [hx, rw_sq, rw_r1, rw_c2, rw_r3] at e1 e2 e3 e4 e5 e6 e7 e8 g1 g2 g3 g4 g5 g6 g7 g8
  simp only [rH, rQ, rV, rA, rR, rS, rU, rW] at e1 e2 e3 e4 e5 e6 e7 e8 g1 g2 g3 g4 g5 g6 g7 g8
  refine ⟨hok, ?_, ?_, ?_, ?_⟩ <;> omega

theorem LockInv.s1 (h : LockInv N f m s) (hk : k < N) {sv : Bool} {ws : Int} (hs : 0 < s) (hx : f k = .s1 sv ws) : LockInv N (upd f k (if sv then .r2 sv ws else .t2 ws)) (m) (s - 1) := by
  have hok := h.ok
  have hsn := h.snap k hk
  rw [hx] at hsn
  simp only [Snap] at hsn
  refine h.mk' hk (by split <;> trivial) ?_
  intro H Q V A R S U W H' Q' V' A' R' S' U' W' e1 e2 e3 e4 e5 e6 e7 e8 g1 g2 g3 g4 g5 g6 g7 g8 hH hN hS hL
  have q1 : ∀ r : Lk → Nat, r (.r2 true ws) = r (.r2 true ws) := fun _ => rfl
  cases sv <;> simp only [if_true, if_false, Bool.false_eq_true] at e1 e2 e3 e4 e5 e6 e7 e8 <;> simp only [hx, rH, rQ, rV, rA, rR, rS, rU, rW] at e1 e2 e3 e4 e5 e6 e7 e8 g1 g2 g3 g4 g5 g6 g7 g8
  all_goals refine ⟨hok, ?_, ?_, ?_, ?_⟩ <;> omega

theorem LockInv.t2 (h : LockInv N f m s) (hk : k < N) {sv : Bool} {ws : Int} (hx : f k = .t2 ws) : LockInv N (upd f k (.r2 sv ws)) (m) (s) := by
  have hok := h.ok
  have hsn := h.snap k hk
  rw [hx] at hsn
  simp only [Snap] at hsn
  refine h.mk' hk (trivial) ?_
  intro H Q V A R S U W H' Q' V' A' R' S' U' W' e1 e2 e3 e4 e5 e6 e7 e8 g1 g2 g3 g4 g5 g6 g7 g8 hH hN hS hL
  simp only [hx, rw_sq, rw_r1, rw_c2, rw_r3] at e1 e2 e3 e4 e5 e6 e7 e8 g1 g2 g3 g4 g5 g6 g7 g8
  simp only [rH, rQ, rV, rA, rR, rS, rU, rW] at e1 e2 e3 e4 e5 e6 e7 e8 g1 g2 g3 g4 g5 g6 g7 g8
  refine ⟨hok, ?_, ?_, ?_, ?_⟩ <;> omega

theorem LockInv.r2s (h : LockInv N f m s) (hk : k < N) {sv : Bool} {ws : Int} (hN : N ≤ 300000) (hs : m.s = 1) (hx : f k = .r2 sv ws) : LockInv N (upd f k (.a1 m sv)) (m) (s) := by
  have hok := h.ok
  have hsn := h.snap k hk
  rw [hx] at hsn
  simp only [Snap] at hsn
  refine h.mk' hk (⟨h.mok hN, hs, by have := h.starv hs; have := sm_ge (f := f) rV hk; rw [hx] at this; simp only [rV] at this; omega, (h.starv hs).1, by have := h.starv hs; have := sm_ge (f := f) rV hk; rw [hx] at this; simp only [rV] at this; omega⟩) ?_
  intro H Q V A R S U W H' Q' V' A' R' S' U' W' e1 e2 e3 e4 e5 e6 e7 e8 g1 g2 g3 g4 g5 g6 g7 g8 hH hN hS hL
  simp only [hx, rw_sq, rw_r1, rw_c2, rw_r3] at e1 e2 e3 e4 e5 e6 e7 e8 g1 g2 g3 g4 g5 g6 g7 g8
  simp only [rH, rQ, rV, rA, rR, rS, rU, rW] at e1 e2 e3 e4 e5 e6 e7 e8 g1 g2 g3 g4 g5 g6 g7 g8
  refine ⟨hok, ?_, ?_, ?_, ?_⟩ <;> omega

theorem LockInv.r2n (h : LockInv N f m s) (hk : k < N) {sv : Bool} {ws : Int} (hN : N ≤ 300000) (hs : m.s = 0) (hx : f k = .r2 sv ws) : LockInv N (upd f k (hd m 0 true sv ws)) (m) (s) := by
  have hok := h.ok
  have hsn := h.snap k hk
  rw [hx] at hsn
  simp only [Snap] at hsn
  refine h.mk' hk (snap_hd (h.mok hN) (by omega) (fun _ => ⟨by have := h.norm hs; have := sm_ge (f := f) rV hk; rw [hx] at this; simp only [rV] at this; omega, hs⟩) (fun _ => rfl)) ?_
  intro H Q V A R S U W H' Q' V' A' R' S' U' W' e1 e2 e3 e4 e5 e6 e7 e8 g1 g2 g3 g4 g5 g6 g7 g8 hH hN hS hL
  obtain ⟨q1, q2, q3, q4, q5, q6, q7, q8⟩ := r_hd m 0 true sv ws
  simp only [hx, q1, q2, q3, q4, q5, q6, q7, q8, rw_sq, rw_r1, rw_c2, rw_r3] at e1 e2 e3 e4 e5 e6 e7 e8 g1 g2 g3 g4 g5 g6 g7 g8
  simp only [rH, rQ, rV, rA, rR, rS, rU, rW] at e1 e2 e3 e4 e5 e6 e7 e8 g1 g2 g3 g4 g5 g6 g7 g8
  simp only [Bool.toNat_true] at e8
  refine ⟨hok, ?_, ?_, ?_, ?_⟩ <;> omega


/-- The word behind the handing over. -/
def ad (m o : Mst) (sv : Bool) : Mst := ⟨1, m.w, if sv = true ∧ o.c ≠ 1 then 1 else 0, m.c - 1⟩
theorem LockInv.atA {o : Mst} {sv : Bool} (h : LockInv N f m s) (hk : k < N) (hx : f k = .a1 o sv) : m.s = 1 ∧ m.l = 0 ∧ 0 < m.c := by
  have h1 := sm_ge (f := f) rA hk
  have h2 := h.norm
  have h3 := h.starv
  have := h.ok
  rw [hx] at h1
  simp only [rA] at h1
  omega

theorem LockInv.a1 (h : LockInv N f m s) (hk : k < N) {o : Mst} {sv : Bool} (hx : f k = .a1 o sv) : LockInv N (upd f k (.le)) (ad m o sv) (s) := by
  have hok := h.ok
  have hsn := h.snap k hk
  rw [hx] at hsn
  simp only [Snap] at hsn
  refine h.mk' hk (trivial) ?_
  intro H Q V A R S U W H' Q' V' A' R' S' U' W' e1 e2 e3 e4 e5 e6 e7 e8 g1 g2 g3 g4 g5 g6 g7 g8 hH hN hS hL
  simp only [hx, rw_sq, rw_r1, rw_c2, rw_r3] at e1 e2 e3 e4 e5 e6 e7 e8 g1 g2 g3 g4 g5 g6 g7 g8
  simp only [rH, rQ, rV, rA, rR, rS, rU, rW] at e1 e2 e3 e4 e5 e6 e7 e8 g1 g2 g3 g4 g5 g6 g7 g8
  have hA := h.atA hk hx
  have hs' : (ad m o sv).s = 0 ∨ (ad m o sv).s = 1 := by unfold ad; simp only; split <;> simp
  have f1 : (ad m o sv).l = 1 := rfl
  have f2 : (ad m o sv).w = m.w := rfl
  have f3 : (ad m o sv).c = m.c - 1 := rfl
  rw [f1, f2, f3]
  generalize (ad m o sv).s = z at *
  refine ⟨by omega, ?_, ?_, ?_, ?_⟩ <;> omega

theorem LockInv.le (h : LockInv N f m s) (hk : k < N) (hx : f k = .le) : LockInv N (upd f k (.la)) (m) (s) := by
  have hok := h.ok
  have hsn := h.snap k hk
  rw [hx] at hsn
  simp only [Snap] at hsn
  refine h.mk' hk (trivial) ?_
  intro H Q V A R S U W H' Q' V' A' R' S' U' W' e1 e2 e3 e4 e5 e6 e7 e8 g1 g2 g3 g4 g5 g6 g7 g8 hH hN hS hL
  simp only [hx, rw_sq, rw_r1, rw_c2, rw_r3] at e1 e2 e3 e4 e5 e6 e7 e8 g1 g2 g3 g4 g5 g6 g7 g8
  simp only [rH, rQ, rV, rA, rR, rS, rU, rW] at e1 e2 e3 e4 e5 e6 e7 e8 g1 g2 g3 g4 g5 g6 g7 g8
  refine ⟨hok, ?_, ?_, ?_, ?_⟩ <;> omega

theorem LockInv.la (h : LockInv N f m s) (hk : k < N) (hx : f k = .la) : LockInv N (upd f k (.cr)) (m) (s) := by
  have hok := h.ok
  have hsn := h.snap k hk
  rw [hx] at hsn
  simp only [Snap] at hsn
  refine h.mk' hk (trivial) ?_
  intro H Q V A R S U W H' Q' V' A' R' S' U' W' e1 e2 e3 e4 e5 e6 e7 e8 g1 g2 g3 g4 g5 g6 g7 g8 hH hN hS hL
  simp only [hx, rw_sq, rw_r1, rw_c2, rw_r3] at e1 e2 e3 e4 e5 e6 e7 e8 g1 g2 g3 g4 g5 g6 g7 g8
  simp only [rH, rQ, rV, rA, rR, rS, rU, rW] at e1 e2 e3 e4 e5 e6 e7 e8 g1 g2 g3 g4 g5 g6 g7 g8
  refine ⟨hok, ?_, ?_, ?_, ?_⟩ <;> omega

theorem LockInv.cr (h : LockInv N f m s) (hk : k < N) (hx : f k = .cr) : LockInv N (upd f k (.ur)) (m) (s) := by
  have hok := h.ok
  have hsn := h.snap k hk
  rw [hx] at hsn
  simp only [Snap] at hsn
  refine h.mk' hk (trivial) ?_
  intro H Q V A R S U W H' Q' V' A' R' S' U' W' e1 e2 e3 e4 e5 e6 e7 e8 g1 g2 g3 g4 g5 g6 g7 g8 hH hN hS hL
  simp only [hx, rw_sq, rw_r1, rw_c2, rw_r3] at e1 e2 e3 e4 e5 e6 e7 e8 g1 g2 g3 g4 g5 g6 g7 g8
  simp only [rH, rQ, rV, rA, rR, rS, rU, rW] at e1 e2 e3 e4 e5 e6 e7 e8 g1 g2 g3 g4 g5 g6 g7 g8
  refine ⟨hok, ?_, ?_, ?_, ?_⟩ <;> omega

theorem LockInv.ur (h : LockInv N f m s) (hk : k < N) (hx : f k = .ur) : LockInv N (upd f k (.ud)) (m) (s) := by
  have hok := h.ok
  have hsn := h.snap k hk
  rw [hx] at hsn
  simp only [Snap] at hsn
  refine h.mk' hk (trivial) ?_
  intro H Q V A R S U W H' Q' V' A' R' S' U' W' e1 e2 e3 e4 e5 e6 e7 e8 g1 g2 g3 g4 g5 g6 g7 g8 hH hN hS hL
  simp only [hx, rw_sq, rw_r1, rw_c2, rw_r3] at e1 e2 e3 e4 e5 e6 e7 e8 g1 g2 g3 g4 g5 g6 g7 g8
  simp only [rH, rQ, rV, rA, rR, rS, rU, rW] at e1 e2 e3 e4 e5 e6 e7 e8 g1 g2 g3 g4 g5 g6 g7 g8
  refine ⟨hok, ?_, ?_, ?_, ?_⟩ <;> omega

theorem LockInv.ud (h : LockInv N f m s) (hk : k < N) (hx : f k = .ud) : LockInv N (upd f k (.u0)) (m) (s) := by
  have hok := h.ok
  have hsn := h.snap k hk
  rw [hx] at hsn
  simp only [Snap] at hsn
  refine h.mk' hk (trivial) ?_
  intro H Q V A R S U W H' Q' V' A' R' S' U' W' e1 e2 e3 e4 e5 e6 e7 e8 g1 g2 g3 g4 g5 g6 g7 g8 hH hN hS hL
  simp only [hx, rw_sq, rw_r1, rw_c2, rw_r3] at e1 e2 e3 e4 e5 e6 e7 e8 g1 g2 g3 g4 g5 g6 g7 g8
  simp only [rH, rQ, rV, rA, rR, rS, rU, rW] at e1 e2 e3 e4 e5 e6 e7 e8 g1 g2 g3 g4 g5 g6 g7 g8
  refine ⟨hok, ?_, ?_, ?_, ?_⟩ <;> omega


theorem LockInv.atH (h : LockInv N f m s) (hk : k < N) (hx : rH (f k) = 1) : m.l = 1 := by
  have h1 := sm_ge (f := f) rH hk
  have h2 := h.hold
  have := h.ok
  omega
/-- One alone has it. -/
theorem LockInv.alone (h : LockInv N f m s) (hk : k < N) (hx : rH (f k) = 1) {j : Nat} (hj : j < N) (hjk : j ≠ k) : rH (f j) = 0 := by
  have h1 := h.atH hk hx
  have h2 := h.hold
  have h3 := sm_upd (f := f) rH Lk.off hk
  have h4 := sm_ge (f := upd f k Lk.off) rH hj
  rw [upd_ne _ _ hjk] at h4
  have h5 : rH Lk.off = 0 := rfl
  omega
/-- From the unlocking, with the word as it is then, to the next stop. -/
def un (m : Mst) : Lk := if m.l = 0 ∧ m.w = 0 ∧ m.s = 0 ∧ m.c ≠ 0 then .uc m else if m.s = 1 then .us true else .ue
def ul (m : Mst) : Lk := if m.l = 0 ∧ m.w = 0 ∧ m.s = 0 ∧ m.c ≠ 0 then .uc m else .ue

theorem LockInv.u0 (h : LockInv N f m s) (hk : k < N) (hN : N ≤ 300000) (hx : f k = .u0) : LockInv N (upd f k (un ⟨0, m.w, m.s, m.c⟩)) (⟨0, m.w, m.s, m.c⟩) (s) := by
  have hok := h.ok
  have hsn := h.snap k hk
  rw [hx] at hsn
  simp only [Snap] at hsn
  refine h.mk' hk (by unfold un; split; · rename_i h'; exact ⟨⟨by simp, hok.2.1, hok.2.2, (h.mok hN).2.2.2⟩, rfl, h'.2.1, h'.2.2.1, Nat.pos_of_ne_zero h'.2.2.2⟩
                      · split <;> trivial) ?_
  intro H Q V A R S U W H' Q' V' A' R' S' U' W' e1 e2 e3 e4 e5 e6 e7 e8 g1 g2 g3 g4 g5 g6 g7 g8 hH hN hS hL
  have hl := h.atH hk (by rw [hx]; rfl)
  rw [hx] at e1 e2 e3 e4 e5 e6 e7 e8 g1 g2 g3 g4 g5 g6 g7 g8
  unfold un at e1 e2 e3 e4 e5 e6 e7 e8
  by_cases h1 : m.w = 0 ∧ m.s = 0 ∧ m.c ≠ 0
  · rw [if_pos ⟨rfl, h1⟩] at e1 e2 e3 e4 e5 e6 e7 e8
    simp only [rH, rQ, rV, rA, rR, rS, rU, rW] at e1 e2 e3 e4 e5 e6 e7 e8 g1 g2 g3 g4 g5 g6 g7 g8
    refine ⟨⟨by simp, hok.2.1, hok.2.2⟩, ?_, ?_, ?_, ?_⟩ <;> simp only <;> omega
  · rw [if_neg (fun h => h1 h.2)] at e1 e2 e3 e4 e5 e6 e7 e8
    by_cases h2 : m.s = 1
    · rw [if_pos h2] at e1 e2 e3 e4 e5 e6 e7 e8
      simp only [rH, rQ, rV, rA, rR, rS, rU, rW] at e1 e2 e3 e4 e5 e6 e7 e8 g1 g2 g3 g4 g5 g6 g7 g8
      refine ⟨⟨by simp, hok.2.1, hok.2.2⟩, ?_, ?_, ?_, ?_⟩ <;> simp only <;> omega
    · rw [if_neg h2] at e1 e2 e3 e4 e5 e6 e7 e8
      simp only [rH, rQ, rV, rA, rR, rS, rU, rW] at e1 e2 e3 e4 e5 e6 e7 e8 g1 g2 g3 g4 g5 g6 g7 g8
      refine ⟨⟨by simp, hok.2.1, hok.2.2⟩, ?_, ?_, ?_, ?_⟩ <;> simp only <;> omega

theorem LockInv.uchit (h : LockInv N f m s) (hk : k < N) {o : Mst} (e : m = o) (hx : f k = .uc o) : LockInv N (upd f k (.us false)) (⟨0, 1, 0, m.c - 1⟩) (s) := by
  have hok := h.ok
  have hsn := h.snap k hk
  rw [hx] at hsn
  simp only [Snap] at hsn
  refine h.mk' hk (trivial) ?_
  intro H Q V A R S U W H' Q' V' A' R' S' U' W' e1 e2 e3 e4 e5 e6 e7 e8 g1 g2 g3 g4 g5 g6 g7 g8 hH hN hS hL
  simp only [hx, rw_sq, rw_r1, rw_c2, rw_r3] at e1 e2 e3 e4 e5 e6 e7 e8 g1 g2 g3 g4 g5 g6 g7 g8
  simp only [rH, rQ, rV, rA, rR, rS, rU, rW] at e1 e2 e3 e4 e5 e6 e7 e8 g1 g2 g3 g4 g5 g6 g7 g8
  subst e
  refine ⟨⟨by simp, by simp, by simp⟩, ?_, ?_, ?_, ?_⟩ <;> simp only <;> omega

theorem LockInv.ucmiss (h : LockInv N f m s) (hk : k < N) {o : Mst} (hx : f k = .uc o) : LockInv N (upd f k (.ux)) (m) (s) := by
  have hok := h.ok
  have hsn := h.snap k hk
  rw [hx] at hsn
  simp only [Snap] at hsn
  refine h.mk' hk (trivial) ?_
  intro H Q V A R S U W H' Q' V' A' R' S' U' W' e1 e2 e3 e4 e5 e6 e7 e8 g1 g2 g3 g4 g5 g6 g7 g8 hH hN hS hL
  simp only [hx, rw_sq, rw_r1, rw_c2, rw_r3] at e1 e2 e3 e4 e5 e6 e7 e8 g1 g2 g3 g4 g5 g6 g7 g8
  simp only [rH, rQ, rV, rA, rR, rS, rU, rW] at e1 e2 e3 e4 e5 e6 e7 e8 g1 g2 g3 g4 g5 g6 g7 g8
  refine ⟨hok, ?_, ?_, ?_, ?_⟩ <;> omega

theorem LockInv.ux (h : LockInv N f m s) (hk : k < N) (hN : N ≤ 300000) (hx : f k = .ux) : LockInv N (upd f k (ul m)) (m) (s) := by
  have hok := h.ok
  have hsn := h.snap k hk
  rw [hx] at hsn
  simp only [Snap] at hsn
  refine h.mk' hk (by unfold ul; split; · rename_i h'; exact ⟨h.mok hN, h'.1, h'.2.1, h'.2.2.1, Nat.pos_of_ne_zero h'.2.2.2⟩
                      · trivial) ?_
  intro H Q V A R S U W H' Q' V' A' R' S' U' W' e1 e2 e3 e4 e5 e6 e7 e8 g1 g2 g3 g4 g5 g6 g7 g8 hH hN hS hL
  rw [hx] at e1 e2 e3 e4 e5 e6 e7 e8 g1 g2 g3 g4 g5 g6 g7 g8
  unfold ul at e1 e2 e3 e4 e5 e6 e7 e8
  by_cases h1 : m.l = 0 ∧ m.w = 0 ∧ m.s = 0 ∧ m.c ≠ 0
  · rw [if_pos h1] at e1 e2 e3 e4 e5 e6 e7 e8
    simp only [rH, rQ, rV, rA, rR, rS, rU, rW] at e1 e2 e3 e4 e5 e6 e7 e8 g1 g2 g3 g4 g5 g6 g7 g8
    refine ⟨hok, ?_, ?_, ?_, ?_⟩ <;> omega
  · rw [if_neg h1] at e1 e2 e3 e4 e5 e6 e7 e8
    simp only [rH, rQ, rV, rA, rR, rS, rU, rW] at e1 e2 e3 e4 e5 e6 e7 e8 g1 g2 g3 g4 g5 g6 g7 g8
    refine ⟨hok, ?_, ?_, ?_, ?_⟩ <;> omega

theorem LockInv.us (h : LockInv N f m s) (hk : k < N) {st : Bool} (hx : f k = .us st) : LockInv N (upd f k (.ue)) (m) (s + 1) := by
  have hok := h.ok
  have hsn := h.snap k hk
  rw [hx] at hsn
  simp only [Snap] at hsn
  refine h.mk' hk (trivial) ?_
  intro H Q V A R S U W H' Q' V' A' R' S' U' W' e1 e2 e3 e4 e5 e6 e7 e8 g1 g2 g3 g4 g5 g6 g7 g8 hH hN hS hL
  cases st <;> simp only [hx, rH, rQ, rV, rA, rR, rS, rU, rW] at e1 e2 e3 e4 e5 e6 e7 e8 g1 g2 g3 g4 g5 g6 g7 g8
  all_goals refine ⟨hok, ?_, ?_, ?_, ?_⟩ <;> omega

theorem LockInv.ue (h : LockInv N f m s) (hk : k < N) (hx : f k = .ue) : LockInv N (upd f k (.off)) (m) (s) := by
  have hok := h.ok
  have hsn := h.snap k hk
  rw [hx] at hsn
  simp only [Snap] at hsn
  refine h.mk' hk (trivial) ?_
  intro H Q V A R S U W H' Q' V' A' R' S' U' W' e1 e2 e3 e4 e5 e6 e7 e8 g1 g2 g3 g4 g5 g6 g7 g8 hH hN hS hL
  simp only [hx, rw_sq, rw_r1, rw_c2, rw_r3] at e1 e2 e3 e4 e5 e6 e7 e8 g1 g2 g3 g4 g5 g6 g7 g8
  simp only [rH, rQ, rV, rA, rR, rS, rU, rW] at e1 e2 e3 e4 e5 e6 e7 e8 g1 g2 g3 g4 g5 g6 g7 g8
  refine ⟨hok, ?_, ?_, ?_, ?_⟩ <;> omega


/-- Whoever waits will be woken: if somebody waits and the semaphore is at nought, somebody is about. -/
theorem LockInv.about (h : LockInv N f m s) (hs : s = 0) (hq : 1 ≤ sm rQ f N) : 1 ≤ sm rH f N + sm rW f N + sm rV f N + sm rA f N + sm rR f N + sm rS f N + sm rU f N := by
  have h1 := h.norm
  have h2 := h.starv
  have h3 := h.live
  have h4 := h.hold
  have := h.ok
  omega
theorem LockInv.start (f : Nat → Lk) (h : ∀ k, k < N → f k = .off) : LockInv N f ⟨0, 0, 0, 0⟩ 0 := by
  have z : ∀ r : Lk → Nat, r .off = 0 → sm r f N = 0 := fun r hr => by
    unfold sm
    rw [sumTo_congr (g := fun _ => 0) fun k hk => by rw [h k hk, hr]]
    have := sumTo_le (f := fun _ : Nat => 0) (c := 0) (j := N) fun _ _ => Nat.le_refl 0
    omega
  refine ⟨by simp, z _ rfl, fun _ => ⟨by rw [z rW rfl, z rV rfl, z rR rfl], by rw [z rQ rfl, z rR rfl], z _ rfl, z _ rfl⟩, fun h => (by cases h), fun _ _ _ h => (by cases h), fun k hk => by rw [h k hk]; trivial⟩

end
end Go.Proofs.Ytdkbkocklnnmdaa.lock
