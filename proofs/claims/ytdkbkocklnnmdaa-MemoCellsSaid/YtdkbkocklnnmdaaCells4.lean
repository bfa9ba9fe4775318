/-
  MemoCells on the machine, on whatever tape: round by round to the return of true. Condition: the argument leads to a row of numbers.
-/
import Derived.Test.YtdkbkocklnnmdaaCells3
import Derived.Test.YtdkbkocklnnmdaaEnding
set_option linter.unusedSimpArgs false
set_option linter.unusedVariables false
namespace Go.Proofs.Ytdkbkocklnnmdaa.cells
open Go Go.Conc Go.RowKit Go.Proofs.Ytdkbkocklnnmdaa.crew Go.Proofs.Ytdkbkocklnnmdaa.kid Go.Proofs.Ytdkbkocklnnmdaa.wg Go.Proofs.Ytdkbkocklnnmdaa.free
open Go.Proofs.Ytdkbkocklnnmdaa.tog (Tp Cs AtCs cblk Atom)
open Go.Proofs.Ytdkbkocklnnmdaa.itgm (Low AtTog TAfter TgIn T19 loop19 tail19 tog_drive)
open Go.Proofs.Ytdkbkocklnnmdaa.tgs (Gam)

theorem stands_mono {Shun Lw Lw' : Loc → Prop} {gs : Array Goroutine} {a : Goroutine} {t : Trace} (h : Stands Shun Lw gs a t) (hl : ∀ l, Lw l → Lw' l) : Stands Shun Lw' gs a t := ⟨h.1, h.2.1, h.2.2.1, h.2.2.2.mono hl⟩
/-- The next step is the return of true. -/
def End5 (W0 : World) (gs : Array Goroutine) (w : World) (_ : Option (Nat × Nat)) (t : Trace) : Prop :=
  ∃ (Shun : Loc → Prop) (a : Goroutine), Stands Shun (fun _ => True) gs a t ∧ ∃ d, AtTrue W0 Shun a (w.at d)

theorem fr_start {Shun Lw : Loc → Prop} : Fr Shun Lw 1 #[] :=
  ⟨fun said => by rintro ⟨i, j, _, ⟨a, b, ha, _⟩, _⟩; simp [Trace.act?] at ha, fun i op x hi => by simp at hi, fun l _ i a ha => by simp [touchAt, Trace.act?] at ha, fun i g hg => by simp [Trace.g?] at hg,
    fun ar i => by simp [Trace.act?], by simp, fun i op hi => by simp at hi⟩

section
variable {W0 : World} {a0 : Option Addr} {b off len cap : Nat} {want v0 : Int} {fl ran : Bool}
theorem next_run {sl : Value} {i sz : Nat} : ∀ g w, NextHead W0 sl want v0 fl ran i sz g w → g.status = .running := fun g w h => by
  obtain ⟨⟨_, _, _, _, _, _, _, _, _, rfl⟩, _⟩ := h; rfl
theorem stopT_run {sl : Value} {i N sz : Nat} {Shun : Loc → Prop} : ∀ g w', StopT W0 sz sl want v0 fl ran i N Shun g w' → g.status = .running := fun g w' h => by
  obtain ⟨_, _, _, _, _, _, _, _, _, h, _⟩ := h
  obtain ⟨_, rfl⟩ := h.here; rfl
theorem H5.szw {sz : Nat} {w : World} (h : H5 W0 v0 fl ran sz w) : w.heap.size = sz := by obtain ⟨⟨c, hwd, _⟩, _⟩ := h; exact hwd.size
theorem H5.onl {sz : Nat} {w : World} (h : H5 W0 v0 fl ran sz w) : OnlyT W0 w := by obtain ⟨⟨c, hwd, _⟩, _⟩ := h; exact hwd.only
theorem low_mono {s s' : Nat} (h : s ≤ s') (l : Loc) (hl : Low s l) : Low s' l := fun a ha => Nat.lt_of_lt_of_le (hl a ha) h

set_option maxHeartbeats 1000000 in
theorem rounds (hw : (if fl then 0 else v0) = want) (hlen : len ≤ maxLen) (hR : IsOps W0 a0 len) : ∀ (k i : Nat), k + i = 40 → ∀ (Shun : Loc → Prop) (gs : Array Goroutine) (a : Goroutine) (w : World) (sl : Option (Nat × Nat)) (t : Trace) (ran : Bool) (sz : Nat),
    Stands Shun (Low sz) gs a t → AtHead5 (.slice a0 len cap) W0.heap.size want ran i a → H5 W0 v0 fl ran sz w → Sh5 W0.heap.size sz Shun → gs.size ≤ 1 + 200 * i → Reaches gs w sl t (End5 W0) := by
  have stop : ∀ (i : Nat), i ≤ 40 → (len ≤ i ∨ i = 40) → ∀ (Shun : Loc → Prop) (gs : Array Goroutine) (a : Goroutine) (w : World) (sl : Option (Nat × Nat)) (t : Trace) (ran : Bool) (sz : Nat),
      Stands Shun (Low sz) gs a t → AtHead5 (.slice a0 len cap) W0.heap.size want ran i a → H5 W0 v0 fl ran sz w → Sh5 W0.heap.size sz Shun → Reaches gs w sl t (End5 W0) := fun i hi hend Shun gs a w sl t ran sz hS hh hH h5 => by
    obtain ⟨x12, x13, x14, x37, x43, x49, x50, x51, J, rfl⟩ := hh
    have hsz := hH.szw
    have hMn : ∀ b, w.heap.size ≤ b → May Shun (fun _ => True) b := fun b hb a ha => ⟨(h5.may (sz' := b + 1) (.inr ⟨by have := hH.size; omega, by omega⟩) (by omega) a ha).1, trivial⟩
    refine (free_walk (Stop := AtTrue W0 Shun) (n := 2) (fun g w h => (h 0).1) (stands_mono hS (fun _ _ => trivial)) (exit5 hi hend hlen hH.onl hMn w (atRel_refl w))).bind fun gs w sl t hq => ?_
    obtain ⟨a, hS, _, d, hA⟩ := hq
    exact Reaches.refl ⟨Shun, a, hS, d, hA⟩
  intro k
  induction k with
  | zero => exact fun i hi Shun gs a w sl t ran sz hS hh hH h5 _ => stop i (by omega) (.inr (by omega)) Shun gs a w sl t ran sz hS hh hH h5
  | succ k ih =>
    intro i hki Shun gs a w sl t ran sz hS hh hH h5 hsz
    rcases Nat.lt_or_ge i len with hl | hl
    · have hi : i < 40 := by omega
      rcases hR with h0 | ⟨b, off, rfl, hb, hmax, hcells⟩
      · omega
      obtain ⟨k0, ck0⟩ := hcells i hl
      have ck := cell_old hH.onl ck0
      have hs4 := hH.size
      obtain ⟨x12, x13, x14, x37, x43, x49, x50, x51, J, rfl⟩ := hh
      -- a round without others
      have plain : ∀ (ran' : Bool) (sz' n m : Nat), sz ≤ sz' →
          (∀ x12 x13 x14 x43 x49 x50 x51 J y, Conc.AtRel w y → Goes Try.prog true Conc.AtRel (DF Shun (Low sz')) (Fz Shun (Low sz') (NextHead W0 (.slice (some ⟨b, off, none⟩) len cap) want v0 fl ran' (i + 1) sz') n) m (G ((base 5).at ⟨S5 (.slice (some ⟨b, off, none⟩) len cap) W0.heap.size want ran i (.int .i64 k0) x13 x14 (.int .i64 k0) x43 x49 x50 x51 J, []⟩ (.code sw5 :: K36)) []) y) →
          Reaches gs w sl t (End5 W0) := fun ran' sz' n m hsz' hT => by
        refine (free_walk (Stop := NextHead W0 (.slice (some ⟨b, off, none⟩) len cap) want v0 fl ran' (i + 1) sz') (n := n) next_run (stands_mono hS (low_mono hsz')) (head5 hi hl hlen ck (h5.may (.inl (by omega)) (by omega)) (fun x13 x14 x43 x49 x50 x51 J y hy => hT x13 x13 x14 x43 x49 x50 x51 J y hy) w (atRel_refl w))).bind fun gs' w' sl' t' hq => ?_
        obtain ⟨a', hS', hsz2, d, hh', hH'⟩ := hq
        exact ih (i + 1) (by omega) Shun gs' a' w' sl' t' ran' sz' hS' hh' hH'.un (h5.mono hsz') (by omega)
      have ah : ∀ (ran' : Bool) (sz1 sz' : Nat), sz1 ≤ sz' → sz ≤ sz' → Ahead W0 (.slice (some ⟨b, off, none⟩) len cap) want v0 fl ran' i sz1 Shun (Low sz') (NextHead W0 (.slice (some ⟨b, off, none⟩) len cap) want v0 fl ran' (i + 1) sz1) 400 := fun ran' sz1 sz' h1 h2 X hX x12 x13 x14 x37 x43 x49 x50 x51 J y hy => tail36 hi hX (h5.mono h2) h1 y hy
      by_cases e0 : k0 = 0
      · subst e0
        cases ran
        · exact plain true (sz + 1) 2 _ (by omega) (fun x12 x13 x14 x43 x49 x50 x51 J y hy => armGet (m := 0) (St := NextHead W0 (.slice (some ⟨b, off, none⟩) len cap) want v0 fl true (i + 1) (sz + 1)) hw hH h5 (by omega) (ah true (sz + 1) (sz + 1) (by omega) (by omega)) y hy)
        · exact plain true sz 0 _ (by omega) (fun x12 x13 x14 x43 x49 x50 x51 J y hy => armAgain hw hH h5 (by omega) (ah true sz sz (by omega) (by omega)) y hy)
      by_cases e1 : k0 = 1
      · subst e1
        cases ran
        · exact plain false sz 0 _ (by omega) (fun x12 x13 x14 x43 x49 x50 x51 J y hy => armDoneFalse hw hH h5 (by omega) (ah false sz sz (by omega) (by omega)) y hy)
        · exact plain true sz 0 _ (by omega) (fun x12 x13 x14 x43 x49 x50 x51 J y hy => armDoneTrue hw hH h5 (by omega) (ah true sz sz (by omega) (by omega)) y hy)
      by_cases e2 : k0 = 2
      · subst e2
        cases ran
        · exact plain false sz 0 _ (by omega) (fun x12 x13 x14 x43 x49 x50 x51 J y hy => armRunsFalse hw hH h5 (by omega) (ah false sz sz (by omega) (by omega)) y hy)
        · exact plain true sz 0 _ (by omega) (fun x12 x13 x14 x43 x49 x50 x51 J y hy => armRunsTrue hw hH h5 (by omega) (ah true sz sz (by omega) (by omega)) y hy)
      by_cases e3 : k0 < 0
      · cases ran
        · exact plain false (sz + 1) 0 _ (by omega) (fun x12 x13 x14 x43 x49 x50 x51 J y hy => armNobodyFalse hw hH h5 (by omega) e3 (ah false (sz + 1) (sz + 1) (by omega) (by omega)) y hy)
        · exact plain true (sz + 1) 0 _ (by omega) (fun x12 x13 x14 x43 x49 x50 x51 J y hy => armNobodyTrue hw hH h5 (by omega) e3 (ah true (sz + 1) (sz + 1) (by omega) (by omega)) y hy)
      obtain ⟨N, hN⟩ : ∃ N : Nat, (if 200 < k0 then 200 else k0) = (N : Int) := ⟨(if 200 < k0 then 200 else k0).toNat, by split <;> omega⟩
      have hN1 : 1 ≤ N := by split at hN <;> omega
      have hN2 : N ≤ 200 := by split at hN <;> omega
      refine (free_walk (Stop := StopT W0 sz (.slice (some ⟨b, off, none⟩) len cap) want v0 fl ran i N Shun) (n := 0) stopT_run (stands_mono hS (low_mono (s' := sz + 3) (by omega))) (head5 hi hl hlen ck (h5.may (.inl (by omega)) (by omega)) (fun x13 x14 x43 x49 x50 x51 J y hy => armTog (x13 := x13) (x14 := x14) (x43 := x43) (x49 := x49) (x50 := x50) (x51 := x51) (J := J) hH h5 (by omega) hN y hy) w (atRel_refl w))).bind fun gs1 w1 sl1 t1 hq => ?_
      obtain ⟨a1, hS1, hz1, d1, y12, y14, y37, y43, y49, y50, y51, J1, c, hA, hO1, hw1⟩ := hq
      have hw1' : w1.heap.size = sz + 4 := hw1
      have hbv : w1.heap[W0.heap.size]? = some (.cells #[.int .i64 v0] 3) := hA.tin.bv
      have hbf : w1.heap[W0.heap.size + 1]? = some (.cells #[.bool fl] 4) := hA.tin.bf
      have hbo : w1.heap[sz + 2]? = some (.cells #[.slice (some ⟨sz + 1, 0, none⟩) N N] 22) := hA.tin.bo
      refine (tog_drive hS1 (by omega) ⟨d1, hA⟩).bind fun gs2 w2 sl2 t2 hq => ?_
      obtain ⟨a2, γ', hS2, hz2, ⟨J2, rfl⟩, hT⟩ := hq
      have hs2 : w1.heap.size ≤ w2.heap.size := hT.world.size
      obtain ⟨m, hG⟩ := behind5 (sl := .slice (some ⟨b, off, none⟩) len cap) (i := i) (ran := ran) (x12 := y12) (x14 := y14) (x37 := y37) (x43 := y43) (x49 := y49) (x50 := y50) (x51 := y51) (J := J1) (J' := J2) hw hi hN1 (by omega) hs4 h5 hO1.un hw1' hbv hbf hbo hT
      refine (free_walk (Stop := NextHead W0 (.slice (some ⟨b, off, none⟩) len cap) want v0 fl true (i + 1) w2.heap.size) (n := 0) next_run hS2 hG).bind fun gs3 w3 sl3 t3 hq => ?_
      obtain ⟨a3, hS3, hz3, d3, hh', hH'⟩ := hq
      exact ih (i + 1) (by omega) _ gs3 a3 w3 sl3 t3 true w2.heap.size hS3 hh' hH'.un (h5.two hs4 (by omega)) (by omega)
    · exact stop i (by omega) (.inl hl) Shun gs a w sl t ran sz hS hh hH h5
end

theorem run_of_ending {Post : Value → World → Prop} {g : Goroutine} {W : World}
    (h : Reaches #[g] W none #[] fun gs' w' _ t' => ∃ (Shun : Loc → Prop) (a' : Goroutine), Stands Shun (fun _ => True) gs' a' t' ∧ ∃ d, crew.Returns Shun Post a' (w'.at d)) :
    ∃ M last o w' t', runNT Try.prog (M + 1) (solo g W) #[] = (.ended o w', t') ∧ runN Try.prog M (solo g W) = .next last ∧ step Try.prog last = .ended o w' ∧ Conc.Good Try.prog Post last o w' t' := by
  obtain ⟨K, gs, w, sl, t, hr, Shun, a, hS, d, hA⟩ := h
  exact run_of_reaches (Shun := Shun) (Lw := fun _ => True) ⟨K, gs, w, sl, t, hr, a, hS, d, hA⟩

set_option maxRecDepth 100000 in
theorem enter_eq (v0 : Int) (fl : Bool) (a0 : Option Addr) (len cap : Nat) : Frame.enter Try.prog 5 #[.int .i64 v0, .bool fl, .slice a0 len cap] .normal = (base 5).at { tmps := #[.int .i64 v0, .bool fl, .slice a0 len cap] ++ Array.replicate 94 undef, defers := [] } [.code (Try.f5.body.getD .skip)] := by
  simp [Frame.enter, Frame.at, Try.func5, base, Try.f5]

theorem the_run (W : World) (v0 : Int) (fl : Bool) (a0 : Option Addr) (len cap : Nat) (hR : IsOps W a0 len) :
    ∃ M last o w' t', runNT Try.prog (M + 1) (solo (G (Frame.enter Try.prog 5 #[.int .i64 v0, .bool fl, .slice a0 len cap] .normal) []) W) #[] = (.ended o w', t') ∧ runN Try.prog M (solo (G (Frame.enter Try.prog 5 #[.int .i64 v0, .bool fl, .slice a0 len cap] .normal) []) W) = .next last ∧ step Try.prog last = .ended o w' ∧
      Conc.Good Try.prog (fun v w => v = .bool true ∧ OnlyT W w) last o w' t' := by
  rw [enter_eq]
  have hlen : len ≤ maxLen := by
    rcases hR with h | ⟨_, _, _, _, h, _⟩
    · unfold maxLen; omega
    · exact h
  have hw := enter5 (W0 := W) (v0 := v0) (fl := fl) (a0 := a0) (len := len) (cap := cap) W (atRel_refl W)
  refine run_of_ending ?_
  generalize G ((base 5).at { tmps := #[.int .i64 v0, .bool fl, .slice a0 len cap] ++ Array.replicate 94 undef, defers := [] } [.code (Try.f5.body.getD .skip)]) [] = g at hw ⊢
  have hS0 : Stands (Of5 W.heap.size) (Low (W.heap.size + 4)) #[g] g #[] := ⟨rfl, ⟨_, leavers_one _ _⟩, rfl, fr_start⟩
  refine (free_walk (Stop := NextHead W (.slice a0 len cap) (if fl then 0 else v0) v0 fl false 0 (W.heap.size + 4)) (n := 0) next_run hS0 hw).bind fun gs w sl t hq => ?_
  obtain ⟨a, hS, hsz, d, hh, hH⟩ := hq
  exact rounds rfl hlen hR 40 0 rfl _ gs a w sl t false _ hS hh hH.un (of5 _ _) (by rw [hsz]; simp)
end Go.Proofs.Ytdkbkocklnnmdaa.cells
