/-
  A call of Count.Crowd, from its loop's head to behind its Wait, on whatever tape, where the workers touch no count (it is nil, or there is none of them). Conditions: those that AtCrowd names.
-/
import Derived.Test.YtdkbkocklnnmdaaPhase
import Derived.Test.YtdkbkocklnnmdaaCrowd
import Derived.Test.YtdkbkocklnnmdaaFree
set_option linter.unusedVariables false
namespace Go.Proofs.Ytdkbkocklnnmdaa.free
open Go Go.Conc Go.RowKit Go.ConcN.Gen Go.Proofs.Ytdkbkocklnnmdaa.crew Go.Proofs.Ytdkbkocklnnmdaa.kid Go.Proofs.Ytdkbkocklnnmdaa.wg
open Go.ConcR (DC0 KK WgAt stA smA rd wr mk)
open Go.ConcN (WgLive AtR0 RW)

theorem Stands.mono {Shun Lw Lw' : Loc → Prop} {gs : Array Goroutine} {a : Goroutine} {t : Trace} (h : Stands Shun Lw gs a t) (hl : ∀ l, Lw l → Lw' l) : Stands Shun Lw' gs a t := ⟨h.1, h.2.1, h.2.2.1, h.2.2.2.mono hl⟩

/-- Crowd stands at its loop's head, nobody started yet; what it goes on with behind its Wait is known. -/
structure AtCrowd (Shun Lw Shun2 Lw2 : Loc → Prop) (N : Nat) (Stop : Goroutine → World → Prop) (k : Nat) (g : Goroutine) (w : World) : Prop where
  small : N < 2147483647
  sh : ∀ l, Shun l → Shun2 l
  lw : ∀ l, Lw l → Lw2 l
  shLw : ∀ l, Shun2 l → Lw2 l
  ex : ∃ (cs : List Frame) (cv : Value) (n bv : Int) (Wg Bc Bb : Nat) (x4 x8 x9 x16 x17 x18 : Value),
    g = G ((base 26).at ⟨T26 cv n bv Wg Bc Bb x4 x8 x9 N 0 undef undef undef undef x16 x17 x18, []⟩ [.code loop26, .inLoop loop26, .inBlock 0, .code tail26]) cs ∧
    (N = 0 ∨ cv = .pointer none) ∧ WgAt 96 Wg w 0 0 ∧ w.cell? ⟨Bc, 0, none⟩ = some cv ∧ w.cell? ⟨Bb, 0, none⟩ = some (.int .i64 bv) ∧ Bc ≠ Wg ∧ Bb ≠ Wg ∧ Bc < w.heap.size ∧ Bb < w.heap.size ∧
    (∀ a : Addr, a.block = Wg → Shun2 (.cell a)) ∧ (∀ l, Shun2 l → Shun l ∨ (¬ Lw l ∧ ∃ a : Addr, l = .cell a ∧ a.block = Wg)) ∧ (∀ a : Addr, a.block = Bc ∨ a.block = Bb → ¬ Shun2 (.cell a) ∧ Lw2 (.cell a)) ∧
    ∀ w', Rm Wg (w.heap.size + 1) w w' → WgAt 96 Wg w' 0 0 → ∃ m, Goes Try.prog true Conc.AtRel (DF Shun2 Lw2) (Fz Shun2 Lw2 Stop k) m
      (G ((base 26).at ⟨T26 cv n bv Wg Bc Bb x4 x8 x9 N N (.bool false) (J13 N) (J14 Wg Bc Bb N) (J15 N) (.tuple #[]) x17 x18, []⟩ [.inRegion (opsOf (cL tail26)) [], .code (cR tail26)]) cs) w'

theorem after_put {cv : Value} {n bv : Int} {Wg Bc Bb : Nat} {x4 x8 x9 : Value} {N : Nat} {x12 x13 x14 x15 x16 x17 x18 : Value} :
    (Act.mk (T26 cv n bv Wg Bc Bb x4 x8 x9 N N x12 x13 x14 x15 x16 x17 x18) []).put (((opsOf (cL tail26))[0]?).bind (·.dst)) (.tuple #[]) = ⟨T26 cv n bv Wg Bc Bb x4 x8 x9 N N x12 x13 x14 x15 (.tuple #[]) x17 x18, []⟩ := by
  simp only [T26, tail26, body26, cL, cR, cB, opsOf, Try.f26, Option.getD_some]
  simp [Act.put]

section
variable {Shun Lw Shun2 Lw2 : Loc → Prop} {N k : Nat} {Stop : Goroutine → World → Prop} {gs : Array Goroutine} {a : Goroutine} {w : World} {sl : Option (Nat × Nat)} {t : Trace}

/-- ████ A CALL OF CROWD. -/
theorem crowd_drive (hS : Stands Shun Lw gs a t) (hsm : gs.size + N < 2147483648) (hA : ∃ d, AtCrowd Shun Lw Shun2 Lw2 N Stop k a (w.at d)) :
    Reaches gs w sl t fun gs' w' _ t' => ∃ a', Stands Shun2 Lw2 gs' a' t' ∧ gs'.size = gs.size + N ∧ ∃ m, Goes Try.prog true Conc.AtRel (DF Shun2 Lw2) (Fz Shun2 Lw2 Stop k) m a' w' := by
  obtain ⟨d, hN, hsh, hlw, hshLw, cs, cv, n, bv, Wg, Bc, Bb, x4, x8, x9, x16, x17, x18, rfl, hcv, hwg, hc, hb, hcw, hbw, hcs, hbs, hWS, hfr, hBS, hgo⟩ := hA
  have hp := stands_pos hS
  have hwg' : WgAt 96 Wg w 0 0 := hwg
  have hc' : w.cell? ⟨Bc, 0, none⟩ = some cv := hc
  have hb' : w.cell? ⟨Bb, 0, none⟩ = some (.int .i64 bv) := hb
  have hcs' : Bc < w.heap.size := hcs
  have hbs' : Bb < w.heap.size := hbs
  have hWgs : Wg < w.heap.size := by
    unfold WgAt at hwg'
    exact lt_of_block hwg'
  let Cn := w.heap.size + 1
  have hne : Cn ≠ Wg := by simp only [Cn]; omega
  let frc : Frame := frW cv n bv Wg Bc Bb x4 x8 x9 N x16 x17 x18 [0]
  let ga : Goroutine := G ((base 26).at ⟨T26 cv n bv Wg Bc Bb x4 x8 x9 N N (.bool false) (J13 N) (J14 Wg Bc Bb N) (J15 N) (.tuple #[]) x17 x18, []⟩ [.inRegion (opsOf (cL tail26)) [], .code (cR tail26)]) cs
  let Y : Ways := {
    p := { Wg := Wg, Cn := Cn, Bc := Bc, Bb := Bb, N0 := gs.size, n := N, w0 := w, Sh := Shun2, Rd := fun k l => gs.size ≤ k ∧ ∃ a : Addr, l = .cell a ∧ (a.block = Bc ∨ a.block = Bb), Lw := Lw2, useC := False, val := fun _ => 0 }
    nx := id, by_ := .int .i64 bv, AnchK := fun _ _ => False, Anch := AnchWN link (FM Wg Cn w) Wg frc cs, St := fun g w' => g = ga ∧ FM Wg Cn w w', ks := .k0 }
  have hCK : 0 < N → CK Wg Bc Bb (.pointer none) bv w := fun h0 => by
    rcases hcv with h | h
    · omega
    · exact ⟨h ▸ hc', hb', ⟨0, 0, hwg'⟩⟩
  have hbb : Bc ≠ Wg ∧ Bc ≠ Cn ∧ Bb ≠ Wg ∧ Bb ≠ Cn := ⟨hcw, by simp only [Cn]; omega, hbw, by simp only [Cn]; omega⟩
  have O : Y.Ok := {
    p := { n0 := hp, small := hsm, cw := hne, bw := hbw, bc := hbb.2.2.2, cellw := hWS, cellc := fun h => h.elim, rdc := fun k hk a ha => ⟨hk, a, rfl, ha⟩,
           apart := ⟨fun _ _ _ h => h.elim, fun _ _ _ h => h.elim, fun _ _ h => h.elim, fun k l hr hs => by obtain ⟨_, a, rfl, ha⟩ := hr; exact (hBS a ha).1 hs⟩,
           lwS := hshLw, lwR := fun k l hr => by obtain ⟨_, a, rfl, ha⟩ := hr; exact (hBS a ha).2 }
    kid := fun h => h.elim, kid0 := fun _ => rfl
    anch := fun g w1 h => by
      refine waitRound (R := RR Y) (F := FM Wg Cn w) (St := Y.St) (mT := 0) FM.rely (fun w h => h.1) (fun w x h => FM.set hne h x) (fun w h => FM.setm hne h) (fun w2 hF => ?_) g w1 h
      refine Goes.stop fun w3 h3 => ⟨?_, FM.rely hF h3⟩
      rw [after_put]
    anchK := fun h => h.elim
    st := fun g w1 h => by rw [h.1]; rfl
    nx := fun h => h.elim }
  have hB : Begins Y Shun Lw gs.size w := {
    n0 := rfl, w0 := rfl, sh := hsh, fresh := fun l hl => (hfr l hl).imp id (fun h => h.1), lw := hlw, rd := fun k hk l h => by have := h.1; omega
    rdM := fun k l h => by obtain ⟨_, a, rfl, _⟩ := h; rfl
    wg := hwg', cnt := fun h => h.elim }
  obtain ⟨m, hm⟩ := crowdHead (Y := Y) (w0 := w) (cv := cv) (n := n) (bv := bv) (x4 := x4) (x8 := x8) (x9 := x9) (x16 := x16) (x17 := x17) (x18 := x18) (N := N) (cs := cs) hne hN
    (fun h0 w1 hF => ⟨_, kidNil hbb (CK.rely hbb (hCK h0) hF.2)⟩) rfl N 0 (by omega)
  refine (phase O hS hB (hm w ⟨⟨0, 0, hwg'⟩, Rm.refl w⟩)).bind fun gs' w' sl' t' hBh => ?_
  obtain ⟨a', hS', hsz, ⟨d', hst⟩, hR, hwg2, _⟩ := hBh
  obtain ⟨m2, hg2⟩ := hgo w' ⟨fun b h1 h2 => hR.blocks b h1 h2, hR.size, hR.tape, hR.os, hR.output, hR.live, hR.cnt⟩ hwg2
  refine Reaches.refl ⟨a', hS', hsz, m2, ?_⟩
  rw [hst.1]
  exact hg2
end
end Go.Proofs.Ytdkbkocklnnmdaa.free
