/-
  A call of Count.Crowd over a count, from its loop's head to behind its Wait, on whatever tape: the count has come to the sum that stays at the ends. Conditions: those that AtCrowdC names.
-/
import Derived.Test.YtdkbkocklnnmdaaPhase
import Derived.Test.YtdkbkocklnnmdaaKidCnt
import Derived.Test.YtdkbkocklnnmdaaDrive
set_option linter.unusedVariables false
namespace Go.Proofs.Ytdkbkocklnnmdaa.free
open Go Go.Conc Go.RowKit Go.ConcN.Gen Go.Proofs.Ytdkbkocklnnmdaa.crew Go.Proofs.Ytdkbkocklnnmdaa.kid Go.Proofs.Ytdkbkocklnnmdaa.wg
open Go.ConcR (DC0 KK WgAt stA smA rd wr mk)
open Go.ConcN (WgLive AtR0 RW)

def satn (v bv : Int) : Nat → Int
  | 0 => v
  | i + 1 => sat (satn v bv i) bv
theorem satn_i64 {v bv : Int} (h : I64 v) : ∀ i, I64 (satn v bv i)
  | 0 => h
  | _ + 1 => sat_i64

/-- Crowd stands at its loop's head, nobody started yet; what it goes on with behind its Wait is known. -/
structure AtCrowdC (Shun Lw Shun2 Lw2 : Loc → Prop) (N : Nat) (Stop : Goroutine → World → Prop) (k : Nat) (g : Goroutine) (w : World) : Prop where
  small : N < 2147483647
  sh : ∀ l, Shun l → Shun2 l
  lw : ∀ l, Lw l → Lw2 l
  shLw : ∀ l, Shun2 l → Lw2 l
  ex : ∃ (cs : List Frame) (n bv v : Int) (Wg Bc Bb Cn : Nat) (x4 x8 x9 x16 x17 x18 : Value),
    g = G ((base 26).at ⟨T26 (.pointer (some ⟨Cn, 0, none⟩)) n bv Wg Bc Bb x4 x8 x9 N 0 undef undef undef undef x16 x17 x18, []⟩ [.code loop26, .inLoop loop26, .inBlock 0, .code tail26]) cs ∧
    I64 v ∧ I64 bv ∧ CntAt Cn w v ∧ WgAt 96 Wg w 0 0 ∧ w.cell? ⟨Bc, 0, none⟩ = some (.pointer (some ⟨Cn, 0, none⟩)) ∧ w.cell? ⟨Bb, 0, none⟩ = some (.int .i64 bv) ∧ Cn ≠ Wg ∧ Bc ≠ Wg ∧ Bb ≠ Wg ∧ Bc ≠ Cn ∧ Bb ≠ Cn ∧
    (∀ a : Addr, a.block = Wg ∨ a.block = Cn → Shun2 (.cell a)) ∧ (∀ l, Shun2 l → Shun l ∨ ¬ Lw l) ∧ (∀ a : Addr, a.block = Bc ∨ a.block = Bb → ¬ Shun2 (.cell a) ∧ Lw2 (.cell a)) ∧
    ∀ w', Rm Wg Cn w w' → WgAt 96 Wg w' 0 0 → CntAt Cn w' (satn v bv N) → ∃ m, Goes Try.prog true Conc.AtRel (DF Shun2 Lw2) (Fz Shun2 Lw2 Stop k) m
      (G ((base 26).at ⟨T26 (.pointer (some ⟨Cn, 0, none⟩)) n bv Wg Bc Bb x4 x8 x9 N N (.bool false) (J13 N) (J14 Wg Bc Bb N) (J15 N) (.tuple #[]) x17 x18, []⟩ [.inRegion (opsOf (cL tail26)) [], .code (cR tail26)]) cs) w'

section
variable {Shun Lw Shun2 Lw2 : Loc → Prop} {N k : Nat} {Stop : Goroutine → World → Prop} {gs : Array Goroutine} {a : Goroutine} {w : World} {sl : Option (Nat × Nat)} {t : Trace}

/-- ████ A CALL OF CROWD OVER A COUNT. -/
theorem crowd_driveC (hS : Stands Shun Lw gs a t) (hsm : gs.size + N < 2147483648) (hA : ∃ d, AtCrowdC Shun Lw Shun2 Lw2 N Stop k a (w.at d)) :
    Reaches gs w sl t fun gs' w' _ t' => ∃ a', Stands Shun2 Lw2 gs' a' t' ∧ gs'.size = gs.size + N ∧ ∃ m, Goes Try.prog true Conc.AtRel (DF Shun2 Lw2) (Fz Shun2 Lw2 Stop k) m a' w' := by
  obtain ⟨d, hN, hsh, hlw, hshLw, cs, n, bv, v, Wg, Bc, Bb, Cn, x4, x8, x9, x16, x17, x18, rfl, hv, hbv, hcn, hwg, hc, hb, hne, hcw, hbw, hcc, hbc, hWS, hfr, hBS, hgo⟩ := hA
  have hp := stands_pos hS
  have hwg' : WgAt 96 Wg w 0 0 := hwg
  have hc' : w.cell? ⟨Bc, 0, none⟩ = some (.pointer (some ⟨Cn, 0, none⟩)) := hc
  have hb' : w.cell? ⟨Bb, 0, none⟩ = some (.int .i64 bv) := hb
  have hcn' : CntAt Cn w v := hcn
  let frc : Frame := frW (.pointer (some ⟨Cn, 0, none⟩)) n bv Wg Bc Bb x4 x8 x9 N x16 x17 x18 [0]
  let ga : Goroutine := G ((base 26).at ⟨T26 (.pointer (some ⟨Cn, 0, none⟩)) n bv Wg Bc Bb x4 x8 x9 N N (.bool false) (J13 N) (J14 Wg Bc Bb N) (J15 N) (.tuple #[]) x17 x18, []⟩ [.inRegion (opsOf (cL tail26)) [], .code (cR tail26)]) cs
  let Y : Ways := {
    p := { Wg := Wg, Cn := Cn, Bc := Bc, Bb := Bb, N0 := gs.size, n := N, w0 := w, Sh := Shun2, Rd := fun k l => gs.size ≤ k ∧ ∃ a : Addr, l = .cell a ∧ (a.block = Bc ∨ a.block = Bb), Lw := Lw2, useC := True, val := satn v bv }
    nx := fun x => msum x bv, by_ := .int .i64 bv, AnchK := AnchA Wg Bc Bb Cn bv, Anch := AnchWN link (FM Wg Cn w) Wg frc cs, St := fun g w' => g = ga ∧ FM Wg Cn w w', ks := .kl }
  have hbb : Bc ≠ Wg ∧ Bc ≠ Cn ∧ Bb ≠ Wg ∧ Bb ≠ Cn := ⟨hcw, hcc, hbw, hbc⟩
  have hCK : CKc Wg Bc Bb Cn bv w := ⟨⟨hc', hb', ⟨0, 0, hwg'⟩⟩, ⟨v, hcn'⟩⟩
  have O : Y.Ok := {
    p := { n0 := hp, small := hsm, cw := hne, bw := hbw, bc := hbc, cellw := fun a ha => hWS a (.inl ha), cellc := fun _ a ha => hWS a (.inr ha), rdc := fun k hk a ha => ⟨hk, a, rfl, ha⟩,
           apart := ⟨fun _ _ _ h => h.elim, fun _ _ _ h => h.elim, fun _ _ h => h.elim, fun k l hr hs => by obtain ⟨_, a, rfl, ha⟩ := hr; exact (hBS a ha).1 hs⟩,
           lwS := hshLw, lwR := fun k l hr => by obtain ⟨_, a, rfl, ha⟩ := hr; exact (hBS a ha).2 }
    kid := fun _ => rfl, kid0 := fun h => absurd trivial h
    anch := fun g w1 h => by
      refine waitRound (R := RR Y) (F := FM Wg Cn w) (St := Y.St) (mT := 0) FM.rely (fun w h => h.1) (fun w x h => FM.set hne h x) (fun w h => FM.setm hne h) (fun w2 hF => ?_) g w1 h
      refine Goes.stop fun w3 h3 => ⟨?_, FM.rely hF h3⟩
      rw [after_put]
    anchK := fun _ => kidRound (Y := Y) hne hbb rfl rfl rfl
    st := fun g w1 h => by rw [h.1]; rfl
    nx := fun _ s _ => (msum_sat (satn_i64 hv s) hbv).symm }
  have hB : Begins Y Shun Lw gs.size w := {
    n0 := rfl, w0 := rfl, sh := hsh, fresh := fun l hl => hfr l hl, lw := hlw, rd := fun k hk l h => by have := h.1; omega
    rdM := fun k l h => by obtain ⟨_, a, rfl, _⟩ := h; rfl
    wg := hwg', cnt := fun _ => hcn' }
  obtain ⟨m, hm⟩ := crowdHead (Y := Y) (w0 := w) (cv := .pointer (some ⟨Cn, 0, none⟩)) (n := n) (bv := bv) (x4 := x4) (x8 := x8) (x9 := x9) (x16 := x16) (x17 := x17) (x18 := x18) (N := N) (cs := cs) hne hN
    (fun h0 w1 hF => ⟨_, kidCnt (Y := Y) hne hbb rfl rfl rfl (CKc.rely hbb hCK hF.2)⟩) rfl N 0 (by omega)
  refine (phase O hS hB (hm w ⟨⟨0, 0, hwg'⟩, Rm.refl w⟩)).bind fun gs' w' sl' t' hBh => ?_
  obtain ⟨a', hS', hsz, ⟨d', hst⟩, hR, hwg2, hcn2⟩ := hBh
  obtain ⟨m2, hg2⟩ := hgo w' ⟨fun b h1 h2 => hR.blocks b h1 h2, hR.size, hR.tape, hR.os, hR.output, hR.live, hR.cnt⟩ hwg2 (hcn2 trivial)
  refine Reaches.refl ⟨a', hS', hsz, m2, ?_⟩
  rw [hst.1]
  exact hg2
end
end Go.Proofs.Ytdkbkocklnnmdaa.free
