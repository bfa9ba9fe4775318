/-
  A call of Together's, from its loop's head to behind its Wait, on whatever tape. Conditions: those that AtTog names.
-/
import Derived.Test.YtdkbkocklnnmdaaTogMain
set_option linter.unusedVariables false
namespace Go.Proofs.Ytdkbkocklnnmdaa.tgm
open Go.Proofs.Ytdkbkocklnnmdaa.tog Go.Proofs.Ytdkbkocklnnmdaa.tgs
open Go Go.Conc Go.RowKit Go.ConcR.Gen Go.ConcN.Gen Go.Proofs.Ytdkbkocklnnmdaa.wg Go.Proofs.Ytdkbkocklnnmdaa.lock
open Go.Proofs.Ytdkbkocklnnmdaa.kid (opsOf cL cR cB)
open Go.ConcR (KK WgAt stA smA rd wr mk DC0)
open Go.ConcN (WgLive RW AtR0 PayAt Has)
open Go.Proofs.Ytdkbkocklnnmdaa.crew (Stands stands_pos Reaches DF Fz)

/-- What is known behind Wait. -/
structure TAfter (p : Tp) (N : Nat) (d0 : Prop) (tyO tyR : TypeId) (w w' : World) (γ' : Gam) : Prop where
  world : TW p w w'
  cs : AtCs p γ'.c w'
  rest : tgs.Rest γ'.c.m γ'.c.s
  idle : Idle p γ'
  done : 0 < N ∨ d0 → Done p γ'
  rn : w'.heap[p.Rn]? = some (.cells #[.int .i64 γ'.x] tyR)
  ot : ∃ o : Array Value, w'.heap[p.Ot]? = some (.cells o tyO) ∧ o.size = N ∧ ∀ i, i < N → o[i]? = some p.fin

/-- Together stands at its loop's head, nobody started yet; what it goes on with behind its Wait is known. -/
structure AtTog (Shun Lw Shun2 Lw2 : Loc → Prop) (N : Nat) (Stop : Goroutine → World → Prop) (k : Nat) (g : Goroutine) (w : World) : Prop where
  sh : ∀ l, Shun l → Shun2 l
  lw : ∀ l, Lw l → Lw2 l
  shLw : ∀ l, Shun2 l → Lw2 l
  shm : ∀ l, Shun2 l → l.isMemory = true
  bnd : ∀ a, Lw (.cell a) → a.block < w.heap.size
  fresh : ∀ l, Shun2 l → Shun l ∨ ¬ Lw l
  ex : ∃ (cs : List Frame) (p : Tp) (γ : Gam) (Bv Bc Bo : Nat) (tyO tyR : TypeId) (J : Nat → Value),
    g = G ((base 22).at ⟨T22 p.C p.Wg Bc Bo N 0 J, []⟩ [.code loop22, .inLoop loop22, .inBlock 0, .code tail22]) cs ∧ TgIn p Bv Bc Bo N w ∧ WgAt 96 p.Wg w 0 0 ∧ AtCs p γ.c w ∧ tgs.Rest γ.c.m γ.c.s ∧ Idle p γ ∧
    w.heap[p.Rn]? = some (.cells #[.int .i64 γ.x] tyR) ∧ (∃ o : Array Value, w.heap[p.Ot]? = some (.cells o tyO) ∧ o.size = N) ∧ p.Rn ≠ p.Ot ∧
    (∀ a : Addr, a.block = p.Wg → Shun2 (.cell a)) ∧ (Shun2 (.cell (tog.cA p 0)) ∧ Shun2 (.cell (tog.cA p 1)) ∧ Shun2 (.cell (tog.cA p 2)) ∧ Shun2 (.cell (tog.cA p 5)) ∧ Shun2 (.cell (tog.cA p 6))) ∧
    (∀ b, p.Ro b ∨ b = p.Rn ∨ b = p.Ot ∨ w.heap.size ≤ b → ∀ a : Addr, a.block = b → ¬ Shun2 (.cell a) ∧ Lw2 (.cell a)) ∧ (¬ Shun2 (.cell (tog.cA p 3)) ∧ Lw2 (.cell (tog.cA p 3))) ∧ (¬ Shun2 (.cell (tog.cA p 4)) ∧ Lw2 (.cell (tog.cA p 4))) ∧
    ∀ w' γ' J, TAfter p N (γ.c.d = 1) tyO tyR w w' γ' → ∃ m, Goes Try.prog true Conc.AtRel (DF Shun2 Lw2) (Fz Shun2 Lw2 Stop k) m (G ((base 22).at ⟨T22 p.C p.Wg Bc Bo N N J, []⟩ [.inRegion (opsOf (cL tail22)) [], .code (cR tail22)]) cs) w'

theorem after_put {C Wg Bc Bo N : Nat} {J : Nat → Value} :
    (Act.mk (T22 C Wg Bc Bo N N J) []).put (((opsOf (cL tail22))[0]?).bind (·.dst)) (.tuple #[]) = ⟨T22 C Wg Bc Bo N N (fun k => if k = 25 then .tuple #[] else J k), []⟩ := by
  simp only [T22, tail22, Z22, body22, cL, cR, cB, opsOf, Try.f22, Option.getD_some]
  simp [Act.put]

theorem TgIn.at {p : Tp} {Bv Bc Bo n : Nat} {w : World} {d : Nat} (h : TgIn p Bv Bc Bo n (w.at d)) : TgIn p Bv Bc Bo n w :=
  ⟨h.ro, h.bv, h.bc, h.bo, h.bd, h.vd, h.fC, h.fin, h.tb, h.eb, h.rnlt, h.otlt, h.cro, h.wro, h.rro, h.oro, h.cw, h.cr, h.co, h.wr, h.wo⟩

section
variable {Shun Lw Shun2 Lw2 : Loc → Prop} {N k : Nat} {Stop : Goroutine → World → Prop} {gs : Array Goroutine} {a : Goroutine} {w : World} {sl : Option (Nat × Nat)} {t : Trace}

/-- ████ A CALL OF TOGETHER'S. -/
theorem tog_drive (hS : Stands Shun Lw gs a t) (hsm : gs.size + N ≤ 300000) (hA : ∃ d, AtTog Shun Lw Shun2 Lw2 N Stop k a (w.at d)) :
    Reaches gs w sl t fun gs' w' _ t' => ∃ a', Stands Shun2 Lw2 gs' a' t' ∧ gs'.size = gs.size + N ∧ ∃ m, Goes Try.prog true Conc.AtRel (DF Shun2 Lw2) (Fz Shun2 Lw2 Stop k) m a' w' := by
  obtain ⟨d, hsh, hlw, hshLw, hshm, hbnd, hfresh, cs, p, γ, Bv, Bc, Bo, tyO, tyR, J, rfl, I', hwg, hcs, hrest, hidle, hrn, hot, hro, hWS, hCS, hpl, h3, h4, hgo⟩ := hA
  have hp := stands_pos hS
  have I : TgIn p Bv Bc Bo N w := I'.at
  have hwg' : WgAt 96 p.Wg w 0 0 := hwg
  have hcs' : AtCs p γ.c w := hcs
  have hrn' : w.heap[p.Rn]? = some (.cells #[.int .i64 γ.x] tyR) := hrn
  have hot' : ∃ o : Array Value, w.heap[p.Ot]? = some (.cells o tyO) ∧ o.size = N := hot
  have hbnd' : ∀ a, Lw (.cell a) → a.block < w.heap.size := hbnd
  have hpl' : ∀ b, p.Ro b ∨ b = p.Rn ∨ b = p.Ot ∨ w.heap.size ≤ b → ∀ a : Addr, a.block = b → ¬ Shun2 (.cell a) ∧ Lw2 (.cell a) := hpl
  have K0 : KM p w w := ⟨fun _ _ => rfl, ⟨0, 0, hwg'⟩, ⟨_, hcs'⟩⟩
  obtain ⟨l1, l2, l3, l4, l5⟩ := K0.lt I
  let ga : (Nat → Value) → Goroutine := fun J => G ((base 22).at ⟨T22 p.C p.Wg Bc Bo N N J, []⟩ [.inRegion (opsOf (cL tail22)) [], .code (cR tail22)]) cs
  let Y : Ways := { P := { p := p, N0 := gs.size, n := N, w0 := w, Sh := Shun2, Lw := Lw2, tyO := tyO, tyR := tyR, d0 := γ.c.d = 1 }, Anch := AnchT p Bc Bo N w cs, St := fun g w' => (∃ J, g = ga J) ∧ KM p w w' }
  have plain : ∀ l, Y.P.Plain l → ¬ Shun2 l ∧ Lw2 l := fun l hl => by
    rcases hl with ⟨b, hb, a, rfl, e⟩ | ⟨a, rfl, e⟩ | ⟨a, rfl, e⟩ | ⟨b, hb, a, rfl, e⟩ | rfl | rfl
    · exact hpl' b (.inl hb) a e
    · exact hpl' _ (.inr (.inl rfl)) a e
    · exact hpl' _ (.inr (.inr (.inl rfl))) a e
    · exact hpl' b (.inr (.inr (.inr hb))) a e
    · exact h3
    · exact h4
  have O : Y.Ok := {
    p := { n0 := hp, small := hsm, cro := I.cro, wro := I.wro, rro := I.rro, oro := I.oro, cw := I.cw, cr := I.cr, co := I.co, wr := I.wr, wo := I.wo, ro := hro
           low := fun b hb => by
             rcases hb with hb | rfl | rfl | rfl | rfl
             · exact l1 b hb
             · exact l2
             · exact l3
             · exact l4
             · exact l5
           bd := by show p.Ro p.Bd; rw [I.bd]; exact (I.ro _).2 (.inl rfl)
           shw := hWS, shc := hCS, nsh := fun l hl => (plain l hl).1, lwS := hshLw, lwP := fun l hl => (plain l hl).2, fin := I.fin, shm := hshm, eb := fun w => by show p.eb w = #[]; rw [I.eb] }
    anch := fun g w1 h => by
      obtain ⟨J, h⟩ := h
      refine goes_imp (S := WLoad (R0 Y) p.Wg (AnchWN link (KM p w) p.Wg (frW p Bc Bo N J) cs) Y.St) (fun g w h => wload_imp (fun g w h => ⟨J, h⟩) g w h) ?_
      refine waitRound (R := R0 Y) (F := KM p w) (St := Y.St) (mT := 0) KM.rely (fun w h => h.live) (fun w x h => h.setS I x) (fun w h => h.setM I) (fun w2 hF => ?_) g w1 h
      refine Goes.stop fun w3 h3 => ⟨⟨fun k => if k = 25 then .tuple #[] else J k, ?_⟩, KM.rely hF h3⟩
      rw [after_put]
    st := fun g w1 h => by obtain ⟨⟨J, rfl⟩, _⟩ := h; rfl }
  have hB : Begins Y γ Shun Lw gs.size w := {
    n0 := rfl, w0 := rfl, sh := hsh, fresh := hfresh, lw := hlw, bnd := hbnd', wg := hwg', cs := hcs', rest := hrest, idle := hidle, d0 := Iff.rfl, rn := hrn', ot := hot' }
  obtain ⟨m, hm⟩ := togHead (Y := Y) (Bv := Bv) (Bc := Bc) (Bo := Bo) (N := N) (w0 := w) (cs := cs) I rfl (by omega) rfl N 0 (by omega)
  refine (tgs.phase O hS hB (hm J w K0)).bind fun gs' w' sl' t' hBh => ?_
  obtain ⟨a', γ', hBe⟩ := hBh
  obtain ⟨d', ⟨J', hst⟩, _⟩ := hBe.st
  obtain ⟨m2, hg2⟩ := hgo w' γ' J' ⟨⟨fun b h0 => hBe.world.blocks b h0, hBe.world.size, hBe.world.tape, hBe.world.os, hBe.world.output⟩, hBe.cs, hBe.rest, hBe.idle, hBe.done, hBe.rn, hBe.ot⟩
  refine Reaches.refl ⟨a', hBe.stands, hBe.size, m2, ?_⟩
  rw [hst]
  exact hg2
end
end Go.Proofs.Ytdkbkocklnnmdaa.tgm
