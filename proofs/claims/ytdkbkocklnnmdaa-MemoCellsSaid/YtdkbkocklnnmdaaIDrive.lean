/-
  A call of Together's over numbers, from its loop's head to behind its Wait, on whatever tape. Conditions: those that AtTog names.
-/
import Derived.Test.YtdkbkocklnnmdaaIMain
set_option linter.unusedVariables false
set_option linter.unusedSimpArgs false
namespace Go.Proofs.Ytdkbkocklnnmdaa.itgm
open Go.Proofs.Ytdkbkocklnnmdaa.itog
open Go.Proofs.Ytdkbkocklnnmdaa.tog hiding RunOk KB runG backCatch catchS
open Go.Proofs.Ytdkbkocklnnmdaa.tgs
open Go Go.Conc Go.RowKit Go.ConcR.Gen Go.ConcN.Gen Go.Proofs.Ytdkbkocklnnmdaa.wg Go.Proofs.Ytdkbkocklnnmdaa.lock
open Go.Proofs.Ytdkbkocklnnmdaa.kid (opsOf cL cR cB)
open Go.ConcR (KK WgAt stA smA rd wr mk DC0)
open Go.ConcN (WgLive RW AtR0 PayAt Has)
open Go.Proofs.Ytdkbkocklnnmdaa.crew (Stands stands_pos Reaches DF Fz Fr)

/-- What is known behind Wait. -/
structure TAfter (p : Tp) (N : Nat) (d0 : Prop) (w w' : World) (γ' : Gam) : Prop where
  world : TW p w w'
  cs : AtCs p γ'.c w'
  rest : tgs.Rest γ'.c.m γ'.c.s
  idle : Idle p γ'
  done : 0 < N ∨ d0 → Done p γ'
  rn : w'.heap[p.Rn]? = some (.cells #[.int .i64 γ'.x] 3)
  ot : ∃ o : Array Value, w'.heap[p.Ot]? = some (.cells o 3) ∧ o.size = N ∧ ∀ i, i < N → o[i]? = some p.fin
/-- A cell in a block below s, or no cell. -/
def Low (s : Nat) : Loc → Prop := fun l => ∀ a : Addr, l = .cell a → a.block < s

/-- Together stands at its loop's head, nobody started yet. -/
structure AtTog (Shun Lw Shun2 : Loc → Prop) (N : Nat) (p : Tp) (γ : Gam) (Bv : Fb) (Bc Bo : Nat) (cs : List Frame) (g : Goroutine) (w : World) : Prop where
  sh : ∀ l, Shun l → Shun2 l
  shm : ∀ l, Shun2 l → l.isMemory = true
  bnd : ∀ a, Lw (.cell a) → a.block < w.heap.size
  fresh : ∀ l, Shun2 l → Shun l ∨ ¬ Lw l
  here : ∃ J, g = G ((base 19).at ⟨T19 p.C p.Wg Bc Bo N 0 J, []⟩ [.code loop19, .inLoop loop19, .inBlock 0, .code tail19]) cs
  tin : TgIn p Bv Bc Bo N w
  wg : WgAt 96 p.Wg w 0 0
  cs : AtCs p γ.c w
  rest : tgs.Rest γ.c.m γ.c.s
  idle : Idle p γ
  rn : w.heap[p.Rn]? = some (.cells #[.int .i64 γ.x] 3)
  ot : ∃ o : Array Value, w.heap[p.Ot]? = some (.cells o 3) ∧ o.size = N
  ro : p.Rn ≠ p.Ot
  wgS : ∀ a : Addr, a.block = p.Wg → Shun2 (.cell a)
  cS : Shun2 (.cell (tog.cA p 0)) ∧ Shun2 (.cell (tog.cA p 1)) ∧ Shun2 (.cell (tog.cA p 2)) ∧ Shun2 (.cell (tog.cA p 5)) ∧ Shun2 (.cell (tog.cA p 6))
  pl : ∀ b, p.Ro b ∨ b = p.Rn ∨ b = p.Ot ∨ w.heap.size ≤ b → ∀ a : Addr, a.block = b → ¬ Shun2 (.cell a)
  n3 : ¬ Shun2 (.cell (tog.cA p 3))
  n4 : ¬ Shun2 (.cell (tog.cA p 4))

theorem after_put {C Wg Bc Bo N : Nat} {J : Nat → Value} :
    (Act.mk (T19 C Wg Bc Bo N N J) []).put (((opsOf (cL tail19))[0]?).bind (·.dst)) (.tuple #[]) = ⟨T19 C Wg Bc Bo N N (fun k => if k = 25 then .tuple #[] else J k), []⟩ := by
  simp only [T19, tail19, Z19, body19, cL, cR, cB, opsOf, Try.f19, Option.getD_some]
  simp [Act.put]

theorem TgIn.at {p : Tp} {Bv : Fb} {Bc Bo n : Nat} {w : World} {d : Nat} (h : TgIn p Bv Bc Bo n (w.at d)) : TgIn p Bv Bc Bo n w :=
  ⟨h.ro, h.bv, h.bf, h.bc, h.bo, h.bd, h.vd, h.fC, h.fin, h.tb, h.eb, h.rnlt, h.otlt, h.cro, h.wro, h.rro, h.oro, h.cw, h.cr, h.co, h.wr, h.wo⟩

section
variable {Shun Lw Shun2 : Loc → Prop} {N : Nat} {p : Tp} {γ : Gam} {Bv : Fb} {Bc Bo : Nat} {cs : List Frame} {gs : Array Goroutine} {a : Goroutine} {w : World} {sl : Option (Nat × Nat)} {t : Trace}

/-- ████ A CALL OF TOGETHER'S. -/
theorem tog_drive (hS : Stands Shun Lw gs a t) (hsm : gs.size + N ≤ 300000) (hA : ∃ d, AtTog Shun Lw Shun2 N p γ Bv Bc Bo cs a (w.at d)) :
    Reaches gs w sl t fun gs' w' _ t' => ∃ a' γ', Stands Shun2 (Low w'.heap.size) gs' a' t' ∧ gs'.size = gs.size + N ∧ (∃ J, a' = G ((base 19).at ⟨T19 p.C p.Wg Bc Bo N N J, []⟩ [.inRegion (opsOf (cL tail19)) [], .code (cR tail19)]) cs) ∧
      TAfter p N (γ.c.d = 1) w w' γ' := by
  obtain ⟨d, A⟩ := hA
  obtain ⟨J, rfl⟩ := A.here
  have hp := stands_pos hS
  have I : TgIn p Bv Bc Bo N w := A.tin.at
  have hwg' : WgAt 96 p.Wg w 0 0 := A.wg
  have hcs' : AtCs p γ.c w := A.cs
  have hrn' : w.heap[p.Rn]? = some (.cells #[.int .i64 γ.x] 3) := A.rn
  have hot' : ∃ o : Array Value, w.heap[p.Ot]? = some (.cells o 3) ∧ o.size = N := A.ot
  have hbnd' : ∀ a, Lw (.cell a) → a.block < w.heap.size := A.bnd
  have hpl' : ∀ b, p.Ro b ∨ b = p.Rn ∨ b = p.Ot ∨ w.heap.size ≤ b → ∀ a : Addr, a.block = b → ¬ Shun2 (.cell a) := A.pl
  have K0 : KM p w w := ⟨fun _ _ => rfl, ⟨0, 0, hwg'⟩, ⟨_, hcs'⟩⟩
  obtain ⟨l1, l2, l3, l4, l5⟩ := K0.lt I
  let ga : (Nat → Value) → Goroutine := fun J => G ((base 19).at ⟨T19 p.C p.Wg Bc Bo N N J, []⟩ [.inRegion (opsOf (cL tail19)) [], .code (cR tail19)]) cs
  let Y : Ways := { P := { p := p, N0 := gs.size, n := N, w0 := w, Sh := Shun2, Lw := fun _ => True, tyO := 3, tyR := 3, d0 := γ.c.d = 1 }, Anch := AnchT p Bc Bo N w cs, St := fun g w' => (∃ J, g = ga J) ∧ KM p w w' }
  have plain : ∀ l, Y.P.Plain l → ¬ Shun2 l := fun l hl => by
    rcases hl with ⟨b, hb, a, rfl, e⟩ | ⟨a, rfl, e⟩ | ⟨a, rfl, e⟩ | ⟨b, hb, a, rfl, e⟩ | rfl | rfl
    · exact hpl' b (.inl hb) a e
    · exact hpl' _ (.inr (.inl rfl)) a e
    · exact hpl' _ (.inr (.inr (.inl rfl))) a e
    · exact hpl' b (.inr (.inr (.inr hb))) a e
    · exact A.n3
    · exact A.n4
  have O : Y.Ok := {
    p := { n0 := hp, small := hsm, cro := I.cro, wro := I.wro, rro := I.rro, oro := I.oro, cw := I.cw, cr := I.cr, co := I.co, wr := I.wr, wo := I.wo, ro := A.ro
           low := fun b hb => by
             rcases hb with hb | rfl | rfl | rfl | rfl
             · exact l1 b hb
             · exact l2
             · exact l3
             · exact l4
             · exact l5
           bd := by show p.Ro p.Bd; rw [I.bd]; exact (I.ro _).2 (.inl rfl)
           shw := A.wgS, shc := A.cS, nsh := fun l hl => plain l hl, lwS := fun _ _ => trivial, lwP := fun _ _ => trivial, fin := .inl ⟨_, _, I.fin⟩, shm := A.shm, eb := fun w => by show p.eb w = #[]; rw [I.eb] }
    anch := fun g w1 h => by
      obtain ⟨J, h⟩ := h
      refine goes_imp (S := WLoad (R0 Y) p.Wg (AnchWN link (KM p w) p.Wg (frW p Bc Bo N J) cs) Y.St) (fun g w h => wload_imp (fun g w h => ⟨J, h⟩) g w h) ?_
      refine waitRound (R := R0 Y) (F := KM p w) (St := Y.St) (mT := 0) KM.rely (fun w h => h.live) (fun w x h => h.setS I x) (fun w h => h.setM I) (fun w2 hF => ?_) g w1 h
      refine Goes.stop fun w3 h3 => ⟨⟨fun k => if k = 25 then .tuple #[] else J k, ?_⟩, KM.rely hF h3⟩
      rw [after_put]
    st := fun g w1 h => by obtain ⟨⟨J, rfl⟩, _⟩ := h; rfl }
  have hB : Begins Y γ Shun Lw gs.size w := {
    n0 := rfl, w0 := rfl, sh := A.sh, fresh := A.fresh, lw := fun _ _ => trivial, bnd := hbnd', wg := hwg', cs := hcs', rest := A.rest, idle := A.idle, d0 := Iff.rfl, rn := hrn', ot := hot' }
  obtain ⟨m, hm⟩ := togHead (Y := Y) (Bv := Bv) (Bc := Bc) (Bo := Bo) (N := N) (w0 := w) (cs := cs) I rfl (by omega) rfl N 0 (by omega)
  refine (tgs.phase O hS hB (hm J w K0)).bind fun gs' w' sl' t' hBh => ?_
  obtain ⟨a', γ', hBe⟩ := hBh
  obtain ⟨d', ⟨J', hst⟩, _⟩ := hBe.st
  obtain ⟨s1, s2, s3, s4⟩ := hBe.stands
  exact Reaches.refl ⟨a', γ', ⟨s1, s2, s3, { s4 with fine := fun op hop x hx => ⟨fun a ha => hBe.bnd op hop x hx a ha, (s4.fine op hop x hx).2⟩ }⟩, hBe.size, ⟨J', hst⟩,
    ⟨hBe.world, hBe.cs, hBe.rest, hBe.idle, hBe.done, hBe.rn, hBe.ot⟩⟩
end
end Go.Proofs.Ytdkbkocklnnmdaa.itgm
