/-
  A main goroutine that starts workers and waits for them: the system of stages, its measure, and the laws of the measure. Conditions: those that the theorems name.
-/
import Derived.Test.YtdkbkocklnnmdaaCrewGlob
set_option linter.unusedVariables false
set_option linter.unusedSectionVars false
namespace Go.Proofs.Ytdkbkocklnnmdaa.crew
open Go Go.Conc Go.Proofs.Ytdkbkocklnnmdaa.mach Go.Proofs.Ytdkbkocklnnmdaa.wg
open Go.ConcN (upd upd_same upd_ne sumTo sumTo_upd sumTo_congr le_sumTo sumTo_upd_out sumTo_le CT OkW Ok0 Apart RelBy WgLive RW PayAt AtR0 AtK1 AtD1 AtD2 AtD3 AtD4)
open Go.ConcR (KK WgAt stA smA rd wr mk DC0 Bk g_of_ofEvents)

/-- What a phase's walks are about. -/
structure Ways where
  p : Par
  nx : Int → Int
  by_ : Value
  AnchK : Goroutine → World → Prop
  Anch : Goroutine → World → Prop
  St : Goroutine → World → Prop
  ks : Stg

section
variable (Y : Ways)
def RR : World → World → Prop := Rm Y.p.Wg Y.p.Cn
def RK : World → World → Prop := RW 96 Y.p.Wg Y.p.Bb 1 0 0
def DK (w w' : World) (es : Array Event) : Prop := w' = w ∧ ∀ e ∈ es, ∃ a : Addr, e = ⟨.cell a, false, false⟩ ∧ (a.block = Y.p.Bc ∨ a.block = Y.p.Bb)
def AtRel : Goroutine → World → Prop := AtR0 Try.prog 96 Y.p.Wg Y.p.Bb 1 0 1 Y.by_
def cA : Addr := ⟨Y.p.Cn, 0, none⟩
/-- At the count's CompareAndSwap, v having been read. -/
def AtKc (v : Int) (g : Goroutine) (w : World) : Prop :=
  g.status = .running ∧ ∀ v', CntAt Y.p.Cn w v' →
    (v' = v → ∃ g', stepG Try.prog false g w = .go g' (w.setCell (cA Y) (.int .i64 (Y.nx v))) #[rd (cA Y), wr (cA Y)] ∧ g'.status = .running ∧ ∃ m, Goes Try.prog false (RR Y) (DK Y) (AtRel Y) m g' (w.setCell (cA Y) (.int .i64 (Y.nx v)))) ∧
    (v' ≠ v → ∃ g', stepG Try.prog false g w = .go g' w #[rd (cA Y)] ∧ g'.status = .running ∧ ∃ m, Goes Try.prog false (RR Y) (DK Y) Y.AnchK m g' w)
def AtKl (g : Goroutine) (w : World) : Prop :=
  g.status = .running ∧ ∀ v, CntAt Y.p.Cn w v → ∃ g', stepG Try.prog false g w = .go g' w #[rd (cA Y)] ∧ g'.status = .running ∧ ∃ m, Goes Try.prog false (RR Y) (DK Y) (AtKc Y v) m g' w
def kidStop : Goroutine → World → Prop := match Y.ks with
  | .kl => AtKl Y
  | _ => AtRel Y
/-- At the go statement. -/
def AtGo (Next : Goroutine → World → Prop) (g : Goroutine) (w : World) : Prop :=
  g.status = .running ∧ ∃ g' child, stepG Try.prog true g w = .spawn g' child w #[] ∧ (∃ m, Goes Try.prog false (RR Y) (DK Y) (kidStop Y) m child w) ∧ Next g' w
/-- r workers are still to be started. -/
def Script : Nat → Goroutine → World → Prop
  | 0 => WDis (RR Y) Y.Anch
  | r + 1 => IncDis (RR Y) Y.p.Wg (AtGo Y (To true (RR Y) (Script r)))

def stops : Stg → Goroutine → World → Prop
  | .dis r => Script Y (r + 1)
  | .add r => IncAdd (RR Y) Y.p.Wg (AtGo Y (To true (RR Y) (Script Y r)))
  | .read r => IncRead (RR Y) Y.p.Wg (AtGo Y (To true (RR Y) (Script Y r)))
  | .ena r => IncEna (RR Y) (AtGo Y (To true (RR Y) (Script Y r)))
  | .go r => AtGo Y (To true (RR Y) (Script Y r))
  | .wdis => WDis (RR Y) Y.Anch
  | .wload => WLoad (RR Y) Y.p.Wg Y.Anch Y.St
  | .wcas vs => WCas (RR Y) Y.p.Wg Y.Anch Y.St vs
  | .wwr => WWr (RR Y) Y.p.Wg Y.St
  | .wsem => WSem (RR Y) Y.p.Wg Y.St
  | .wld2 => WLd2 (RR Y) Y.p.Wg Y.St
  | .wena => WEna (RR Y) Y.p.Wg Y.St
  | .wacq => WAcq (RR Y) Y.p.Wg Y.St
  | .fin => Y.St
  | .kl => AtKl Y
  | .kc v _ => AtKc Y v
  | .k0 => AtRel Y
  | .k1 => AtK1 Try.prog 96 Y.p.Wg Y.p.Bb 1 0 1
  | .d1 => AtD1 Try.prog 96 Y.p.Wg Y.p.Bb 1 0 1
  | .d2 => AtD2 Try.prog 96 Y.p.Wg Y.p.Bb 1 0 1
  | .d3 => AtD3 Try.prog 96 Y.p.Wg Y.p.Bb 1 0 1
  | .d4 => AtD4 Try.prog 96 Y.p.Wg
def rely : Stg → World → World → Prop
  | .k1 | .d1 | .d2 | .d3 | .d4 => RK Y
  | _ => RR Y
def guar : Stg → World → World → Array Event → Prop
  | .kl | .kc _ _ | .k0 => DK Y
  | _ => DC0
end

/-! ### the measure -/
def rk (n v : Nat) : Option Stg → Nat
  | some (.dis r) => 8 * n + 60 + (2 * n + 40) * (r + 1) + 5
  | some (.add r) => 8 * n + 60 + (2 * n + 40) * (r + 1) + 4
  | some (.read r) => 8 * n + 60 + (2 * n + 40) * (r + 1) + 3
  | some (.ena r) => 8 * n + 60 + (2 * n + 40) * (r + 1) + 2
  | some (.go r) => 8 * n + 60 + (2 * n + 40) * (r + 1) + 1
  | some .wdis => 8 * n + 59
  | some .wload => 8 * v + 25
  | some (.wcas vs) => 8 * vs + 24
  | some .wwr => 7
  | some .wsem => 6
  | some .wld2 => 5
  | some .wena => 3
  | some .wacq => 2
  | _ => 1
def ww (U : Nat) : Option Stg → Nat
  | some .kl => 9 + 2 * U
  | some (.kc _ u) => 8 + 2 * u
  | some .k0 => 7
  | some .k1 => 6
  | some .d1 => 5
  | some .d2 => 4
  | some .d3 => 3
  | some .d4 => 2
  | none => 1
  | _ => 0
def phi (p : Par) (pos : Nat → Ps) (N : Nat) : Nat := rk p.n (V pos N) (tagOf (pos 0)) + sumTo N fun k => ww (Un p pos N) (tagOf (pos k))

section
variable {p : Par} {pos pos' : Nat → Ps} {N : Nat}
theorem rk_mono (n : Nat) {v v' : Nat} (h : v' ≤ v) (o : Option Stg) : rk n v' o ≤ rk n v o := by
  cases o with
  | none => exact Nat.le_refl _
  | some s => cases s <;> simp only [rk] <;> omega
theorem ww_mono {U U' : Nat} (h : U' ≤ U) (o : Option Stg) : ww U' o ≤ ww U o := by
  cases o with
  | none => exact Nat.le_refl _
  | some s => cases s <;> simp only [ww] <;> omega
theorem sumTo_mono {f g : Nat → Nat} : ∀ {n : Nat}, (∀ i, i < n → f i ≤ g i) → sumTo n f ≤ sumTo n g
  | 0, _ => Nat.le_refl _
  | n + 1, h => by
    have := sumTo_mono (n := n) fun i hi => h i (by omega)
    have := h n (by omega)
    simp only [sumTo]; omega
theorem phi_same (ht : ∀ k, k < N → tagOf (pos' k) = tagOf (pos k)) (h1 : 1 ≤ N) : phi p pos' N = phi p pos N := by
  have hV : V pos' N = V pos N := V_congr fun k hk => wst_congr (ht k hk)
  have hU : Un p pos' N = Un p pos N := Un_congr fun k hk => wst_congr (ht k hk)
  unfold phi
  rw [hV, hU, ht 0 (by omega)]
  congr 1
  exact sumTo_congr fun k hk => by rw [ht k hk]
theorem phi_worker {k : Nat} (kN : k < N) (k1 : k ≠ 0) {q : Ps} (hV : V (upd pos k q) N ≤ V pos N) (hU : Un p (upd pos k q) N ≤ Un p pos N) (hw : ww (Un p (upd pos k q) N) (tagOf q) < ww (Un p pos N) (tagOf (pos k))) :
    phi p (upd pos k q) N < phi p pos N := by
  unfold phi
  have e0 : upd pos k q 0 = pos 0 := upd_ne _ _ (fun e => k1 e.symm)
  rw [e0]
  have h1 := rk_mono p.n hV (tagOf (pos 0))
  have h2 := sumTo_upd pos q (fun x => ww (Un p (upd pos k q) N) (tagOf x)) kN
  have h3 : sumTo N (fun a => ww (Un p (upd pos k q) N) (tagOf (upd pos k q a))) + ww (Un p (upd pos k q) N) (tagOf (pos k)) = sumTo N (fun a => ww (Un p (upd pos k q) N) (tagOf (pos a))) + ww (Un p (upd pos k q) N) (tagOf q) := h2
  have h4 : sumTo N (fun a => ww (Un p (upd pos k q) N) (tagOf (pos a))) + ww (Un p pos N) (tagOf (pos k)) ≤ sumTo N (fun a => ww (Un p pos N) (tagOf (pos a))) + ww (Un p (upd pos k q) N) (tagOf (pos k)) := by
    have key : ∀ n, k < n → sumTo n (fun a => ww (Un p (upd pos k q) N) (tagOf (pos a))) + ww (Un p pos N) (tagOf (pos k)) ≤ sumTo n (fun a => ww (Un p pos N) (tagOf (pos a))) + ww (Un p (upd pos k q) N) (tagOf (pos k)) := by
      intro n
      induction n with
      | zero => intro h; omega
      | succ n ih =>
        intro h
        simp only [sumTo]
        rcases Nat.lt_or_ge k n with hlt | hge
        · have := ih hlt
          have := ww_mono hU (tagOf (pos n))
          omega
        · obtain rfl : k = n := by omega
          have := sumTo_mono (n := k) fun i _ => ww_mono hU (tagOf (pos i))
          omega
    exact key N kN
  omega
theorem phi_main (h1 : 1 ≤ N) (h0 : wst (pos 0) = 0) {q : Ps} (hq : wst q = 0) (hr : rk p.n (V pos N) (tagOf q) < rk p.n (V pos N) (tagOf (pos 0))) : phi p (upd pos 0 q) N < phi p pos N := by
  have e : ∀ k, k < N → wst (upd pos 0 q k) = wst (pos k) := fun k _ => by
    by_cases x : k = 0
    · subst x; rw [upd_same, hq, h0]
    · rw [upd_ne _ _ x]
  unfold phi
  rw [Un_congr e, V_congr e, upd_same]
  have w0 : ∀ {x : Ps}, wst x = 0 → ww (Un p pos N) (tagOf x) = 0 := by
    intro x hx
    unfold wst at hx
    revert hx
    cases tagOf x with
    | none => simp [wT]
    | some s => cases s <;> simp [wT, ww]
  have : sumTo N (fun k => ww (Un p pos N) (tagOf (upd pos 0 q k))) = sumTo N (fun k => ww (Un p pos N) (tagOf (pos k))) := sumTo_congr fun k _ => by
    by_cases x : k = 0
    · subst x; rw [upd_same, w0 hq, w0 h0]
    · rw [upd_ne _ _ x]
  rw [this]
  omega
end
end Go.Proofs.Ytdkbkocklnnmdaa.crew
