/-
  A main goroutine that starts workers and waits for them: main's operations, each with what it comes to. Conditions: those of the structure Ways.Ok.
-/
import Derived.Test.YtdkbkocklnnmdaaCrewSys
set_option linter.unusedVariables false
set_option linter.unusedSectionVars false
namespace Go.Proofs.Ytdkbkocklnnmdaa.crew
open Go Go.Conc Go.Proofs.Ytdkbkocklnnmdaa.mach Go.Proofs.Ytdkbkocklnnmdaa.wg
open Go.ConcN (upd upd_same upd_ne sumTo sumTo_upd sumTo_congr le_sumTo sumTo_upd_out sumTo_le CT OkW Ok0 Apart RelBy WgLive RW PayAt AtR0 AtK1 AtD1 AtD2 AtD3 AtD4 handedOver_all)
open Go.ConcR (KK WgAt stA smA rd wr mk DC0 Bk g_of_ofEvents)

noncomputable def sys (Y : Ways) : mach.Sys where
  P := Try.prog
  S := Stg
  Γ := Unit
  R := rely Y
  D := guar Y
  A := stops Y
  Glob := fun _ pos N w t => Glob Y.p pos N w t
  Φ := fun _ pos N => phi Y.p pos N
  fin := fun s => s = .fin

structure Ways.Ok (Y : Ways) : Prop where
  p : Y.p.Ok
  kid : Y.p.useC → Y.ks = .kl
  kid0 : ¬ Y.p.useC → Y.ks = .k0
  anch : ∀ g w, Y.Anch g w → Goes Try.prog true (RR Y) DC0 (WLoad (RR Y) Y.p.Wg Y.Anch Y.St) 30 g w
  anchK : Y.p.useC → ∀ g w, Y.AnchK g w → Goes Try.prog false (RR Y) (DK Y) (AtKl Y) 30 g w
  st : ∀ g w, Y.St g w → g.status = .running
  nx : Y.p.useC → ∀ s, s < Y.p.n → Y.p.val (s + 1) = Y.nx (Y.p.val s)

section
variable {Y : Ways} {pos : Nat → Ps} {N : Nat} {w w' : World} {t : Trace} {s : Stg} {m : Nat} {g g' : Goroutine} {es : Array Event} {q : Ps}

theorem Goes.after {P : Program} {main : Bool} {R : World → World → Prop} {D : World → World → Array Event → Prop} {S₁ S₂ : Goroutine → World → Prop} {n : Nat} (refl : ∀ w, R w w) (h2 : ∀ g w, S₁ g w → Goes P main R D S₂ n g w) :
    ∀ {m : Nat} {g : Goroutine} {w : World}, Goes P main R D S₁ m g w → Goes P main R D S₂ (m + n) g w := by
  intro m
  induction m with
  | zero => intro g w h; rw [Nat.zero_add]; exact h2 g w (h w (refl w))
  | succ m ih =>
    intro g w h
    rcases h with h | ⟨hs, h⟩
    · have := h2 g w (h w (refl w))
      clear h
      have key : ∀ k, Goes P main R D S₂ (n + k) g w := by
        intro k
        induction k with
        | zero => exact this
        | succ k ihk => exact ihk.more
      have := key (m + 1)
      rwa [show n + (m + 1) = m + 1 + n by omega] at this
    · rw [show m + 1 + n = (m + n) + 1 by omega]
      refine Goes.step hs fun w₁ h₁ => ?_
      have := h w₁ h₁
      revert this
      cases stepG P main g w₁ <;> simp only [GStep.goes, imp_self]
      exact fun ⟨d, x⟩ => ⟨d, ih x⟩

theorem rk_of_rm (hbw : Y.p.Bb ≠ Y.p.Wg) (hbc : Y.p.Bb ≠ Y.p.Cn) (h : RR Y w w') : RK Y w w' :=
  ⟨fun b hb => absurd hb (by omega), h.live, fun ⟨cs, a, b⟩ => ⟨cs, (h.blocks _ hbw hbc).trans a, b⟩, by simp [World.cell?, h.blocks _ hbw hbc]⟩
theorem suffers (O : Y.Ok) (h : RR Y w w') (x : Ps) : (sys Y).Suffers x w w' := by
  have key : ∀ s, rely Y s w w' := fun s => by
    cases s <;> first | exact rk_of_rm O.p.bw O.p.bc h | exact h
  cases x with
  | on s m => exact key s
  | blk s => exact key s
  | quit q d => trivial

theorem wake_on {b : Bool} {k : Nat} (h : pos k = .on s m) : wakeIf b pos k = .on s m := by
  unfold wakeIf; split <;> rw [h]; rfl

/-- What main's operation comes to. -/
theorem outMain (O : Y.Ok) (G : Glob Y.p pos N w t) (h0 : pos 0 = .on s m) (hs : stepG Try.prog true g w = .go g' w' es) (hr : g'.status = .running) (hh : (sys Y).Holds 0 q g' w') (hw : RR Y w w')
    (hk : ∀ pos, Glob Y.p pos N w t → pos 0 = .on s m → ∀ fn place, Glob Y.p (upd pos 0 q) N w' (t ++ MemOp.ofEvents 0 fn place es) ∧ phi Y.p (upd pos 0 q) N < phi Y.p pos N) : Out (sys Y) () pos N 0 s g w t := by
  have G1 := G.wake O.p (mayWake Try.prog g)
  obtain ⟨a, b⟩ := hk _ G1 (wake_on h0) g.frame.fn g.frame.place
  refine Out.go g' w' es q () hs (by rw [hr]; simp) (by rw [hr]; simp) hh (fun j _ _ => suffers O hw _) a ?_
  have := phi_same (p := Y.p) (pos := pos) (pos' := wakeIf (mayWake Try.prog g) pos) (N := N) (fun k _ => tag_wake _ k) (G.size O.p)
  show phi Y.p _ N < phi Y.p pos N
  rw [← this]
  exact b
/-- What a worker's operation comes to. -/
theorem outWork (O : Y.Ok) (G : Glob Y.p pos N w t) {k : Nat} (k1 : k ≠ 0) (h0 : pos k = .on s m) (hs : stepG Try.prog false g w = .go g' w' es) (hr : g'.status = .running ∨ g'.status = .finished) (hh : (sys Y).Holds k q g' w') (hw : RR Y w w')
    (hk : ∀ pos', (∀ a, a < N → tagOf (pos' a) = tagOf (pos a)) → Glob Y.p pos' N w t → pos' k = .on s m → (mayWake Try.prog g = true → Up (pos' 0)) → ∀ fn place, Glob Y.p (upd pos' k q) N w' (t ++ MemOp.ofEvents k fn place es) ∧ phi Y.p (upd pos' k q) N < phi Y.p pos' N) : Out (sys Y) () pos N k s g w t := by
  have G1 := G.wake O.p (mayWake Try.prog g)
  obtain ⟨a, b⟩ := hk _ (fun a _ => tag_wake _ a) G1 (wake_on h0) (fun e => by rw [e]; exact up_woken 0) g.frame.fn g.frame.place
  have hk0 : (k == 0) = false := by simpa using k1
  refine Out.go g' w' es q () (by rw [hk0]; exact hs) (by rcases hr with e | e <;> rw [e] <;> simp) (by rcases hr with e | e <;> rw [e] <;> simp) hh (fun j _ _ => suffers O hw _) a ?_
  have := phi_same (p := Y.p) (pos := pos) (pos' := wakeIf (mayWake Try.prog g) pos) (N := N) (fun k _ => tag_wake _ k) (G.size O.p)
  show phi Y.p _ N < phi Y.p pos N
  rw [← this]
  exact b

/-! ### events -/
/-- An entry that touches nothing, or a shared place not plainly. -/
def Ev0s (Sh : Loc → Prop) (e : Event) : Prop := ∀ x, (MemAct.ofEvent e).touch? = some x → Sh x.loc ∧ x.kind ≠ .plain
theorem ok0_of {Sh : Loc → Prop} {Rd : Nat → Loc → Prop} {j : Nat} {fn : FuncId} {place : String} (h : ∀ e ∈ es, Ev0s Sh e) : ∀ op ∈ MemOp.ofEvents 0 fn place es, Ok0 Sh noOwn Rd j op ∧ ∀ x, op.act.touch? = some x → Sh x.loc := by
  intro op hop
  rw [ofEvents_eq] at hop
  obtain ⟨e, he, rfl⟩ := Array.mem_map.1 hop
  exact ⟨⟨rfl, fun x hx => .inl (h e he x hx)⟩, fun x hx => (h e he x hx).1⟩
theorem ev0_mk {Sh : Loc → Prop} {m : Mark} (h : (MemAct.mark m).touch? = none) : Ev0s Sh (mk m) := fun x hx => by
  have : (MemAct.ofEvent (mk m)).touch? = none := h
  rw [this] at hx; cases hx
theorem ev0_said {Sh : Loc → Prop} {m : Mark} {a : Addr} (hS : Sh (.cell a)) (h : m = .read a ∨ m = .write a) : Ev0s Sh (mk m) := fun x hx => by
  rcases h with rfl | rfl
  · have : x = ⟨.cell a, false, .said⟩ := (Option.some.inj hx).symm
    subst this; exact ⟨hS, by simp⟩
  · have : x = ⟨.cell a, true, .said⟩ := (Option.some.inj hx).symm
    subst this; exact ⟨hS, by simp⟩
theorem ev0_cell {Sh : Loc → Prop} {a : Addr} {wr : Bool} (hS : Sh (.cell a)) : Ev0s Sh ⟨.cell a, wr, true⟩ := fun x hx => by
  have : x = ⟨.cell a, wr, .atomic⟩ := (Option.some.inj hx).symm
  subst this; exact ⟨hS, by simp⟩

/-- Main's step within the open stages. -/
theorem openStep (O : Y.Ok) (G : Glob Y.p pos N w t) (h0 : pos 0 = .on s m) (ho : openT (some s)) {s' : Stg} {m' : Nat} (ho' : openT (some s')) (hp : pendT (some s') = pendT (some s)) (hrem : remT (some s') = remT (some s))
    (hc : ∀ vs, s' = .wcas vs → V pos N ≤ vs ∧ 1 ≤ vs) (hev : ∀ e ∈ es, Ev0s Y.p.Sh e) (hnr : ∀ e ∈ es, ∀ ar : Addr, e.loc ≠ .mark (.release ar)) (hdf : deafBehind (dfn (.on s m)) es = dfn (.on s' m'))
    (hrk : rk Y.p.n (V pos N) (some s') < rk Y.p.n (V pos N) (some s)) (fn : FuncId) (place : String) :
    Glob Y.p (upd pos 0 (.on s' m')) N w (t ++ MemOp.ofEvents 0 fn place es) ∧ phi Y.p (upd pos 0 (.on s' m')) N < phi Y.p pos N := by
  obtain ⟨st, sm, hwg, hm⟩ := G.wg
  have hp0 : tagOf (pos 0) = some s := by rw [h0]; rfl
  obtain ⟨hW, hv, rfl, rfl⟩ := hm.openInv (by rw [hp0]; exact ho)
  rw [hp0, ← hp] at hwg
  have hz : wst (pos 0) = 0 := wst0_of_open (by rw [hp0]; exact ho)
  have hz' : wst (.on s' m') = 0 := wst0_of_open (p := .on s' m') ho'
  refine ⟨G.main O.p (Rm.refl w) (.inl ho') (fun x e => by cases e) (by rw [hp0]; exact hrem) (ok0_of hev) hnr (by rw [h0]; exact hdf) hwg
    (Mode.openMk O.p.n0 hz (p := .on s' m') ho' hW (fun vs e => hc vs (by simpa [tagOf] using e))) (cnt_main hz hz' (fun v u e => by cases s' <;> simp [tagOf] at e; exact ho') G.cnt rfl) (fun e => ?_), phi_main (G.size O.p) hz hz' (by rw [hp0]; exact hrk)⟩
  have : s' = .fin := by simpa [tagOf] using e
  subst this; exact ho'.elim
end
end Go.Proofs.Ytdkbkocklnnmdaa.crew
