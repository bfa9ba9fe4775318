/-
  A goroutine of Together's: its stops, and the law of each: what its step does and to which stop it goes on. Conditions: those that the theorems name.
-/
import Derived.Test.YtdkbkocklnnmdaaLock
import Derived.Test.YtdkbkocklnnmdaaWgDone
import Derived.Conc.ClockLaws
import Derived.Conc.MuSpec
set_option linter.unusedVariables false
namespace Go.Proofs.Ytdkbkocklnnmdaa.tog
open Go Go.Conc Go.Proofs.Ytdkbkocklnnmdaa.wg Go.Proofs.Ytdkbkocklnnmdaa.lock
open Go.ConcR (KK WgAt stA smA rd wr mk DC0)
open Go.ConcN (WgLive RW AtR0)

/-- What a cell's block holds: done, the mutex's word and semaphore, the value, 'done' once more, the runs. -/
structure Cs where
  d : Int
  m : Mst
  s : Nat
  v : Value
  cd : Int
  r : Int

/-- A call of Together's: the cell's block, its function, its type, the group's block, the law's counter, the answers' block; the box's type; the value in the end; the blocks that are only read; one of these. -/
structure Tp where
  C : Nat
  fC : Value
  ty : TypeId
  Wg : Nat
  Rn : Nat
  Ot : Nat
  tb : TypeId
  fin : Value
  Ro : Nat → Prop
  Bd : Nat
  vd : Value
  /-- What the boxing lists. -/
  eb : World → Array Event

def cblk (p : Tp) (c : Cs) : Obj := .cells #[.int .u32 c.d, .int .i32 c.m.enc, .int .u32 c.s, p.fC, c.v, .int .u32 c.cd, .int .i64 c.r] p.ty (0, 0)
def AtCs (p : Tp) (c : Cs) (w : World) : Prop := w.heap[p.C]? = some (cblk p c)
def CLive (p : Tp) (w : World) : Prop := ∃ c, AtCs p c w
def cA (p : Tp) (i : Nat) : Addr := ⟨p.C, i, none⟩
def nA (p : Tp) : Addr := ⟨p.Rn, 0, none⟩
def oA (p : Tp) (ix : Nat) : Addr := ⟨p.Ot, ix, none⟩

/-- The stops. -/
inductive WS where
  | od | lk (x : Lk) | o2 | bx | ra (ba : Nat) | rl (ba : Nat) | rs (ba : Nat) (y : Int) | vs (ba : Nat) | cs (ba : Nat) | os (ba : Nat) | gv | ow (v : Value)
/-- The box that is one's own. -/
def WS.own : WS → List Nat
  | .ra ba | .rl ba | .rs ba _ | .vs ba | .cs ba | .os ba => [ba]
  | _ => []

/-- What one suffers. -/
structure RT (p : Tp) (ps : List Nat) (w w₁ : World) : Prop where
  ro : ∀ b, p.Ro b ∨ b ∈ ps → w₁.heap[b]? = w.heap[b]?
  live : WgLive 96 p.Wg w → WgLive 96 p.Wg w₁
  cl : CLive p w → CLive p w₁
/-- What one does between two stops. -/
def DT (p : Tp) (ps : List Nat) (w w' : World) (es : Array Event) : Prop := (∃ d, w' = w.at d) ∧ ∀ e ∈ es, ∃ a : Addr, e = ⟨.cell a, false, false⟩ ∧ (p.Ro a.block ∨ a.block ∈ ps ∨ a = cA p 3)

section
variable {p : Tp} {ps : List Nat} {w w₁ w₂ : World}
theorem RT.refl (w : World) : RT p ps w w := ⟨fun _ _ => rfl, id, id⟩
theorem RT.trans (h : RT p ps w w₁) (k : RT p ps w₁ w₂) : RT p ps w w₂ := ⟨fun b hb => (k.ro b hb).trans (h.ro b hb), k.live ∘ h.live, k.cl ∘ h.cl⟩
theorem RT.at (w : World) (d : Nat) : RT p ps w (w.at d) := ⟨fun _ _ => rfl, id, id⟩
theorem RT.weaken {qs : List Nat} (h : RT p ps w w₁) (hq : ∀ b ∈ qs, b ∈ ps) : RT p qs w w₁ := ⟨fun b hb => h.ro b (hb.imp id (hq b)), h.live, h.cl⟩
end

/-- What a stop's step does, in a world that is as is said, and the next stop. -/
inductive Nx (p : Tp) (w : World) : WS → World → Array Event → WS → Prop
  | od (c : Cs) : AtCs p c w → Nx p w .od w #[rd (cA p 0)] (if c.d = 0 then .lk .ld else .gv)
  | ld : Nx p w (.lk .ld) w #[mk .disable] (.lk .l0)
  | l0hit (c : Cs) : AtCs p c w → c.m = ⟨0, 0, 0, 0⟩ → Nx p w (.lk .l0) (w.setCell (cA p 1) (.int .i32 1)) #[rd (cA p 1), wr (cA p 1)] (.lk .le)
  | l0miss (c : Cs) : AtCs p c w → c.m.Ok → c.m ≠ ⟨0, 0, 0, 0⟩ → Nx p w (.lk .l0) w #[rd (cA p 1)] (.lk .r0)
  | r0 (c : Cs) : AtCs p c w → Snap (hd c.m 0 false false 0) → Nx p w (.lk .r0) w #[] (.lk (hd c.m 0 false false 0))
  | sqno (o : Mst) (it : Nat) (aw sv : Bool) (ws : Int) : Snap (.sq o it aw sv ws) → 4 ≤ it → Nx p w (.lk (.sq o it aw sv ws)) w #[] (.lk (.c2 o it aw sv ws))
  | sqgo (o : Mst) (it : Nat) (aw sv : Bool) (ws : Int) : Snap (.sq o it aw sv ws) → it < 4 → w.spins = false → Nx p w (.lk (.sq o it aw sv ws)) w.asked #[] (.lk (.c2 o it aw sv ws))
  | sqspin (o : Mst) (it : Nat) (aw sv : Bool) (ws : Int) : Snap (.sq o it aw sv ws) → it < 4 → w.spins = true → ¬ (aw = false ∧ o.w = 0 ∧ 0 < o.c) → Nx p w (.lk (.sq o it aw sv ws)) w.asked #[] (.lk (.r1 it aw sv ws))
  | sqc1 (o : Mst) (it : Nat) (ws : Int) : Snap (.sq o it false false ws) → it < 4 → w.spins = true → o.w = 0 → 0 < o.c → Nx p w (.lk (.sq o it false false ws)) w.asked #[] (.lk (.c1 o it ws))
  | c1hit (c : Cs) (o : Mst) (it : Nat) (ws : Int) : AtCs p c w → Snap (.c1 o it ws) → c.m = o → Nx p w (.lk (.c1 o it ws)) (w.setCell (cA p 1) (.int .i32 (Mst.enc ⟨o.l, 1, o.s, o.c⟩))) #[rd (cA p 1), wr (cA p 1)] (.lk (.r1 it true false ws))
  | c1miss (c : Cs) (o : Mst) (it : Nat) (ws : Int) : AtCs p c w → c.m.Ok → Snap (.c1 o it ws) → c.m ≠ o → Nx p w (.lk (.c1 o it ws)) w #[rd (cA p 1)] (.lk (.r1 it false false ws))
  | r1 (c : Cs) (it : Nat) (aw sv : Bool) (ws : Int) : AtCs p c w → it < 4 → Snap (hd c.m (it + 1) aw sv ws) → Nx p w (.lk (.r1 it aw sv ws)) w #[] (.lk (hd c.m (it + 1) aw sv ws))
  | c2hit (c : Cs) (o : Mst) (it : Nat) (aw sv : Bool) (ws : Int) : AtCs p c w → Snap (.c2 o it aw sv ws) → c.m = o → Nx p w (.lk (.c2 o it aw sv ws)) (w.setCell (cA p 1) (.int .i32 (nw o aw sv).enc)) #[rd (cA p 1), wr (cA p 1)] (.lk (nx o sv ws))
  | c2miss (c : Cs) (o : Mst) (it : Nat) (aw sv : Bool) (ws : Int) : AtCs p c w → c.m.Ok → Snap (.c2 o it aw sv ws) → c.m ≠ o → Nx p w (.lk (.c2 o it aw sv ws)) w #[rd (cA p 1)] (.lk (.r3 it aw sv ws))
  | t1 (sv : Bool) : Nx p w (.lk (.t1 sv)) w.later #[] (.lk (.s1 sv ((w.os.mono + w.tick : Nat) : Int)))
  | s1 (c : Cs) (sv : Bool) (ws : Int) : AtCs p c w → c.s ≠ 0 → Nx p w (.lk (.s1 sv ws)) (w.setCell (cA p 2) (.int .u32 ((c.s : Int) - 1))) (semEvents (cA p 2)) (.lk (if sv then .r2 sv ws else .t2 ws))
  | t2 (ws : Int) : Nx p w (.lk (.t2 ws)) w.later #[] (.lk (.r2 (decide (1000000 < IntKind.i64.wrap (((w.os.mono + w.tick : Nat) : Int) - ws))) ws))
  | r2s (c : Cs) (sv : Bool) (ws : Int) : AtCs p c w → Snap (.a1 c.m sv) → Nx p w (.lk (.r2 sv ws)) w #[] (.lk (.a1 c.m sv))
  | r2n (c : Cs) (sv : Bool) (ws : Int) : AtCs p c w → c.m.Ok → c.m.s = 0 → Snap (hd c.m 0 true sv ws) → Nx p w (.lk (.r2 sv ws)) w #[] (.lk (hd c.m 0 true sv ws))
  | a1 (c : Cs) (o : Mst) (sv : Bool) : AtCs p c w → c.m.Ok → c.m.s = 1 → c.m.l = 0 → 0 < c.m.c → Snap (.a1 o sv) → Nx p w (.lk (.a1 o sv)) (w.setCell (cA p 1) (.int .i32 (ad c.m o sv).enc)) #[rd (cA p 1), wr (cA p 1)] (.lk .le)
  | r3 (c : Cs) (it : Nat) (aw sv : Bool) (ws : Int) : AtCs p c w → Snap (hd c.m it aw sv ws) → Nx p w (.lk (.r3 it aw sv ws)) w #[] (.lk (hd c.m it aw sv ws))
  | le : Nx p w (.lk .le) w #[mk .enable] (.lk .la)
  | la : Nx p w (.lk .la) w #[mk (.acquire (cA p 1))] .o2
  | ur : Nx p w (.lk .ur) w #[mk (.releaseMerge (cA p 1))] (.lk .ud)
  | ud : Nx p w (.lk .ud) w #[mk .disable] (.lk .u0)
  | u0 (c : Cs) : AtCs p c w → c.m.Ok → c.m.l = 1 → Nx p w (.lk .u0) (w.setCell (cA p 1) (.int .i32 (Mst.enc ⟨0, c.m.w, c.m.s, c.m.c⟩))) #[rd (cA p 1), wr (cA p 1)] (.lk (un ⟨0, c.m.w, c.m.s, c.m.c⟩))
  | uchit (c : Cs) (o : Mst) : AtCs p c w → Snap (.uc o) → c.m = o → Nx p w (.lk (.uc o)) (w.setCell (cA p 1) (.int .i32 (Mst.enc ⟨0, 1, 0, o.c - 1⟩))) #[rd (cA p 1), wr (cA p 1)] (.lk (.us false))
  | ucmiss (c : Cs) (o : Mst) : AtCs p c w → c.m.Ok → Snap (.uc o) → c.m ≠ o → Nx p w (.lk (.uc o)) w #[rd (cA p 1)] (.lk .ux)
  | ux (c : Cs) : AtCs p c w → c.m.Ok → Nx p w (.lk .ux) w #[] (.lk (ul c.m))
  | us (c : Cs) (st : Bool) : AtCs p c w → c.s < 1048576 → Nx p w (.lk (.us st)) (w.setCell (cA p 2) (.int .u32 ((c.s : Int) + 1))) (semEvents (cA p 2)) (.lk .ue)
  | ue : Nx p w (.lk .ue) w #[mk .enable] .gv
  | o2 (c : Cs) : AtCs p c w → Nx p w .o2 w #[rd (cA p 0)] (if c.d = 0 then .bx else .lk .ur)
  | bx : Nx p w .bx (w.alloc (.cells #[.pointer (some ⟨p.C, 0, none⟩)] p.tb)) (p.eb w) (.ra w.heap.size)
  | ra (c : Cs) (ba : Nat) : AtCs p c w → c.r = 0 → Nx p w (.ra ba) (w.setCell (cA p 6) (.int .i64 1)) #[rd (cA p 6), wr (cA p 6)] (.rl ba)
  | rl (ba : Nat) (x : Int) : w.cell? (nA p) = some (.int .i64 x) → Nx p w (.rl ba) w #[⟨.cell (nA p), false, false⟩] (.rs ba (IntKind.i64.wrap (x + 1)))
  | rs (ba : Nat) (x y : Int) : w.cell? (nA p) = some (.int .i64 x) → w.frozen? (nA p) = false → Nx p w (.rs ba y) (w.setCell (nA p) (.int .i64 y)) #[⟨.cell (nA p), true, false⟩] (.vs ba)
  | vs (c : Cs) (ba : Nat) : AtCs p c w → Nx p w (.vs ba) (w.setCell (cA p 4) p.fin) #[⟨.cell (cA p 4), true, false⟩] (.cs ba)
  | cs (c : Cs) (ba : Nat) : AtCs p c w → Nx p w (.cs ba) (w.setCell (cA p 5) (.int .u32 1)) #[wr (cA p 5)] (.os ba)
  | os (c : Cs) (ba : Nat) : AtCs p c w → Nx p w (.os ba) (w.setCell (cA p 0) (.int .u32 1)) #[wr (cA p 0)] (.lk .ur)
  | gv (c : Cs) : AtCs p c w → Nx p w .gv w #[⟨.cell (cA p 4), false, false⟩] (.ow c.v)

/-- A value of one cell. -/
def Atom (v : Value) : Prop := (∃ k n, v = .int k n) ∨ (∃ s, v = .string s) ∨ ∃ p, v = .pointer p
/-- The step is this one, and it goes on so. -/
def Gx (On : WS → Goroutine → World → Prop) (g : Goroutine) (w w' : World) (es : Array Event) (s' : WS) : Prop := ∃ g', stepG Try.prog false g w = .go g' w' es ∧ On s' g' w'
/-- ████ THE LAW OF A STOP. -/
structure Law (p : Tp) (bi ix : Nat) (On : WS → Goroutine → World → Prop) (s : WS) (g : Goroutine) (w : World) : Prop where
  run : g.status = .running
  off : g.offers = none
  go : ∀ w' es s', Nx p w s w' es s' → Gx On g w w' es s'
  waits : ∀ sv ws, s = .lk (.s1 sv ws) → ∀ c, AtCs p c w → c.s = 0 → stepG Try.prog false g w = .go { g with status := .blocked } w #[]
  wakes : ∀ st, s = .lk (.us st) → mayWake Try.prog g = true
  out : ∀ v, s = .ow v → Atom v → (∃ x, w.cell? (oA p ix) = some x) → w.frozen? (oA p ix) = false → ∃ g', stepG Try.prog false g w = .go g' (w.setCell (oA p ix) v) #[⟨.cell (oA p ix), true, false⟩] ∧ g'.status = .running ∧
    Goes Try.prog false (RT p [bi]) (DT p [bi]) (AtR0 Try.prog 96 p.Wg p.Bd 1 0 1 p.vd) 400 g' (w.setCell (oA p ix) v)
/-- .. to a depth. -/
def AtD (p : Tp) (bi ix : Nat) : Nat → WS → Goroutine → World → Prop
  | 0, _, _, _ => True
  | d + 1, s, g, w => Law p bi ix (fun s' g' w' => g'.status = .running ∧ Goes Try.prog false (RT p (bi :: s'.own)) (DT p (bi :: s'.own)) (AtD p bi ix d s') 400 g' w') s g w

theorem Law.mono {p : Tp} {bi ix : Nat} {On On' : WS → Goroutine → World → Prop} {s : WS} {g : Goroutine} {w : World} (h : Law p bi ix On s g w) (H : ∀ s g w, On s g w → On' s g w) : Law p bi ix On' s g w :=
  ⟨h.run, h.off, fun w' es s' hn => by obtain ⟨g', e, o⟩ := h.go w' es s' hn; exact ⟨g', e, H _ _ _ o⟩, h.waits, h.wakes, h.out⟩
theorem Law.all {p : Tp} {bi ix : Nat} {On : Nat → WS → Goroutine → World → Prop} {s : WS} {g : Goroutine} {w : World} (h : ∀ d, Law p bi ix (On d) s g w) : Law p bi ix (fun s g w => ∀ d, On d s g w) s g w :=
  ⟨(h 0).run, (h 0).off, fun w' es s' hn => by
    obtain ⟨g', e, _⟩ := (h 0).go w' es s' hn
    refine ⟨g', e, fun d => ?_⟩
    obtain ⟨g2, e2, o⟩ := (h d).go w' es s' hn
    rw [e] at e2
    cases e2
    exact o, (h 0).waits, (h 0).wakes, (h 0).out⟩

section
variable {P : Program} {main : Bool} {R : World → World → Prop} {D : World → World → Array Event → Prop} {S : Nat → Goroutine → World → Prop}
/-- What holds to every depth holds at all. -/
theorem goes_all (anti : ∀ k g w, S (k + 1) g w → S k g w) : ∀ (m : Nat) (g : Goroutine) (w : World), (∀ k, Goes P main R D (S k) m g w) → Goes P main R D (fun g w => ∀ k, S k g w) m g w := by
  have anti' : ∀ k j g w, S (k + j) g w → S k g w := by
    intro k j
    induction j with
    | zero => exact fun g w h => h
    | succ j ih => exact fun g w h => ih g w (anti (k + j) g w h)
  intro m
  induction m with
  | zero => exact fun g w h w₁ h₁ k => h k w₁ h₁
  | succ m ih =>
    intro g w h
    by_cases hs : ∀ k w₁, R w w₁ → S k g w₁
    · exact .inl fun w₁ h₁ k => hs k w₁ h₁
    · have hs' : ∃ k, ¬ ∀ w₁, R w w₁ → S k g w₁ := Classical.byContradiction fun hn => hs fun k => Classical.byContradiction fun hk => hn ⟨k, hk⟩
      obtain ⟨k0, hk0⟩ := hs'
      have hr : ∀ k, g.status = .running ∧ ∀ w₁, R w w₁ → (stepG P main g w₁).goes fun g' w' es => D w₁ w' es ∧ Goes P main R D (S (k0 + k)) m g' w' := fun k =>
        (h (k0 + k)).resolve_left fun hl => hk0 fun w₁ h₁ => anti' k0 k g w₁ (hl w₁ h₁)
      refine .inr ⟨(hr 0).1, fun w₁ h₁ => ?_⟩
      have hq := fun k => (hr k).2 w₁ h₁
      clear hr
      revert hq
      cases stepG P main g w₁ with
      | go g' w' es =>
        simp only [goes_go]
        intro hq
        refine ⟨(hq 0).1, ih g' w' fun k => ?_⟩
        have := (hq k).2
        clear hq h hs hk0
        have mono : ∀ (n : Nat) (g : Goroutine) (w : World), Goes P main R D (S (k0 + k)) n g w → Goes P main R D (S k) n g w := by
          intro n
          induction n with
          | zero => exact fun g w h w₁ h₁ => by have := h w₁ h₁; rw [Nat.add_comm] at this; exact anti' k k0 g w₁ this
          | succ n ihn =>
            intro g w h
            rcases h with h | ⟨h1, h2⟩
            · exact .inl fun w₁ h₁ => by have := h w₁ h₁; rw [Nat.add_comm] at this; exact anti' k k0 g w₁ this
            · refine .inr ⟨h1, fun w₁ h₁ => ?_⟩
              have := h2 w₁ h₁
              revert this
              cases stepG P main g w₁ <;> simp only [GStep.goes, imp_self]
              exact fun ⟨d, x⟩ => ⟨d, ihn _ _ x⟩
        exact mono m g' w' this
      | _ => exact fun hq => (hq 0 : False).elim
end

theorem goes_imp {P : Program} {main : Bool} {R : World → World → Prop} {D : World → World → Array Event → Prop} {S S' : Goroutine → World → Prop} (H : ∀ g w, S g w → S' g w) : ∀ {n : Nat} {g : Goroutine} {w : World}, Goes P main R D S n g w → Goes P main R D S' n g w
  | 0, _, _, h => fun w₁ h₁ => H _ _ (h w₁ h₁)
  | n + 1, g, w, h => h.imp (fun h w₁ h₁ => H _ _ (h w₁ h₁)) fun ⟨hs, h⟩ => ⟨hs, fun w₁ h₁ => by
      have := h w₁ h₁
      revert this
      cases stepG P main g w₁ <;> simp only [GStep.goes, imp_self]
      exact fun ⟨d, x⟩ => ⟨d, goes_imp H x⟩⟩

section
variable {p : Tp} {bi ix : Nat}
theorem AtD.anti : ∀ (d : Nat) (s : WS) (g : Goroutine) (w : World), AtD p bi ix (d + 1) s g w → AtD p bi ix d s g w
  | 0, _, _, _, _ => trivial
  | d + 1, s, g, w, h => Law.mono h fun s' g' w' ho => ⟨ho.1, goes_imp (AtD.anti d s') ho.2⟩
/-- At a stop, to every depth. -/
def At (p : Tp) (bi ix : Nat) (s : WS) (g : Goroutine) (w : World) : Prop := ∀ d, AtD p bi ix d s g w
theorem At.law {s : WS} {g : Goroutine} {w : World} (h : At p bi ix s g w) : Law p bi ix (fun s' g' w' => g'.status = .running ∧ Goes Try.prog false (RT p (bi :: s'.own)) (DT p (bi :: s'.own)) (At p bi ix s') 400 g' w') s g w := by
  have := Law.all (On := fun d s' g' w' => g'.status = .running ∧ Goes Try.prog false (RT p (bi :: s'.own)) (DT p (bi :: s'.own)) (AtD p bi ix d s') 400 g' w') (fun d => h (d + 1))
  exact this.mono fun s' g' w' ho => ⟨(ho 0).1, goes_all (fun k g w x => AtD.anti k s' g w x) 400 g' w' fun k => (ho k).2⟩
end
end Go.Proofs.Ytdkbkocklnnmdaa.tog
