/-
  Small laws for main's walk beside goroutines that only leave. No condition beside those that are named.
-/
import Derived.Test.YtdkbkocklnnmdaaFrame
import Derived.Test.YtdkbkocklnnmdaaEv
import Derived.Conc.BesideWords
set_option linter.unusedVariables false
namespace Go.Proofs.Ytdkbkocklnnmdaa.free
open Go Go.Conc Go.Proofs.Ytdkbkocklnnmdaa.crew

/-- A block whose cells main may touch plainly. -/
def May (Shun Lw : Loc → Prop) (b : Nat) : Prop := ∀ a : Addr, a.block = b → ¬ Shun (.cell a) ∧ Lw (.cell a)
section
variable {Shun Lw : Loc → Prop} {b : Nat} {a : Addr} {wr : Bool}
theorem evS_may (h : May Shun Lw b) (hb : a.block = b) : EvS Shun Lw ⟨.cell a, wr, false⟩ := by
  obtain ⟨h1, h2⟩ := h a hb
  refine ⟨⟨fun x hx => ?_, fun ar e => by cases e⟩, by simp, by simp⟩
  have : x = ⟨.cell a, wr, .plain⟩ := (Option.some.inj hx).symm
  subst this
  exact ⟨h2, fun hs => absurd hs h1⟩
theorem evS_at (h : Lw (.cell a)) : EvS Shun Lw ⟨.cell a, wr, true⟩ := by
  refine ⟨⟨fun x hx => ?_, fun ar e => by cases e⟩, by simp, by simp⟩
  have : x = ⟨.cell a, wr, .atomic⟩ := (Option.some.inj hx).symm
  subst this
  exact ⟨h, fun _ => by simp⟩
end
theorem at_rely {W w w₁ : World} (h : Conc.AtRel W w) (r : Conc.AtRel w w₁) : Conc.AtRel W w₁ := atRel_trans _ _ _ h r
theorem at_next {P : Program} {main : Bool} {R : World → World → Prop} {D : World → World → Array Event → Prop} {S : Goroutine → World → Prop} {n : Nat} {g : Goroutine} {W : World} {d : Nat} (h : ∀ y, Conc.AtRel W y → Goes P main R D S n g y) : Goes P main R D S n g (W.at d) := h _ ⟨d, rfl⟩
theorem at_cell {W x : World} (h : Conc.AtRel W x) (a : Addr) : x.cell? a = W.cell? a := by obtain ⟨d, rfl⟩ := h; rfl
theorem at_frozen {W x : World} (h : Conc.AtRel W x) (a : Addr) : x.frozen? a = W.frozen? a := by obtain ⟨d, rfl⟩ := h; rfl
theorem at_heap {W x : World} (h : Conc.AtRel W x) : x.heap = W.heap := by obtain ⟨d, rfl⟩ := h; rfl
theorem at_size {W x : World} (h : Conc.AtRel W x) : x.heap.size = W.heap.size := by obtain ⟨d, rfl⟩ := h; rfl
theorem at_alloc {W x : World} (h : Conc.AtRel W x) (o : Obj) : Conc.AtRel (W.alloc o) (x.alloc o) := by obtain ⟨d, rfl⟩ := h; exact ⟨d, rfl⟩
theorem next_alloc {P : Program} {main : Bool} {R : World → World → Prop} {D : World → World → Array Event → Prop} {S : Goroutine → World → Prop} {n : Nat} {g : Goroutine} {W x : World} {o : Obj} (hF : Conc.AtRel W x)
    (h : ∀ y, Conc.AtRel (W.alloc o) y → Goes P main R D S n g y) : Goes P main R D S n g (x.alloc o) := h _ (at_alloc hF o)
theorem at_set {W x : World} (h : Conc.AtRel W x) (a : Addr) (v : Value) : Conc.AtRel (W.setCell a v) (x.setCell a v) := by obtain ⟨d, rfl⟩ := h; exact ⟨d, rfl⟩
theorem next_set {P : Program} {main : Bool} {R : World → World → Prop} {D : World → World → Array Event → Prop} {S : Goroutine → World → Prop} {n : Nat} {g : Goroutine} {W x : World} {a : Addr} {v : Value} (hF : Conc.AtRel W x)
    (h : ∀ y, Conc.AtRel (W.setCell a v) y → Goes P main R D S n g y) : Goes P main R D S n g (x.setCell a v) := h _ (at_set hF a v)
end Go.Proofs.Ytdkbkocklnnmdaa.free
