/-
  A goroutine of Crowd's: its birth, the defer, the two loads of what was made over to it, Add at a nil count, and the deferred Done as far as its release. Conditions: what is held of the world outlives the others' doing.
-/
import Derived.Test.YtdkbkocklnnmdaaCrewAll
import Derived.Test.YtdkbkocklnnmdaaWgDone
import Derived.Test.YtdkbkocklnnmdaaEv
import Derived.Conc.BesideWords
set_option linter.unusedSimpArgs false
set_option linter.unusedVariables false
namespace Go.Proofs.Ytdkbkocklnnmdaa.kid
open Go Go.Conc Go.RowKit Go.ConcR.Gen Go.ConcN.Gen Go.Proofs.Ytdkbkocklnnmdaa.wg Go.Proofs.Ytdkbkocklnnmdaa.crew
open Go.ConcR (DC0 KK WgAt stA smA rd wr mk)
open Go.ConcN (WgLive AtR0 RW)
open Go.Conc.Lib

theorem dmono {P : Program} {main : Bool} {R : World → World → Prop} {D D' : World → World → Array Event → Prop} {S : Goroutine → World → Prop} (hD : ∀ w w' es, D w w' es → D' w w' es) :
    ∀ {m : Nat} {g : Goroutine} {w : World}, Goes P main R D S m g w → Goes P main R D' S m g w
  | 0, _, _, h => h
  | m + 1, g, w, h => h.imp id fun ⟨hs, h⟩ => ⟨hs, fun w₁ h₁ => by
      have := h w₁ h₁
      revert this
      cases stepG P main g w₁ <;> simp only [GStep.goes, imp_self]
      exact fun ⟨d, x⟩ => ⟨hD _ _ _ d, dmono hD x⟩⟩

def b50 : Frame := baseD 50
noncomputable def bot : Frame := { (default : Frame) with fn := Try.prog.funcs.size, defers := [], mode := .panicking [goexitEntry] }
noncomputable def body50 : Code := Try.f50.body.getD .skip
/-- The call that the go statement holds: the group, &c, &by. -/
def call50 (Wg Bc Bb : Nat) : Deferred := { target := .fn (.func 50) #[.pointer (some ⟨Wg, 0, none⟩), .pointer (some ⟨Bc, 0, none⟩), .pointer (some ⟨Bb, 0, none⟩)], args := #[] }

/-- What a worker knows of the world. -/
structure CK (Wg Bc Bb : Nat) (cv : Value) (bv : Int) (w : World) : Prop where
  cb : w.cell? ⟨Bc, 0, none⟩ = some cv
  bb : w.cell? ⟨Bb, 0, none⟩ = some (.int .i64 bv)
  live : WgLive 96 Wg w

theorem CK.rely {Wg Cn Bc Bb : Nat} {cv : Value} {bv : Int} (hb : Bc ≠ Wg ∧ Bc ≠ Cn ∧ Bb ≠ Wg ∧ Bb ≠ Cn) {w w₁ : World} (h : CK Wg Bc Bb cv bv w) (r : Rm Wg Cn w w₁) : CK Wg Bc Bb cv bv w₁ :=
  ⟨by have := r.blocks Bc hb.1 hb.2.1; simp only [World.cell?, this] ; exact h.cb, by have := r.blocks Bb hb.2.2.1 hb.2.2.2; simp only [World.cell?, this]; exact h.bb, r.live h.live⟩

/-- The literal's own way out, once Done has left: it only leaves. -/
theorem quitsTail (T : Array Value) : QuitsD Try.prog 2 0 (G { b50.at ⟨T, []⟩ [] with mode := .returning } [bot]) := by
  refine QuitsD.ctl (g' := G bot []) rfl (fun w => ?_) ?_
  · simp [G, stepG, unwind, doReturn, results, Frame.at, b50, baseD, bot, Try.func50, Try.f50, seen, GStep.after, goexitEntry]
  refine QuitsD.ctl (g' := { G bot [] with status := .finished }) rfl (fun w => ?_) ⟨rfl, rfl⟩
  simp [G, stepG, unwind, bot, goexitEntry, Frame.catches]
  rfl

theorem born_step (Wg Bc Bb : Nat) (w : World) : stepG Try.prog false (born Try.prog (call50 Wg Bc Bb)) w =
    .go (G (b50.at ⟨#[.pointer (some ⟨Wg, 0, none⟩), .pointer (some ⟨Bc, 0, none⟩), .pointer (some ⟨Bb, 0, none⟩), undef, undef, undef], []⟩ [.code body50]) [bot]) w #[] := by
  simp [born, call50, stepG, unwind, callDeferred, invoke, callFunc, Try.func50, Try.f50, seen, GStep.after, G, Frame.enter, Frame.at, b50, baseD, bot, body50]

/-- What a worker may do on its way. -/
def DKx (Bc Bb : Nat) (w w' : World) (es : Array Event) : Prop := w' = w ∧ ∀ e ∈ es, ∃ a : Addr, e = ⟨.cell a, false, false⟩ ∧ (a.block = Bc ∨ a.block = Bb)
theorem dkx_of {Bc Bb : Nat} (w w' : World) (es : Array Event) (h : DC0 w w' es) : DKx Bc Bb w w' es := ⟨h.1, by rw [h.2]; simp⟩

theorem x25 : (Try.f25.name == "runtime.NumGoroutine") = false := by kernel_rfl

set_option maxRecDepth 100000 in
set_option maxHeartbeats 4000000 in
/-- A worker of a nil count. -/
theorem kidNil {Wg Cn Bc Bb : Nat} {bv : Int} (hb : Bc ≠ Wg ∧ Bc ≠ Cn ∧ Bb ≠ Wg ∧ Bb ≠ Cn) {w : World} (hF : CK Wg Bc Bb (.pointer none) bv w) :
    Goes Try.prog false (Rm Wg Cn) (DKx Bc Bb) (AtR0 Try.prog 96 Wg Bb 1 0 1 (.int .i64 bv)) (6 + 102) (born Try.prog (call50 Wg Bc Bb)) w := by
  refine crew.Goes.after (S₁ := fun g w => Goes Try.prog false (Rm Wg Cn) (DKx Bc Bb) (AtR0 Try.prog 96 Wg Bb 1 0 1 (.int .i64 bv)) 102 g w) Rm.refl (fun g w h => h) (dmono (D := DC0) dkx_of ?_)
  refine Goes.step rfl fun w₁ h₁ => ?_
  replace hF := hF.rely hb h₁
  clear h₁
  rw [born_step]
  refine ⟨by u_nil, ?_⟩
  simp only [body50, Try.f50, Option.getD_some]
  u_c stepG_seq (CK.rely hb) hF
  u_reg (CK.rely hb) hF
  u_defer (CK.rely hb) hF
  u_c stepG_region_end (CK.rely hb) hF
  u_reg (CK.rely hb) hF
  refine Goes.stop fun w₂ h₂ => ?_
  replace hF := hF.rely hb h₂
  clear h₂
  u_in (CK.rely hb) hF
  refine goes_oper_k rfl rfl (by k_ne) (fun K hK => ?_)
  have h1 := hF.cb
  go_simp
  refine hK _ _ ⟨⟨rfl, fun e he => ?_⟩, ?_⟩
  · have hm := mem_listed he
    simp [go_sem, *] at hm
    subst hm
    exact ⟨_, rfl, .inl rfl⟩
  clear hK K h1
  u_in (CK.rely hb) hF
  refine goes_oper_k rfl rfl (by k_ne) (fun K hK => ?_)
  have h1 := hF.bb
  go_simp
  refine hK _ _ ⟨⟨rfl, fun e he => ?_⟩, ?_⟩
  · have hm := mem_listed he
    simp [go_sem, *] at hm
    subst hm
    exact ⟨_, rfl, .inr rfl⟩
  clear hK K h1
  refine dmono (D := DC0) dkx_of ?_
  u_call Try.func25 x25 Try.f25 (CK.rely hb) hF
  have hev := ev_eql_nil p57
  u_c stepG_seq (CK.rely hb) hF
  u_reg (CK.rely hb) hF
  u_op (CK.rely hb) hF
  u_c stepG_region_end (CK.rely hb) hF
  u_c stepG_seq (CK.rely hb) hF
  u_c stepG_seq (CK.rely hb) hF
  u_reg (CK.rely hb) hF
  u_op (CK.rely hb) hF
  u_op (CK.rely hb) hF
  u_c stepG_region_end (CK.rely hb) hF
  u_cond true (CK.rely hb) hF
  u_c stepG_seq (CK.rely hb) hF
  u_reg (CK.rely hb) hF
  u_op (CK.rely hb) hF
  u_c stepG_region_end (CK.rely hb) hF
  u_c stepG_ret' (CK.rely hb) hF
  u_leave1 Try.func25 (CK.rely hb) hF
  u_c stepG_region_end (CK.rely hb) hF
  u_c stepG_end (CK.rely hb) hF
  u_unwB (CK.rely hb) hF Try.func44 (nm_done link) Try.f44
  have hA := doneStop (R := Rm Wg Cn) (D := DC0) (Wg := Wg) (C := Bb) (val := .int .i64 bv) (c := { b50.at ⟨#[.pointer (some ⟨Wg, 0, none⟩), .pointer (some ⟨Bc, 0, none⟩), .pointer (some ⟨Bb, 0, none⟩), .pointer none, .int .i64 bv, .int .i64 0], []⟩ [] with mode := .returning }) (cs := [bot]) (qt := 2)
    (fun w w₁ h => ⟨fun b hb' => by omega, h.live, fun ⟨cs, a, b⟩ => ⟨cs, (h.blocks _ hb.2.2.1 hb.2.2.2).trans a, b⟩, by simp only [World.cell?, h.blocks _ hb.2.2.1 hb.2.2.2]⟩) (fun w => ⟨rfl, rfl⟩) rfl (quitsTail _) _ ⟨hF.live, hF.bb⟩
  simp only [Try.f44, Option.getD_some] at hA
  exact Goes.mono hA (by omega)
end Go.Proofs.Ytdkbkocklnnmdaa.kid
