/-
  sync.WaitGroup's Done as a worker's deferred call: the way to its release, under a rely of one's own; behind it the library's walk. Condition: what is held of the world keeps the group's block one.
-/
import Derived.Test.YtdkbkocklnnmdaaProg
import Derived.Test.YtdkbkocklnnmdaaWgAdd
set_option linter.unusedSimpArgs false
set_option linter.unusedVariables false
namespace Go.Proofs.Ytdkbkocklnnmdaa.wg
open Go Go.Conc Go.RowKit Go.ConcR.Gen Go.ConcN.Gen
open Go.ConcR (DC0 KK WgAt stA smA rd wr mk)
open Go.ConcN (st_flag st_waiters WgLive AtR0 RW DWs)
open Go.Conc.Lib

/-- The two marks of Done's beginning: the release; then 'disable'. -/
def AtDisK (g : Goroutine) (w : World) : Prop := g.status = .running ∧ ∃ g', stepG Try.prog false g w = .go g' w #[mk .disable]
def AtRelK (F : World → Prop) (Wg : Nat) (g : Goroutine) (w : World) : Prop :=
  g.status = .running ∧ ∃ g', stepG Try.prog false g w = .go g' w #[mk (.releaseMerge (stA Wg))] ∧ Goes Try.prog false (fun _ w₁ => F w₁) DC0 AtDisK 20 g' w
theorem f_rely {F : World → Prop} {w w₁ : World} (h : F w) (r : F w₁) : F w₁ := r

set_option maxRecDepth 100000 in
set_option maxHeartbeats 8000000 in
theorem doneMarks {F : World → Prop} {Wg : Nat} (hFw : ∀ w, F w → WgLive 96 Wg w) {c : Frame} {cs : List Frame} (w : World) (hF : F w) :
    Goes Try.prog false (fun _ w₁ => F w₁) DC0 (AtRelK F Wg) 60 (G ((baseD 44).at ⟨#[.pointer (some ⟨Wg, 0, none⟩), undef, undef, undef], []⟩ [.code (Try.f44.body.getD .skip)]) (c :: cs)) w := by
  simp only [Try.f44, Option.getD_some]
  u_reg f_rely hF
  u_op f_rely hF
  u_call Try.func42 (nm_add link) Try.f42 f_rely hF
  u_c stepG_seq f_rely hF
  u_cond true f_rely hF
  u_c stepG_seq f_rely hF
  u_c stepG_seq f_rely hF
  u_reg f_rely hF
  u_op f_rely hF
  u_op f_rely hF
  u_c stepG_region_end f_rely hF
  u_cond true f_rely hF
  u_reg f_rely hF
  u_op f_rely hF
  u_in f_rely hF
  refine goes_oper_k rfl rfl (by k_ne) (fun Kx hKx => ?_)
  have hcv := run_convert_to_unsafe (P := Try.prog) wgLib.underlying_tWgP wgLib.underlying_tUP wgLib.room_tWg (WgLive.cell0 (hFw _ hF)).choose_spec
  have hce := fun es => events_convert_to_unsafe (P := Try.prog) wgLib.underlying_tWgP wgLib.underlying_tUP wgLib.room_tWg (WgLive.cell0 (hFw _ hF)).choose_spec es
  go_simp
  refine hKx _ _ ⟨?_, ?_⟩
  · u_none
    intro ex hex
    have hmx := mem_listed hex
    simp [go_sem, hce] at hmx
  clear hKx Kx hcv hce
  refine Goes.stop (fun w₁ h₁ => ?_)
  replace hF := f_rely hF h₁
  clear h₁
  refine ⟨rfl, _, stepG_markAt .releaseMerge (by simp) rfl rfl (by k_ne) rfl Try.func64 x64.1 x64.2.1 x64.2.2 e64 (by simp [Act.eval, stA]), ?_⟩
  walk_nrm
  u_c stepG_region_end f_rely hF
  u_c stepG_seq f_rely hF
  u_reg f_rely hF
  refine Goes.stop (fun w₁ h₁ => ?_)
  exact ⟨rfl, _, stepG_mark0 .disable (by simp) rfl rfl (by k_ne) rfl Try.func65 x65.1 x65.2.1 x65.2.2 e65⟩

theorem no_marks {F : World → Prop} {Rk : World → World → Prop} {Dk : World → World → Array Event → Prop} {S : Goroutine → World → Prop} (refl : ∀ w, Rk w w) (hS : ∀ g w, S g w → ∃ g' es, stepG Try.prog false g w = .go g' w es ∧ ∀ a, es ≠ #[mk (.releaseMerge a)])
    {Wg C : Nat} {val : Value} (hSt : ∀ g w g' es, S g w → stepG Try.prog false g w = .go g' w es → ¬ Dk w w es) :
    ∀ {n : Nat} {g : Goroutine} {w : World}, F w → Goes Try.prog false (fun _ w₁ => F w₁) DC0 S n g w → ∀ m, ¬ Goes Try.prog false Rk Dk (AtR0 Try.prog 96 Wg C 1 0 1 val) m g w := by
  have atS : ∀ {g : Goroutine} {w : World}, S g w → ∀ m, ¬ Goes Try.prog false Rk Dk (AtR0 Try.prog 96 Wg C 1 0 1 val) m g w := by
    intro g w hs m hk
    obtain ⟨g', es, hst, hne⟩ := hS g w hs
    have noStop : ¬ AtR0 Try.prog 96 Wg C 1 0 1 val g w := by
      rintro ⟨_, _, g2, h2, _⟩
      rw [hst] at h2
      injection h2 with _ _ h3
      exact hne _ h3
    cases m with
    | zero => exact noStop (hk w (refl w))
    | succ m =>
      rcases hk with hk | ⟨_, hk⟩
      · exact noStop (hk w (refl w))
      · have := hk w (refl w)
        rw [hst, goes_go] at this
        exact hSt g w g' es hs hst this.1
  intro n
  induction n with
  | zero => intro g w hF h; exact atS (h w hF)
  | succ n ih =>
    intro g w hF h m hk
    rcases h with h | ⟨_, h⟩
    · exact atS (h w hF) m hk
    · have h1 := h w hF
      cases hst : stepG Try.prog false g w with
      | go g' w' es =>
        rw [hst, goes_go] at h1
        obtain ⟨⟨rfl, rfl⟩, h2⟩ := h1
        have noStop : ¬ AtR0 Try.prog 96 Wg C 1 0 1 val g w' := by
          rintro ⟨_, _, g2, h2, _⟩
          rw [hst] at h2
          injection h2 with _ _ h3
          simp at h3
        cases m with
        | zero => exact noStop (hk w' (refl w'))
        | succ m =>
          rcases hk with hk | ⟨_, hk⟩
          · exact noStop (hk w' (refl w'))
          · have := hk w' (refl w')
            rw [hst, goes_go] at this
            exact ih hF h2 m this.2
      | _ => rw [hst] at h1; exact h1.elim

theorem marks_conv {F : World → Prop} {R Rk : World → World → Prop} {D Dk : World → World → Array Event → Prop} {Wg C : Nat} {val : Value} (refl : ∀ w, Rk w w) (trans : ∀ a b c, Rk a b → Rk b c → Rk a c) (hR : ∀ w w₁, R w w₁ → Rk w w₁) (hFr : ∀ w w₁, F w → R w w₁ → F w₁) (hD : ∀ w, D w w #[])
    (hDk : ∀ w, ¬ Dk w w #[mk .disable]) :
    ∀ {n : Nat} {g : Goroutine} {w : World}, F w → Goes Try.prog false (fun _ w₁ => F w₁) DC0 (AtRelK F Wg) n g w → ∀ m, Goes Try.prog false Rk Dk (AtR0 Try.prog 96 Wg C 1 0 1 val) m g w →
      Goes Try.prog false R D (AtR0 Try.prog 96 Wg C 1 0 1 val) n g w := by
  have atS : ∀ {g : Goroutine} {w : World}, F w → AtRelK F Wg g w → ∀ m, Goes Try.prog false Rk Dk (AtR0 Try.prog 96 Wg C 1 0 1 val) m g w → AtR0 Try.prog 96 Wg C 1 0 1 val g w := by
    intro g w hF hs m hk
    obtain ⟨_, g', hst, hgo⟩ := hs
    cases m with
    | zero => exact hk w (refl w)
    | succ m =>
      rcases hk with hk | ⟨_, hk⟩
      · exact hk w (refl w)
      · have := hk w (refl w)
        rw [hst, goes_go] at this
        exact absurd this.2 (no_marks refl (fun g w h => ⟨_, _, h.2.choose_spec, fun a e => by simp [mk] at e⟩) (fun g w g' es h hst hd => by
          obtain ⟨_, g2, h2⟩ := h
          rw [hst] at h2
          injection h2 with _ _ h3
          exact hDk w (h3 ▸ hd)) hF hgo m)
  intro n
  induction n with
  | zero =>
    intro g w hF h m hk w₁ h₁
    exact atS (hFr _ _ hF h₁) (h w₁ (hFr _ _ hF h₁)) m (Goes.rely trans hk (hR _ _ h₁))
  | succ n ih =>
    intro g w hF h m hk
    rcases h with h | ⟨hrun, h⟩
    · exact .inl fun w₁ h₁ => atS (hFr _ _ hF h₁) (h w₁ (hFr _ _ hF h₁)) m (Goes.rely trans hk (hR _ _ h₁))
    · refine .inr ⟨hrun, fun w₁ h₁ => ?_⟩
      have hF1 := hFr _ _ hF h₁
      have hk1 := Goes.rely trans hk (hR _ _ h₁)
      have h1 := h w₁ hF1
      cases hst : stepG Try.prog false g w₁ with
      | go g' w' es =>
        rw [hst, goes_go] at h1
        obtain ⟨⟨rfl, rfl⟩, h2⟩ := h1
        rw [goes_go]
        refine ⟨hD _, ?_⟩
        have noStop : ¬ AtR0 Try.prog 96 Wg C 1 0 1 val g w' := by
          rintro ⟨_, _, g2, h2, _⟩
          rw [hst] at h2
          injection h2 with _ _ h3
          simp at h3
        cases m with
        | zero => exact absurd (hk1 w' (refl w')) noStop
        | succ m =>
          rcases hk1 with hk1 | ⟨_, hk1⟩
          · exact absurd (hk1 w' (refl w')) noStop
          · have := hk1 w' (refl w')
            rw [hst, goes_go] at this
            exact ih hF1 h2 m this.2
      | _ => rw [hst] at h1; exact h1.elim

/-- The deferred Done, as far as its release; what is behind that is the library's. -/
theorem doneStop {R : World → World → Prop} {D : World → World → Array Event → Prop} {Wg C : Nat} {val : Value} {c : Frame} {cs : List Frame} {qt : Nat} (hR : ∀ w w₁, R w w₁ → RW 96 Wg C 1 0 0 w w₁) (hD : ∀ w, D w w #[])
    (hcm : c.mode = .returning) (hT : QuitsD Try.prog qt 0 (G c cs)) (w : World) (hK : WgLive 96 Wg w ∧ Go.ConcN.Has C 0 val w) :
    Goes Try.prog false R D (AtR0 Try.prog 96 Wg C 1 0 1 val) 60 (G ((baseD 44).at ⟨#[.pointer (some ⟨Wg, 0, none⟩), undef, undef, undef], []⟩ [.code (Try.f44.body.getD .skip)]) (c :: cs)) w := by
  refine marks_conv (F := fun w => WgLive 96 Wg w ∧ Go.ConcN.Has C 0 val w) (Rk := RW 96 Wg C 1 0 0) (Dk := DWs Wg (fun _ _ => False) (fun _ _ => False) C 1 1) Go.ConcN.RW.refl (fun a b c => Go.ConcN.RW.trans) hR
    (fun w w₁ h r => ⟨(hR _ _ r).live h.1, by unfold Go.ConcN.Has at *; exact (hR _ _ r).cell.trans h.2⟩) hD (fun w hd => (hd.2 (mk .disable) (by simp)).2.1 rfl) hK
    (doneMarks (fun w h => h.1) w hK) 23 ?_
  have := doneN (L := link) (P := Try.prog) wgLib (Own := fun _ _ => False) (Rd := fun _ _ => False) (Wg := Wg) (C := C) (n := 1) (Low := 0) (k := 1) (val := val) hcm hT w hK
  exact this
end Go.Proofs.Ytdkbkocklnnmdaa.wg
