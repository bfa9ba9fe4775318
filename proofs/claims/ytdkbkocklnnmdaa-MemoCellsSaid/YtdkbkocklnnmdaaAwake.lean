/-
  The contract of the laws' common word, awake, for a run of one goroutine: it is true; nothing that was there has changed.
-/
import Derived.Test.YtdkbkocklnnmdaaGet
set_option linter.unusedSimpArgs false
set_option linter.unusedVariables false
namespace Go.Proofs.Ytdkbkocklnnmdaa
open Go Go.MuLone

theorem seven (w : World) : Calls Try.prog 36 #[] w fun e w' => e = .returned (.int .i64 7) ∧ w' = w := by
  go_enter Try.func36, Try.ntmps36
  go_wp2
  go_ret
  exact ⟨rfl, rfl⟩

abbrev f36 : Value := .func (.func 36) #[] #[]

theorem get_seven (b : Nat) (w : World) (h : w.heap[b]? = some (blk 0 0 f36 0 0 0)) :
    Calls Try.prog 11 #[.pointer (some ⟨b, 0, none⟩)] w fun e w' => e = .returned (.int .i64 7) ∧ Only (fun i => i = b) w w' ∧ w'.heap[b]? = some (blk 1 0 f36 7 1 1) := by
  have hent : ∀ W : World, (callFunc 36 #[]).run Try.prog W = .ok (.enter 36 #[]) W := fun W => by kernel_rfl
  refine (get_first b f36 7 1 1 w (fun i => i = b) (fun _ => True) rfl h ?_ (fun _ _ _ _ => trivial)).mono (fun e w' ⟨h1, h2, _, h4⟩ => ⟨h1, h2, h4⟩)
  intro W hW hO
  refine (run_body b 36 #[] 7 W (fun _ => False) (fun _ => True) (fun h => h) (fun _ h => h.elim) hent hW ?_ (fun _ _ _ _ => trivial)).mono ?_
  · intro W1 hW1 hO1
    exact (seven W1).mono fun e w' ⟨he, hw⟩ => by subst hw; exact ⟨he, Only.refl _ _, trivial⟩
  · rintro e W' ⟨h1, h2, h3, h4⟩
    exact ⟨h1, h2.mono (fun i _ x => x.elim id False.elim), h3, h4⟩

set_option maxRecDepth 100000 in
set_option maxHeartbeats 1600000 in
theorem awake_true (w : World) : Calls Try.prog 13 #[] w fun e w' => e = .returned (.bool true) ∧ Only (fun _ => False) w w' := by
  have hnot := hnot
  have hb := box_new w (blk 0 0 f36 0 0 0)
  have c5 := blk5 hb
  have o1 : Only (fun _ => False) w (w.alloc (blk 0 0 f36 0 0 0)) := (Only.refl _ w).alloc _
  have HB := Lib.hid hb; have HO := Lib.hid o1; clear hb o1
  go_enter Try.func13, Try.ntmps13
  go_wp2_with (first | (go_at_call 9; refine (new_int _ _ _ _).mono ?_; rintro e w' ⟨rfl, rfl⟩) | (go_at_call 12; refine (done_int _ _ _ c5).mono ?_; rintro e w' ⟨rfl, rfl⟩) | (go_at_call 11; refine (get_seven _ _ HB.out).mono ?_; rintro e w' ⟨rfl, ho, hb⟩; have c6 := blk6 hb; have HO2 := Lib.hid (HO.out.step ho (fun i hi e => by omega)); clear ho hb) | (go_at_call 18; refine (runs_int _ _ _ c6).mono ?_; rintro e w' ⟨rfl, rfl⟩))
  go_ret
  exact ⟨rfl, HO2.out⟩
end Go.Proofs.Ytdkbkocklnnmdaa
