/-
  Contracts, for a run of one goroutine: sync.Once over memo.Cell[int].run, and Cell[int].Get, asked first and asked again.
-/
import Derived.Test.YtdkbkocklnnmdaaRun
set_option linter.unusedSimpArgs false
set_option linter.unusedVariables false
namespace Go.Proofs.Ytdkbkocklnnmdaa
open Go Go.MuLone

set_option maxRecDepth 100000 in
set_option maxHeartbeats 1600000 in
theorem slow_any (b : Nat) (fv : Value) (v dn rn : Int) (w : World) (S : Nat → Prop) (Q : World → Prop) (hSb : S b)
    (h : w.heap[b]? = some (blk 0 0 fv 0 0 0))
    (hrun : ∀ W : World, W.heap[b]? = some (blk 0 1 fv 0 0 0) → Only (fun i => i = b) w W → Calls Try.prog 34 #[.pointer (some ⟨b, 0, none⟩)] W fun e W' => e = .returned (.tuple #[]) ∧ Only S W W' ∧ Q W' ∧ W'.heap[b]? = some (blk 0 1 fv v dn rn))
    (hQ : ∀ W W', Q W → Only (fun i => i = b) W W' → Q W') :
    Calls Try.prog 55 #[.pointer (some ⟨b, 0, none⟩), .func (.func 34) #[.pointer (some ⟨b, 0, none⟩)] #[]] w fun e w' => e = .returned (.tuple #[]) ∧ Only S w w' ∧ Q w' ∧ w'.heap[b]? = some (blk 1 0 fv v dn rn) := by
  have hnot := hnot
  have c1 := blk1 h
  have z1 := blkz h 1
  have e1 := blkset h 1 (.int .i32 1) (blk 0 1 fv 0 0 0) rfl
  have c0 := blk0 e1
  have o1 : Only (fun i => i = b) w (w.setCell ⟨b, 1, none⟩ (.int .i32 1)) := (Only.refl (fun i => i = b) w).set _ _ (.inr rfl)
  have HR := Lib.hid hrun; have HQ := Lib.hid hQ; have HH := Lib.hid h; have H1 := Lib.hid e1; have HO := Lib.hid o1; have HS := Lib.hid hSb; clear hrun hQ h e1 o1 hSb
  go_enter_defers Try.func55, Try.ntmps55
  go_wp2_with (first | (go_at_call 84; refine (lock_free Try.muLib ⟨b, 1, none⟩ _ c1 z1).mono ?_; rintro e w' ⟨rfl, rfl⟩) | (go_at_call 35; refine (bload _ _ _ c0).mono ?_; rintro e w' ⟨rfl, rfl⟩))
  refine (HR.out _ H1.out HO.out).mono ?_
  rintro e W' ⟨rfl, ho, hq, hb⟩
  have o2 : Only S w W' := (HO.out.mono (T := S) (fun i _ e => e ▸ HS.out)).trans ho
  have HO2 := Lib.hid o2; have HQ2 := Lib.hid hq; have HB := Lib.hid hb; clear o2 hq hb ho
  go_wp2
  refine leaves_cons (f := 57) (args := #[.pointer (some ⟨b, 0, none⟩), .bool true]) (by simp) (by simp [go_sem]) ?_
  refine (bstore_deferred ⟨b, 0, none⟩ (.int .u32 0) .returning _ (blk0 HB.out) (blkz HB.out 0)).mono ?_
  rintro e u' w'' ⟨rfl, rfl, rfl⟩
  have e3 : (W'.drew.setCell ⟨b, 0, none⟩ (.int .u32 1)).heap[b]? = some (blk 1 1 fv v dn rn) := blkset (w := W'.drew) HB.out 0 _ _ rfl
  refine leaves_cons (f := 85) (args := #[.pointer (some ⟨b, 1, none⟩)]) (by simp [settle]) (by simp [go_sem]) ?_
  refine (unlock_deferred Try.muLib ⟨b, 1, none⟩ _ _ (blk1 e3) (blkz e3 1)).mono ?_
  rintro e u' w'' ⟨rfl, rfl, rfl⟩
  refine ⟨_, results_none rfl _ _ _, rfl, (HO2.out.drew.set _ _ (.inr HS.out)).set _ _ (.inr HS.out), ?_, blkset e3 1 _ _ rfl⟩
  exact HQ.out _ _ HQ2.out (((Only.refl (fun i => i = b) _).drew.set _ _ (.inr rfl)).set _ _ (.inr rfl))

set_option maxRecDepth 100000 in
set_option maxHeartbeats 1600000 in
theorem do_first (b : Nat) (fv : Value) (v dn rn : Int) (w : World) (S : Nat → Prop) (Q : World → Prop) (hSb : S b)
    (h : w.heap[b]? = some (blk 0 0 fv 0 0 0))
    (hrun : ∀ W : World, W.heap[b]? = some (blk 0 1 fv 0 0 0) → Only (fun i => i = b) w W → Calls Try.prog 34 #[.pointer (some ⟨b, 0, none⟩)] W fun e W' => e = .returned (.tuple #[]) ∧ Only S W W' ∧ Q W' ∧ W'.heap[b]? = some (blk 0 1 fv v dn rn))
    (hQ : ∀ W W', Q W → Only (fun i => i = b) W W' → Q W') :
    Calls Try.prog 33 #[.pointer (some ⟨b, 0, none⟩), .func (.func 34) #[.pointer (some ⟨b, 0, none⟩)] #[]] w fun e w' => e = .returned (.tuple #[]) ∧ Only S w w' ∧ Q w' ∧ w'.heap[b]? = some (blk 1 0 fv v dn rn) := by
  have hnot := hnot
  have c0 := blk0 h
  have HC := Lib.hid (slow_any b fv v dn rn w S Q hSb h hrun hQ)
  clear hrun hQ h hSb
  go_enter Try.func33, Try.ntmps33
  go_wp2_with (first | (go_at_call 55; refine HC.out.mono ?_; rintro e w' ⟨rfl, hq⟩; have HQ2 := Lib.hid hq; clear hq) | (go_at_call 35; refine (bload _ _ _ c0).mono ?_; rintro e w' ⟨rfl, rfl⟩))
  go_end0
  exact ⟨rfl, HQ2.out⟩

theorem do_done (b : Nat) (mu dn rn v : Int) (fv fw : Value) (w : World) (h : w.heap[b]? = some (blk 1 mu fv v dn rn)) :
    Calls Try.prog 33 #[.pointer (some ⟨b, 0, none⟩), fw] w fun e w' => e = .returned (.tuple #[]) ∧ w' = w := by
  have hnot := hnot
  have c0 := blk0 h
  clear h
  go_enter Try.func33, Try.ntmps33
  go_wp2_with (go_at_call 35; refine (bload _ _ _ c0).mono ?_; rintro e w' ⟨rfl, rfl⟩)
  go_end0
  exact ⟨rfl, rfl⟩

set_option maxRecDepth 100000 in
set_option maxHeartbeats 1600000 in
/-- Cell[int].Get, asked first. -/
theorem get_first (b : Nat) (fv : Value) (v dn rn : Int) (w : World) (S : Nat → Prop) (Q : World → Prop) (hSb : S b)
    (h : w.heap[b]? = some (blk 0 0 fv 0 0 0))
    (hrun : ∀ W : World, W.heap[b]? = some (blk 0 1 fv 0 0 0) → Only (fun i => i = b) w W → Calls Try.prog 34 #[.pointer (some ⟨b, 0, none⟩)] W fun e W' => e = .returned (.tuple #[]) ∧ Only S W W' ∧ Q W' ∧ W'.heap[b]? = some (blk 0 1 fv v dn rn))
    (hQ : ∀ W W', Q W → Only (fun i => i = b) W W' → Q W') :
    Calls Try.prog 11 #[.pointer (some ⟨b, 0, none⟩)] w fun e w' => e = .returned (.int .i64 v) ∧ Only S w w' ∧ Q w' ∧ w'.heap[b]? = some (blk 1 0 fv v dn rn) := by
  have hmf := hmf
  have HC := Lib.hid (do_first b fv v dn rn w S Q hSb h hrun hQ)
  clear hrun hQ h hSb
  go_enter Try.func11, Try.ntmps11
  go_wp2_with (go_at_call 33; refine HC.out.mono ?_; rintro e w' ⟨rfl, ho, hq, hb⟩; have c4 := blk4 hb; have HQ2 := Lib.hid hq; have HO := Lib.hid ho; have HB := Lib.hid hb; clear hq ho hb)
  go_ret
  exact ⟨rfl, HO.out, HQ2.out, HB.out⟩

set_option maxRecDepth 100000 in
/-- Cell[int].Get, asked again. -/
theorem get_again (b : Nat) (mu v dn rn : Int) (fv : Value) (w : World) (h : w.heap[b]? = some (blk 1 mu fv v dn rn)) :
    Calls Try.prog 11 #[.pointer (some ⟨b, 0, none⟩)] w fun e w' => e = .returned (.int .i64 v) ∧ w' = w := by
  have hmf := hmf
  have c4 := blk4 h
  have HH := Lib.hid h; clear h
  go_enter Try.func11, Try.ntmps11
  go_wp2_with (go_at_call 33; refine (do_done b mu dn rn v fv _ _ HH.out).mono ?_; rintro e w' ⟨rfl, rfl⟩)
  go_ret
  exact ⟨rfl, rfl⟩
end Go.Proofs.Ytdkbkocklnnmdaa
