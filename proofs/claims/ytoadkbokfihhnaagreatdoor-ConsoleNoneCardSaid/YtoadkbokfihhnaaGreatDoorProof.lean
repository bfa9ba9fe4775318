/-
  jalousielaw29.ConsoleNone returns true: the tied card. No condition beside the card's own.
-/
import Derived.Test.YtoadkbokfihhnaaGreatDoorP
import Derived.Test.YtoadkbokfihhnaaGreatDoorG
import Derived.Test.YtoadkbokfihhnaaGreatDoorCards
import Derived.SevenTiedAt
set_option linter.unusedVariables false
namespace Go.Proofs.YtoadkbokfihhnaaGreatDoor
open Go
theorem wfText : Rows.consoleNoneRow.wfByText (OpenSpec.ofChange Rows.consoleNoneSpec) = true := by kernel_rfl
theorem proved : Rows.ConsoleNoneCardSaid :=
  Claim7.holds_tied_plain_at .later [] [.pinned, .data, .data, .data, .data, .data, .listed] true (true, "447d46d1f0f2e0b7a6f697fbc0f217792edcc92454b2b80cee9c8c12c43f3965") true
    row (fun _ h => by cases h) wfText (fun _ h => by cases h) rowTie rfl ⟨rfl, rfl⟩ (by kernel_rfl) rfl
    (fun f fn hf hfn => by
      obtain rfl : f = 3 := Option.some.inj (fn3.symm.trans hf) |>.symm
      obtain rfl : fn = Tryz.f3 := (Option.some.inj (Tryz.func3.symm.trans hfn)).symm
      exact ⟨by kernel_rfl, fun j t ht => by
        rw [Tryz.params3] at ht
        simp at ht⟩)
    goesF
#print axioms proved
end Go.Proofs.YtoadkbokfihhnaaGreatDoor
