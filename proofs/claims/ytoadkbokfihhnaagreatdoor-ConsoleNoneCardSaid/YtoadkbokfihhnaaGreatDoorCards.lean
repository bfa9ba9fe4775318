/-
  DERIVED. GIVEN WITH THE SEED: THE CARDS: each row of YtoadkbokfihhnaaGreatDoorRows.lean that lists a variable, with what it lists TIED to the program's text (the seventh form; the later family's looks); each row that meets fmt, with fmt's text TOLD by the authors' own Lean function (tested against real Go, not proved from fmt's source: count such statements apart). THE CARD IS WHAT COUNTS. Prove the row's statement (the work); the ties are given (YtoadkbokfihhnaaGreatDoorTie.lean); close each card by the builder's one call (the guide's Derived/Test/ToyasCard.lean, 'card_holds'). Laid BY PROGRAM, IN A SANDBOX (cutbox-door.mjs). By AI agents, Wed Nov 11 2026. No macro, syntax, notation, axiom, sorry.
-/
import Derived.Test.YtoadkbokfihhnaaGreatDoorRows
import GoSem.ClaimSeven
namespace Go.Proofs.YtoadkbokfihhnaaGreatDoor
namespace Rows

/-- THE TIED CARD OF 'jalousielaw29.ConsoleNone'. -/
def consoleNoneCard : Claim7 := { stood := { row := consoleNoneRow, standIns := [], harness := (true, "447d46d1f0f2e0b7a6f697fbc0f217792edcc92454b2b80cee9c8c12c43f3965"), looks := true }, kinds := [], alts := [], laidByText := true, laidKinds := [.pinned, .data, .data, .data, .data, .data, .listed], laidTests := true, laidLooks := .later }
def ConsoleNoneCardSaid : Prop := Claim7.holds Tryz.pinned (.plain (OpenSpec.ofChange consoleNoneSpec)) consoleNoneCard

/-- THE SECOND FORM's CARD OF 'jalousielaw29.ConsoleNone'. -/
def consoleNoneUptoCard : Claim7 := { stood := { row := consoleNoneUptoRow, standIns := [], harness := (true, "447d46d1f0f2e0b7a6f697fbc0f217792edcc92454b2b80cee9c8c12c43f3965"), looks := true }, kinds := [], alts := [], laidByText := true, laidKinds := [.pinned, .data, .data, .data, .data, .data, .listed], laidTests := true, laidLooks := .later }
def ConsoleNoneUptoCardSaid : Prop := Claim7.holds Tryz.pinned (.plain (OpenSpec.upto consoleNoneSpec)) consoleNoneUptoCard
end Rows
end Go.Proofs.YtoadkbokfihhnaaGreatDoor
