/-
  DERIVED. GIVEN WITH THE SEED: THE CARDS: each row of YthbmnacleneflaaGreatDoorRows.lean that lists a variable, with what it lists TIED to the program's text (the seventh form; the later family's looks); each row that meets fmt, with fmt's text TOLD by the authors' own Lean function (tested against real Go, not proved from fmt's source: count such statements apart). THE CARD IS WHAT COUNTS. Prove the row's statement (the work); the ties are given (YthbmnacleneflaaGreatDoorTie.lean); close each card by the builder's one call (the guide's Derived/Test/ToyasCard.lean, 'card_holds'). Laid BY PROGRAM, IN A SANDBOX (cutbox-door.mjs). By AI agents, Wed Nov 11 2026. No macro, syntax, notation, axiom, sorry.
-/
import Derived.Test.YthbmnacleneflaaGreatDoorRows
import GoSem.ClaimSeven
namespace Go.Proofs.YthbmnacleneflaaGreatDoor
namespace Rows

/-- THE TIED CARD OF 'jalousielaw25.DepsClosure'. -/
def depsClosureCard : Claim7 := { stood := { row := depsClosureRow, standIns := [], harness := (true, "aa62f28d533ee9c0228230d760d5aa58d1804cb3271cf78b0cc06c8db27036e5"), looks := true }, kinds := [], alts := [], laidByText := true, laidKinds := [.pinned, .data, .data, .listed, .data], laidTests := true, laidLooks := .later }
def DepsClosureCardSaid : Prop := Claim7.holds Tryz.pinned (.plain (OpenSpec.ofChange depsClosureSpec)) depsClosureCard

/-- THE TIED CARD OF 'jalousielaw25.DepsTree'. -/
def depsTreeCard : Claim7 := { stood := { row := depsTreeRow, standIns := [], harness := (true, "aa62f28d533ee9c0228230d760d5aa58d1804cb3271cf78b0cc06c8db27036e5"), looks := true }, kinds := [], alts := [], laidByText := true, laidKinds := [.pinned, .data, .data, .listed, .data], laidTests := true, laidLooks := .later }
def DepsTreeCardSaid : Prop := Claim7.holds Tryz.pinned (.plain (OpenSpec.ofChange depsTreeSpec)) depsTreeCard

/-- THE SECOND FORM's CARD OF 'jalousielaw25.DepsClosure'. -/
def depsClosureUptoCard : Claim7 := { stood := { row := depsClosureUptoRow, standIns := [], harness := (true, "aa62f28d533ee9c0228230d760d5aa58d1804cb3271cf78b0cc06c8db27036e5"), looks := true }, kinds := [], alts := [], laidByText := true, laidKinds := [.pinned, .data, .data, .listed, .data], laidTests := true, laidLooks := .later }
def DepsClosureUptoCardSaid : Prop := Claim7.holds Tryz.pinned (.plain (OpenSpec.upto depsClosureSpec)) depsClosureUptoCard

/-- THE SECOND FORM's CARD OF 'jalousielaw25.DepsTree'. -/
def depsTreeUptoCard : Claim7 := { stood := { row := depsTreeUptoRow, standIns := [], harness := (true, "aa62f28d533ee9c0228230d760d5aa58d1804cb3271cf78b0cc06c8db27036e5"), looks := true }, kinds := [], alts := [], laidByText := true, laidKinds := [.pinned, .data, .data, .listed, .data], laidTests := true, laidLooks := .later }
def DepsTreeUptoCardSaid : Prop := Claim7.holds Tryz.pinned (.plain (OpenSpec.upto depsTreeSpec)) depsTreeUptoCard
end Rows
end Go.Proofs.YthbmnacleneflaaGreatDoor
