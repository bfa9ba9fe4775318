/-
  DERIVED. GIVEN WITH THE SEED: THE CARDS: each row of YtihlneenajlhoaaGreatDoorRows.lean that lists a variable, with what it lists TIED to the program's text (the seventh form; the later family's looks); each row that meets fmt, with fmt's text TOLD by the authors' own Lean function (tested against real Go, not proved from fmt's source: count such statements apart). THE CARD IS WHAT COUNTS. Prove the row's statement (the work); the ties are given (YtihlneenajlhoaaGreatDoorTie.lean); close each card by the builder's one call (the guide's Derived/Test/ToyasCard.lean, 'card_holds'). Laid BY PROGRAM, IN A SANDBOX (cutbox-door.mjs). By AI agents, Wed Nov 11 2026. No macro, syntax, notation, axiom, sorry.
-/
import Derived.Test.YtihlneenajlhoaaGreatDoorRows
import GoSem.ClaimSeven
namespace Go.Proofs.YtihlneenajlhoaaGreatDoor
namespace Rows

/-- THE TIED CARD OF 'jalousielaw27.ScriptLines'. -/
def scriptLinesCard : Claim7 := { stood := { row := scriptLinesRow, standIns := [], harness := (true, "ac2b628dc0289c73ecba6558592f064be5ad063d83ceedacd9fa020fb94fc565"), looks := true }, kinds := [], alts := [], laidByText := true, laidKinds := [.pinned, .data, .data, .listed, .data, .data, .data], laidTests := true, laidLooks := .later }
def ScriptLinesCardSaid : Prop := Claim7.holds Tryz.pinned (.plain (OpenSpec.ofChange scriptLinesSpec)) scriptLinesCard

/-- THE TIED CARD OF 'jalousielaw27.ScriptParses'. -/
def scriptParsesCard : Claim7 := { stood := { row := scriptParsesRow, standIns := [], harness := (true, "ac2b628dc0289c73ecba6558592f064be5ad063d83ceedacd9fa020fb94fc565"), looks := true }, kinds := [], alts := [], laidByText := true, laidKinds := [.pinned, .data, .data, .listed, .data, .data, .data], laidTests := true, laidLooks := .later }
def ScriptParsesCardSaid : Prop := Claim7.holds Tryz.pinned (.plain (OpenSpec.ofChange scriptParsesSpec)) scriptParsesCard

/-- THE TIED CARD OF 'jalousielaw27.ScriptTells'. -/
def scriptTellsCard : Claim7 := { stood := { row := scriptTellsRow, standIns := [], harness := (true, "ac2b628dc0289c73ecba6558592f064be5ad063d83ceedacd9fa020fb94fc565"), looks := true }, kinds := [], alts := [], laidByText := true, laidKinds := [.data, .data, .data, .data, .listed, .pinned, .data], laidTests := true, laidLooks := .later }
def ScriptTellsCardSaid : Prop := Claim7.holds Tryz.pinned (.plain (OpenSpec.ofChange scriptTellsSpec)) scriptTellsCard

/-- THE TIED CARD OF 'jalousielaw27.ScriptSpaces'. -/
def scriptSpacesCard : Claim7 := { stood := { row := scriptSpacesRow, standIns := [], harness := (true, "ac2b628dc0289c73ecba6558592f064be5ad063d83ceedacd9fa020fb94fc565"), looks := true }, kinds := [], alts := [], laidByText := true, laidKinds := [.data, .data, .data, .data, .listed, .pinned, .data], laidTests := true, laidLooks := .later }
def ScriptSpacesCardSaid : Prop := Claim7.holds Tryz.pinned (.plain (OpenSpec.ofChange scriptSpacesSpec)) scriptSpacesCard

/-- THE TIED CARD OF 'jalousielaw27.ScriptTexts'. -/
def scriptTextsCard : Claim7 := { stood := { row := scriptTextsRow, standIns := [], harness := (true, "ac2b628dc0289c73ecba6558592f064be5ad063d83ceedacd9fa020fb94fc565"), looks := true }, kinds := [], alts := [], laidByText := true, laidKinds := [.data, .data, .data, .data, .listed, .pinned, .data], laidTests := true, laidLooks := .later }
def ScriptTextsCardSaid : Prop := Claim7.holds Tryz.pinned (.plain (OpenSpec.ofChange scriptTextsSpec)) scriptTextsCard

/-- THE TIED CARD OF 'jalousielaw27.ScriptBack'. -/
def scriptBackCard : Claim7 := { stood := { row := scriptBackRow, standIns := [], harness := (true, "ac2b628dc0289c73ecba6558592f064be5ad063d83ceedacd9fa020fb94fc565"), looks := true }, kinds := [], alts := [], laidByText := true, laidKinds := [.data, .data, .data, .data, .listed, .pinned, .data], laidTests := true, laidLooks := .later }
def ScriptBackCardSaid : Prop := Claim7.holds Tryz.pinned (.plain (OpenSpec.ofChange scriptBackSpec)) scriptBackCard

/-- THE SECOND FORM's CARD OF 'jalousielaw27.ScriptLines'. -/
def scriptLinesUptoCard : Claim7 := { stood := { row := scriptLinesUptoRow, standIns := [], harness := (true, "ac2b628dc0289c73ecba6558592f064be5ad063d83ceedacd9fa020fb94fc565"), looks := true }, kinds := [], alts := [], laidByText := true, laidKinds := [.pinned, .data, .data, .listed, .data, .data, .data], laidTests := true, laidLooks := .later }
def ScriptLinesUptoCardSaid : Prop := Claim7.holds Tryz.pinned (.plain (OpenSpec.upto scriptLinesSpec)) scriptLinesUptoCard

/-- THE SECOND FORM's CARD OF 'jalousielaw27.ScriptParses'. -/
def scriptParsesUptoCard : Claim7 := { stood := { row := scriptParsesUptoRow, standIns := [], harness := (true, "ac2b628dc0289c73ecba6558592f064be5ad063d83ceedacd9fa020fb94fc565"), looks := true }, kinds := [], alts := [], laidByText := true, laidKinds := [.pinned, .data, .data, .listed, .data, .data, .data], laidTests := true, laidLooks := .later }
def ScriptParsesUptoCardSaid : Prop := Claim7.holds Tryz.pinned (.plain (OpenSpec.upto scriptParsesSpec)) scriptParsesUptoCard

/-- THE SECOND FORM's CARD OF 'jalousielaw27.ScriptTells'. -/
def scriptTellsUptoCard : Claim7 := { stood := { row := scriptTellsUptoRow, standIns := [], harness := (true, "ac2b628dc0289c73ecba6558592f064be5ad063d83ceedacd9fa020fb94fc565"), looks := true }, kinds := [], alts := [], laidByText := true, laidKinds := [.data, .data, .data, .data, .listed, .pinned, .data], laidTests := true, laidLooks := .later }
def ScriptTellsUptoCardSaid : Prop := Claim7.holds Tryz.pinned (.plain (OpenSpec.upto scriptTellsSpec)) scriptTellsUptoCard

/-- THE SECOND FORM's CARD OF 'jalousielaw27.ScriptSpaces'. -/
def scriptSpacesUptoCard : Claim7 := { stood := { row := scriptSpacesUptoRow, standIns := [], harness := (true, "ac2b628dc0289c73ecba6558592f064be5ad063d83ceedacd9fa020fb94fc565"), looks := true }, kinds := [], alts := [], laidByText := true, laidKinds := [.data, .data, .data, .data, .listed, .pinned, .data], laidTests := true, laidLooks := .later }
def ScriptSpacesUptoCardSaid : Prop := Claim7.holds Tryz.pinned (.plain (OpenSpec.upto scriptSpacesSpec)) scriptSpacesUptoCard

/-- THE SECOND FORM's CARD OF 'jalousielaw27.ScriptTexts'. -/
def scriptTextsUptoCard : Claim7 := { stood := { row := scriptTextsUptoRow, standIns := [], harness := (true, "ac2b628dc0289c73ecba6558592f064be5ad063d83ceedacd9fa020fb94fc565"), looks := true }, kinds := [], alts := [], laidByText := true, laidKinds := [.data, .data, .data, .data, .listed, .pinned, .data], laidTests := true, laidLooks := .later }
def ScriptTextsUptoCardSaid : Prop := Claim7.holds Tryz.pinned (.plain (OpenSpec.upto scriptTextsSpec)) scriptTextsUptoCard

/-- THE SECOND FORM's CARD OF 'jalousielaw27.ScriptBack'. -/
def scriptBackUptoCard : Claim7 := { stood := { row := scriptBackUptoRow, standIns := [], harness := (true, "ac2b628dc0289c73ecba6558592f064be5ad063d83ceedacd9fa020fb94fc565"), looks := true }, kinds := [], alts := [], laidByText := true, laidKinds := [.data, .data, .data, .data, .listed, .pinned, .data], laidTests := true, laidLooks := .later }
def ScriptBackUptoCardSaid : Prop := Claim7.holds Tryz.pinned (.plain (OpenSpec.upto scriptBackSpec)) scriptBackUptoCard
end Rows
end Go.Proofs.YtihlneenajlhoaaGreatDoor
