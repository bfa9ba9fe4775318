/-
  The start at which the row of jalousielaw25.DepsClosure is shown to be met: the listed tables laid into memory.
-/
import Derived.Test.YthbmnacleneflaaGreatDoorRows
import Derived.Lay
import Derived.Handed
set_option linter.unusedVariables false
namespace Go.Proofs.YthbmnacleneflaaGreatDoor
open Go
def laidL : List (String × DataW Unit) := [("unicode/utf8.first", Rows.laid_unicode_utf8_first), ("unicode/utf8.acceptRanges", Rows.laid_unicode_utf8_acceptRanges), ("strings.asciiSpace", Rows.laid_strings_asciiSpace), ("unicode.White_Space", Rows.laid_unicode_White_Space), ("math/bits.deBruijn64tab", Rows.laid_math_bits_deBruijn64tab)]
def nilArgs : Array Value := #[.slice none 0 0, .slice none 0 0]
def laid4 : List (String × DataW Unit) := [("unicode/utf8.acceptRanges", Rows.laid_unicode_utf8_acceptRanges), ("strings.asciiSpace", Rows.laid_strings_asciiSpace), ("unicode.White_Space", Rows.laid_unicode_White_Space), ("math/bits.deBruijn64tab", Rows.laid_math_bits_deBruijn64tab)]
noncomputable def w0 (os : Os) : World := (World.laidAll Tryz.prog os laidL).forCall (fun _ _ => 0) ⟨#[], nilArgs, []⟩
end Go.Proofs.YthbmnacleneflaaGreatDoor
