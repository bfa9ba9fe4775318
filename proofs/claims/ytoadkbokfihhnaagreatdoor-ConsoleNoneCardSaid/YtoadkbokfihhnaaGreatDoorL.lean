/-
  The start at which the row of jalousielaw29.ConsoleNone is shown to be met: the listed tables laid into memory.
-/
import Derived.Test.YtoadkbokfihhnaaGreatDoorRows
import Derived.Lay
import Derived.Handed
set_option linter.unusedVariables false
namespace Go.Proofs.YtoadkbokfihhnaaGreatDoor
open Go
def laidL : List (String × DataW Unit) := [("unicode/utf8.first", Rows.laid_unicode_utf8_first), ("unicode/utf8.acceptRanges", Rows.laid_unicode_utf8_acceptRanges), ("internal/strconv.uint64pow10", Rows.laid_internal_strconv_uint64pow10), ("math/bits.deBruijn32tab", Rows.laid_math_bits_deBruijn32tab), ("math/bits.deBruijn64tab", Rows.laid_math_bits_deBruijn64tab), ("strings.asciiSpace", Rows.laid_strings_asciiSpace), ("unicode.White_Space", Rows.laid_unicode_White_Space)]
def laid6 : List (String × DataW Unit) := [("unicode/utf8.acceptRanges", Rows.laid_unicode_utf8_acceptRanges), ("internal/strconv.uint64pow10", Rows.laid_internal_strconv_uint64pow10), ("math/bits.deBruijn32tab", Rows.laid_math_bits_deBruijn32tab), ("math/bits.deBruijn64tab", Rows.laid_math_bits_deBruijn64tab), ("strings.asciiSpace", Rows.laid_strings_asciiSpace), ("unicode.White_Space", Rows.laid_unicode_White_Space)]
noncomputable def w0 (os : Os) : World := (World.laidAll Tryz.prog os laidL).forCall (fun _ _ => 0) ⟨#[], #[], []⟩
end Go.Proofs.YtoadkbokfihhnaaGreatDoor
