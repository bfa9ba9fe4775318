/-
 The start at which the row of jalousielaw27.ScriptBack is shown to be met: the listed tables laid into memory.
-/
import Derived.Test.YtihlneenajlhoaaGreatDoorRows
import Derived.Lay
import Derived.Handed
import Derived.KernelRfl
set_option linter.unusedVariables false
namespace Go.Proofs.YtihlneenajlhoaaGreatDoor
open Go
def Gs:List (String×DataW Unit):=[("internal/strconv.uint64pow10",Rows.laid_internal_strconv_uint64pow10),("math/bits.deBruijn32tab",Rows.laid_math_bits_deBruijn32tab),("math/bits.deBruijn64tab",Rows.laid_math_bits_deBruijn64tab),("strings.asciiSpace",Rows.laid_strings_asciiSpace),("unicode.White_Space",Rows.laid_unicode_White_Space),("unicode/utf8.first",Rows.laid_unicode_utf8_first),("unicode/utf8.acceptRanges",Rows.laid_unicode_utf8_acceptRanges)]
def KD:Array Value:=#[.slice none 0 0]
def XQ:List (String×DataW Unit):=[("internal/strconv.uint64pow10",Rows.laid_internal_strconv_uint64pow10),("math/bits.deBruijn32tab",Rows.laid_math_bits_deBruijn32tab),("math/bits.deBruijn64tab",Rows.laid_math_bits_deBruijn64tab),("strings.asciiSpace",Rows.laid_strings_asciiSpace),("unicode.White_Space",Rows.laid_unicode_White_Space),("unicode/utf8.acceptRanges",Rows.laid_unicode_utf8_acceptRanges)]
noncomputable def w0 (os:Os):World:=(World.laidAll Tryz.prog os Gs).forCall (fun _ _=>0) ⟨#[],KD,[]⟩
theorem wz1 (os:Os):(w0 os).variablesZipB Tryz.prog=true:=by kernel_rfl
theorem wz2 (os:Os):((w0 os).heap.toList.drop Tryz.prog.globals.size).take ((begin Tryz.prog (fun _ _=>0) default).world.heap.size-Tryz.prog.globals.size)=(begin Tryz.prog (fun _ _=>0) default).world.heap.toList.drop Tryz.prog.globals.size:=by kernel_rfl
end Go.Proofs.YtihlneenajlhoaaGreatDoor
