/-
  What the functions of the program name, from number 600 on: tables, by the kernel.
-/
import Derived.Test.YthbmnacleneflaaGreatDoorProg
import Derived.Test.YthbmnacleneflaaGreatDoorBig
import Derived.KernelRfl
set_option linter.unusedVariables false
set_option maxRecDepth 1000000
namespace Go.Proofs.YthbmnacleneflaaGreatDoor
open Go Go.Proofs.YthbmnacleneflaaGreatDoor.big Go.Proofs.YthbmnacleneflaaGreatDoor.ae
def tl3 : List (List Nat) := [[], [], [], [], [], [], [], [], [], [], [], [], [], [], [], [], [], [], [], [], [], [], [], []]
def ti3 : List (Option String) := [some "(*runtime.PanicNilError).Error", some "(*runtime.PanicNilError).RuntimeError", some "(*internal/abi.Type).Align", some "(internal/runtime/maps.unhashableTypeError).Error", some "(internal/runtime/maps.unhashableTypeError).RuntimeError", some "(*jalousie/dom.Tree).Len", some "(*jalousie/full.Sheet).Len", some "(*jalousie/match.Table).Asked", some "(*jalousie/full.Eye).Keep", some "(*jalousie/memo.Count).Value", some "(*strings.Builder).Reset", some "(*errors.errorString).Error", some "(internal/abi.Kind).String", some "var's door: unicode.White_Space holds what its initialiser lays, and nothing in the loaded text writes it or what it leads to (look 11-elder)", some "var's door: unicode._White_Space holds what its initialiser lays, and nothing in the loaded text writes it or what it leads to (look 11-elder)", some "var's door: gosem.cut.vars holds initialisers alone; see the manifest's row cutvarsword (look 11, test files too)", some "var's door: math/bits.deBruijn64tab is laid by its own initialiser, plain data (look 11)", some "var's door: strings.asciiSpace is laid by its own initialiser, plain data (look 11)", some "var's door: the look of gosem.cut.vars went over the folder that the caller named as the repository's root (look 11)", some "var's door: unicode.White_Space is laid by its own initialiser, on the list of Go's own tables (list 10)", some "var's door: unicode._White_Space is laid by its own initialiser, on the list of Go's own tables (list 10)", some "var's door: unicode/utf8.acceptRanges is laid by its own initialiser, plain data (look 11)", some "var's door: unicode/utf8.first is laid by its text alone (pinned 1)", none]
def tg3 : List (List Nat) := [[], [], [], [], [], [], [], [], [], [], [], [], [], [], [], [], [], [], [], [], [], [], [], [5, 4, 8, 8, 1, 0]]
def te3 : List (Option String) := [none, none, none, none, none, none, none, none, none, none, none, none, none, none, none, none, none, none, none, none, none, none, none, none]
theorem hl3 : ((Tryz.prog.funcs.toList.drop 600).take 24).map Tryz.prog.leadsTo = tl3 := by kernel_rfl
theorem hi3 : ((Tryz.prog.funcs.toList.drop 600).take 24).map kIn = ti3 := by kernel_rfl
theorem hg3 : ((Tryz.prog.funcs.toList.drop 600).take 24).map kGl = tg3 := by kernel_rfl
theorem he3 : ((Tryz.prog.funcs.toList.drop 600).take 24).map kEn = te3 := by kernel_rfl
theorem hf3 : ((Tryz.prog.funcs.toList.drop 600).take 24).all (fun f => f.params.all fun t => decide (t < Tryz.prog.types.size)) = true := by kernel_rfl
end Go.Proofs.YthbmnacleneflaaGreatDoor
