/-
  The start of the run of jalousielaw25.awake over known values: the one table that it reads, and the functions without a body that it calls.
-/
import Derived.Test.YthbmnacleneflaaGreatDoorRows
import Derived.Test.YthbmnacleneflaaGreatDoorAeE
set_option linter.unusedVariables false
namespace Go.Proofs.YthbmnacleneflaaGreatDoor
open Go Go.Proofs.YthbmnacleneflaaGreatDoor.ae
def ascii : List Value := [0,0,0,0,0,0,0,0,0,1,1,1,1,1,0,0,0,0,0,0,0,0,0,0,0,0,0,0,0,0,0,0,1].map (fun n => Value.int .u8 n) ++ List.replicate 223 (.int .u8 0)
def hh0 : Go.Proofs.YthbmnacleneflaaGreatDoor.ae.H := .node (some (.cells ascii 446 true false)) .nil .nil
def noD : CallD := fun _ _ _ _ => none
def bts (l : List Nat) : ByteArray := ⟨(l.map UInt8.ofNat).toArray⟩
def dd : Nat → List AB | 0 => [] | k + 1 => .dead :: dd k
def ap (a b : List AB) : List AB := a ++ b
def xs : List (FuncId × XK) := [(585, .flat Extern.BytealgIndexByte.indexByte), (516, .flat fun _ => do mark .disable; pure Extern.Race.none_), (518, .flat fun _ => do mark .enable; pure Extern.Race.none_), (519, .mark .acquire), (521, .mark .releaseMerge),
  (341, .add .i64), (522, .add .i32), (291, .load .i64), (336, .load .u32), (292, .cas .i64), (517, .cas .i32), (339, .store)]
noncomputable def ext0 : CallF := orF (xF Tryz.prog xs) (orF (seqF ⟨365, 353, 9⟩) (seqF ⟨365, 288, 9⟩))
noncomputable def rg : CallF → Nat → RegF := regionP Tryz.prog 1
noncomputable def sp (l : List (FuncId × Nat × Hint)) : CallF → CallF := ndF Tryz.prog 1 rg noD 1000 l
end Go.Proofs.YthbmnacleneflaaGreatDoor
