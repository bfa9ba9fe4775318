/-
  The start of the run of jalousielaw29.ConsoleNone over known values: the one table that it reads, and the functions without a body that it calls.
-/
import Derived.Test.YtoadkbokfihhnaaGreatDoorProg
import Derived.Test.YtoadkbokfihhnaaGreatDoorAeE
set_option linter.unusedVariables false
namespace Go.Proofs.YtoadkbokfihhnaaGreatDoor
open Go Go.Proofs.YtoadkbokfihhnaaGreatDoor.ae
def ascii : List Value := [0,0,0,0,0,0,0,0,0,1,1,1,1,1,0,0,0,0,0,0,0,0,0,0,0,0,0,0,0,0,0,0,1].map (fun n => Value.int .u8 n) ++ List.replicate 223 (.int .u8 0)
def hh0 : Go.Proofs.YtoadkbokfihhnaaGreatDoor.ae.H := (((((T.put (.cells ascii 540 true false) 24 (T.put .dead 24 (T.put .dead 24 (T.put .dead 24 (T.put .dead 24 .nil 0) 1) 2) 3) 4)))))
def noD : CallD := fun _ _ _ _ => none
def bts (l : List Nat) : ByteArray := ⟨(l.map UInt8.ofNat).toArray⟩
def dd : Nat → List AB | 0 => [] | k + 1 => .dead :: dd k
def ap (a b : List AB) : List AB := a ++ b
def xs : List (FuncId × XK) := [(180, .same), (183, .flat Extern.BytealgCount.count), (184, .flat Extern.BytealgIndexByte.indexByte), (259, .load .i64), (260, .cas .i64), (272, .noZero #[3] 44), (427, .store)]
noncomputable def ext0 : CallF := orF (xF Tryz.prog xs) (orF (seqF ⟨94, 574, 9⟩) (orF (seqF ⟨94, 509, 9⟩) (seqF ⟨94, 43, 9⟩)))
noncomputable def rg : CallF → Nat → RegF := regionP Tryz.prog 5
noncomputable def sp (l : List (FuncId × Nat × Hint)) : CallF → CallF := ndF Tryz.prog 5 rg noD 1000 l
end Go.Proofs.YtoadkbokfihhnaaGreatDoor
