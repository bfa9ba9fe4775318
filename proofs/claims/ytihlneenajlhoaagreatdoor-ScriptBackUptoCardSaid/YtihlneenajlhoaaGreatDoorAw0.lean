/-
 The start of the run of jalousielaw27.awake over known values: the one table that it reads, and the functions without a body that it calls.
-/
import Derived.Test.YtihlneenajlhoaaGreatDoorProg
import Derived.Test.YtihlneenajlhoaaGreatDoorAeD
set_option linter.unusedVariables false
namespace Go.Proofs.YtihlneenajlhoaaGreatDoor
open Go Go.Proofs.YtihlneenajlhoaaGreatDoor.ae
def ascii:List Value:=[0,0,0,0,0,0,0,0,0,1,1,1,1,1,0,0,0,0,0,0,0,0,0,0,0,0,0,0,0,0,0,0,1].map (fun n=>Value.int .u8 n)++List.replicate 223 (.int .u8 0)
def hh0:Go.Proofs.YtihlneenajlhoaaGreatDoor.ae.H:=(T.put (.cells ascii 314 true false) 24 (T.put .dead 24 (T.put .dead 24 (T.put .dead 24 (T.put .dead 24 (T.put .dead 24 (T.put .dead 24 .nil 0) 1) 2) 3) 4) 5) 6)
def noD:EW:=fun _ _ _ _=>none
def bts (l:List Nat):ByteArray:=⟨(l.map UInt8.ofNat).toArray⟩
def dd:Nat→List AB | 0=>[] | k+1=>.dead :: dd k
def ap (a b:List AB):List AB:=a++b
def xs:List (FuncId×XK):=[(113,.same),(151,.flat Extern.BytealgIndexByte.indexByte),(205,.flat Extern.BytealgCount.count),(223,.load .i64),(224,.cas .i64),(387,.store),(506,.load .u32),(509,.store),(511,.add .i64),(649,.flat fun _=>do mark .disable;pure Extern.Race.none_),(650,.cas .i32),(651,.flat fun _=>do mark .enable;pure Extern.Race.none_),(652,.mark .acquire),(654,.mark .releaseMerge),(655,.add .i32)]
noncomputable def Pq:Ah:=DI (xF Tryz.prog xs) (DI (Po ⟨550,479,9⟩) (Po ⟨550,544,9⟩))
noncomputable def rg:Ah→Nat→Ej:=TJ Tryz.prog 7
noncomputable def sp (l:List (FuncId×Nat×Hint)):Ah→Ah:=ndF Tryz.prog 7 rg noD 1000 l
end Go.Proofs.YtihlneenajlhoaaGreatDoor
