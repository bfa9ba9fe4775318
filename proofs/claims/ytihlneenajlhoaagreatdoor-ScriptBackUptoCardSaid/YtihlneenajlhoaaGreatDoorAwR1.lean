/-
 A call of the run as it stands in its store, number 1.
-/
import Derived.Test.YtihlneenajlhoaaGreatDoorAw3
import Derived.Test.YtihlneenajlhoaaGreatDoorAwR0
set_option linter.unusedVariables false
namespace Go.Proofs.YtihlneenajlhoaaGreatDoor
open Go Go.Proofs.YtihlneenajlhoaaGreatDoor.ae
noncomputable def TS:D8:=⟨232,[(.agg #[z5f,qn]),qt,z5c,qn],1298,[z1k,ze,OD,OE,z35,z3w,z18,zv,z1n,z5t,z1s,z1a,zh,z1b,zi,z1m,zn,z4z,z50,z6g,z25,z4t,z6h,z4u,TN,z4v,z6j,z6k,z6l,z52,z49,z56,TP,z54,z4x,TQ,z57,z40,z4q],(.tuple #[(.agg #[Lj,qn]),qa,qa]),3547,[z1k,ze,OD,OE,z35,z3w,z18,zv,z1n,z5t,z1s,z1a,zh,z1b,zi,z1m,zn,z4z,z50,z6g,z25,z4t,z6h,z4u,TN,z4v,z6j,z6k,z6l,z52,z49,z56,TP,z54,z4x,TQ,z57,z40,z4q,z1r]⟩
theorem iU:EY Tryz.prog 7 rg (DI (EI [row0]) EQ) (sp hints) noD 1000 60 TS=true:=by kernel_rfl
end Go.Proofs.YtihlneenajlhoaaGreatDoor
