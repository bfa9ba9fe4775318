/-
  Summaries of calls with flat arguments, level 3: what each hands back, found by running it.
-/
import Derived.Test.YtoadkbokfihhnaaGreatDoorAw2
set_option linter.unusedVariables false
namespace Go.Proofs.YtoadkbokfihhnaaGreatDoor
open Go Go.Proofs.YtoadkbokfihhnaaGreatDoor.ae
noncomputable def tab3 : List Summ := [
  ⟨112, [(.agg #[(.bool false), (.int .i64 800), (.int .i64 1), (.int .i64 600), (.int .i64 1), (.int .i64 16), (.int .i64 1), (.int .i64 8), (.int .i64 1), (.string (bts [108, 105, 103, 104, 116])), (.string (bts [104, 111, 118, 101, 114])), (.string (bts [102, 105, 110, 101])), (.string (bts [110, 111, 45, 112, 114, 101, 102, 101, 114, 101, 110, 99, 101]))])], (.bool true), (ap [] (dd 94))⟩,
  ⟨113, [(.string (bts [100, 105, 115, 112, 108, 97, 121])), (.agg #[(.int .i64 16), (.int .i64 1)])], (.agg #[(.int .i64 3), (.int .i64 0), (.int .i64 0), (.string (bts [105, 110, 108, 105, 110, 101]))]), (ap [] (dd 37))⟩,
  ⟨113, [(.string (bts [103, 97, 112])), (.agg #[(.int .i64 16), (.int .i64 1)])], (.agg #[(.int .i64 1), (.int .i64 0), (.int .i64 1), (.string (bts []))]), (ap [] (dd 37))⟩,
  ⟨113, [(.string (bts [104, 101, 105, 103, 104, 116])), (.agg #[(.int .i64 16), (.int .i64 1)])], (.agg #[(.int .i64 3), (.int .i64 0), (.int .i64 0), (.string (bts [97, 117, 116, 111]))]), (ap [] (dd 37))⟩,
  ⟨113, [(.string (bts [108, 101, 102, 116])), (.agg #[(.int .i64 16), (.int .i64 1)])], (.agg #[(.int .i64 3), (.int .i64 0), (.int .i64 0), (.string (bts [97, 117, 116, 111]))]), (ap [] (dd 37))⟩,
  ⟨113, [(.string (bts [109, 97, 114, 103, 105, 110])), (.agg #[(.int .i64 16), (.int .i64 1)])], (.agg #[(.int .i64 1), (.int .i64 0), (.int .i64 1), (.string (bts []))]), (ap [] (dd 37))⟩,
  ⟨113, [(.string (bts [111, 112, 97, 99, 105, 116, 121])), (.agg #[(.int .i64 16), (.int .i64 1)])], (.agg #[(.int .i64 2), (.int .i64 1), (.int .i64 1), (.string (bts []))]), (ap [] (dd 37))⟩,
  ⟨113, [(.string (bts [111, 114, 100, 101, 114])), (.agg #[(.int .i64 16), (.int .i64 1)])], (.agg #[(.int .i64 2), (.int .i64 0), (.int .i64 1), (.string (bts []))]), (ap [] (dd 37))⟩,
  ⟨113, [(.string (bts [112, 97, 100, 100, 105, 110, 103])), (.agg #[(.int .i64 16), (.int .i64 1)])], (.agg #[(.int .i64 1), (.int .i64 0), (.int .i64 1), (.string (bts []))]), (ap [] (dd 37))⟩,
  ⟨113, [(.string (bts [119, 105, 100, 116, 104])), (.agg #[(.int .i64 16), (.int .i64 1)])], (.agg #[(.int .i64 3), (.int .i64 0), (.int .i64 0), (.string (bts [97, 117, 116, 111]))]), (ap [] (dd 37))⟩]
noncomputable def ext3 : CallF := orF (sumF tab3 5) ext2
theorem chk3 : tab3.all (chk Tryz.prog 5 5 hh0 rg ext2 (sp []) noD 1000 40) = true := by kernel_rfl
end Go.Proofs.YtoadkbokfihhnaaGreatDoor
