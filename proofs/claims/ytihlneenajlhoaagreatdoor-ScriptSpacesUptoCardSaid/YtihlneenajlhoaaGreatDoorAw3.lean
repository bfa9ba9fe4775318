/-
 Summaries of calls with flat arguments, level 3: what each hands back, found by running it.
-/
import Derived.Test.YtihlneenajlhoaaGreatDoorAw2
set_option linter.unusedVariables false
namespace Go.Proofs.YtihlneenajlhoaaGreatDoor
open Go Go.Proofs.YtihlneenajlhoaaGreatDoor.ae
noncomputable def tab3:List Summ:=[
 ⟨129,[(.agg #[(.bool false),(.int .i64 800),(.int .i64 1),(.int .i64 600),(.int .i64 1),(.int .i64 16),(.int .i64 1),(.int .i64 8),(.int .i64 1),(.string (bts [108,105,103,104,116])),(.string (bts [104,111,118,101,114])),(.string (bts [102,105,110,101])),(.string (bts [110,111,45,112,114,101,102,101,114,101,110,99,101]))])],(.bool true),(ap [] (dd 94))⟩,
 ⟨304,[(.string (bts [99,111,108,111,114])),(.agg #[(.int .i64 16),(.int .i64 1)])],(.agg #[(.int .i64 3),(.int .i64 0),(.int .i64 0),(.string (bts [98,108,97,99,107]))]),(ap [] (dd 37))⟩,
 ⟨304,[(.string (bts [100,105,115,112,108,97,121])),(.agg #[(.int .i64 16),(.int .i64 1)])],(.agg #[(.int .i64 3),(.int .i64 0),(.int .i64 0),(.string (bts [105,110,108,105,110,101]))]),(ap [] (dd 37))⟩,
 ⟨304,[(.string (bts [103,97,112])),(.agg #[(.int .i64 16),(.int .i64 1)])],(.agg #[(.int .i64 1),(.int .i64 0),(.int .i64 1),(.string (bts []))]),(ap [] (dd 37))⟩,
 ⟨304,[(.string (bts [104,101,105,103,104,116])),(.agg #[(.int .i64 16),(.int .i64 1)])],(.agg #[(.int .i64 3),(.int .i64 0),(.int .i64 0),(.string (bts [97,117,116,111]))]),(ap [] (dd 37))⟩,
 ⟨304,[(.string (bts [108,101,102,116])),(.agg #[(.int .i64 16),(.int .i64 1)])],(.agg #[(.int .i64 3),(.int .i64 0),(.int .i64 0),(.string (bts [97,117,116,111]))]),(ap [] (dd 37))⟩,
 ⟨304,[(.string (bts [108,105,110,101,45,104,101,105,103,104,116])),(.agg #[(.int .i64 16),(.int .i64 1)])],(.agg #[(.int .i64 2),(.int .i64 6),(.int .i64 5),(.string (bts []))]),(ap [] (dd 37))⟩,
 ⟨304,[(.string (bts [109,97,114,103,105,110])),(.agg #[(.int .i64 16),(.int .i64 1)])],(.agg #[(.int .i64 1),(.int .i64 0),(.int .i64 1),(.string (bts []))]),(ap [] (dd 37))⟩,
 ⟨304,[(.string (bts [111,112,97,99,105,116,121])),(.agg #[(.int .i64 16),(.int .i64 1)])],(.agg #[(.int .i64 2),(.int .i64 1),(.int .i64 1),(.string (bts []))]),(ap [] (dd 37))⟩,
 ⟨304,[(.string (bts [111,114,100,101,114])),(.agg #[(.int .i64 16),(.int .i64 1)])],(.agg #[(.int .i64 2),(.int .i64 0),(.int .i64 1),(.string (bts []))]),(ap [] (dd 37))⟩,
 ⟨304,[(.string (bts [112,97,100,100,105,110,103])),(.agg #[(.int .i64 16),(.int .i64 1)])],(.agg #[(.int .i64 1),(.int .i64 0),(.int .i64 1),(.string (bts []))]),(ap [] (dd 37))⟩,
 ⟨304,[(.string (bts [116,101,120,116,45,97,108,105,103,110])),(.agg #[(.int .i64 16),(.int .i64 1)])],(.agg #[(.int .i64 3),(.int .i64 0),(.int .i64 0),(.string (bts [115,116,97,114,116]))]),(ap [] (dd 37))⟩,
 ⟨304,[(.string (bts [118,105,115,105,98,105,108,105,116,121])),(.agg #[(.int .i64 16),(.int .i64 1)])],(.agg #[(.int .i64 3),(.int .i64 0),(.int .i64 0),(.string (bts [118,105,115,105,98,108,101]))]),(ap [] (dd 37))⟩,
 ⟨304,[(.string (bts [119,105,100,116,104])),(.agg #[(.int .i64 16),(.int .i64 1)])],(.agg #[(.int .i64 3),(.int .i64 0),(.int .i64 0),(.string (bts [97,117,116,111]))]),(ap [] (dd 37))⟩,
 ⟨644,[(.agg #[(.int .i64 2),(.string (bts [112])),(.int .i64 0),(.string (bts [])),(.bool false),(.slice none 0 0),(.int .i64 0),(.int .i64 0)]),(.int .i64 1)],(.bool true),(ap [] (dd 8))⟩]
noncomputable def ext3:CallF:=orF (sumF tab3 7) ext2
theorem chk3:tab3.all (chk Tryz.prog 7 7 hh0 rg ext2 (sp []) noD 1000 40)=true:=by kernel_rfl
end Go.Proofs.YtihlneenajlhoaaGreatDoor
/-
 Summaries of calls with flat arguments, level 4: what each hands back, found by running it.
-/
set_option linter.unusedVariables false
namespace Go.Proofs.YtihlneenajlhoaaGreatDoor
open Go Go.Proofs.YtihlneenajlhoaaGreatDoor.ae
noncomputable def tab4:List Summ:=[
 ⟨230,[(.agg #[(.bool false),(.int .i64 800),(.int .i64 1),(.int .i64 600),(.int .i64 1),(.int .i64 16),(.int .i64 1),(.int .i64 8),(.int .i64 1),(.string (bts [108,105,103,104,116])),(.string (bts [104,111,118,101,114])),(.string (bts [102,105,110,101])),(.string (bts [110,111,45,112,114,101,102,101,114,101,110,99,101]))])],(.agg #[(.slice (some ⟨730,0,none⟩) 14 big),(.slice none 0 0)]),(ap [.dead,.dead,.dead,.dead,.dead,.dead,.dead,.dead,.dead,.dead,.dead,.dead,.dead,.dead,.dead,.dead,.dead,.dead,.dead,.dead,.dead,.dead,.dead,.dead,.dead,.dead,.dead,.dead,.dead,.dead,.dead,.dead,.dead,.dead,.dead,.dead,.dead,.dead,.dead,.dead,.dead,.dead,.dead,.dead,.dead,.dead,.dead,.dead,.dead,.dead,.dead,.dead,.dead,.dead,.dead,.dead,.dead,.dead,.dead,.dead,.dead,.dead,.dead,.dead,.dead,.dead,.dead,.dead,.dead,.dead,.dead,.dead,.dead,.dead,.dead,.dead,.dead,.dead,.dead,.dead,.dead,.dead,.dead,.dead,.dead,.dead,.dead,.dead,.dead,.dead,.dead,.dead,.dead,.dead,.dead,.dead,.dead,.dead,.dead,.dead,.dead,.dead,.dead,.dead,.dead,.dead,.dead,.dead,.dead,.dead,.dead,.dead,.dead,.dead,.dead,.dead,.dead,.dead,.dead,.dead,.dead,.dead,.dead,.dead,.dead,.dead,.dead,.dead,.dead,.dead,.dead,.dead,.dead,.dead,.dead,.dead,.dead,.dead,.dead,.dead,.dead,.dead,.dead,.dead,.dead,.dead,.dead,.dead,.dead,.dead,.dead,.dead,.dead,.dead,.dead,.dead,.dead,.dead,.dead,.dead,.dead,.dead,.dead,.dead,.dead,.dead,.dead,.dead,.dead,.dead,.dead,.dead,.dead,.dead,.dead,.dead,.dead,.dead,.dead,.dead,.dead,.dead,.dead,.dead,.dead,.dead,.dead,.dead,.dead,.dead,.dead,.dead,.dead,.dead,.dead,.dead,.dead,.dead,.dead,.dead,.dead,.dead,.dead,.dead,.dead,.dead,.dead,.dead,.dead,.dead,.dead,.dead,.dead,.dead,.dead,.dead,.dead,.dead,.dead,.dead,.dead,.dead,.dead,.dead,.dead,.dead,.dead,.dead,.dead,.dead,.dead,.dead,.dead,.dead,.dead,.dead,.dead,.dead,.dead,.dead,.dead,.dead,.dead,.dead,.dead,.dead,.dead,.dead,.dead,.dead,.dead,.dead,.dead,.dead,.dead,.dead,.dead,.dead,.dead,.dead,.dead,.dead,.dead,.dead,.dead,.dead,.dead,.dead,.dead,.dead,.dead,.dead,.dead,.dead,.dead,.dead,.dead,.dead,.dead,.dead,.dead,.dead,.dead,.dead,.dead,.dead,.dead,.dead,.dead,.dead,.dead,.dead,.dead,.dead,.dead,.dead,.dead,.dead,.dead,.dead,.dead,.dead,.dead,.dead,.dead,.dead,.dead,.dead,.dead,.dead,.dead,.dead,.dead,.dead,.dead,.dead,.dead,.dead,.dead,.dead,.dead,.dead,.dead,.dead,.dead,.dead,.dead,.dead,.dead,.dead,.dead,.dead,.dead,.dead,.dead,.dead,.dead,.dead,.dead,.dead,.dead,.dead,.dead,.dead,.dead,.dead,.dead,.dead,.dead,.dead,.dead,.dead,.dead,.dead,.dead,.dead,.dead,.dead,.dead,.dead,.dead,.dead,.dead,.dead,.dead,.dead,.dead,.dead,.dead,.dead,.dead,.dead,.dead,.dead,.dead,.dead,.dead,.dead,.dead,.dead,.dead,.dead,.dead,.dead,.dead,.dead,.dead,.dead,.dead,.dead,.dead,.dead,.dead,.dead,.dead,.dead,.dead,.dead,.dead,.dead,.dead,.dead,.dead,.dead,.dead,.dead,.dead,.dead,.dead,.dead,.dead,.dead,.dead,.dead,.dead,.dead,.dead,.dead,.dead,.dead,.dead,.dead,.dead,.dead,.dead,.dead,.dead,.dead,.dead,.dead,.dead,.dead,.dead,.dead,.dead,.dead,.dead,.dead,.dead,.dead,.dead,.dead,.dead,.dead,.dead,.dead,.dead,.dead,.dead,.dead,.dead,.dead,.dead,.dead,.dead,.dead,.dead,.dead,.dead,.dead,.dead,.dead,.dead,.dead,.dead,.dead,.dead,.dead,.dead,.dead,.dead,.dead,.dead,.dead,.dead,.dead,.dead,.dead,.dead,.dead,.dead,.dead,.dead,.dead,.dead,.dead,.dead,.dead,.dead,.dead,.dead,.dead,.dead,.dead,.dead,.dead,.dead,.dead,.dead,.dead,.dead,.dead,.dead,.dead,.dead,.dead,.dead,.dead,.dead,.dead,.dead,.dead,.dead,.dead,.dead,.dead,.dead,.dead,.dead,.dead,.dead,.dead,.dead,.dead,.dead,.dead,.dead,.dead,.dead,.dead,.dead,.dead,.dead,.dead,.dead,.dead,.dead,.dead,.dead,.dead,.dead,.dead,.dead,.dead,.dead,.dead,.dead,.dead,.dead,.dead,.dead,.dead,.dead,.dead,.dead,.dead,.dead,.dead,.dead,.dead,.dead,.dead,.dead,.dead,.dead,.dead,.dead,.dead,.dead,.dead,.dead,.dead,.dead,.dead,.dead,.dead,.dead,.dead,.dead,.dead,.dead,.dead,.dead,.dead,.dead,.dead,.dead,.dead,.dead,.dead,.dead,.dead,.dead,.dead,.dead,.dead,.dead,.dead,.dead,.dead,.dead,.dead,.dead,.dead,.dead,.dead,.dead,.dead,.dead,.dead,.dead,.dead,.dead,.dead,.dead,.dead,.dead,.dead,.dead,.dead,.dead,.dead,.dead,.dead,.dead,.dead,.dead,.dead,.dead,.dead,.dead,.dead,.dead,.dead,.dead,.dead,.dead,.dead,.dead,.dead,.dead,.dead,.dead,.dead,.dead,.dead,.dead,.dead,.dead,.dead,.dead,.dead,.dead,.dead,.dead,.dead,.dead,.dead,.dead,.dead,.dead,.dead,.dead,.dead,.dead,.dead,.dead,.dead,.dead,.dead,.dead,.dead,.dead,.dead,.dead,.dead,.dead,.dead,.dead,.dead,.dead,.dead,.dead,.dead,.dead,.dead,.dead,.dead,.dead,.dead,.dead,.dead,.dead,.dead,.dead,.dead,.dead,.dead,.dead,.dead,.dead,.dead,.dead,.dead,.dead,.dead,.dead,.dead,.dead,.dead,.dead,.dead,.dead,.dead,.dead,.dead,.dead,.dead,.dead,.dead,.dead,.dead,.dead,.cells [(.int .i64 3),(.int .i64 0),(.int .i64 0),(.string (bts [98,108,97,99,107])),(.int .i64 3),(.int .i64 0),(.int .i64 0),(.string (bts [105,110,108,105,110,101])),(.int .i64 1),(.int .i64 16),(.int .i64 1),(.string (bts [])),(.int .i64 1),(.int .i64 0),(.int .i64 1),(.string (bts [])),(.int .i64 3),(.int .i64 0),(.int .i64 0),(.string (bts [97,117,116,111])),(.int .i64 3),(.int .i64 0),(.int .i64 0),(.string (bts [97,117,116,111])),(.int .i64 2),(.int .i64 6),(.int .i64 5),(.string (bts [])),(.int .i64 1),(.int .i64 0),(.int .i64 1),(.string (bts [])),(.int .i64 2),(.int .i64 1),(.int .i64 1),(.string (bts [])),(.int .i64 2),(.int .i64 0),(.int .i64 1),(.string (bts [])),(.int .i64 1),(.int .i64 0),(.int .i64 1),(.string (bts [])),(.int .i64 3),(.int .i64 0),(.int .i64 0),(.string (bts [115,116,97,114,116])),(.int .i64 3),(.int .i64 0),(.int .i64 0),(.string (bts [118,105,115,105,98,108,101])),(.int .i64 3),(.int .i64 0),(.int .i64 0),(.string (bts [97,117,116,111]))] 41 false true] (dd 39))⟩]
noncomputable def ext4:CallF:=orF (sumF tab4 7) ext3
theorem chk4:tab4.all (chk Tryz.prog 7 7 hh0 rg ext3 (sp []) noD 1000 40)=true:=by kernel_rfl
end Go.Proofs.YtihlneenajlhoaaGreatDoor
/-
 The plans of the drawn orders that end in other numbers.
-/
set_option linter.unusedVariables false
namespace Go.Proofs.YtihlneenajlhoaaGreatDoor
open Go Go.Proofs.YtihlneenajlhoaaGreatDoor.ae
def hints:List (FuncId×Nat×Hint):=[
 (370,6621,⟨[6621,6622,6623,6624,6640,6652],[[],[(6653,6652)]]⟩),
 (370,6662,⟨[6662,6663,6664,6665,6681,6693],[[],[(6694,6693)]]⟩)]
def q8 (n:Nat):Value:=.int .u8 n
def qi (n:Int):Value:=.int .i64 n
def q0:Value:=qi 0
def q1:Value:=qi 1
def q2:Value:=qi 2
def q80:Value:=q8 0
def qn:Value:=.slice none 0 0
def qo (b:Nat):Value:=.pointer (some ⟨b,0,none⟩)
def qp (b o:Nat):Value:=.pointer (some ⟨b,o,none⟩)
def qq:Value:=.pointer none
def qs (b o n c:Nat):Value:=.slice (some ⟨b,o,none⟩) n c
def qf:Value:=.bool false
def qt:Value:=.bool true
def qe:Value:=.string (bts [])
def qb (l:List Nat):Value:=.string (bts l)
def qv (l:List Nat):List Value:=l.map fun (n:Nat)=>Value.int .u8 (n:Int)
end Go.Proofs.YtihlneenajlhoaaGreatDoor
