/-
 Summaries of calls with flat arguments, level 1: what each hands back, found by running it.
-/
import Derived.Test.YtihlneenajlhoaaGreatDoorAw0
set_option linter.unusedVariables false
namespace Go.Proofs.YtihlneenajlhoaaGreatDoor
open Go Go.Proofs.YtihlneenajlhoaaGreatDoor.ae
noncomputable def Wu:List IG:=[
 ⟨158,[(.agg #[(.int .i64 800),(.int .i64 1)])],(.bool true),(ap [] (dd 22))⟩,
 ⟨158,[(.agg #[(.int .i64 600),(.int .i64 1)])],(.bool true),(ap [] (dd 22))⟩,
 ⟨158,[(.agg #[(.int .i64 16),(.int .i64 1)])],(.bool true),(ap [] (dd 22))⟩,
 ⟨158,[(.agg #[(.int .i64 8),(.int .i64 1)])],(.bool true),(ap [] (dd 22))⟩,
 ⟨135,[(.string (bts [102,111,110,116,45,115,105,122,101]))],(.int .i64 2),(ap [] (dd 16))⟩,
 ⟨135,[(.string (bts [99,111,108,111,114]))],(.int .i64 0),(ap [] (dd 16))⟩,
 ⟨368,[(.string (bts [98,108,97,99,107,32,119,104,105,116,101,32,114,101,100,32,103,114,101,101,110,32,98,108,117,101,32,116,114,97,110,115,112,97,114,101,110,116]))],(.slice (some ⟨7,0,none⟩) 6 6),(ap [.cells [(.string (bts [98,108,97,99,107])),(.string (bts [119,104,105,116,101])),(.string (bts [114,101,100])),(.string (bts [103,114,101,101,110])),(.string (bts [98,108,117,101])),(.string (bts [116,114,97,110,115,112,97,114,101,110,116]))] 9 false false] (dd 0))⟩,
 ⟨135,[(.string (bts [100,105,115,112,108,97,121]))],(.int .i64 1),(ap [] (dd 16))⟩,
 ⟨368,[(.string (bts [105,110,108,105,110,101,32,98,108,111,99,107,32,110,111,110,101,32,102,108,101,120,32,103,114,105,100]))],(.slice (some ⟨7,0,none⟩) 5 5),(ap [.cells [(.string (bts [105,110,108,105,110,101])),(.string (bts [98,108,111,99,107])),(.string (bts [110,111,110,101])),(.string (bts [102,108,101,120])),(.string (bts [103,114,105,100]))] 9 false false] (dd 0))⟩,
 ⟨135,[(.string (bts [103,97,112]))],(.int .i64 3),(ap [] (dd 16))⟩,
 ⟨135,[(.string (bts [104,101,105,103,104,116]))],(.int .i64 4),(ap [] (dd 16))⟩,
 ⟨368,[(.string (bts [97,117,116,111]))],(.slice (some ⟨7,0,none⟩) 1 1),(ap [.cells [(.string (bts [97,117,116,111]))] 9 false false] (dd 0))⟩,
 ⟨135,[(.string (bts [108,101,102,116]))],(.int .i64 5),(ap [] (dd 16))⟩,
 ⟨135,[(.string (bts [108,105,110,101,45,104,101,105,103,104,116]))],(.int .i64 6),(ap [] (dd 16))⟩,
 ⟨135,[(.string (bts [109,97,114,103,105,110]))],(.int .i64 7),(ap [] (dd 16))⟩,
 ⟨135,[(.string (bts [111,112,97,99,105,116,121]))],(.int .i64 8),(ap [] (dd 16))⟩,
 ⟨135,[(.string (bts [111,114,100,101,114]))],(.int .i64 9),(ap [] (dd 16))⟩,
 ⟨135,[(.string (bts [112,97,100,100,105,110,103]))],(.int .i64 10),(ap [] (dd 16))⟩,
 ⟨135,[(.string (bts [116,101,120,116,45,97,108,105,103,110]))],(.int .i64 11),(ap [] (dd 16))⟩,
 ⟨368,[(.string (bts [115,116,97,114,116,32,101,110,100,32,99,101,110,116,101,114]))],(.slice (some ⟨7,0,none⟩) 3 3),(ap [.cells [(.string (bts [115,116,97,114,116])),(.string (bts [101,110,100])),(.string (bts [99,101,110,116,101,114]))] 9 false false] (dd 0))⟩,
 ⟨135,[(.string (bts [118,105,115,105,98,105,108,105,116,121]))],(.int .i64 12),(ap [] (dd 16))⟩,
 ⟨368,[(.string (bts [118,105,115,105,98,108,101,32,104,105,100,100,101,110,32,99,111,108,108,97,112,115,101]))],(.slice (some ⟨7,0,none⟩) 3 3),(ap [.cells [(.string (bts [118,105,115,105,98,108,101])),(.string (bts [104,105,100,100,101,110])),(.string (bts [99,111,108,108,97,112,115,101]))] 9 false false] (dd 0))⟩,
 ⟨135,[(.string (bts [119,105,100,116,104]))],(.int .i64 13),(ap [] (dd 16))⟩,
 ⟨111,[(.agg #[(.int .i64 6),(.int .i64 5)])],(.bool true),(ap [] (dd 21))⟩,
 ⟨381,[(.slice none 0 0),(.slice none 0 0)],(.slice none 0 0),(ap [] (dd 15))⟩,
 ⟨687,[(.string (bts [112]))],(.bool true),(ap [] (dd 1))⟩,
 ⟨690,[(.string (bts [118,119]))],(.int .i64 4),(ap [] (dd 5))⟩,
 ⟨438,[(.agg #[(.int .i64 0),(.int .i64 1),(.int .i64 0),(.int .i64 1),(.int .i64 0),(.int .i64 1),(.int .i64 50),(.int .i64 1),(.int .i64 0),(.int .i64 1),(.int .i64 0),(.int .i64 1),(.int .i64 0),(.int .i64 1),(.slice none 0 0)]),(.int .i64 1)],(.bool true),(ap [] (dd 155))⟩]
noncomputable def ext1:Ah:=DI (sumF Wu 7) Pq
theorem chk1:Wu.all (chk Tryz.prog 7 7 hh0 rg Pq (sp []) noD 1000 40)=true:=by kernel_rfl
end Go.Proofs.YtihlneenajlhoaaGreatDoor
