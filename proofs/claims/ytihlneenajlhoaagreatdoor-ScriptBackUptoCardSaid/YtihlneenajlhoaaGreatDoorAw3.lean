/-
 Summaries of calls with flat arguments, level 3: what each hands back, found by running it.
-/
import Derived.Test.YtihlneenajlhoaaGreatDoorAw2
set_option linter.unusedVariables false
namespace Go.Proofs.YtihlneenajlhoaaGreatDoor
open Go Go.Proofs.YtihlneenajlhoaaGreatDoor.ae
noncomputable def Wx:List IG:=[
 ⟨129,[(.agg #[(.bool false),(.int .i64 800),(.int .i64 1),(.int .i64 600),(.int .i64 1),(.int .i64 16),(.int .i64 1),(.int .i64 8),(.int .i64 1),(.string (bts [108,105,103,104,116])),(.string (bts [104,111,118,101,114])),(.string (bts [102,105,110,101])),(.string (bts [110,111,45,112,114,101,102,101,114,101,110,99,101]))])],(.bool true),(ap [] (dd 94))⟩,
 ⟨304,[(.string (bts [99,111,108,111,114])),(.agg #[(.int .i64 16),(.int .i64 1)])],(.agg #[(.int .i64 3),(.int .i64 0),(.int .i64 0),(.string (bts [98,108,97,99,107]))]),(ap [] (dd 37))⟩,
 ⟨304,[(.string (bts [100,105,115,112,108,97,121])),(.agg #[(.int .i64 16),(.int .i64 1)])],(.agg #[(.int .i64 3),(.int .i64 0),(.int .i64 0),(.string (bts [105,110,108,105,110,101]))]),(ap [] (dd 37))⟩,
 ⟨304,[(.string (bts [103,97,112])),(.agg #[(.int .i64 16),(.int .i64 1)])],(.agg #[(.int .i64 1),(.int .i64 0),(.int .i64 1),(.string (bts []))]),(ap [] (dd 37))⟩,
 ⟨304,[(.string (bts [104,101,105,103,104,116])),(.agg #[(.int .i64 16),(.int .i64 1)])],(.agg #[(.int .i64 3),(.int .i64 0),(.int .i64 0),(.string (bts [97,117,116,111]))]),(ap [] (dd 37))⟩,
 ⟨304,[(.string (bts [108,101,102,116])),(.agg #[(.int .i64 16),(.int .i64 1)])],(.agg #[(.int .i64 3),(.int .i64 0),(.int .i64 0),(.string (bts [97,117,116,111]))]),(ap [] (dd 37))⟩,
 ⟨304,[(.string (bts [108,105,110,101,45,104,101,105,103,104,116])),(.agg #[(.int .i64 16),(.int .i64 1)])],(.agg #[(.int .i64 2),(.int .i64 6),(.int .i64 5),(.string (bts []))]),(ap [] (dd 37))⟩,
 ⟨304,[(.string (bts [109,97,114,103,105,110])),(.agg #[(.int .i64 16),(.int .i64 1)])],(.agg #[(.int .i64 1),(.int .i64 0),(.int .i64 1),(.string (bts []))]),(ap [] (dd 37))⟩,
 ⟨304,[(.string (bts [111,112,97,99,105,116,121])),(.agg #[(.int .i64 16),(.int .i64 1)])],(.agg #[(.int .i64 2),(.int .i64 1),(.int .i64 1),(.string (bts []))]),(ap [] (dd 37))⟩,
 ⟨304,[(.string (bts [111,114,100,101,114])),(.agg #[(.int .i64 16),(.int .i64 1)])],(.agg #[(.int .i64 2),(.int .i64 0),(.int .i64 1),(.string (bts []))]),(ap [] (dd 37))⟩,
 ⟨304,[(.string (bts [112,97,100,100,105,110,103])),(.agg #[(.int .i64 16),(.int .i64 1)])],(.agg #[(.int .i64 1),(.int .i64 0),(.int .i64 1),(.string (bts []))]),(ap [] (dd 37))⟩,
 ⟨304,[(.string (bts [116,101,120,116,45,97,108,105,103,110])),(.agg #[(.int .i64 16),(.int .i64 1)])],(.agg #[(.int .i64 3),(.int .i64 0),(.int .i64 0),(.string (bts [115,116,97,114,116]))]),(ap [] (dd 37))⟩,
 ⟨304,[(.string (bts [118,105,115,105,98,105,108,105,116,121])),(.agg #[(.int .i64 16),(.int .i64 1)])],(.agg #[(.int .i64 3),(.int .i64 0),(.int .i64 0),(.string (bts [118,105,115,105,98,108,101]))]),(ap [] (dd 37))⟩,
 ⟨304,[(.string (bts [119,105,100,116,104])),(.agg #[(.int .i64 16),(.int .i64 1)])],(.agg #[(.int .i64 3),(.int .i64 0),(.int .i64 0),(.string (bts [97,117,116,111]))]),(ap [] (dd 37))⟩,
 ⟨644,[(.agg #[(.int .i64 2),(.string (bts [112])),(.int .i64 0),(.string (bts [])),(.bool false),(.slice none 0 0),(.int .i64 0),(.int .i64 0)]),(.int .i64 1)],(.bool true),(ap [] (dd 8))⟩]
noncomputable def TL:Ah:=DI (sumF Wx 7) TK
theorem iI:Wx.all (chk Tryz.prog 7 7 hh0 rg TK (sp []) noD 1000 40)=true:=by kernel_rfl
end Go.Proofs.YtihlneenajlhoaaGreatDoor
/-
 Summaries of calls with flat arguments, level 4: what each hands back, found by running it.
-/
set_option linter.unusedVariables false
namespace Go.Proofs.YtihlneenajlhoaaGreatDoor
open Go Go.Proofs.YtihlneenajlhoaaGreatDoor.ae
noncomputable def Wy:List IG:=[
 ⟨230,[(.agg #[(.bool false),(.int .i64 800),(.int .i64 1),(.int .i64 600),(.int .i64 1),(.int .i64 16),(.int .i64 1),(.int .i64 8),(.int .i64 1),(.string (bts [108,105,103,104,116])),(.string (bts [104,111,118,101,114])),(.string (bts [102,105,110,101])),(.string (bts [110,111,45,112,114,101,102,101,114,101,110,99,101]))])],(.agg #[(.slice (some ⟨730,0,none⟩) 14 big),(.slice none 0 0)]),(ap (ap (dd 723) [.cells [(.int .i64 3),(.int .i64 0),(.int .i64 0),(.string (bts [98,108,97,99,107])),(.int .i64 3),(.int .i64 0),(.int .i64 0),(.string (bts [105,110,108,105,110,101])),(.int .i64 1),(.int .i64 16),(.int .i64 1),(.string (bts [])),(.int .i64 1),(.int .i64 0),(.int .i64 1),(.string (bts [])),(.int .i64 3),(.int .i64 0),(.int .i64 0),(.string (bts [97,117,116,111])),(.int .i64 3),(.int .i64 0),(.int .i64 0),(.string (bts [97,117,116,111])),(.int .i64 2),(.int .i64 6),(.int .i64 5),(.string (bts [])),(.int .i64 1),(.int .i64 0),(.int .i64 1),(.string (bts [])),(.int .i64 2),(.int .i64 1),(.int .i64 1),(.string (bts [])),(.int .i64 2),(.int .i64 0),(.int .i64 1),(.string (bts [])),(.int .i64 1),(.int .i64 0),(.int .i64 1),(.string (bts [])),(.int .i64 3),(.int .i64 0),(.int .i64 0),(.string (bts [115,116,97,114,116])),(.int .i64 3),(.int .i64 0),(.int .i64 0),(.string (bts [118,105,115,105,98,108,101])),(.int .i64 3),(.int .i64 0),(.int .i64 0),(.string (bts [97,117,116,111]))] 41 false true]) (dd 39))⟩]
noncomputable def EQ:Ah:=DI (sumF Wy 7) TL
theorem iJ:Wy.all (chk Tryz.prog 7 7 hh0 rg TL (sp []) noD 1000 40)=true:=by kernel_rfl
end Go.Proofs.YtihlneenajlhoaaGreatDoor
/-
 The plans of the drawn orders that end in other numbers.
-/
set_option linter.unusedVariables false
namespace Go.Proofs.YtihlneenajlhoaaGreatDoor
open Go Go.Proofs.YtihlneenajlhoaaGreatDoor.ae
def hints:List (FuncId×Nat×Hint):=[
 (370,6621,⟨[6621,6622,6623,6624,6640,6652],[[],[(6653,6652)]]⟩),
 (370,6662,⟨[6662,6663,6664,6665,6681,6693],[[],[(6694,6693)]]⟩)]
def q8 (n:Nat):Value:=.int .u8 n
def qi (n:Int):Value:=.int .i64 n
def qa:Value:=qi 0
def qc:Value:=qi 1
def qd:Value:=qi 2
def q80:Value:=q8 0
def qn:Value:=.slice none 0 0
def qo (b:Nat):Value:=.pointer (some ⟨b,0,none⟩)
def qp (b o:Nat):Value:=.pointer (some ⟨b,o,none⟩)
def qq:Value:=.pointer none
def qs (b o n c:Nat):Value:=.slice (some ⟨b,o,none⟩) n c
def qf:Value:=.bool false
def qt:Value:=.bool true
def qe:Value:=.string (bts [])
def qb (l:List Nat):Value:=.string (bts l)
def qv (l:List Nat):List Value:=l.map fun (n:Nat)=>Value.int .u8 (n:Int)
def z5h:Value:=qi 3
def z5k:Value:=qb [98,108,97,99,107]
def z55:Value:=qb [105,110,108,105,110,101]
def z3h:Value:=qi 16
def z42:Value:=qb [97,117,116,111]
def W9:Value:=qb [115,116,97,114,116]
def z5v:Value:=qb [118,105,115,105,98,108,101]
def za:List Value:=[z5h,qa,qa,z5k,z5h,qa,qa,z55,qc,z3h,qc,qe,qc,qa,qc,qe,z5h,qa,qa,z42,z5h,qa,qa,z42,qd,(qi 6),(qi 5),qe,qc,qa,qc,qe,qd,qc,qc,qe,qd,qa,qc,qe,qc,qa,qc,qe,z5h,qa,qa,W9,z5h,qa,qa,z5v,z5h,qa,qa,z42]
def z3r:Value:=qi 800
def z3s:Value:=qi 600
def z5m:Value:=qi 8
def z2n:Value:=qb [108,105,103,104,116]
def z2o:Value:=qb [104,111,118,101,114]
def z2r:Value:=qb [102,105,110,101]
def zu:Value:=qb [110,111,45,112,114,101,102,101,114,101,110,99,101]
def z6c:Value:=qo 123
def zb:List Value:=[qf,z3r,qc,z3s,qc,z3h,qc,z5m,qc,z2n,z2o,z2r,zu,z6c,qq,qq,qq]
def z5p:Value:=qo 4917
def z5a:Value:=qo 4924
def zc:List Value:=[qf,z3r,qc,z3s,qc,z3h,qc,z5m,qc,z2n,z2o,z2r,zu,z5p,qq,qq,z5a]
def ze:Nat×AB:=(7,.cells (qv [115,104,101,101,116,32,50,32,34,112,123,103,97,112,58,53,48,118,119,125,34,10,97,115,107,32,48,32,103,97,112,10]) 5 false false)
def z5w:Value:=qs 4341 0 11 big
def zf:List Value:=[qc,qa,qa,qd,qe,qe,z5w,qa,qa,qa,qa,qa,qe,qa,qa,qa,qa,qf]
def z1k:Nat×AB:=(6,.cells ascii 314 true false)
def z18:Nat×AB:=(113,.map [{ key:=qa,val:=(qo 128),born:=0 }] 1)
def zv:Nat×AB:=(123,.cells [(.map (some 113)),qa,qc] 212 false false)
def z58:Value:=qb [112]
def zk:List Value:=[qa,(.int .i64 (-1)),z58,qn,qn,qa,qe,qa,qc,qa,qc]
def z1n:Nat×AB:=(128,.cells zk 209 false false)
def Lj:Value:=qs 2361 0 14 14
def zq:Nat×AB:=(129,.map [{ key:=qa,val:=(.agg #[qa,Lj,qn,qn,qa]),born:=0 }] 1)
def z43:Value:=.map (some 129)
def z5q:Value:=qo 140
def z5r:Value:=qo 151
def zx:Nat×AB:=(130,.cells [qf,z3r,qc,z3s,qc,z3h,qc,z5m,qc,z2n,z2o,z2r,zu,z5p,qq,qq,z5a,z43,(qo 3583),z5q,z5r,(qo 7192),qn,qc,qa] 184 false false)
def z1a:Nat×AB:=(140,.cells [qn,(qo 141)] 251 false false)
def z3g:Value:=.int .u32 0
def z5l:Value:=.int .i32 0
def zh:Nat×AB:=(141,.cells [z3g,z5l,z3g,(.func (.func 166) #[z5q] #[]),qq,qn,z3g,qa] 337 false false)
def z1b:Nat×AB:=(151,.cells [qn,(qo 152)] 251 false false)
def zi:Nat×AB:=(152,.cells [z3g,z5l,z3g,(.func (.func 166) #[z5r] #[]),qq,qn,z3g,qa] 337 false false)
def z1r:Nat×AB:=(2361,.cells za 41 false false)
def zw:Nat×AB:=(3582,.cells [qa,Lj,qn,qn,qa] 164 false true)
def z1c:Nat×AB:=(3583,.cells [(qs 3582 0 1 big)] 384 false false)
def z5s:List Nat:=[112,123,103,97,112,58,53,48,118,119,125]
def zt:List Value:=qv z5s
def z1x:Nat×AB:=(4341,.cells zt 5 false true)
def z2u:Value:=qb [103,97,112]
def zj:Nat×AB:=(4876,.cells [qc,qa,qa,qd,qe,qe,z5w,qa,qa,qa,qa,qa,qe,qa,qa,qa,qa,qf,(qi 10),qa,qa,qa,z2u,qe,qn,qa,qa,qa,qa,qa,qe,qa,qa,qa,qa,qf] 28 false true)
def z1u:Nat×AB:=(4877,.cells [qq,qn] 92 false false)
def Ea:Nat×AB:=(4878,.cells zf 28 false false)
def z1z:Nat×AB:=(4885,.cells zf 28 false false)
def z6f:List Value:=[qa,qa,qa,qa,qa,qe,qe,qf,qn,qa]
def z1d:Nat×AB:=(4886,.cells z6f 44 false false)
def z2b:Nat×AB:=(4887,.cells zf 28 false false)
def z1h:Nat×AB:=(4888,.cells z6f 44 false false)
def z29:Nat×AB:=(4900,.cells zc 158 false false)
def z1l:Nat×AB:=(4907,.map [{ key:=qa,val:=(qo 4922),born:=0 }] 1)
def z1i:Nat×AB:=(4917,.cells [(.map (some 4907)),qa,qc] 212 false false)
def z22:Nat×AB:=(4922,.cells zk 209 false false)
def z2c:Nat×AB:=(4923,.cells zt 5 false true)
def z1e:Nat×AB:=(4924,.cells [(qs 4923 0 11 big),(qo 4925)] 396 false false)
def z68:Value:=.func (.func 250) #[z5a] #[]
def z1f:Nat×AB:=(4925,.cells [(.int .u32 1),z5l,z3g,z68,(qo 4950),(.int .u32 1),qc] 512 false false)
def z2a:Nat×AB:=(4926,.cells zb 158 false false)
def z2e:Nat×AB:=(4950,.cells [(qs 7054 0 1 big),(qo 7062),qn] 323 false false)
def z27:List Value:=[qd,z58,qa,qe,qf,qn,qa,qa]
def z2s:Nat×AB:=(6782,.cells z27 685 false true)
def z2g:Nat×AB:=(6845,.cells [qa,(qs 6782 0 1 big)] 629 false true)
def z2h:Nat×AB:=(6859,.cells [(qs 6845 0 1 big)] 457 false true)
def z5z:Value:=qi 50
def z1p:Nat×AB:=(7046,.cells [qa,z2u,qc,qc,z5z,qc,(qi 4),qn,qe,qn,qf] 488 false true)
def z1v:Nat×AB:=(7054,.cells [qf,(qs 6859 0 1 big),qn,(qs 7046 0 1 big)] 365 false true)
def z1w:Nat×AB:=(7061,.map [{ key:=(.agg #[qd,z58]),val:=(qs 7166 0 1 big),born:=0 }] 1)
def KC:Nat×AB:=(7062,.cells [(.map (some 7061)),qc] 454 false false)
def Ir:Nat×AB:=(7166,.cells [qa,qa,qa,qc,(qs 7177 0 1 big)] 459 false true)
def z2x:Nat×AB:=(7175,.cells z27 685 false true)
def z2j:Nat×AB:=(7177,.cells [qa,(qs 7175 0 1 big)] 629 false true)
def z2m:Nat×AB:=(7192,.cells [qn,(qo 7193)] 251 false false)
def z1g:Nat×AB:=(7193,.cells [z3g,z5l,z3g,(.func (.func 166) #[(qo 7192)] #[]),qq,qn,z3g,qa] 337 false false)
def z3i:Nat×AB:=(7288,.cells zb 158 false false)
def z3j:Nat×AB:=(7289,.cells zc 158 false false)
def z4j:Nat×AB:=(7292,.map [] 0)
def zy:Nat×AB:=(7295,.cells [qf,z3r,qc,z3s,qc,z3h,qc,z5m,qc,z2n,z2o,z2r,zu,z5p,qq,qq,z5a,(qo 7321),(qo 7331),(qo 4950),(.map (some 7322)),(.map (some 7332)),(.map (some 7341)),(.map (some 7292)),qd] 353 false false)
def Ll:List Value:=[qn,qq,qn]
def z36:Nat×AB:=(7321,.cells Ll 323 false false)
def Lm:Nat×AB:=(7322,.map [] 0)
def z38:Nat×AB:=(7331,.cells Ll 323 false false)
def z4l:Nat×AB:=(7332,.map [] 0)
def z3e:Nat×AB:=(7341,.map [{ key:=qa,val:=qc,born:=0 }] 1)
def z4m:Nat×AB:=(7436,.map [] 0)
def z4n:Nat×AB:=(7437,.map [] 0)
def z3k:Nat×AB:=(7438,.cells [qa] 3 false false)
def z39:Nat×AB:=(8462,.cells [qc,z3h,qc,qe] 41 false false)
def z3u:Nat×AB:=(8475,.cells [qa] 3 false true)
def z32:Nat×AB:=(8578,.cells [qd,qa,qa,qa,qc,(qo 7054)] 368 false true)
def OA:Nat×AB:=(8579,.cells [qa,Lj,qn,qn,qa] 164 false false)
def z3o:Nat×AB:=(8583,.cells zk 209 false false)
def z3p:List Value:=[qa,qn,qn,qn,qa]
def OB:Nat×AB:=(8632,.cells z3p 164 false false)
def z62:Value:=qs 8636 0 1 big
def OC:Nat×AB:=(8633,.cells [qa,qn,qn,z62,qa] 164 false false)
def z30:Nat×AB:=(8634,.cells [qd,qa,qa,qa,qc,(qo 7054)] 368 false false)
def z3d:Nat×AB:=(8635,.cells [qd,qa,qa,qa,qc] 89 false false)
def z2v:Nat×AB:=(8636,.cells [qd,qa,qa,qa,qc] 89 false true)
def z3x:Nat×AB:=(9360,.cells za 41 false true)
def z3y:Value:=qs 9360 0 14 big
def z34:Nat×AB:=(9400,.cells [z3y,qn] 162 false false)
def QA:List Value:=[z3h,qc,qa,qa,z3r,qc,z3s,qc,z3r,qc,z3s,qc]
def z3n:Nat×AB:=(9420,.cells QA 374 false false)
def z4i:List Value:=[z2u,qc,qc,z5z,qc,(qi 4),qn,qe,qn]
def z2p:Nat×AB:=(9501,.cells z4i 482 false true)
def TM:Nat×AB:=(9503,.cells [z3y,qn] 162 false false)
def z4r:Nat×AB:=(9504,.cells QA 374 false false)
def z4h:Nat×AB:=(9505,.cells [qn,qn] 162 false false)
def zg:List (Nat×AB):=[z1k,ze,z18,zv,z1n,zq,zx,z1a,zh,z1b,zi,z1r,zw,z1c,z1x,zj,z1u,Ea,z1z,z1d,z2b,z1h,z29,z1l,z1i,z22,z2c,z1e,z1f,z2a,z2e,z2s,z2g,z2h,z1p,z1v,z1w,KC,Ir,z2x,z2j,z2m,z1g,z3i,z3j,z4j,zy,z36,Lm,z38,z4l,z3e,z4m,z4n,z3k,z39,z3u,z32,OA,z3o,OB,OC,z30,z3d,z2v,z3x,z34,z3n,z2p,TM,z4r,z4h]
def z6o:Value:=qo 162
def zl:Nat×AB:=(130,.cells [qf,z3r,qc,z3s,qc,z3h,qc,z5m,qc,z2n,z2o,z2r,zu,z5p,qq,qq,z5a,z43,(qo 3583),z5q,z5r,z6o,qn,qc,qa] 184 false false)
def XA:Nat×AB:=(7062,.cells [(.map (some 7061)),qa] 454 false false)
def QB:List Value:=[qa,qa,qa,qe]
def zm:List (Nat×AB):=[z1k,ze,z18,zv,z1n,zq,zx,z1a,zh,z1b,zi,z1r,zw,z1c,z1x,zj,z1u,Ea,z1z,z1d,z2b,z1h,z29,z1l,z1i,z22,z2c,z1e,z1f,z2a,z2e,z2s,z2g,z2h,z1p,z1v,z1w,XA,Ir,z2x,z2j,z2m,z1g,z3i,z3j,z4j,zy,z36,Lm,z38,z4l,(7341,.map [] 0),z4m,z4n,z3k,(7439,.cells QB 41 false false),(7440,.cells [Lj,qn] 162 false false),(7441,.cells QB 41 false false)]
def zn:Nat×AB:=(163,.cells [z3g,z5l,z3g,(.func (.func 166) #[z6o] #[]),qq,qn,z3g,qa] 337 false false)
def OD:Nat×AB:=(9,.map [{ key:=qa,val:=(qo 11),born:=0 }] 1)
def OE:Nat×AB:=(11,.cells zk 209 false false)
def z35:Nat×AB:=(12,.cells [(.map (some 9)),qa,qc] 212 false false)
def z3w:Nat×AB:=(18,.cells zb 158 false false)
def z5t:Nat×AB:=(129,.map [] 0)
def z1s:Nat×AB:=(130,.cells [qf,z3r,qc,z3s,qc,z3h,qc,z5m,qc,z2n,z2o,z2r,zu,z6c,qq,qq,qq,z43,qq,z5q,z5r,z6o,qn,qa,qa] 184 false false)
def z1m:Nat×AB:=(162,.cells [qn,(qo 163)] 251 false false)
def z4z:Nat×AB:=(173,.cells zb 158 false false)
def z50:Nat×AB:=(174,.cells zb 158 false false)
def z6g:Nat×AB:=(177,.map [] 0)
def z25:Nat×AB:=(180,.cells [qf,z3r,qc,z3s,qc,z3h,qc,z5m,qc,z2n,z2o,z2r,zu,z6c,qq,qq,qq,(qo 206),(qo 216),(qo 226),(.map (some 207)),(.map (some 217)),(.map (some 227)),(.map (some 177)),qd] 353 false false)
def z4t:Nat×AB:=(206,.cells Ll 323 false false)
def z6h:Nat×AB:=(207,.map [] 0)
def z4u:Nat×AB:=(216,.cells Ll 323 false false)
def TN:Nat×AB:=(217,.map [] 0)
def z4v:Nat×AB:=(226,.cells Ll 323 false false)
def z6j:Nat×AB:=(227,.map [] 0)
def z6k:Nat×AB:=(322,.map [] 0)
def z6l:Nat×AB:=(323,.map [] 0)
def z52:Nat×AB:=(324,.cells [qa] 3 false false)
def z49:Nat×AB:=(389,.cells QB 41 false false)
def z56:Nat×AB:=(402,.cells [qa] 3 false true)
def TP:Nat×AB:=(403,.cells z3p 164 false false)
def z54:Nat×AB:=(407,.cells zk 209 false false)
def z4x:Nat×AB:=(456,.cells z3p 164 false false)
def TQ:Nat×AB:=(457,.cells z3p 164 false false)
def z57:Nat×AB:=(1181,.cells za 41 false true)
def z5f:Value:=qs 1181 0 14 big
def z40:Nat×AB:=(1221,.cells [z5f,qn] 162 false false)
def z4q:Nat×AB:=(1241,.cells QA 374 false false)
def zo:List (Nat×AB):=[z1k,ze,OD,OE,z35,z3w,z18,zv,z1n,z5t,z1s,z1a,zh,z1b,zi,z1m,zn,z4z,z50,z6g,z25,z4t,z6h,z4u,TN,z4v,z6j,z6k,z6l,z52,z49,z56,TP,z54,z4x,TQ,z57,z40,z4q,(1298,.cells [z5f,qn] 162 false false),(1299,.cells QA 374 false false),(1300,.cells [qn,qn] 162 false false)]
def zz:Nat×AB:=(130,.cells [qf,z3r,qc,z3s,qc,z3h,qc,z5m,qc,z2n,z2o,z2r,zu,z6c,qq,qq,qq,z43,(qo 3583),z5q,z5r,z6o,qn,qc,qa] 184 false false)
def z19:Nat×AB:=(4925,.cells [z3g,(.int .i32 1),z3g,z68,qq,z3g,qc] 512 false false)
def z2k:Nat×AB:=(4940,.cells [(qo 4925)] 394 false false)
def z2l:Nat×AB:=(4950,.cells Ll 323 false false)
def z3l:Nat×AB:=(6615,.cells [qc,qe,(qs 6653 0 1 big),(qs 6712 0 1 big),qn] 585 false true)
def TR:Nat×AB:=(6653,.cells [qc,z58,qa,qa,qf,qf,qn] 625 false true)
def z6m:Value:=qb [118,119]
def z3m:Nat×AB:=(6708,.cells [(qi 12),z6m,z5z,qc,qt,qf,qn] 625 false true)
def z3z:Nat×AB:=(6712,.cells [z2u,(qs 6708 0 1 big),qf] 590 false true)
def z17:List (Nat×AB):=[z1k,ze,z18,zv,z1n,zq,zl,z1a,zh,z1b,zi,z1m,zn,z1r,zw,z1c,z1x,zj,z1u,Ea,z1z,z1d,z2b,z1h,z29,z1l,z1i,z22,z2c,z1e,z19,z2a,z2k,z2l,z3l,TR,z3m,z3z]
def Lp:Nat×AB:=(4994,.cells [(.int .i32 112),(.int .i32 123),(.int .i32 103),(.int .i32 97),(.int .i32 112),(.int .i32 58),(.int .i32 53),(.int .i32 48),(.int .i32 118),(.int .i32 119),(.int .i32 125)] 21 false true)
def z1o:Nat×AB:=(10639,.cells [z5h,qa,qa,z5k,z5h,qa,qa,z55,qc,z3h,qc,qe,qc,(qi 400),qc,qe,z5h,qa,qa,z42,z5h,qa,qa,z42,qd,(qi 6),(qi 5),qe,qc,qa,qc,qe,qd,qc,qc,qe,qd,qa,qc,qe,qc,qa,qc,qe,z5h,qa,qa,W9,z5h,qa,qa,z5v,z5h,qa,qa,z42] 41 false false)
def QC:Value:=qb [115,104,101,101,116,32,50,32,34,112,123,103,97,112,58,53,48,118,119,125,34]
def z4f:Value:=qb [97,115,107,32,48,32,103,97,112]
def z1q:Nat×AB:=(3584,.cells [QC,z4f,qe] 9 false false)
def z2d:Nat×AB:=(10755,.cells [(qb [99,111,108,111,114]),(qb [100,105,115,112,108,97,121]),(qb [102,111,110,116,45,115,105,122,101]),z2u,(qb [104,101,105,103,104,116]),(qb [108,101,102,116]),(qb [108,105,110,101,45,104,101,105,103,104,116]),(qb [109,97,114,103,105,110]),(qb [111,112,97,99,105,116,121]),(qb [111,114,100,101,114]),(qb [112,97,100,100,105,110,103]),(qb [116,101,120,116,45,97,108,105,103,110]),(qb [118,105,115,105,98,105,108,105,116,121]),(qb [119,105,100,116,104])] 9 false true)
def z2i:Nat×AB:=(6441,.cells [qc,z58,qa,qa,qf,qf,(qi 23),qe,qa,qa,qf,qf,qc,z2u,qa,qa,qf,qf,z3h,qe,qa,qa,qf,qf,(qi 12),z6m,z5z,qc,qt,qf,(qi 24),qe,qa,qa,qf,qf] 283 false true)
def z2t:Nat×AB:=(10639,.cells [z5h,qa,qa,z5k,z5h,qa,qa,z55,qc,z3h,qc,qe,qa,qa,qa,qe,qa,qa,qa,qe,qa,qa,qa,qe,qa,qa,qa,qe,qa,qa,qa,qe,qa,qa,qa,qe,qa,qa,qa,qe,qa,qa,qa,qe,qa,qa,qa,qe,qa,qa,qa,qe,qa,qa,qa,qe] 41 false false)
def z3a:Value:=.agg #[qf,z3r,qc,z3s,qc,z3h,qc,z5m,qc,z2n,z2o,z2r,zu,z6c,qq,qq,qq]
def XB:List Value:=[qa,qa,qa,qa,qe,qe,qn,qa,qa,qa,qa,qa,qe,qa,qa,qa,qa,qf]
def XC:Nat×AB:=(5835,.cells [qc,z58,qa,qa,qf,qf,(qi 23),qe,qa,qa,qf,qf,qc,z2u,qa,qa,qf,qf,z3h,qe,qa,qa,qf,qf] 283 false true)
def z48:Value:=qs 10639 0 14 14
def z41:Nat×AB:=(129,.map [{ key:=qa,val:=(.agg #[qa,z48,qn,z62,z3h]),born:=0 }] 1)
def z44:Nat×AB:=(10531,.map [{ key:=z2u,val:=(.agg #[qc,qc,z5z,qc,(qi 4),qn,qe,qn]),born:=0 }] 1)
def z45:Value:=.agg #[qc,qa,qa,qd,qe,qe,z5w,qa,qa,qa,qa,qa,qe,qa,qa,qa,qa,qf]
def z47:Nat×AB:=(6475,.cells [(qs 6441 0 6 big),(qs 6470 0 6 6),(qs 6473 0 6 6)] 727 false false)
def z4a:Nat×AB:=(5361,.cells [qc,z58,qa,qa,qf,qf,(qi 23),qe,qa,qa,qf,qf] 283 false true)
def z4d:Nat×AB:=(10958,.cells [z2u,qc,qf,qf,(qs 10957 0 0 0),qc,qa,qc,qe] 439 false false)
def z4g:Nat×AB:=(3908,.cells [(qb [115,104,101,101,116]),qf,(qb [50]),qf] 71 false true)
def z4o:Nat×AB:=(10962,.cells [qc,qc,z5z,qc,(qi 4),qn,qe,qn] 480 false false)
def z4p:Value:=qs 4994 0 11 big
def z4s:Nat×AB:=(12594,.cells [qa,z48,qn,z62,z3h] 164 false true)
def z59:Nat×AB:=(5360,.cells [(qi 23),qe,qa,qa,qf,qf] 283 false false)
def z5c:Value:=.agg #[z3h,qc,qa,qa,z3r,qc,z3s,qc,z3r,qc,z3s,qc]
def z5d:Nat×AB:=(12595,.cells [(qs 12594 0 1 big)] 384 false false)
def z5e:Nat×AB:=(6470,.cells [qa,(qi 5),qa,qa,qa,qa] 3 false false)
def z5g:Nat×AB:=(5834,.cells [z3h,qe,qa,qa,qf,qf] 283 false false)
def z5i:Nat×AB:=(5887,.cells [qa,qe,qa,qa,qf,qf] 283 false false)
def XD:Nat×AB:=(6473,.cells [qa,qc,qa,qa,qa,qa] 3 false false)
def z5n:Nat×AB:=(10923,.cells QB 41 false false)
def XE:Nat×AB:=(3907,.cells [(qb [50]),qf] 71 false false)
def XF:Nat×AB:=(10638,.cells [z48,qn] 162 false false)
def z5x:Nat×AB:=(10533,.cells z4i 482 false false)
def z5y:Value:=qs 6615 0 1 big
def z60:Nat×AB:=(3587,.cells [qa] 29 false false)
def z61:Nat×AB:=(4356,.cells [qa] 29 false false)
def z63:Nat×AB:=(12529,.cells [qa] 3 false true)
def z64:Nat×AB:=(3585,.cells XB 28 false false)
def z65:Nat×AB:=(3586,.cells [qf] 4 false false)
def z66:Nat×AB:=(4354,.cells XB 28 false false)
def z67:Nat×AB:=(4355,.cells [qf] 4 false false)
def z69:Nat×AB:=(10957,.cells [] 9 false false)
def z6a:Nat×AB:=(4351,.cells zf 28 false false)
def XG:Nat×AB:=(4352,.cells zf 28 false false)
def z6d:Nat×AB:=(4353,.cells zf 28 false true)
end Go.Proofs.YtihlneenajlhoaaGreatDoor
