/-
 Words in memory: append of a word to a slice of the call's own; laws of the words of a line, word by word. Condition: lengths that fit.
-/
import Derived.Test.YtihlneenajlhoaaGreatDoorS0
import Derived.Maps.AppendAt
import Derived.Test.YtihlneenajlhoaaGreatDoorProg
import Derived.Shelf.Lay
import Derived.Shelf.Lays
import Derived.Shelf.LaysM
import Derived.Shelf.Small.Wraps
import Derived.Shelf.Strings.Search3
import Derived.Shelf.Strings.Trim
import Derived.Shelf.Strings.SplitShaped
import Derived.Ground.NamesProg
import Derived.Laws.ResultCell
import Derived.Lib.IndexAny
import Derived.Shelf.Strings.IndexAnyAll
import Derived.Shelf.Small.Strs
import Derived.Shelf.Small.Utf8
import Derived.Lib.DecodeN
import Derived.Lib.TrimU
import Derived.Laws.RangeAny
import Derived.Deep.RegionHeld
import Derived.OrdersHeld
import Derived.Maps.RangeWalk
import Derived.StringKeys
import Derived.Laws.EntriesVeiled
import Derived.Sort.KeysCollected
import Derived.Deep.RegionLaw
import Derived.Deep.AppendLies
set_option linter.unusedSimpArgs false
set_option linter.unusedVariables false
namespace Go.Proofs.YtihlneenajlhoaaGreatDoor
open Go Go.RowKit
def wdCell (p:List UInt8×Bool):List Value:=[.string (bstr p.1),.bool p.2]
def wdCells (l:List (List UInt8×Bool)):List Value:=l.flatMap wdCell
theorem wdCells_append (l m:List (List UInt8×Bool)):wdCells (l++m)=wdCells l++wdCells m:=by unfold wdCells;rw [List.flatMap_append]
theorem wdCells_one (p:List UInt8×Bool):wdCells [p]=wdCell p:=by simp [wdCells]
theorem info71:(Tryz.prog.info? 71).map (fun i=>(i.zero,i.size,i.bytes))=some (some (.agg #[.string ⟨#[]⟩,.bool false]),2,24):=by kernel_rfl
theorem info110:(Tryz.prog.info? 110).map (fun i=>(i.zero,i.size,i.bytes))=some (some (.agg #[.string ⟨#[]⟩,.bool false]),2,24):=by kernel_rfl
structure WT (T E:TypeId):Prop where
 slice:Tryz.prog.underlying T=some (.slice E)
 info:(Tryz.prog.info? E).map (fun i=>(i.zero,i.size,i.bytes))=some (some (.agg #[.string ⟨#[]⟩,.bool false]),2,24)
theorem wt58:WT 58 71:=⟨Tryz.underlying58,info71⟩
theorem wt73:WT 73 110:=⟨Tryz.underlying73,info110⟩
section
variable {ops:Array Oper} {rest:List Oper} {o:Oper} {a:Act} {Q:Exit→Act→World→Prop} {w:World} {T E:TypeId}
theorem wpl_append_wd (hT:WT T E) (hgd:o.guard=none) (s x:Operand) (ho:o.op=.call { callee:=.builtin .append,args:=#[s,x],argTypes:=#[T,T] }) (base:Nat) (xs:List (List UInt8×Bool)) (d:Value) (hs:a.eval s=d) (hown:w.ownsRow base E 2 d xs.length (wdCells xs))
  (b:Nat) (y:List UInt8×Bool) (fz:Nat×Nat) (hx:a.eval x=.slice (some ⟨b,0,none⟩) 1 1) (hb:w.heap[b]?=some (.cells #[.string (bstr y.1),.bool y.2] E fz)) (hn:xs.length≤1099511627776) (hbase:base≤w.heap.size)
  (h:∀v' w',w'.ownsRow base E 2 v' (xs++[y]).length (wdCells (xs++[y]))→w.grownBy w' d.ownBlock→(v'.ownBlock=d.ownBlock∨v'.ownBlock=some w.heap.size)→wpList Tryz.prog ops Q rest (a.put o.dst v') w'):wpList Tryz.prog ops Q (o :: rest) a w:=by
 obtain ⟨i,hi,hz,hsz,hby⟩:=info_parts hT.info
 refine Go.wpList_append_own_at w hgd s x T ho base E i _ 2 24 hT.slice hi hz hsz hby rfl (by decide) d xs.length (wdCells xs) hs hown ⟨b,0,none⟩ 1 1 (wdCell y) hx rfl (fun j u hu => ?_) (fun u hu => ?_) (by unfold maxLen;omega) (by omega) hbase (fun v' w' k1 k2 _ k3=>h v' w' ?_ k2 k3)
 ·rw [Addr.add_mid,Nat.zero_add,cell_of_row w b j _ E fz hb]
  simpa [wdCell] using hu
 ·simp only [wdCell,List.mem_cons,List.not_mem_nil,or_false] at hu
  rcases hu with rfl | rfl<;>rfl
 ·rw [List.length_append,wdCells_append,wdCells_one]
  exact k1
end
theorem ownsRow_fr {w w':World} {base b:Nat} {e:TypeId} {k n:Nat} {v:Value} {xs:List Value} (h:w.ownsRow base e k v n xs) (hf:Fr w w' b none) (hb:b<base):w'.ownsRow base e k v n xs:=by
 obtain ⟨hl,h5⟩:=h
 refine ⟨hl,h5.imp id fun ⟨g,cap,cur,y1,y2,y3,y4⟩=>⟨g,cap,cur,y1,y2,(hf.block g (lt_of_block y3) (by omega) (fun e=>by cases e)).trans y3,y4⟩⟩
/-! ### The words of a line, word by word -/
open sp in
theorem words_q_none {r:List UInt8} (h:qread r=none):words (34 :: r)=none:=by
 rw [words.eq_def]
 have e:(34 :: r).dropWhile (· == (32:UInt8))=34 :: r:=by rw [List.dropWhile_cons,if_neg (by decide)]
 split
 ·rename_i h1;rw [e] at h1;cases h1
 ·rename_i c r1 h1
  rw [e] at h1
  cases h1
  rw [if_pos rfl]
  split
  ·rfl
  ·rename_i h2;rw [h] at h2;cases h2
open sp in
theorem words_q_some {r t u:List UInt8} (h:qread r=some (t,u)):words (34 :: r)=if u.head?=none∨u.head?=some 32 then (words u).map fun l=>(t,true) :: l else none:=by
 rw [words.eq_def]
 have e:(34 :: r).dropWhile (· == (32:UInt8))=34 :: r:=by rw [List.dropWhile_cons,if_neg (by decide)]
 split
 ·rename_i h1;rw [e] at h1;cases h1
 ·rename_i c r1 h1
  rw [e] at h1
  cases h1
  rw [if_pos rfl]
  split
  ·rename_i h2;rw [h] at h2;cases h2
  ·rename_i h2;rw [h] at h2;cases h2;rfl
open sp in
theorem words_p {c:UInt8} {r:List UInt8} (h1:c≠32) (h2:c≠34):words (c :: r)=if ((c :: r).dropWhile wordB).head?=some 34 then none else (words ((c :: r).dropWhile wordB)).map fun l=>((c :: r).takeWhile wordB,false) :: l:=by
 rw [words.eq_def]
 have e:(c :: r).dropWhile (· == (32:UInt8))=c :: r:=by rw [List.dropWhile_cons,if_neg (by simpa using h1)]
 split
 ·rename_i h3;rw [e] at h3;cases h3
 ·rename_i c1 r1 h3
  rw [e] at h3
  cases h3
  rw [if_neg h2]
end Go.Proofs.YtihlneenajlhoaaGreatDoor
namespace Go.Proofs.YtihlneenajlhoaaGreatDoor
open Go Go.RowKit Go.Shelf
def Tryz.laysCut_ren:Go.Shelf.Ren:=⟨fun | 103=>92 | 210=>123 | 206=>155 | n=>n,fun | 9=>9 | 4=>4 | 24=>93 | 3=>3 | n=>n,fun | n=>n⟩
theorem Tryz.laysCut:Go.Proofs.Lays.n103 Tryz.prog Tryz.laysCut_ren:={
 mixed:=by kernel_rfl,
 f103:=Tryz.func92.trans (congrArg some (by kernel_rfl)),
 f206:=Tryz.func155.trans (congrArg some (by kernel_rfl)),
 f210:=Tryz.func123.trans (congrArg some (by kernel_rfl)),
 t3:=Tryz.underlying3,
 a3:=Tryz.isAgg3,
 z3:=Tryz.sizeOf3,
 v3:=Tryz.zeroValue3,
 t4:=Tryz.underlying4,
 a4:=Tryz.isAgg4,
 z4:=Tryz.sizeOf4,
 v4:=Tryz.zeroValue4,
 t9:=Tryz.underlying9,
 a9:=Tryz.isAgg9,
 z9:=Tryz.sizeOf9,
 v9:=Tryz.zeroValue9,
 t24:=Tryz.underlying93,
 a24:=Tryz.isAgg93,
 z24:=Tryz.sizeOf93,
 v24:=Tryz.zeroValue93 }
def Tryz.laysContains_ren:Go.Shelf.Ren:=⟨fun | 144=>24 | 143=>44 | 219=>85 | 217=>115 | 225=>116 | 224=>117 | 267=>118 | 266=>151 | 314=>152 | n=>n,fun | 9=>9 | 4=>4 | 3=>3 | 5=>5 | 46=>120 | 146=>237 | 51=>236 | n=>n,fun | 1=>0 | n=>n⟩
theorem Tryz.laysContains:Go.Proofs.Lays.n144 Tryz.prog Tryz.laysContains_ren:={
 mixed:=by kernel_rfl,
 f143:=Tryz.func44.trans (congrArg some (by kernel_rfl)),
 f144:=Tryz.func24.trans (congrArg some (by kernel_rfl)),
 f217:=Tryz.func115.trans (congrArg some (by kernel_rfl)),
 f219:=Tryz.func85.trans (congrArg some (by kernel_rfl)),
 f224:=Tryz.func117.trans (congrArg some (by kernel_rfl)),
 f225:=Tryz.func116.trans (congrArg some (by kernel_rfl)),
 f266:=Tryz.func151.trans (congrArg some (by kernel_rfl)),
 f267:=Tryz.func118.trans (congrArg some (by kernel_rfl)),
 f314:=Tryz.func152.trans (congrArg some (by kernel_rfl)),
 t3:=Tryz.underlying3,
 a3:=Tryz.isAgg3,
 z3:=Tryz.sizeOf3,
 v3:=Tryz.zeroValue3,
 t4:=Tryz.underlying4,
 a4:=Tryz.isAgg4,
 z4:=Tryz.sizeOf4,
 v4:=Tryz.zeroValue4,
 t5:=Tryz.underlying5,
 a5:=Tryz.isAgg5,
 z5:=Tryz.sizeOf5,
 v5:=Tryz.zeroValue5,
 t9:=Tryz.underlying9,
 a9:=Tryz.isAgg9,
 z9:=Tryz.sizeOf9,
 v9:=Tryz.zeroValue9,
 t46:=Tryz.underlying120,
 a46:=Tryz.isAgg120,
 z46:=Tryz.sizeOf120,
 v46:=Tryz.zeroValue120,
 t51:=Tryz.underlying236,
 a51:=Tryz.isAgg236,
 z51:=Tryz.sizeOf236,
 v51:=Tryz.zeroValue236,
 t146:=Tryz.underlying237,
 a146:=Tryz.isAgg237,
 z146:=Tryz.sizeOf237,
 v146:=Tryz.zeroValue237,
 g1:=by kernel_rfl }
def Tryz.laysTrim_ren:Go.Shelf.Ren:=⟨fun | 161=>45 | 231=>86 | 227=>87 | 233=>88 | 235=>89 | 228=>119 | 197=>120 | 151=>121 | 260=>153 | 152=>154 | 137=>212 | 119=>213 | 224=>117 | 225=>116 | 217=>115 | 266=>151 | n=>n,fun | 9=>9 | 4=>4 | 3=>3 | 5=>5 | 117=>135 | 116=>134 | 0=>0 | 124=>138 | 105=>198 | 21=>21 | 119=>314 | 46=>120 | 139=>317 | 138=>316 | n=>n,fun | 3=>2 | 4=>3 | n=>n⟩
theorem Tryz.laysTrim:Go.Proofs.Lays.n161 Tryz.prog Tryz.laysTrim_ren:={
 mixed:=by kernel_rfl,
 f119:=Tryz.func213.trans (congrArg some (by kernel_rfl)),
 f137:=Tryz.func212.trans (congrArg some (by kernel_rfl)),
 f151:=Tryz.func121.trans (congrArg some (by kernel_rfl)),
 f152:=Tryz.func154.trans (congrArg some (by kernel_rfl)),
 f161:=Tryz.func45.trans (congrArg some (by kernel_rfl)),
 f197:=Tryz.func120.trans (congrArg some (by kernel_rfl)),
 f217:=Tryz.func115.trans (congrArg some (by kernel_rfl)),
 f224:=Tryz.func117.trans (congrArg some (by kernel_rfl)),
 f225:=Tryz.func116.trans (congrArg some (by kernel_rfl)),
 f227:=Tryz.func87.trans (congrArg some (by kernel_rfl)),
 f228:=Tryz.func119.trans (congrArg some (by kernel_rfl)),
 f231:=Tryz.func86.trans (congrArg some (by kernel_rfl)),
 f233:=Tryz.func88.trans (congrArg some (by kernel_rfl)),
 f235:=Tryz.func89.trans (congrArg some (by kernel_rfl)),
 f260:=Tryz.func153.trans (congrArg some (by kernel_rfl)),
 f266:=Tryz.func151.trans (congrArg some (by kernel_rfl)),
 t0:=Tryz.underlying0,
 a0:=Tryz.isAgg0,
 z0:=Tryz.sizeOf0,
 v0:=Tryz.zeroValue0,
 t3:=Tryz.underlying3,
 a3:=Tryz.isAgg3,
 z3:=Tryz.sizeOf3,
 v3:=Tryz.zeroValue3,
 t4:=Tryz.underlying4,
 a4:=Tryz.isAgg4,
 z4:=Tryz.sizeOf4,
 v4:=Tryz.zeroValue4,
 t5:=Tryz.underlying5,
 a5:=Tryz.isAgg5,
 z5:=Tryz.sizeOf5,
 v5:=Tryz.zeroValue5,
 t9:=Tryz.underlying9,
 a9:=Tryz.isAgg9,
 z9:=Tryz.sizeOf9,
 v9:=Tryz.zeroValue9,
 t21:=Tryz.underlying21,
 a21:=Tryz.isAgg21,
 z21:=Tryz.sizeOf21,
 v21:=Tryz.zeroValue21,
 t46:=Tryz.underlying120,
 a46:=Tryz.isAgg120,
 z46:=Tryz.sizeOf120,
 v46:=Tryz.zeroValue120,
 t105:=Tryz.underlying198,
 a105:=Tryz.isAgg198,
 z105:=Tryz.sizeOf198,
 v105:=Tryz.zeroValue198,
 t116:=Tryz.underlying134,
 a116:=Tryz.isAgg134,
 z116:=Tryz.sizeOf134,
 t117:=Tryz.underlying135,
 a117:=Tryz.isAgg135,
 z117:=Tryz.sizeOf135,
 v117:=Tryz.zeroValue135,
 t119:=Tryz.underlying314,
 a119:=Tryz.isAgg314,
 z119:=Tryz.sizeOf314,
 t124:=Tryz.underlying138,
 a124:=Tryz.isAgg138,
 z124:=Tryz.sizeOf138,
 v124:=Tryz.zeroValue138,
 t138:=Tryz.underlying316,
 a138:=Tryz.isAgg316,
 z138:=Tryz.sizeOf316,
 v138:=Tryz.zeroValue316,
 t139:=Tryz.underlying317,
 a139:=Tryz.isAgg317,
 z139:=Tryz.sizeOf317,
 v139:=Tryz.zeroValue317,
 g3:=by kernel_rfl,
 g4:=by kernel_rfl }
def Tryz.laysSplit_ren:Go.Shelf.Ren:=⟨fun | 146=>71 | 221=>104 | 268=>141 | 138=>142 | 143=>44 | 195=>204 | 197=>120 | 218=>205 | 219=>85 | 260=>153 | 217=>115 | 225=>116 | 224=>117 | 267=>118 | 266=>151 | 314=>152 | n=>n,fun | 9=>9 | 31=>81 | 3=>3 | 4=>4 | 0=>0 | 105=>198 | 21=>21 | 5=>5 | 46=>120 | 119=>314 | 139=>317 | 138=>316 | 146=>237 | 51=>236 | n=>n,fun | 1=>0 | 3=>2 | 4=>3 | n=>n⟩
theorem Tryz.laysSplit:Go.Proofs.LaysM.n146 Tryz.prog Tryz.laysSplit_ren:={
 mixed:=by kernel_rfl,
 f138:=Tryz.func142.trans (congrArg some (by kernel_rfl)),
 f143:=Tryz.func44.trans (congrArg some (by kernel_rfl)),
 f146:=Tryz.func71.trans (congrArg some (by kernel_rfl)),
 f195:=Tryz.func204.trans (congrArg some (by kernel_rfl)),
 f197:=Tryz.func120.trans (congrArg some (by kernel_rfl)),
 f217:=Tryz.func115.trans (congrArg some (by kernel_rfl)),
 f218:=Tryz.func205.trans (congrArg some (by kernel_rfl)),
 f219:=Tryz.func85.trans (congrArg some (by kernel_rfl)),
 f221:=Tryz.func104.trans (congrArg some (by kernel_rfl)),
 f224:=Tryz.func117.trans (congrArg some (by kernel_rfl)),
 f225:=Tryz.func116.trans (congrArg some (by kernel_rfl)),
 f260:=Tryz.func153.trans (congrArg some (by kernel_rfl)),
 f266:=Tryz.func151.trans (congrArg some (by kernel_rfl)),
 f267:=Tryz.func118.trans (congrArg some (by kernel_rfl)),
 f268:=Tryz.func141.trans (congrArg some (by kernel_rfl)),
 f314:=Tryz.func152.trans (congrArg some (by kernel_rfl)),
 t0:=Tryz.underlying0,
 a0:=Tryz.isAgg0,
 z0:=Tryz.sizeOf0,
 v0:=Tryz.zeroValue0,
 t3:=Tryz.underlying3,
 a3:=Tryz.isAgg3,
 z3:=Tryz.sizeOf3,
 v3:=Tryz.zeroValue3,
 t4:=Tryz.underlying4,
 a4:=Tryz.isAgg4,
 z4:=Tryz.sizeOf4,
 v4:=Tryz.zeroValue4,
 t5:=Tryz.underlying5,
 a5:=Tryz.isAgg5,
 z5:=Tryz.sizeOf5,
 v5:=Tryz.zeroValue5,
 t9:=Tryz.underlying9,
 a9:=Tryz.isAgg9,
 z9:=Tryz.sizeOf9,
 v9:=Tryz.zeroValue9,
 t21:=Tryz.underlying21,
 a21:=Tryz.isAgg21,
 z21:=Tryz.sizeOf21,
 v21:=Tryz.zeroValue21,
 t31:=Tryz.underlying81,
 a31:=Tryz.isAgg81,
 z31:=Tryz.sizeOf81,
 v31:=Tryz.zeroValue81,
 t46:=Tryz.underlying120,
 a46:=Tryz.isAgg120,
 z46:=Tryz.sizeOf120,
 v46:=Tryz.zeroValue120,
 t51:=Tryz.underlying236,
 a51:=Tryz.isAgg236,
 z51:=Tryz.sizeOf236,
 v51:=Tryz.zeroValue236,
 t105:=Tryz.underlying198,
 a105:=Tryz.isAgg198,
 z105:=Tryz.sizeOf198,
 v105:=Tryz.zeroValue198,
 t119:=Tryz.underlying314,
 a119:=Tryz.isAgg314,
 z119:=Tryz.sizeOf314,
 t138:=Tryz.underlying316,
 a138:=Tryz.isAgg316,
 z138:=Tryz.sizeOf316,
 v138:=Tryz.zeroValue316,
 t139:=Tryz.underlying317,
 a139:=Tryz.isAgg317,
 z139:=Tryz.sizeOf317,
 v139:=Tryz.zeroValue317,
 t146:=Tryz.underlying237,
 a146:=Tryz.isAgg237,
 z146:=Tryz.sizeOf237,
 v146:=Tryz.zeroValue237,
 g1:=by kernel_rfl,
 g3:=by kernel_rfl,
 g4:=by kernel_rfl,
 i0:=by kernel_rfl,
 i3:=by kernel_rfl,
 i4:=by kernel_rfl,
 i5:=by kernel_rfl,
 i9:=by kernel_rfl,
 i21:=by kernel_rfl,
 i31:=by kernel_rfl,
 i46:=by kernel_rfl,
 i51:=by kernel_rfl,
 i105:=by kernel_rfl,
 i138:=by kernel_rfl,
 i139:=by kernel_rfl,
 i146:=by kernel_rfl,
 m1:=by kernel_rfl,
 s1_3:=fun w h=>Go.Proofs.cell_of_shapedOpen_int (zero:=#[.int .i64 0]) (t:=3) h (of_decide_eq_true (by kernel_rfl)) (by kernel_rfl) rfl (by kernel_rfl) (by kernel_rfl) Tryz.underlying3,
 m3:=by kernel_rfl,
 m4:=by kernel_rfl }
end Go.Proofs.YtihlneenajlhoaaGreatDoor
set_option linter.unusedSimpArgs false
set_option linter.unusedVariables false
namespace Go.Proofs.YtihlneenajlhoaaGreatDoor
open Go Go.RowKit
def bodyOf (t:List UInt8):List UInt8:=if t.head?=some 45 then t.tail else t
theorem cut_minus (t:List UInt8):Lib.trimPrefix t [45]=bodyOf t∧Lib.hasPrefix t [45]=decide (t.head?=some 45):=by
 cases t with
 | nil=>exact ⟨rfl,rfl⟩
 | cons c r =>
  by_cases h:c=45
  ·subst h
   simp [Lib.trimPrefix,Lib.hasPrefix,bodyOf]
  ·have h2:(45==c)=false:=by simpa using Ne.symm h
   simp [Lib.trimPrefix,Lib.hasPrefix,bodyOf,h,List.isPrefixOf,h2]
theorem cutPrefix_any (t:List UInt8) (w:World):Calls Tryz.prog 92 #[.string (bstr t),.string ⟨#[45]⟩] w fun e w'=>e=.returned (.tuple #[.string (bstr (bodyOf t)),.bool (decide (t.head?=some 45))])∧w'=w :=
 (Any.strings_CutPrefix Tryz.laysCut (bstr t) ⟨#[45]⟩ w).mono fun e w' ⟨h1,h2⟩=>⟨by
  rw [h1]
  have:=cut_minus (bstr t).data.toList
  rw [show (⟨#[45]⟩:ByteArray).data.toList = [45] from rfl,this.1,this.2,bstr_toList]
  rfl,h2⟩
theorem str_ne {l m:List UInt8} (h:l≠m):((bstr l).toList==m)=false:=by
 rw [Lib.toList_data,bstr_toList]
 simpa using h
theorem str_eq {l m:List UInt8} (h:l=m):((bstr l).toList==m)=true:=by
 rw [Lib.toList_data,bstr_toList]
 simpa using h
def NumIs (p:List UInt8×Bool) (e:Ending):Prop:=match sp.wNum p with
 | some n=>e=.returned (.int .i64 n)
 | none=>e=.panicked bar
set_option maxRecDepth 100000 in
set_option maxHeartbeats 4000000 in
theorem number_quoted (t:List UInt8) (w:World):Calls Tryz.prog 50 #[.agg #[.string (bstr t),.bool true]] w fun e w'=>e=.panicked bar∧Below w.heap.size w w':=by
 have HB:=Lib.hid (below_new w (.cells #[.string (bstr t),.bool true] 71))
 go_enter Tryz.func50,Tryz.ntmps50
 go_wp2_with (first
  | (go_at_call 92;refine (cutPrefix_any t _).mono ?_;rintro e w1 ⟨rfl,rfl⟩)
  | (go_at_call 23;refine (must_no _).mono ?_;rintro e w1 ⟨rfl,rfl⟩))
 exact ⟨rfl,rfl,HB.out⟩
set_option maxRecDepth 100000 in
set_option maxHeartbeats 4000000 in
theorem number_empty (t:List UInt8) (w:World) (h:bodyOf t = []):Calls Tryz.prog 50 #[.agg #[.string (bstr t),.bool false]] w fun e w'=>e=.panicked bar∧Below w.heap.size w w':=by
 have HB:=Lib.hid (below_new w (.cells #[.string (bstr t),.bool false] 71))
 have hsz:(bstr []).size=0:=rfl
 have HC:=Lib.hid (fun W=>by have:=cutPrefix_any t W;rw [h] at this;exact this)
 clear h
 generalize decide (t.head?=some 45)=bl at HC
 go_enter Tryz.func50,Tryz.ntmps50
 go_wp2_with (first
  | (go_at_call 92;refine (HC.out _).mono ?_;rintro e w1 ⟨rfl,rfl⟩)
  | (go_at_call 23;refine (must_no _).mono ?_;rintro e w1 ⟨rfl,rfl⟩))
 exact ⟨rfl,rfl,HB.out⟩
set_option maxRecDepth 100000 in
set_option maxHeartbeats 4000000 in
theorem number_long (t:List UInt8) (w:World) (h:9<(bodyOf t).length):Calls Tryz.prog 50 #[.agg #[.string (bstr t),.bool false]] w fun e w'=>e=.panicked bar∧Below w.heap.size w w':=by
 have HB:=Lib.hid (below_new w (.cells #[.string (bstr t),.bool false] 71))
 have h1:decide (((bstr (bodyOf t)).size:Int)≥1)=true:=by rw [bstr_size];simp;omega
 have h2:decide (((bstr (bodyOf t)).size:Int)≤9)=false:=by rw [bstr_size];simp;omega
 have HC:=Lib.hid (cutPrefix_any t)
 clear h
 generalize bstr (bodyOf t)=S at HC h1 h2
 generalize decide (t.head?=some 45)=bl at HC
 go_enter Tryz.func50,Tryz.ntmps50
 go_wp2_with (first
  | (go_at_call 92;refine (HC.out _).mono ?_;rintro e w1 ⟨rfl,rfl⟩)
  | (go_at_call 23;refine (must_no _).mono ?_;rintro e w1 ⟨rfl,rfl⟩))
 exact ⟨rfl,rfl,HB.out⟩
set_option maxRecDepth 100000 in
set_option maxHeartbeats 4000000 in
theorem number_zero (t:List UInt8) (w:World) (r:List UInt8) (h:bodyOf t=48 :: r) (hn:r.length≤8) (hz:t≠[48]):Calls Tryz.prog 50 #[.agg #[.string (bstr t),.bool false]] w fun e w'=>e=.panicked bar∧Below w.heap.size w w':=by
 have HB:=Lib.hid (below_new w (.cells #[.string (bstr t),.bool false] 71))
 have h1:decide (((bstr (bodyOf t)).size:Int)≥1)=true:=by rw [bstr_size,h];simp;omega
 have h2:decide (((bstr (bodyOf t)).size:Int)≤9)=true:=by rw [bstr_size,h];simp;omega
 have h3:∀q,(bstr (bodyOf t))[0]'q=48:=by rw [h];intro q;rfl
 have HC:=Lib.hid (cutPrefix_any t)
 have h0:0<(bstr (bodyOf t)).size:=by rw [bstr_size,h];simp
 generalize hS:bstr (bodyOf t)=S at HC h0 h1 h2 h3
 generalize hbl:decide (t.head?=some 45)=bl at HC
 by_cases hr:r = []
 ·have hb:bl=true:=by
   rw [←hbl]
   by_cases q:t.head?=some 45
   ·simp [q]
   ·exfalso
    apply hz
    unfold bodyOf at h
    rw [if_neg q,hr] at h
    exact h
  subst hb
  have hS1:S=⟨#[48]⟩:=by rw [←hS,h,hr];rfl
  subst hS1
  clear hS h hz hbl h3
  go_enter Tryz.func50,Tryz.ntmps50
  go_wp2_with (first
   | (go_at_call 92;refine (HC.out _).mono ?_;rintro e w1 ⟨rfl,rfl⟩)
   | (go_at_call 23;refine (must_no _).mono ?_;rintro e w1 ⟨rfl,rfl⟩))
  exact ⟨rfl,rfl,HB.out⟩
 ·have h4:(S.toList==[48])=false:=by
   rw [←hS,h]
   exact str_ne (fun e=>hr (by cases e;rfl))
  clear hS h hz hbl hr
  go_enter Tryz.func50,Tryz.ntmps50
  go_wp2_with (first
   | (go_at_call 92;refine (HC.out _).mono ?_;rintro e w1 ⟨rfl,rfl⟩)
   | (go_at_call 23;refine (must_no _).mono ?_;rintro e w1 ⟨rfl,rfl⟩))
  exact ⟨rfl,rfl,HB.out⟩
def RowB (w:World) (q:Nat) (xs:List UInt8):Prop:=∀j,j<xs.length→w.cell? ⟨q,j,none⟩=some (.int .u8 (xs.getD j 0).toNat)
theorem conv_bytes (w:World) (xs:List UInt8):∃W2 cp q,(convert 9 22 (.string (bstr xs))).run Tryz.prog w=.ok (.slice (some ⟨q,0,none⟩) xs.length cp) W2∧Below w.heap.size w W2∧RowB W2 q xs:=by
 have h:=Lib.run_convert_string_bytes (P:=Tryz.prog) w 9 22 5 (bstr xs) Tryz.underlying9 Tryz.underlying22 Tryz.underlying5
 refine ⟨_,_,_,by rw [←bstr_size xs];exact h,below_bytes w _,fun j hj => ?_⟩
 have:=Lib.bytesWorld_cell w 5 (bstr xs) j (by rw [bstr_size];exact hj)
 rw [bstr_toList] at this
 exact this
theorem getD_get {l:List UInt8} {k:Nat} (h:k<l.length):l.getD k 0=l[k]:=by simp [List.getD,h]
theorem val_take {l:List UInt8} {k:Nat} (h:k<l.length):sp.val 0 (l.take (k+1))=sp.val 0 (l.take k)*10+((l.getD k 0).toNat-48):=by
 rw [List.take_add_one,List.getElem?_eq_getElem h,Option.toList_some,sp.val_append,sp.val_cons,sp.val_nil,getD_get h]
theorem val_small {l:List UInt8} (h:∀c∈l,sp.digitB c=true) (hn:l.length≤9):sp.val 0 l<1000000000:=by
 have h1:=sp.val_lt l h 0
 have h2:10 ^ l.length≤10 ^ 9:=Nat.pow_le_pow_right (by decide) hn
 omega
def DigIs (X:List UInt8) (bl:Bool) (e:Ending):Prop:=if X.all sp.digitB then e=.returned (.int .i64 (if bl then -(sp.val 0 X:Int) else (sp.val 0 X:Int))) else e=.panicked bar
set_option maxRecDepth 100000 in
set_option maxHeartbeats 4000000 in
theorem number_digits (t:List UInt8) (w:World) (X:List UInt8) (hX:bodyOf t=X) (bl:Bool) (hbl:decide (t.head?=some 45)=bl) (hn:1≤X.length) (hn9:X.length≤9) (hz:X.head?=some 48→X = [48]∧bl=false):Calls Tryz.prog 50 #[.agg #[.string (bstr t),.bool false]] w fun e w'=>DigIs X bl e∧Below w.heap.size w w':=by
 have h0:0<(bstr X).size:=by rw [bstr_size];exact hn
 have h1:decide (((bstr X).size:Int)≥1)=true:=by simp;omega
 have h2:decide (((bstr X).size:Int)≤9)=true:=by rw [bstr_size];simp;omega
 have HC:=Lib.hid (cutPrefix_any t)
 rw [hX,hbl] at HC
 obtain ⟨W2,cp,q,hcv,hbw,hrow⟩:=conv_bytes (w.alloc (.cells #[.string (bstr t),.bool false] 71)) X
 have HB:=Lib.hid ((below_new w (.cells #[.string (bstr t),.bool false] 71)).trans (hbw.mono (by simp)))
 have HROW:=Lib.hid hrow
 have HN:=Lib.hid hn9
 obtain ⟨c,r,hcr⟩:=List.exists_cons_of_ne_nil (List.ne_nil_of_length_pos hn)
 have h3:∀p,(bstr X)[0]'p=c:=by rw [hcr];intro p;rfl
 have h4:c=48→((bstr X).toList==[48])=true∧bl=false:=fun e=>by
  have:=hz (by rw [hcr,e];rfl)
  exact ⟨str_eq this.1,this.2⟩
 have HX:=Lib.hid (rfl:bstr X=bstr X)
 clear hX hbl hbw hrow hn hn9 hz hcr
 generalize hS:bstr X=S at HC h0 h1 h2 h3 h4 hcv
 have HSX:=Lib.hid hS
 clear hS HX
 have key:Calls Tryz.prog 50 #[.agg #[.string (bstr t),.bool false]] w fun e w'=>DigIs X bl e∧Below w.heap.size w w':=by
  by_cases hc:c=48
  ·obtain ⟨h5,rfl⟩:=h4 hc
   subst hc
   go_enter Tryz.func50,Tryz.ntmps50
   go_wp2_with (first
    | (go_at_call 92;refine (HC.out _).mono ?_;rintro e w1 ⟨rfl,rfl⟩)
    | (go_at_call 23;refine (must_yes _).mono ?_;rintro e w1 ⟨rfl,rfl⟩))
   go_loopw [5,44] (fun n i wr=>∃k:Nat,k≤X.length∧i=.int .i64 k∧n=.int .i64 (sp.val 0 (X.take k):Nat)∧(∀x∈X.take k,sp.digitB x=true)∧wr=W2) (fun _ i _=>X.length-(intOf i).toNat)
   case atStart=>exact ⟨0,Nat.zero_le _,rfl,rfl,fun _ h=>(by cases h),rfl⟩
   case round =>
    obtain ⟨k,hk,rfl,rfl,hd,rfl⟩:=hrel
    have HD:=Lib.hid hd
    clear hd
    by_cases hlt:k<X.length
    ·have hcell:=HROW.out k hlt
     have hv:=val_take hlt
     have hs:sp.val 0 (X.take k)<1000000000:=val_small HD.out (by rw [List.length_take];have:=HN.out;omega)
     have hmem:X.getD k 0∈X:=by rw [getD_get hlt];exact List.getElem_mem _
     have hset:∀x∈X.take (k+1),x∈X.take k∨x=X.getD k 0:=fun x hx=>by
      rw [List.take_add_one,List.getElem?_eq_getElem hlt,Option.toList_some] at hx
      rcases List.mem_append.1 hx with h | h
      ·exact .inl h
      ·rw [List.mem_singleton] at h
       exact .inr (by rw [h,getD_get hlt])
     have hX9:(X.length:Int)≤9:=by have:=HN.out;omega
     have HV:=Lib.hid hv;have HM:=Lib.hid hmem;have HSET:=Lib.hid hset
     clear hv hmem hset
     generalize X.getD k 0=K at hcell HV HM HSET
     have hK:=K.toNat_lt
     by_cases hdg:48≤K.toNat∧K.toNat≤57
     ·have t1:decide ((K.toNat:Int)≥48)=true:=by simp;omega
      have t2:decide ((K.toNat:Int)≤57)=true:=by simp;omega
      have hKd:sp.digitB K=true:=by unfold sp.digitB;simp;omega
      have hsub:((K.toNat:Int)-48)=((K.toNat-48:Nat):Int):=by omega
      have hb1:((K.toNat-48:Nat):Int)≤9:=by omega
      have HKD:=Lib.hid hKd
      generalize K.toNat-48=D at hsub hb1 HV
      generalize sp.val 0 (X.take k)=V at hs HV
      clear hdg hKd
      go_wp2_with (first
       | (go_at_call 23;refine (must_yes _).mono ?_;rintro e w1 ⟨rfl,rfl⟩))
      refine ⟨⟨k+1,by omega,by go_num,?_,fun x hx => ?_,trivial⟩,by simp [intOf];omega⟩
      ·rw [HV.out];simp
      ·rcases HSET.out x hx with h | h
       ·exact HD.out x h
       ·rw [h];exact HKD.out
     ·have hKd:sp.digitB K=false:=by unfold sp.digitB;simp;omega
      have HF:Hid (DigIs X false (.panicked bar)):=Lib.hid (by
       unfold DigIs
       rw [if_neg]
       intro hall
       have:=List.all_eq_true.1 hall K HM.out
       rw [hKd] at this
       cases this)
      by_cases q1:48≤K.toNat
      ·have t1:decide ((K.toNat:Int)≥48)=true:=by simp;omega
       have t2:decide ((K.toNat:Int)≤57)=false:=by simp;omega
       clear hdg hKd q1
       go_wp2_with (first
        | (go_at_call 23;refine (must_no _).mono ?_;rintro e w1 ⟨rfl,rfl⟩))
       exact ⟨rfl,HF.out,HB.out⟩
      ·have t1:decide ((K.toNat:Int)≥48)=false:=by simp;omega
       clear hdg hKd q1
       go_wp2_with (first
        | (go_at_call 23;refine (must_no _).mono ?_;rintro e w1 ⟨rfl,rfl⟩))
       exact ⟨rfl,HF.out,HB.out⟩
    ·have hke:k=X.length:=by omega
     subst hke
     have HF:Hid (DigIs X false (.returned (.int .i64 (if false then -(sp.val 0 X:Int) else (sp.val 0 X:Int))))):=Lib.hid (by
      unfold DigIs
      rw [if_pos]
      exact List.all_eq_true.2 fun x hx=>HD.out x (by rw [List.take_length];exact hx))
     have hs:sp.val 0 (X.take X.length)<1000000000:=val_small HD.out (by rw [List.take_length];exact HN.out)
     rw [List.take_length] at hs ⊢
     generalize sp.val 0 X=V at hs HF
     have hX9:(X.length:Int)≤9:=by have:=HN.out;omega
     go_wp2
     go_ret
     exact ⟨HF.out,HB.out⟩
  ·have t5:((c.toNat:Int)==48)=false:=u8ne c 48 hc
   have t5n:((c.toNat:Int) != 48)=true:=by rw [bne,t5];rfl
   clear h4
   go_enter Tryz.func50,Tryz.ntmps50
   go_wp2_with (first
    | (go_at_call 92;refine (HC.out _).mono ?_;rintro e w1 ⟨rfl,rfl⟩)
    | (go_at_call 23;refine (must_yes _).mono ?_;rintro e w1 ⟨rfl,rfl⟩))
   go_loopw [5,44] (fun n i wr=>∃k:Nat,k≤X.length∧i=.int .i64 k∧n=.int .i64 (sp.val 0 (X.take k):Nat)∧(∀x∈X.take k,sp.digitB x=true)∧wr=W2) (fun _ i _=>X.length-(intOf i).toNat)
   case atStart=>exact ⟨0,Nat.zero_le _,rfl,rfl,fun _ h=>(by cases h),rfl⟩
   case round =>
    obtain ⟨k,hk,rfl,rfl,hd,rfl⟩:=hrel
    have HD:=Lib.hid hd
    clear hd
    by_cases hlt:k<X.length
    ·have hcell:=HROW.out k hlt
     have hv:=val_take hlt
     have hs:sp.val 0 (X.take k)<1000000000:=val_small HD.out (by rw [List.length_take];have:=HN.out;omega)
     have hmem:X.getD k 0∈X:=by rw [getD_get hlt];exact List.getElem_mem _
     have hset:∀x∈X.take (k+1),x∈X.take k∨x=X.getD k 0:=fun x hx=>by
      rw [List.take_add_one,List.getElem?_eq_getElem hlt,Option.toList_some] at hx
      rcases List.mem_append.1 hx with h | h
      ·exact .inl h
      ·rw [List.mem_singleton] at h
       exact .inr (by rw [h,getD_get hlt])
     have hX9:(X.length:Int)≤9:=by have:=HN.out;omega
     have HV:=Lib.hid hv;have HM:=Lib.hid hmem;have HSET:=Lib.hid hset
     clear hv hmem hset
     generalize X.getD k 0=K at hcell HV HM HSET
     have hK:=K.toNat_lt
     by_cases hdg:48≤K.toNat∧K.toNat≤57
     ·have t1:decide ((K.toNat:Int)≥48)=true:=by simp;omega
      have t2:decide ((K.toNat:Int)≤57)=true:=by simp;omega
      have hKd:sp.digitB K=true:=by unfold sp.digitB;simp;omega
      have hsub:((K.toNat:Int)-48)=((K.toNat-48:Nat):Int):=by omega
      have hb1:((K.toNat-48:Nat):Int)≤9:=by omega
      have HKD:=Lib.hid hKd
      generalize K.toNat-48=D at hsub hb1 HV
      generalize sp.val 0 (X.take k)=V at hs HV
      clear hdg hKd
      go_wp2_with (first
       | (go_at_call 23;refine (must_yes _).mono ?_;rintro e w1 ⟨rfl,rfl⟩))
      refine ⟨⟨k+1,by omega,by go_num,?_,fun x hx => ?_,trivial⟩,by simp [intOf];omega⟩
      ·rw [HV.out];simp
      ·rcases HSET.out x hx with h | h
       ·exact HD.out x h
       ·rw [h];exact HKD.out
     ·have hKd:sp.digitB K=false:=by unfold sp.digitB;simp;omega
      have HF:Hid (DigIs X bl (.panicked bar)):=Lib.hid (by
       unfold DigIs
       rw [if_neg]
       intro hall
       have:=List.all_eq_true.1 hall K HM.out
       rw [hKd] at this
       cases this)
      by_cases q1:48≤K.toNat
      ·have t1:decide ((K.toNat:Int)≥48)=true:=by simp;omega
       have t2:decide ((K.toNat:Int)≤57)=false:=by simp;omega
       clear hdg hKd q1
       go_wp2_with (first
        | (go_at_call 23;refine (must_no _).mono ?_;rintro e w1 ⟨rfl,rfl⟩))
       exact ⟨rfl,HF.out,HB.out⟩
      ·have t1:decide ((K.toNat:Int)≥48)=false:=by simp;omega
       clear hdg hKd q1
       go_wp2_with (first
        | (go_at_call 23;refine (must_no _).mono ?_;rintro e w1 ⟨rfl,rfl⟩))
       exact ⟨rfl,HF.out,HB.out⟩
    ·have hke:k=X.length:=by omega
     subst hke
     have HF:Hid (DigIs X bl (.returned (.int .i64 (if bl then -(sp.val 0 X:Int) else (sp.val 0 X:Int))))):=Lib.hid (by
      unfold DigIs
      rw [if_pos]
      exact List.all_eq_true.2 fun x hx=>HD.out x (by rw [List.take_length];exact hx))
     have hs:sp.val 0 (X.take X.length)<1000000000:=val_small HD.out (by rw [List.take_length];exact HN.out)
     rw [List.take_length] at hs ⊢
     generalize sp.val 0 X=V at hs HF
     have hX9:(X.length:Int)≤9:=by have:=HN.out;omega
     cases bl
     ·go_wp2
      go_ret
      exact ⟨HF.out,HB.out⟩
     ·go_wp2
      go_ret
      exact ⟨HF.out,HB.out⟩
 exact key
theorem num_body (t:List UInt8):sp.num t=if bodyOf t = []∨9<(bodyOf t).length∨((bodyOf t).head?=some 48∧t≠[48]) then none else if (bodyOf t).all sp.digitB then some (if t.head?=some 45 then -(sp.val 0 (bodyOf t):Int) else (sp.val 0 (bodyOf t):Int)) else none:=rfl
theorem wnum_any (p:List UInt8×Bool) (w:World):Calls Tryz.prog 50 #[.agg #[.string (bstr p.1),.bool p.2]] w fun e w'=>NumIs p e∧Below w.heap.size w w':=by
 obtain ⟨t,q⟩:=p
 cases q with
 | true=>exact (number_quoted t w).mono fun e w' ⟨h1,h2⟩=>⟨h1,h2⟩
 | false =>
  have e0:sp.wNum (t,false)=sp.num t:=rfl
  have hm:bodyOf t = []∨9<(bodyOf t).length∨((bodyOf t).head?=some 48∧t≠[48])→∀e,e=.panicked bar→NumIs (t,false) e:=fun h e he=>by
   unfold NumIs
   rw [e0,num_body,if_pos h]
   exact he
  by_cases h1:bodyOf t = []
  ·exact (number_empty t w h1).mono fun e w' ⟨k1,k2⟩=>⟨hm (.inl h1) e k1,k2⟩
  by_cases h2:9<(bodyOf t).length
  ·exact (number_long t w h2).mono fun e w' ⟨k1,k2⟩=>⟨hm (.inr (.inl h2)) e k1,k2⟩
  by_cases h3:(bodyOf t).head?=some 48∧t≠[48]
  ·obtain ⟨r,hr⟩:∃r,bodyOf t=48 :: r:=by
    cases hb:bodyOf t with
    | nil=>exact absurd hb h1
    | cons c r=>rw [hb] at h3;obtain ⟨h3,_⟩:=h3;cases h3;exact ⟨r,rfl⟩
   exact (number_zero t w r hr (by rw [hr] at h2;simp at h2;omega) h3.2).mono fun e w' ⟨k1,k2⟩=>⟨hm (.inr (.inr h3)) e k1,k2⟩
  refine (number_digits t w (bodyOf t) rfl _ rfl (List.length_pos_iff.2 h1) (by omega) fun h => ?_).mono fun e w' ⟨k1,k2⟩=>⟨?_,k2⟩
  ·have ht:t = [48]:=Classical.byContradiction fun hne=>h3 ⟨h,hne⟩
   subst ht
   exact ⟨rfl,rfl⟩
  ·unfold NumIs
   rw [e0,num_body,if_neg (fun h=>h.elim h1 fun h=>h.elim h2 h3)]
   unfold DigIs at k1
   by_cases ha:(bodyOf t).all sp.digitB=true
   ·rw [if_pos ha] at k1 ⊢
    rw [k1]
    simp only [decide_eq_true_eq]
   ·rw [if_neg ha] at k1 ⊢
    exact k1
theorem bstr_at {l:List UInt8} {k:Nat} (h:k<l.length):∀p,(bstr l)[k]'p=l.getD k 0:=fun p=>by
 rw [getD_get h]
 rfl
theorem digB_iff (c:UInt8):sp.digitB c=true↔48≤c.toNat∧c.toNat≤57:=by unfold sp.digitB;simp
theorem take_all {f:UInt8→Bool} {l:List UInt8} {k:Nat} (h:∀x∈l.take k,f x=true) (hk:k≤l.length) (hn:k<l.length→f (l.getD k 0)=false):l.takeWhile f=l.take k∧l.dropWhile f=l.drop k:=by
 have:=while_at (f:=f) (t:=l.take k) (r:=l.drop k) h (fun c hc=>by
  by_cases hlt:k<l.length
  ·have e:=hn hlt
   rw [List.head?_drop,List.getElem?_eq_getElem hlt] at hc
   cases hc
   rw [getD_get hlt] at e
   exact e
  ·rw [List.drop_eq_nil_of_le (by omega)] at hc
   cases hc)
 rw [List.take_append_drop] at this
 exact this
theorem take_step {l:List UInt8} {k:Nat} (hlt:k<l.length):∀x∈l.take (k+1),x∈l.take k∨x=l.getD k 0:=fun x hx=>by
 rw [List.take_add_one,List.getElem?_eq_getElem hlt,Option.toList_some] at hx
 rcases List.mem_append.1 hx with h | h
 ·exact .inl h
 ·rw [List.mem_singleton] at h
  exact .inr (by rw [h,getD_get hlt])
set_option maxRecDepth 100000 in
set_option maxHeartbeats 4000000 in
theorem digits_any (X:List UInt8) (w:World) (hn:X.length≤1099511627776):Calls Tryz.prog 156 #[.string (bstr X)] w fun e w'=>e=.returned (.int .i64 ((X.takeWhile sp.digitB).length:Nat))∧w'=w:=by
 have HN:=Lib.hid hn
 have hsz:=bstr_size X
 clear hn
 go_enter Tryz.func156,Tryz.ntmps156
 go_wp2
 go_loopw [3] (fun i wr=>∃k:Nat,k≤X.length∧i=.int .i64 k∧(∀x∈X.take k,sp.digitB x=true)∧wr=w) (fun i _=>X.length-(intOf i).toNat)
 case atStart=>exact ⟨0,Nat.zero_le _,rfl,fun _ h=>(by cases h),rfl⟩
 case round =>
  obtain ⟨k,hk,rfl,hd,rfl⟩:=hrel
  have HD:=Lib.hid hd
  have hkb:(k:Int)≤1099511627776:=by have:=HN.out;omega
  clear hd
  by_cases hlt:k<X.length
  ·have hat:=bstr_at hlt
   have HSET:=Lib.hid (take_step hlt)
   have HTW:=Lib.hid (fun h=>take_all (f:=sp.digitB) HD.out hk (fun _=>h))
   have t0:decide ((k:Int)<(X.length:Int))=true:=by simp;omega
   generalize X.getD k 0=K at hat HSET HTW
   have hK:=K.toNat_lt
   by_cases hdg:48≤K.toNat∧K.toNat≤57
   ·have t1:decide ((K.toNat:Int)≥48)=true:=by simp;omega
    have t2:decide ((K.toNat:Int)≤57)=true:=by simp;omega
    have HKD:=Lib.hid ((digB_iff K).2 hdg)
    clear hdg
    go_wp2
    refine ⟨⟨k+1,by omega,by go_num,fun x hx => ?_,trivial⟩,by simp [intOf];omega⟩
    rcases HSET.out x hx with h | h
    ·exact HD.out x h
    ·rw [h];exact HKD.out
   ·have HF:Hid ((X.takeWhile sp.digitB).length=k):=Lib.hid (by
     have hf:sp.digitB K=false:=by
      cases hb:sp.digitB K with
      | false=>rfl
      | true=>exact absurd ((digB_iff K).1 hb) hdg
     rw [(HTW.out hf).1,List.length_take];omega)
    by_cases q1:48≤K.toNat
    ·have t1:decide ((K.toNat:Int)≥48)=true:=by simp;omega
     have t2:decide ((K.toNat:Int)≤57)=false:=by simp;omega
     clear hdg q1
     go_wp2
     go_ret
     exact ⟨by rw [HF.out];rfl,rfl⟩
    ·have t1:decide ((K.toNat:Int)≥48)=false:=by simp;omega
     clear hdg q1
     go_wp2
     go_ret
     exact ⟨by rw [HF.out];rfl,rfl⟩
  ·have HF:Hid ((X.takeWhile sp.digitB).length=k):=Lib.hid (by
    rw [(take_all (f:=sp.digitB) HD.out hk (fun h=>absurd h hlt)).1,List.length_take];omega)
   have t0:decide ((k:Int)<(X.length:Int))=false:=by simp;omega
   go_wp2
   go_ret
   exact ⟨by rw [HF.out];rfl,rfl⟩
def WholeP (X:List UInt8) (v:Int) (u:List UInt8) (ok:Bool):Prop:=sp.I64 v∧(if ok then X.takeWhile sp.digitB≠[]∧(X.takeWhile sp.digitB).length≤19∧v=sp.val 0 (X.takeWhile sp.digitB)∧sp.val 0 (X.takeWhile sp.digitB)≤9223372036854775807∧u=X.dropWhile sp.digitB
 else X.takeWhile sp.digitB = []∨19<(X.takeWhile sp.digitB).length∨9223372036854775807<sp.val 0 (X.takeWhile sp.digitB))
theorem tw_all (X:List UInt8):∀x∈X.takeWhile sp.digitB,sp.digitB x=true:=fun x hx=>by
 have:=List.all_takeWhile (l:=X) (p:=sp.digitB)
 exact List.all_eq_true.1 this x hx
theorem tw_take (X:List UInt8):X.take (X.takeWhile sp.digitB).length=X.takeWhile sp.digitB∧X.drop (X.takeWhile sp.digitB).length=X.dropWhile sp.digitB:=by
 have h:=List.takeWhile_append_dropWhile (p:=sp.digitB) (l:=X)
 generalize X.takeWhile sp.digitB=a at h
 generalize X.dropWhile sp.digitB=b at h
 subst h
 exact ⟨List.take_left,List.drop_left⟩
theorem ext_take (X:List UInt8) (k:Nat) (h:k≤X.length):(bstr X).extract 0 k=bstr (X.take k):=by
 have:=extract_bstr (s:=bstr X) (p:=[]) (t:=X.take k) (r:=X.drop k) (by rw [bstr_toList];simp)
 rw [List.length_take,Nat.min_eq_left h] at this
 simpa using this
theorem ext_drop (X:List UInt8) (k n:Nat) (h:k≤X.length) (hn:n=X.length):(bstr X).extract k n=bstr (X.drop k):=by
 subst hn
 have:=extract_bstr (s:=bstr X) (p:=X.take k) (t:=X.drop k) (r:=[]) (by rw [bstr_toList];simp)
 rw [List.length_take,Nat.min_eq_left h,List.length_drop] at this
 rw [show k+(X.length-k)=X.length by omega] at this
 exact this
theorem wrap_I64 (x:Int):sp.I64 (wrap64 x):=by
 unfold sp.I64 wrap64
 constructor<;>omega
theorem val_19 {l:List UInt8} (h:∀c∈l,sp.digitB c=true) (hn:l.length≤19):sp.val 0 l<10000000000000000000:=by
 have h1:=sp.val_lt l h 0
 have h2:10 ^ l.length≤10 ^ 19:=Nat.pow_le_pow_right (by decide) hn
 omega
theorem val_18 {l:List UInt8} {k:Nat} (h:∀c∈l.take k,sp.digitB c=true) (hk:k<l.length) (hn:l.length≤19):sp.val 0 (l.take k)<1000000000000000000:=by
 have h1:=sp.val_lt (l.take k) h 0
 have h2:10 ^ (l.take k).length≤10 ^ 18:=Nat.pow_le_pow_right (by decide) (by rw [List.length_take];omega)
 omega
set_option maxRecDepth 100000 in
set_option maxHeartbeats 4000000 in
theorem whole_any (X:List UInt8) (w:World) (hn:X.length≤1099511627776):Calls Tryz.prog 124 #[.string (bstr X)] w fun e w'=>(∃v u ok,e=.returned (.tuple #[.int .i64 v,.string (bstr u),.bool ok])∧WholeP X v u ok)∧Below w.heap.size w w':=by
 have HD:=Lib.hid (digits_any X w hn)
 obtain ⟨n,hN⟩:∃n,n=(X.takeWhile sp.digitB).length:=⟨_,rfl⟩
 have hle:n≤X.length:=by rw [hN];exact (List.takeWhile_sublist sp.digitB).length_le
 have hnb:(n:Int)≤1099511627776:=by omega
 rw [←hN] at HD
 have hsz:=bstr_size X
 by_cases h0:n=0
 ·have HF:Hid (WholeP X 0 [] false):=Lib.hid ⟨by constructor<;>decide,.inl (List.length_eq_zero_iff.1 (by omega))⟩
  subst h0
  clear hN hn
  go_enter Tryz.func124,Tryz.ntmps124
  go_wp2_with (go_at_call 156;refine HD.out.mono ?_;rintro e w1 ⟨rfl,rfl⟩)
  go_ret3
  exact ⟨⟨0,[],false,rfl,HF.out⟩,Below.refl _ _⟩
 ·by_cases h19:n≤19
  ·obtain ⟨W2,cp,q,hcv,hbw,hrow⟩:=conv_bytes w (X.take n)
   have HB:=Lib.hid hbw;have HROW:=Lib.hid hrow
   rw [←ext_take X n hle] at hcv
   have hlen:(X.take n).length=n:=by rw [List.length_take];omega
   rw [hlen] at hcv
   have htw:=tw_take X
   rw [←hN] at htw
   have HALL:Hid (∀x∈X.take n,sp.digitB x=true):=Lib.hid (fun x hx=>by rw [htw.1] at hx;exact tw_all X x hx)
   have hed:(bstr X).extract n X.length=bstr (X.drop n):=ext_drop X n _ hle rfl
   have HTW:=Lib.hid htw;have HED:=Lib.hid hed
   have t0:decide ((n:Int)>19)=false:=by simp;omega
   have t1:((n:Int)==0)=false:=by simp;omega
   have HLEN:=Lib.hid hlen;have H0:=Lib.hid h0
   clear hbw hrow hN hn h0 htw hed hlen
   go_enter Tryz.func124,Tryz.ntmps124
   go_wp2_with (go_at_call 156;refine HD.out.mono ?_;rintro e w1 ⟨rfl,rfl⟩)
   go_loopw [6,22] (fun v i wr=>∃k:Nat,k≤n∧i=.int .i64 k∧v=.int .u64 (sp.val 0 ((X.take n).take k):Nat)∧wr=W2) (fun _ i _=>n-(intOf i).toNat)
   case atStart=>exact ⟨0,Nat.zero_le _,rfl,rfl,rfl⟩
   case round =>
    obtain ⟨k,hk,rfl,rfl,rfl⟩:=hrel
    by_cases hlt:k<n
    ·have hlt':k<(X.take n).length:=by rw [HLEN.out];exact hlt
     have hcell:=HROW.out k hlt'
     have hv:=val_take hlt'
     have hs:sp.val 0 ((X.take n).take k)<1000000000000000000:=val_18 (fun x hx=>HALL.out x (List.mem_of_mem_take hx)) hlt' (by rw [HLEN.out];omega)
     have hd:=(digB_iff _).1 (HALL.out ((X.take n).getD k 0) (by rw [getD_get hlt'];exact List.getElem_mem _))
     have hkb:(k:Int)≤19:=by omega
     have HV:=Lib.hid hv
     clear hv
     generalize (X.take n).getD k 0=K at hcell HV hd
     have hsub:((K.toNat:Int)-48)=((K.toNat-48:Nat):Int):=by omega
     have hb1:((K.toNat-48:Nat):Int)≤9:=by omega
     generalize K.toNat-48=D at hsub hb1 HV
     generalize sp.val 0 ((X.take n).take k)=V at hs HV
     clear hd
     go_wp2
     refine ⟨⟨k+1,by omega,by go_num,?_,trivial⟩,by simp [intOf];omega⟩
     rw [HV.out];simp
    ·have hke:k=n:=by omega
     subst hke
     have hs:sp.val 0 ((X.take k).take k)<10000000000000000000:=val_19 (fun x hx=>HALL.out x (List.mem_of_mem_take hx)) (by rw [List.length_take,HLEN.out];omega)
     have HE:Hid ((X.take k).take k=X.takeWhile sp.digitB):=Lib.hid (by rw [List.take_take,Nat.min_self];exact HTW.out.1)
     rw [HE.out] at hs ⊢
     have HNE:Hid (X.takeWhile sp.digitB≠[]∧(X.takeWhile sp.digitB).length≤19):=Lib.hid (by
      rw [←HTW.out.1]
      refine ⟨fun e => ?_,by rw [HLEN.out];omega⟩
      have:=HLEN.out
      rw [e] at this
      simp at this
      exact H0.out this.symm)
     by_cases hm:sp.val 0 (X.takeWhile sp.digitB)≤9223372036854775807
     ·have HF:Hid (WholeP X (sp.val 0 (X.takeWhile sp.digitB):Nat) (X.drop k) true):=Lib.hid ⟨by constructor<;>omega,HNE.out.1,HNE.out.2,rfl,hm,HTW.out.2⟩
      generalize sp.val 0 (X.takeWhile sp.digitB)=V at hs hm HF
      go_wp2
      have hdv:decide ((V:Int)≤9223372036854775807)=true:=by simp;omega
      go_region
      all_goals
       go_wp2
       go_ret3
       exact ⟨⟨(V:Int),X.drop k,true,by rw [HED.out];rfl,HF.out⟩,HB.out.drew⟩
     ·have HF:Hid (∀v u,sp.I64 v→WholeP X v u false):=Lib.hid (fun v u hv=>⟨hv,.inr (.inr (by omega))⟩)
      have hdv:decide (((sp.val 0 (X.takeWhile sp.digitB):Nat):Int)≤9223372036854775807)=false:=by simp;omega
      generalize sp.val 0 (X.takeWhile sp.digitB)=V at hs hm HF hdv
      go_wp2
      go_region
      all_goals
       go_wp2
       go_ret3
       exact ⟨⟨wrap64 (V:Int),_,false,rfl,HF.out _ _ (wrap_I64 _)⟩,HB.out.drew⟩
  ·have t0:decide ((n:Int)>19)=true:=by simp;omega
   have t1:((n:Int)==0)=false:=by simp;omega
   have HF:Hid (WholeP X 0 [] false):=Lib.hid ⟨by constructor<;>decide,.inr (.inl (by omega))⟩
   clear hN hn h0 h19
   go_enter Tryz.func124,Tryz.ntmps124
   go_wp2_with (go_at_call 156;refine HD.out.mono ?_;rintro e w1 ⟨rfl,rfl⟩)
   go_ret3
   exact ⟨⟨0,[],false,rfl,HF.out⟩,Below.refl _ _⟩
def FracIs (X:List UInt8) (e:Ending):Prop:=match sp.fracS X with
 | some p=>e=.returned (.tuple #[.agg #[.int .i64 p.1,.int .i64 p.2],.int .i64 0])
 | none=>e=.returned (.tuple #[.agg #[.int .i64 0,.int .i64 0],.int .i64 3])
theorem may_over:sp.MayP 0 0∧sp.ratS 0 0=sp.over:=by
 refine ⟨.inl ⟨rfl,rfl⟩,?_⟩
 unfold sp.ratS
 rw [if_neg]
 rintro ⟨h,_⟩
 omega
theorem frac_over:sp.fracS sp.over=some (0,0):=by
 have:=sp.fracS_yes (n:=0) (d:=0) (by constructor<;>decide) (by constructor<;>decide) may_over.1
 rwa [may_over.2] at this
theorem may_sure {n d:Int} {X:List UInt8} (h:sp.MayP n d) (he:sp.ratS n d=X) (hX:X≠sp.over):sp.SureP n d:=by
 rcases h with ⟨rfl,rfl⟩ | h
 ·exact absurd (he.symm.trans may_over.2) hX
 ·exact h
theorem dec_tw (m:Nat) (r:List UInt8) (hr:∀c,r.head?=some c→sp.digitB c=false):(Lib.decDigits m++r).takeWhile sp.digitB=Lib.decDigits m∧(Lib.decDigits m++r).dropWhile sp.digitB=r:=while_at (sp.dec_all m) hr
theorem frac_fwd {n d:Int} {X:List UInt8} (h:sp.SureP n d) (he:sp.ratS n d=X):(X.head?=some 45↔n<0)∧(bodyOf X).takeWhile sp.digitB=Lib.decDigits n.natAbs∧(bodyOf X).dropWhile sp.digitB=(if 1<d then 47 :: Lib.decDigits d.toNat else []):=by
 have hd:(if 1<d then 47 :: Lib.itoa d else [])=(if 1<d then 47 :: Lib.decDigits d.toNat else []:List UInt8):=by
  split
  ·obtain ⟨k,rfl⟩:∃k:Nat,d=k:=⟨d.toNat,by omega⟩
   rw [sp.itoa_nat];rfl
  ·rfl
 have htail:∀c,(if 1<d then 47 :: Lib.decDigits d.toNat else []:List UInt8).head?=some c→sp.digitB c=false:=by
  intro c hc
  split at hc
  ·cases hc;rfl
  ·cases hc
 unfold sp.ratS at he
 rw [if_pos h,hd] at he
 generalize (if 1<d then 47 :: Lib.decDigits d.toNat else []:List UInt8)=T at he htail
 by_cases hn:n<0
 ·have e1:Lib.itoa n=45 :: Lib.decDigits n.natAbs:=by
   rw [show n = -((n.natAbs:Nat):Int) by omega,sp.itoa_minus _ (by omega)];simp
  rw [e1] at he
  subst he
  have:=dec_tw n.natAbs T htail
  refine ⟨by simp [hn],?_⟩
  unfold bodyOf
  rw [List.cons_append,List.head?_cons,if_pos rfl,List.tail_cons]
  exact this
 ·have e1:Lib.itoa n=Lib.decDigits n.natAbs:=by
   rw [show n=((n.natAbs:Nat):Int) by omega,sp.itoa_nat];simp
  rw [e1] at he
  subst he
  have hh:(Lib.decDigits n.natAbs++T).head?≠some 45:=by
   rw [sp.head_append (sp.dec_ne _)]
   exact sp.dec_head_ne _
  have:=dec_tw n.natAbs T htail
  refine ⟨⟨fun h=>absurd h hh,fun h=>absurd h hn⟩,?_⟩
  unfold bodyOf
  rw [if_neg hh]
  exact this
theorem nDigits_le19 {u:Nat} (h:u≤9223372036854775807):Lib.nDigits u≤19:=by
 by_cases h0:u=0
 ·subst h0;rw [Lib.nDigits_small (by omega)];omega
 ·obtain ⟨c,r,e,hc⟩:=sp.dec_head_digit u
  have hv:=sp.dec_val u
  have hh:=sp.dec_head u h0
  have hl:=Lib.decDigits_length u
  rw [e] at hv hh hl
  have hc:=(digB_iff c).1 hc
  have hne:c.toNat≠48:=fun h=>hh (by simp only [List.head?_cons,Option.some.injEq];exact UInt8.toNat_inj.1 h)
  rw [sp.val_cons] at hv
  have h2:=sp.val_le r (0*10+(c.toNat-48))
  rw [hv] at h2
  simp only [List.length_cons] at hl
  by_cases hr:r.length≤18
  ·omega
  ·have h3:(10:Nat) ^ 19≤10 ^ r.length:=Nat.pow_le_pow_right (by decide) (by omega)
   have h4:1*10 ^ r.length≤(0*10+(c.toNat-48))*10 ^ r.length:=Nat.mul_le_mul_right _ (by omega)
   have h5:(10:Nat) ^ 19=10000000000000000000:=by decide
   omega
theorem whole_fwd {Y:List UInt8} {v:Int} {u:List UInt8} {ok:Bool} {m:Nat} (h:WholeP Y v u ok) (hY:Y.takeWhile sp.digitB=Lib.decDigits m) (hm:m≤9223372036854775807):ok=true∧v=m∧u=Y.dropWhile sp.digitB:=by
 have hv:sp.val 0 (Y.takeWhile sp.digitB)=m:=by rw [hY,sp.dec_val]
 obtain ⟨_,h⟩:=h
 cases ok with
 | true =>
  rw [if_pos rfl] at h
  obtain ⟨_,_,h3,_,h5⟩:=h
  exact ⟨rfl,by rw [h3,hv],h5⟩
 | false =>
  exfalso
  rw [if_neg (by decide),hv,hY] at h
  rcases h with h | h | h
  ·exact sp.dec_ne m h
  ·have h1:=Lib.decDigits_length m
   have h2:=nDigits_le19 hm
   omega
  ·omega
theorem frac_none {X:List UInt8} (hX:X≠sp.over) (h:∀n d,sp.I64 n→sp.I64 d→sp.SureP n d→sp.ratS n d=X→False):FracIs X (.returned (.tuple #[.agg #[.int .i64 0,.int .i64 0],.int .i64 3])):=by
 unfold FracIs
 rw [sp.fracS_no fun n d h1 h2 h3 h4=>h n d h1 h2 (may_sure h3 h4 hX) h4]
theorem frac_some {X:List UInt8} {n d:Int} (h1:sp.I64 n) (h2:sp.I64 d) (h3:sp.SureP n d) (h4:sp.ratS n d=X):FracIs X (.returned (.tuple #[.agg #[.int .i64 n,.int .i64 d],.int .i64 0])):=by
 unfold FracIs
 rw [←h4,sp.fracS_yes h1 h2 (.inr h3)]
section
variable {X:List UInt8} {v v2:Int} {u u2 u3:List UInt8} {ok ok2:Bool}
theorem sure_small {n d:Int} (h1:sp.I64 n) (h:sp.SureP n d):n.natAbs≤9223372036854775807:=by
 obtain ⟨_,h3,_⟩:=h
 obtain ⟨a,b⟩:=h1
 omega
def sgn (X:List UInt8) (v:Int):Int:=if X.head?=some 45 then -v else v
theorem sgn_abs {n d:Int} (h:sp.SureP n d) (he:sp.ratS n d=X):sgn X n.natAbs=n:=by
 have:=(frac_fwd h he).1
 unfold sgn
 split
 ·rename_i q;have:=this.1 q;omega
 ·rename_i q;have:¬n<0:=fun h=>q (this.2 h);omega
theorem frac_first (hX:X≠sp.over) (h:WholeP (bodyOf X) v u ok) {n d:Int} (h1:sp.I64 n) (h3:sp.SureP n d) (h4:sp.ratS n d=X):ok=true∧v=n.natAbs∧u=if 1<d then 47 :: Lib.decDigits d.toNat else []:=by
 obtain ⟨_,k2,k3⟩:=frac_fwd h3 h4
 have:=whole_fwd h k2 (sure_small h1 h3)
 exact ⟨this.1,this.2.1,this.2.2.trans k3⟩
theorem frac_L1 (hX:X≠sp.over) (h:WholeP (bodyOf X) v u false):FracIs X (.returned (.tuple #[.agg #[.int .i64 0,.int .i64 0],.int .i64 3])) :=
 frac_none hX fun n d h1 _ h3 h4=>by
  have:=(frac_first hX h h1 h3 h4).1
  cases this
theorem frac_L3 {c:UInt8} (hX:X≠sp.over) (h:WholeP (bodyOf X) v (c :: u) ok) (hc:c≠47):FracIs X (.returned (.tuple #[.agg #[.int .i64 0,.int .i64 0],.int .i64 3])) :=
 frac_none hX fun n d h1 _ h3 h4=>by
  have:=(frac_first hX h h1 h3 h4).2.2
  split at this
  ·cases this;exact hc rfl
  ·cases this
theorem frac_L2 (hX:X≠sp.over) (h:WholeP (bodyOf X) v [] ok) (hno:¬(sp.SureP (sgn X v) 1∧sp.ratS (sgn X v) 1=X)):FracIs X (.returned (.tuple #[.agg #[.int .i64 0,.int .i64 0],.int .i64 3])) :=
 frac_none hX fun n d h1 _ h3 h4=>by
  obtain ⟨_,e2,e3⟩:=frac_first hX h h1 h3 h4
  have hd:d=1:=by
   have:=h3.1
   by_cases q:1<d
   ·rw [if_pos q] at e3;cases e3
   ·omega
  subst hd
  rw [e2,sgn_abs h3 h4] at hno
  exact hno ⟨h3,h4⟩
theorem frac_second (hX:X≠sp.over) (h:WholeP (bodyOf X) v (47 :: u2) ok) (h2:WholeP u2 v2 u3 ok2) {n d:Int} (h1:sp.I64 n) (hd:sp.I64 d) (h3:sp.SureP n d) (h4:sp.ratS n d=X):ok2=true∧v=n.natAbs∧v2=d∧u3 = []:=by
 obtain ⟨_,e2,e3⟩:=frac_first hX h h1 h3 h4
 have q:1<d:=Classical.byContradiction fun q=>by rw [if_neg q] at e3;cases e3
 rw [if_pos q] at e3
 cases e3
 have hw:=dec_tw d.toNat [] (fun _ h=>by cases h)
 rw [List.append_nil] at hw
 have:=whole_fwd h2 hw.1 (by have:=hd.2;omega)
 exact ⟨this.1,e2,by rw [this.2.1];omega,this.2.2.trans hw.2⟩
theorem frac_L4a (hX:X≠sp.over) (h:WholeP (bodyOf X) v (47 :: u2) ok) (h2:WholeP u2 v2 u3 false):FracIs X (.returned (.tuple #[.agg #[.int .i64 0,.int .i64 0],.int .i64 3])) :=
 frac_none hX fun n d h1 hd h3 h4=>by
  have:=(frac_second hX h h2 h1 hd h3 h4).1
  cases this
theorem frac_L4b (hX:X≠sp.over) (h:WholeP (bodyOf X) v (47 :: u2) ok) (h2:WholeP u2 v2 u3 ok2) (h0:u3≠[]):FracIs X (.returned (.tuple #[.agg #[.int .i64 0,.int .i64 0],.int .i64 3])) :=
 frac_none hX fun n d h1 hd h3 h4=>h0 (frac_second hX h h2 h1 hd h3 h4).2.2.2
theorem frac_L4c (hX:X≠sp.over) (h:WholeP (bodyOf X) v (47 :: u2) ok) (h2:WholeP u2 v2 u3 ok2) (hno:¬(sp.SureP (sgn X v) v2∧sp.ratS (sgn X v) v2=X)):FracIs X (.returned (.tuple #[.agg #[.int .i64 0,.int .i64 0],.int .i64 3])) :=
 frac_none hX fun n d h1 hd h3 h4=>by
  obtain ⟨_,e2,e3,_⟩:=frac_second hX h h2 h1 hd h3 h4
  rw [e2,e3,sgn_abs h3 h4] at hno
  exact hno ⟨h3,h4⟩
end
theorem results_row_tmp {P:Program} {fn:Func} {p u:Tmp} {ty:TypeId} (h:fn.results=#[.cell p ty,.tmp u]) (tmps:Array Value) (w:World) (g:Nat) (t:TypeId) (cs:Array Value) (fr:Nat×Nat) (d:TypeDesc)
  (hp:tmps.getD p undef=.pointer (some ⟨g,0,none⟩)) (hg:w.heap[g]?=some (.cells cs t fr))
  (hu:P.underlying ty=some d) (hd:(match d with | .struct _ | .array _ _=>true | _=>false)=true) (hi:(P.info? ty).map (·.size)=some cs.size) :
  (results fn tmps).run P w=.ok (.tuple #[.agg cs,tmps.getD u undef]) w:=by
 rw [results_cell_tmp h,hp]
 have hl:=run_loadVar_row (P:=P) w g t ty cs fr d hg hu hd hi
 simp only [asAddr,Sem.run_pure,Result.andThen_ok,hl]
theorem info24:(Tryz.prog.info? 24).map (·.size)=some 2:=by kernel_rfl
theorem ret_frac {W:World} {g:Nat} {a b:Value} {e:Value} {fn:Func} {tmps:Array Value} {R:Ending→World→Prop} (hr:fn.results=#[.cell 2 24,.tmp 3]) (hp:tmps.getD 2 undef=.pointer (some ⟨g,0,none⟩)) (he:tmps.getD 3 undef=e) (hg:W.heap[g]?=some (.cells #[a,b] 24 (0,0)))
  (h:R (.returned (.tuple #[.agg #[a,b],e])) W):bodyPost Tryz.prog fn R .ret ⟨tmps,[]⟩ W:=by
 refine bodyPost_ret (results_row_tmp hr tmps W g 24 #[a,b] (0,0) _ hp hg Tryz.underlying24 rfl info24) rfl ?_
 rw [he]
 exact h
theorem two_set {w1:World} {g:Nat} {x y:Value} (h:w1.heap[g]?=some (.cells #[x,y] 24 (0,0))) (a b:Value):((w1.setCell ⟨g,0,none⟩ a).setCell ⟨g,1,none⟩ b).heap[g]?=some (.cells #[a,b] 24 (0,0)):=by
 have:=blk_set (blk_set h 0 a) 1 b
 simpa using this
theorem whole_range {Y:List UInt8} {v:Int} {u:List UInt8} (h:WholeP Y v u true):0≤v∧v≤9223372036854775807:=by
 obtain ⟨h1,h2⟩:=h
 rw [if_pos rfl] at h2
 obtain ⟨_,_,h3,h4,_⟩:=h2
 constructor<;>omega
structure PF (w:World) (R:Nat) (n d:Int) (W:World):Prop where
 res:W.heap[w.heap.size]?=some (.cells #[.int .i64 0,.int .i64 0] 24 (0,0))
 frac:W.heap[R]?=some (.cells #[.int .i64 n,.int .i64 d] 24 (0,0))
 bel:Below w.heap.size w W
theorem PF.new {w w1:World} (h1:Below w.heap.size w w1) (h2:w1.heap[w.heap.size]?=some (.cells #[.int .i64 0,.int .i64 0] 24 (0,0))) (n d:Int):PF w w1.heap.size n d (w1.alloc (.cells #[.int .i64 n,.int .i64 d] 24)) :=
 ⟨heap_old _ _ _ h2,heap_alloc_at _ _,h1.alloc (by have:=lt_of_block h2;omega) _⟩
theorem PF.on {w W W':World} {R:Nat} {n d:Int} (h:PF w R n d W) (hb:Below W.heap.size W W'):PF w R n d W' :=
 ⟨(hb.block _ (lt_of_block h.res)).trans h.res,(hb.block _ (lt_of_block h.frac)).trans h.frac,h.bel.trans (hb.mono (by have:=lt_of_block h.res;omega))⟩
theorem PF.cells {w W:World} {R:Nat} {n d:Int} (h:PF w R n d W):W.cell? ⟨R,0,none⟩=some (.int .i64 n)∧W.cell? ⟨R,1,none⟩=some (.int .i64 d)∧W.cell? ⟨w.heap.size,0,none⟩=some (.int .i64 0)∧W.cell? ⟨w.heap.size,1,none⟩=some (.int .i64 0)∧W.frozen? ⟨w.heap.size,0,none⟩=false∧W.frozen? ⟨w.heap.size,1,none⟩=false :=
 ⟨by rw [Lib.cell_of_heap h.frac];rfl,by rw [Lib.cell_of_heap h.frac];rfl,by rw [Lib.cell_of_heap h.res];rfl,by rw [Lib.cell_of_heap h.res];rfl,blk_free h.res 0,blk_free h.res 1⟩
theorem PF.free {w W:World} {R:Nat} {n d:Int} (h:PF w R n d W):W.frozen? ⟨R,0,none⟩=false∧W.frozen? ⟨R,1,none⟩=false:=⟨blk_free h.frac 0,blk_free h.frac 1⟩
theorem heap_other {W:World} {R g:Nat} (hne:R≠g) (o:Nat) (v:Value):(W.setCell ⟨R,o,none⟩ v).heap[g]?=W.heap[g]?:=by
 show (W.heap.modify R _)[g]?=_
 rw [Array.getElem?_modify]
 simp [hne]
theorem PF.den {w W:World} {R:Nat} {n d:Int} (h:PF w R n d W) (hR:w.heap.size<R) (d':Int):PF w R n d' (W.setCell ⟨R,1,none⟩ (.int .i64 d')) :=
 ⟨(heap_other (by omega) _ _).trans h.res,by have:=blk_set h.frac 1 (.int .i64 d');simpa using this,h.bel.setCell (Nat.le_of_lt hR) _⟩
theorem PF.num {w W:World} {R:Nat} {n d:Int} (h:PF w R n d W) (hR:w.heap.size<R) (n':Int):PF w R n' d (W.setCell ⟨R,0,none⟩ (.int .i64 n')) :=
 ⟨(heap_other (by omega) _ _).trans h.res,by have:=blk_set h.frac 0 (.int .i64 n');simpa using this,h.bel.setCell (Nat.le_of_lt hR) _⟩
theorem PF.fin {w W:World} {R:Nat} {n d:Int} (h:PF w R n d W) (a b:Value):((W.setCell ⟨w.heap.size,0,none⟩ a).setCell ⟨w.heap.size,1,none⟩ b).heap[w.heap.size]?=some (.cells #[a,b] 24 (0,0))∧Below w.heap.size w ((W.setCell ⟨w.heap.size,0,none⟩ a).setCell ⟨w.heap.size,1,none⟩ b) :=
 ⟨two_set h.res a b,(h.bel.setCell (Nat.le_refl _) _).setCell (Nat.le_refl _) _⟩
set_option maxRecDepth 100000 in
set_option maxHeartbeats 4000000 in
theorem parse_any (X:List UInt8) (w:World) (hn:X.length≤1099511627776):Calls Tryz.prog 93 #[.string (bstr X)] w fun e w'=>FracIs X e∧Below w.heap.size w w':=by
 by_cases hX:X=sp.over
 ·have hs:=str_eq hX
  have HF:Hid (FracIs X (.returned (.tuple #[.agg #[.int .i64 0,.int .i64 0],.int .i64 0]))):=Lib.hid (by unfold FracIs;rw [hX,frac_over])
  clear hX
  go_enter Tryz.func93,Tryz.ntmps93
  go_wp2
  exact ret_frac rfl rfl rfl (heap_alloc_at _ _) ⟨HF.out,below_new w _⟩
 ·have hs:((bstr X).toList==[111,118,101,114])=false:=str_ne hX
  have HX:=Lib.hid hX
  have HCUT:=Lib.hid (cutPrefix_any X)
  have hbl:(bodyOf X).length≤1099511627776:=by
   unfold bodyOf
   split
   ·rw [List.length_tail];omega
   ·exact hn
  have HW:=Lib.hid (fun W=>whole_any (bodyOf X) W hbl)
  have HN:=Lib.hid hn
  obtain ⟨neg,hneg⟩:∃neg,neg=decide (X.head?=some 45):=⟨_,rfl⟩
  rw [←hneg] at HCUT
  have HNEG:=Lib.hid hneg
  clear hX hneg hbl hn
  go_enter Tryz.func93,Tryz.ntmps93
  go_wp2_with (first
   | (go_at_call 92;refine (HCUT.out _).mono ?_;rintro e w1 ⟨rfl,rfl⟩)
   | (go_at_call 124;refine (HW.out _).mono ?_;rintro e w1 ⟨⟨v,u,ok,rfl,hw⟩,hb1⟩;refine Hid.out ?_))
  refine Lib.hid ?_
  have HB1:=Lib.hid ((below_new w (.cells #[.int .i64 0,.int .i64 0] 24)).trans (hb1.mono (by simp)))
  have HR1:=Lib.hid ((hb1.block w.heap.size (by simp)).trans (heap_alloc_at w (.cells #[.int .i64 0,.int .i64 0] 24)))
  have HWP:=Lib.hid hw
  have hlt:w.heap.size<w1.heap.size:=by have:=hb1.size;simp at this;omega
  clear hw hb1 HW HCUT
  have d0:w1.cell? ⟨w.heap.size,0,none⟩=some (.int .i64 0):=by rw [Lib.cell_of_heap HR1.out];rfl
  have d1:w1.cell? ⟨w.heap.size,1,none⟩=some (.int .i64 0):=by rw [Lib.cell_of_heap HR1.out];rfl
  have z0:w1.frozen? ⟨w.heap.size,0,none⟩=false:=blk_free HR1.out 0
  have z1:w1.frozen? ⟨w.heap.size,1,none⟩=false:=blk_free HR1.out 1
  cases ok with
  | false =>
   have HF:=Lib.hid (frac_L1 HX.out HWP.out)
   cases neg with
   | false =>
    go_wp2
    exact ret_frac rfl rfl rfl (heap_old _ _ _ (two_set HR1.out _ _)) ⟨HF.out,((HB1.out.setCell (Nat.le_refl _) _).setCell (Nat.le_refl _) _).alloc (by simp;omega) _⟩
   | true =>
    go_wp2
    exact ret_frac rfl rfl rfl (heap_old _ _ _ (two_set HR1.out _ _)) ⟨HF.out,((HB1.out.setCell (Nat.le_refl _) _).setCell (Nat.le_refl _) _).alloc (by simp;omega) _⟩
  | true =>
   obtain ⟨hv0,hv1⟩:=whole_range HWP.out
   match u with
   | [] =>
    have e1:(bstr []).toList.isEmpty=true:=by rw [Lib.toList_data];rfl
    cases neg with
    | false =>
     have hsg:sgn X v=v:=by unfold sgn;rw [if_neg (by have:=HNEG.out;simpa using this.symm)]
     by_cases hs1:sp.SureP (v) (1)
     ·have q1:=sureB_yes hs1
      have HS1:=Lib.hid hs1
      by_cases ht:sp.ratS (v) (1)=X
      ·have q2:((bstr (sp.ratS (v) (1))).toList==(bstr X).toList)=true:=by rw [ht];exact beq_self_eq_true _
       have HF:=Lib.hid (frac_some ⟨by omega,by omega⟩ ⟨by decide,by decide⟩ hs1 ht)
       clear hs1 ht
       go_wp2_with (first
        | (go_at_call 106;refine (sure_any (v) (1) _ ⟨by omega,by omega⟩ ⟨by decide,by decide⟩).mono ?_;rintro e w2 ⟨rfl,hb2⟩;have HP2:=Lib.hid ((PF.new HB1.out HR1.out v 1).on hb2);obtain ⟨r0,r1,k0,k1,y0,y1⟩:=HP2.out.cells;clear hb2)
        | (go_at_call 73;refine (ratText_any (v) (1) _ ⟨by omega,by omega⟩ ⟨by decide,by decide⟩).mono ?_;rintro e w3 ⟨rfl,hb3⟩;have HP3:=Lib.hid (HP2.out.on hb3);obtain ⟨s0,s1,l0,l1,x0,x1⟩:=HP3.out.cells;clear hb3))
       exact ret_frac rfl rfl rfl (HP3.out.fin _ _).1 ⟨HF.out,(HP3.out.fin _ _).2⟩
      ·have q2:((bstr (sp.ratS (v) (1))).toList==(bstr X).toList)=false:=by rw [Lib.toList_data (bstr X),bstr_toList];exact str_ne ht
       have HF:=Lib.hid (frac_L2 HX.out HWP.out (fun h=>ht (by rw [←hsg];exact h.2)))
       clear hs1 ht
       go_wp2_with (first
        | (go_at_call 106;refine (sure_any (v) (1) _ ⟨by omega,by omega⟩ ⟨by decide,by decide⟩).mono ?_;rintro e w2 ⟨rfl,hb2⟩;have HP2:=Lib.hid ((PF.new HB1.out HR1.out v 1).on hb2);obtain ⟨r0,r1,k0,k1,y0,y1⟩:=HP2.out.cells;clear hb2)
        | (go_at_call 73;refine (ratText_any (v) (1) _ ⟨by omega,by omega⟩ ⟨by decide,by decide⟩).mono ?_;rintro e w3 ⟨rfl,hb3⟩;have HP3:=Lib.hid (HP2.out.on hb3);obtain ⟨s0,s1,l0,l1,x0,x1⟩:=HP3.out.cells;clear hb3))
       exact ret_frac rfl rfl rfl (HP3.out.fin _ _).1 ⟨HF.out,(HP3.out.fin _ _).2⟩
     ·have q1:=sureB_no hs1
      have HF:=Lib.hid (frac_L2 HX.out HWP.out (fun h=>hs1 (by rw [←hsg];exact h.1)))
      clear hs1
      go_wp2_with (first
       | (go_at_call 106;refine (sure_any (v) (1) _ ⟨by omega,by omega⟩ ⟨by decide,by decide⟩).mono ?_;rintro e w2 ⟨rfl,hb2⟩;have HP2:=Lib.hid ((PF.new HB1.out HR1.out v 1).on hb2);obtain ⟨r0,r1,k0,k1,y0,y1⟩:=HP2.out.cells;clear hb2))
      exact ret_frac rfl rfl rfl (HP2.out.fin _ _).1 ⟨HF.out,(HP2.out.fin _ _).2⟩
    | true =>
     have hsg:sgn X v = -v:=by unfold sgn;rw [if_pos (by have:=HNEG.out;simpa using this.symm)]
     by_cases hs1:sp.SureP (-v) (1)
     ·have q1:=sureB_yes hs1
      have HS1:=Lib.hid hs1
      by_cases ht:sp.ratS (-v) (1)=X
      ·have q2:((bstr (sp.ratS (-v) (1))).toList==(bstr X).toList)=true:=by rw [ht];exact beq_self_eq_true _
       have HF:=Lib.hid (frac_some ⟨by omega,by omega⟩ ⟨by decide,by decide⟩ hs1 ht)
       clear hs1 ht
       go_wp2_with (first
        | (go_at_call 106;refine (sure_any (-v) (1) _ ⟨by omega,by omega⟩ ⟨by decide,by decide⟩).mono ?_;rintro e w2 ⟨rfl,hb2⟩;have HP2:=Lib.hid ((PF.new HB1.out HR1.out (-v) 1).on hb2);obtain ⟨r0,r1,k0,k1,y0,y1⟩:=HP2.out.cells;clear hb2)
        | (go_at_call 73;refine (ratText_any (-v) (1) _ ⟨by omega,by omega⟩ ⟨by decide,by decide⟩).mono ?_;rintro e w3 ⟨rfl,hb3⟩;have HP3:=Lib.hid (HP2.out.on hb3);obtain ⟨s0,s1,l0,l1,x0,x1⟩:=HP3.out.cells;clear hb3))
       exact ret_frac rfl rfl rfl (HP3.out.fin _ _).1 ⟨HF.out,(HP3.out.fin _ _).2⟩
      ·have q2:((bstr (sp.ratS (-v) (1))).toList==(bstr X).toList)=false:=by rw [Lib.toList_data (bstr X),bstr_toList];exact str_ne ht
       have HF:=Lib.hid (frac_L2 HX.out HWP.out (fun h=>ht (by rw [←hsg];exact h.2)))
       clear hs1 ht
       go_wp2_with (first
        | (go_at_call 106;refine (sure_any (-v) (1) _ ⟨by omega,by omega⟩ ⟨by decide,by decide⟩).mono ?_;rintro e w2 ⟨rfl,hb2⟩;have HP2:=Lib.hid ((PF.new HB1.out HR1.out (-v) 1).on hb2);obtain ⟨r0,r1,k0,k1,y0,y1⟩:=HP2.out.cells;clear hb2)
        | (go_at_call 73;refine (ratText_any (-v) (1) _ ⟨by omega,by omega⟩ ⟨by decide,by decide⟩).mono ?_;rintro e w3 ⟨rfl,hb3⟩;have HP3:=Lib.hid (HP2.out.on hb3);obtain ⟨s0,s1,l0,l1,x0,x1⟩:=HP3.out.cells;clear hb3))
       exact ret_frac rfl rfl rfl (HP3.out.fin _ _).1 ⟨HF.out,(HP3.out.fin _ _).2⟩
     ·have q1:=sureB_no hs1
      have HF:=Lib.hid (frac_L2 HX.out HWP.out (fun h=>hs1 (by rw [←hsg];exact h.1)))
      clear hs1
      go_wp2_with (first
       | (go_at_call 106;refine (sure_any (-v) (1) _ ⟨by omega,by omega⟩ ⟨by decide,by decide⟩).mono ?_;rintro e w2 ⟨rfl,hb2⟩;have HP2:=Lib.hid ((PF.new HB1.out HR1.out (-v) 1).on hb2);obtain ⟨r0,r1,k0,k1,y0,y1⟩:=HP2.out.cells;clear hb2))
      exact ret_frac rfl rfl rfl (HP2.out.fin _ _).1 ⟨HF.out,(HP2.out.fin _ _).2⟩
   | c :: u' =>
    have e1:(bstr (c :: u')).toList.isEmpty=false:=by rw [Lib.toList_data,bstr_toList];rfl
    have e0:0<(bstr (c :: u')).size:=by rw [bstr_size];simp
    have ei:∀p,(bstr (c :: u'))[0]'p=c:=fun p=>rfl
    by_cases h47:c=47
    ·subst h47
     have hle:u'.length≤1099511627776:=by
      have h2:=HWP.out.2
      rw [if_pos rfl] at h2
      obtain ⟨_,_,_,_,h5⟩:=h2
      have h6:=(List.dropWhile_sublist sp.digitB (l:=bodyOf X)).length_le
      have h7:(bodyOf X).length≤X.length:=by unfold bodyOf;split<;>simp
      have:=HN.out
      rw [←h5] at h6
      simp at h6
      omega
     have es1:(1:Int)≤(bstr (47 :: u')).size:=by rw [bstr_size];simp;omega
     have ex:(bstr (47 :: u')).extract 1 (bstr (47 :: u')).size=bstr u':=ext_drop (47 :: u') 1 _ (by simp) (bstr_size _)
     have HW2:=Lib.hid (fun W=>whole_any u' W hle)
     go_wp2_with (first
      | (go_at_call 124;(try rw [ex]);refine (HW2.out _).mono ?_;rintro e w2 ⟨⟨v2,u3,ok2,rfl,hw2⟩,hb2⟩;refine Hid.out ?_))
     refine Lib.hid ?_
     have HWP2:=Lib.hid hw2
     have HP:=Lib.hid ((PF.new HB1.out HR1.out v 1).on hb2)
     obtain ⟨r0,r1,k0,k1,y0,y1⟩:=HP.out.cells
     obtain ⟨f0,f1⟩:=HP.out.free
     have hne:¬w1.heap.size=w.heap.size:=by omega
     have hne2:¬w.heap.size=w1.heap.size:=by omega
     clear hb2 hw2 HW2
     cases ok2 with
     | false =>
      have HF:=Lib.hid (frac_L4a HX.out HWP.out HWP2.out)
      cases neg with
      | false =>
       have HE:=HP.out.den hlt v2
       go_wp2
       exact ret_frac rfl rfl rfl (HE.fin _ _).1 ⟨HF.out,(HE.fin _ _).2⟩
      | true =>
       have HE:=(HP.out.den hlt v2).num hlt (-v)
       go_wp2
       exact ret_frac rfl rfl rfl (HE.fin _ _).1 ⟨HF.out,(HE.fin _ _).2⟩
     | true =>
      obtain ⟨hw0,hw1⟩:=whole_range HWP2.out
      match u3 with
      | c3 :: u4 =>
       have e3:(bstr (c3 :: u4)).toList.isEmpty=false:=by rw [Lib.toList_data,bstr_toList];rfl
       have HF:=Lib.hid (frac_L4b HX.out HWP.out HWP2.out (by simp))
       cases neg with
       | false =>
        have HE:=HP.out.den hlt v2
        go_wp2
        exact ret_frac rfl rfl rfl (HE.fin _ _).1 ⟨HF.out,(HE.fin _ _).2⟩
       | true =>
        have HE:=(HP.out.den hlt v2).num hlt (-v)
        go_wp2
        exact ret_frac rfl rfl rfl (HE.fin _ _).1 ⟨HF.out,(HE.fin _ _).2⟩
      | [] =>
       have e3:(bstr []).toList.isEmpty=true:=by rw [Lib.toList_data];rfl
       cases neg with
       | false =>
        have hsg:sgn X v=v:=by unfold sgn;rw [if_neg (by have:=HNEG.out;simpa using this.symm)]
        by_cases hs1:sp.SureP (v) (v2)
        ·have q1:=sureB_yes hs1
         have HS1:=Lib.hid hs1
         by_cases ht:sp.ratS (v) (v2)=X
         ·have q2:((bstr (sp.ratS (v) (v2))).toList==(bstr X).toList)=true:=by rw [ht];exact beq_self_eq_true _
          have HF:=Lib.hid (frac_some ⟨by omega,by omega⟩ ⟨by omega,by omega⟩ hs1 ht)
          clear hs1 ht
          go_wp2_with (first
           | (go_at_call 106;refine (sure_any (v) (v2) _ ⟨by omega,by omega⟩ ⟨by omega,by omega⟩).mono ?_;rintro e w2 ⟨rfl,hb2⟩;have HP2:=Lib.hid ((HP.out.den hlt v2).on hb2);obtain ⟨r0,r1,k0,k1,y0,y1⟩:=HP2.out.cells;clear hb2)
           | (go_at_call 73;refine (ratText_any (v) (v2) _ ⟨by omega,by omega⟩ ⟨by omega,by omega⟩).mono ?_;rintro e w3 ⟨rfl,hb3⟩;have HP3:=Lib.hid (HP2.out.on hb3);obtain ⟨s0,s1,l0,l1,x0,x1⟩:=HP3.out.cells;clear hb3))
          exact ret_frac rfl rfl rfl (HP3.out.fin _ _).1 ⟨HF.out,(HP3.out.fin _ _).2⟩
         ·have q2:((bstr (sp.ratS (v) (v2))).toList==(bstr X).toList)=false:=by rw [Lib.toList_data (bstr X),bstr_toList];exact str_ne ht
          have HF:=Lib.hid (frac_L4c HX.out HWP.out HWP2.out (fun h=>ht (by rw [←hsg];exact h.2)))
          clear hs1 ht
          go_wp2_with (first
           | (go_at_call 106;refine (sure_any (v) (v2) _ ⟨by omega,by omega⟩ ⟨by omega,by omega⟩).mono ?_;rintro e w2 ⟨rfl,hb2⟩;have HP2:=Lib.hid ((HP.out.den hlt v2).on hb2);obtain ⟨r0,r1,k0,k1,y0,y1⟩:=HP2.out.cells;clear hb2)
           | (go_at_call 73;refine (ratText_any (v) (v2) _ ⟨by omega,by omega⟩ ⟨by omega,by omega⟩).mono ?_;rintro e w3 ⟨rfl,hb3⟩;have HP3:=Lib.hid (HP2.out.on hb3);obtain ⟨s0,s1,l0,l1,x0,x1⟩:=HP3.out.cells;clear hb3))
          exact ret_frac rfl rfl rfl (HP3.out.fin _ _).1 ⟨HF.out,(HP3.out.fin _ _).2⟩
        ·have q1:=sureB_no hs1
         have HF:=Lib.hid (frac_L4c HX.out HWP.out HWP2.out (fun h=>hs1 (by rw [←hsg];exact h.1)))
         clear hs1
         go_wp2_with (first
          | (go_at_call 106;refine (sure_any (v) (v2) _ ⟨by omega,by omega⟩ ⟨by omega,by omega⟩).mono ?_;rintro e w2 ⟨rfl,hb2⟩;have HP2:=Lib.hid ((HP.out.den hlt v2).on hb2);obtain ⟨r0,r1,k0,k1,y0,y1⟩:=HP2.out.cells;clear hb2))
         exact ret_frac rfl rfl rfl (HP2.out.fin _ _).1 ⟨HF.out,(HP2.out.fin _ _).2⟩
       | true =>
        have hsg:sgn X v = -v:=by unfold sgn;rw [if_pos (by have:=HNEG.out;simpa using this.symm)]
        by_cases hs1:sp.SureP (-v) (v2)
        ·have q1:=sureB_yes hs1
         have HS1:=Lib.hid hs1
         by_cases ht:sp.ratS (-v) (v2)=X
         ·have q2:((bstr (sp.ratS (-v) (v2))).toList==(bstr X).toList)=true:=by rw [ht];exact beq_self_eq_true _
          have HF:=Lib.hid (frac_some ⟨by omega,by omega⟩ ⟨by omega,by omega⟩ hs1 ht)
          clear hs1 ht
          go_wp2_with (first
           | (go_at_call 106;refine (sure_any (-v) (v2) _ ⟨by omega,by omega⟩ ⟨by omega,by omega⟩).mono ?_;rintro e w2 ⟨rfl,hb2⟩;have HP2:=Lib.hid (((HP.out.den hlt v2).num hlt (-v)).on hb2);obtain ⟨r0,r1,k0,k1,y0,y1⟩:=HP2.out.cells;clear hb2)
           | (go_at_call 73;refine (ratText_any (-v) (v2) _ ⟨by omega,by omega⟩ ⟨by omega,by omega⟩).mono ?_;rintro e w3 ⟨rfl,hb3⟩;have HP3:=Lib.hid (HP2.out.on hb3);obtain ⟨s0,s1,l0,l1,x0,x1⟩:=HP3.out.cells;clear hb3))
          exact ret_frac rfl rfl rfl (HP3.out.fin _ _).1 ⟨HF.out,(HP3.out.fin _ _).2⟩
         ·have q2:((bstr (sp.ratS (-v) (v2))).toList==(bstr X).toList)=false:=by rw [Lib.toList_data (bstr X),bstr_toList];exact str_ne ht
          have HF:=Lib.hid (frac_L4c HX.out HWP.out HWP2.out (fun h=>ht (by rw [←hsg];exact h.2)))
          clear hs1 ht
          go_wp2_with (first
           | (go_at_call 106;refine (sure_any (-v) (v2) _ ⟨by omega,by omega⟩ ⟨by omega,by omega⟩).mono ?_;rintro e w2 ⟨rfl,hb2⟩;have HP2:=Lib.hid (((HP.out.den hlt v2).num hlt (-v)).on hb2);obtain ⟨r0,r1,k0,k1,y0,y1⟩:=HP2.out.cells;clear hb2)
           | (go_at_call 73;refine (ratText_any (-v) (v2) _ ⟨by omega,by omega⟩ ⟨by omega,by omega⟩).mono ?_;rintro e w3 ⟨rfl,hb3⟩;have HP3:=Lib.hid (HP2.out.on hb3);obtain ⟨s0,s1,l0,l1,x0,x1⟩:=HP3.out.cells;clear hb3))
          exact ret_frac rfl rfl rfl (HP3.out.fin _ _).1 ⟨HF.out,(HP3.out.fin _ _).2⟩
        ·have q1:=sureB_no hs1
         have HF:=Lib.hid (frac_L4c HX.out HWP.out HWP2.out (fun h=>hs1 (by rw [←hsg];exact h.1)))
         clear hs1
         go_wp2_with (first
          | (go_at_call 106;refine (sure_any (-v) (v2) _ ⟨by omega,by omega⟩ ⟨by omega,by omega⟩).mono ?_;rintro e w2 ⟨rfl,hb2⟩;have HP2:=Lib.hid (((HP.out.den hlt v2).num hlt (-v)).on hb2);obtain ⟨r0,r1,k0,k1,y0,y1⟩:=HP2.out.cells;clear hb2))
         exact ret_frac rfl rfl rfl (HP2.out.fin _ _).1 ⟨HF.out,(HP2.out.fin _ _).2⟩
    ·have t47:((c.toNat:Int)==47)=false:=u8ne c 47 h47
     have HF:=Lib.hid (frac_L3 HX.out HWP.out h47)
     clear h47
     cases neg with
     | false =>
      go_wp2
      exact ret_frac rfl rfl rfl (heap_old _ _ _ (two_set HR1.out _ _)) ⟨HF.out,((HB1.out.setCell (Nat.le_refl _) _).setCell (Nat.le_refl _) _).alloc (by simp;omega) _⟩
     | true =>
      go_wp2
      exact ret_frac rfl rfl rfl (heap_old _ _ _ (two_set HR1.out _ _)) ⟨HF.out,((HB1.out.setCell (Nat.le_refl _) _).setCell (Nat.le_refl _) _).alloc (by simp;omega) _⟩
def PlainIs (p:List UInt8×Bool) (e:Ending):Prop:=match sp.wPlain p with
 | some t=>e=.returned (.string (bstr t))
 | none=>e=.panicked bar
def TextWIs (p:List UInt8×Bool) (e:Ending):Prop:=match sp.wText p with
 | some t=>e=.returned (.string (bstr t))
 | none=>e=.panicked bar
def FracWIs (p:List UInt8×Bool) (e:Ending):Prop:=match sp.wFrac p with
 | some q=>e=.returned (.agg #[.int .i64 q.1,.int .i64 q.2])
 | none=>e=.panicked bar
set_option maxRecDepth 100000 in
set_option maxHeartbeats 1000000 in
theorem wplain_any (p:List UInt8×Bool) (w:World):Calls Tryz.prog 28 #[.agg #[.string (bstr p.1),.bool p.2]] w fun e w'=>PlainIs p e∧Below w.heap.size w w':=by
 obtain ⟨t,q⟩:=p
 have HB:=Lib.hid (below_new w (.cells #[.string (bstr t),.bool q] 71))
 cases q with
 | true =>
  go_enter Tryz.func28,Tryz.ntmps28
  go_wp2_with (go_at_call 23;refine (must_no _).mono ?_;rintro e w1 ⟨rfl,rfl⟩)
  exact ⟨rfl,rfl,HB.out⟩
 | false =>
  go_enter Tryz.func28,Tryz.ntmps28
  go_wp2_with (go_at_call 23;refine (must_yes _).mono ?_;rintro e w1 ⟨rfl,rfl⟩)
  go_ret
  exact ⟨rfl,HB.out⟩
set_option maxRecDepth 100000 in
set_option maxHeartbeats 1000000 in
theorem wtext_any (p:List UInt8×Bool) (w:World):Calls Tryz.prog 55 #[.agg #[.string (bstr p.1),.bool p.2]] w fun e w'=>TextWIs p e∧Below w.heap.size w w':=by
 obtain ⟨t,q⟩:=p
 have HB:=Lib.hid (below_new w (.cells #[.string (bstr t),.bool q] 71))
 cases q with
 | false =>
  go_enter Tryz.func55,Tryz.ntmps55
  go_wp2_with (go_at_call 23;refine (must_no _).mono ?_;rintro e w1 ⟨rfl,rfl⟩)
  exact ⟨rfl,rfl,HB.out⟩
 | true =>
  go_enter Tryz.func55,Tryz.ntmps55
  go_wp2_with (go_at_call 23;refine (must_yes _).mono ?_;rintro e w1 ⟨rfl,rfl⟩)
  go_ret
  exact ⟨rfl,HB.out⟩
theorem ret_fr1 {W:World} {g:Nat} {a b:Value} {fn:Func} {tmps:Array Value} {R:Ending→World→Prop} (hr:fn.results=#[.cell 2 24]) (hp:tmps.getD 2 undef=.pointer (some ⟨g,0,none⟩)) (hg:W.heap[g]?=some (.cells #[a,b] 24 (0,0)))
  (h:R (.returned (.agg #[a,b])) W):bodyPost Tryz.prog fn R .ret ⟨tmps,[]⟩ W :=
 bodyPost_ret (results_cell_row hr tmps W g 24 #[a,b] (0,0) _ hp hg Tryz.underlying24 rfl info24) rfl h
structure FrW (w:World) (t:List UInt8) (q:Bool) (W:World):Prop where
 word:W.heap[w.heap.size]?=some (.cells #[.string (bstr t),.bool q] 71 (0,0))
 res:W.heap[w.heap.size+1]?=some (.cells #[.int .i64 0,.int .i64 0] 24 (0,0))
 bel:Below w.heap.size w W
theorem FrW.of {w w1 w2:World} {t:List UInt8} {q:Bool} (hb:Below w.heap.size w w1) (h0:w1.heap[w.heap.size]?=some (.cells #[.string (bstr t),.bool q] 71 (0,0))) (h1:w1.heap[w.heap.size+1]?=some (.cells #[.int .i64 0,.int .i64 0] 24 (0,0))) (hb2:Below w1.heap.size w1 w2):FrW w t q w2 :=
 ⟨(hb2.block _ (lt_of_block h0)).trans h0,(hb2.block _ (lt_of_block h1)).trans h1,hb.trans (hb2.mono (by have:=lt_of_block h0;omega))⟩
theorem FrW.cells {w W:World} {t:List UInt8} {q:Bool} (h:FrW w t q W):W.cell? ⟨w.heap.size,1,none⟩=some (.bool q)∧W.cell? ⟨w.heap.size+1,0,none⟩=some (.int .i64 0)∧W.cell? ⟨w.heap.size+1,1,none⟩=some (.int .i64 0)∧W.frozen? ⟨w.heap.size+1,0,none⟩=false∧W.frozen? ⟨w.heap.size+1,1,none⟩=false∧w.heap.size<W.heap.size∧w.heap.size+1<W.heap.size :=
 ⟨by rw [Lib.cell_of_heap h.word];rfl,by rw [Lib.cell_of_heap h.res];rfl,by rw [Lib.cell_of_heap h.res];rfl,blk_free h.res 0,blk_free h.res 1,lt_of_block h.word,lt_of_block h.res⟩
set_option maxRecDepth 100000 in
set_option maxHeartbeats 2000000 in
theorem wfrac_any (p:List UInt8×Bool) (w:World) (hn:p.1.length≤1099511627776):Calls Tryz.prog 53 #[.agg #[.string (bstr p.1),.bool p.2]] w fun e w'=>FracWIs p e∧Below w.heap.size w w':=by
 obtain ⟨t,q⟩:=p
 have HP:=Lib.hid (fun W=>parse_any t W hn)
 have hb0:=below_new w (.cells #[.string (bstr t),.bool q] 71)
 have hb1:=hb0.alloc (by simp) (.cells #[.int .i64 0,.int .i64 0] 24)
 have HB:=Lib.hid hb1
 have c0:=heap_old _ (.cells #[.int .i64 0,.int .i64 0] 24) _ (heap_alloc_at w (.cells #[.string (bstr t),.bool q] 71))
 have c1:=heap_alloc_at (w.alloc (.cells #[.string (bstr t),.bool q] 71)) (.cells #[.int .i64 0,.int .i64 0] 24)
 have hsz:(w.alloc (.cells #[.string (bstr t),.bool q] 71)).heap.size=w.heap.size+1:=by simp
 rw [hsz] at c1
 have HC0:=Lib.hid c0;have HC1:=Lib.hid c1
 clear hn hb0 hb1 c0 c1 hsz
 cases hf:sp.fracS t with
 | none =>
  have HF:Hid (FracWIs (t,q) (.panicked bar)):=Lib.hid (by
   cases q
   ·show (match (if false=true then none else sp.fracS t) with | some q=>_ | none=>_)
    rw [if_neg (by decide),hf]
   ·exact rfl)
  have HE:=Lib.hid hf
  clear hf
  cases q with
  | true =>
   go_enter Tryz.func53,Tryz.ntmps53
   go_wp2_with (first
    | (go_at_call 93;refine (HP.out _).mono ?_;rintro e w2 ⟨he,hb2⟩;unfold FracIs at he;rw [HE.out] at he;subst he;have HW2:=Lib.hid (FrW.of HB.out HC0.out HC1.out hb2);obtain ⟨g0,g1,g2,g3,g4,g5,g6⟩:=HW2.out.cells;clear hb2)
    | (go_at_call 23;refine (must_no _).mono ?_;rintro e w3 ⟨rfl,rfl⟩))
   exact ⟨rfl,HF.out,HW2.out.bel.alloc (by have:=HW2.out.bel.size;omega) _⟩
  | false =>
   go_enter Tryz.func53,Tryz.ntmps53
   go_wp2_with (first
    | (go_at_call 93;refine (HP.out _).mono ?_;rintro e w2 ⟨he,hb2⟩;unfold FracIs at he;rw [HE.out] at he;subst he;have HW2:=Lib.hid (FrW.of HB.out HC0.out HC1.out hb2);obtain ⟨g0,g1,g2,g3,g4,g5,g6⟩:=HW2.out.cells;clear hb2)
    | (go_at_call 23;refine (must_no _).mono ?_;rintro e w3 ⟨rfl,rfl⟩))
   exact ⟨rfl,HF.out,HW2.out.bel.alloc (by have:=HW2.out.bel.size;omega) _⟩
 | some r =>
  have HE:=Lib.hid hf
  cases q with
  | true =>
   have HF:Hid (FracWIs (t,true) (.panicked bar)):=Lib.hid rfl
   clear hf
   go_enter Tryz.func53,Tryz.ntmps53
   go_wp2_with (first
    | (go_at_call 93;refine (HP.out _).mono ?_;rintro e w2 ⟨he,hb2⟩;unfold FracIs at he;rw [HE.out] at he;subst he;have HW2:=Lib.hid (FrW.of HB.out HC0.out HC1.out hb2);obtain ⟨g0,g1,g2,g3,g4,g5,g6⟩:=HW2.out.cells;clear hb2)
    | (go_at_call 23;refine (must_no _).mono ?_;rintro e w3 ⟨rfl,rfl⟩))
   exact ⟨rfl,HF.out,HW2.out.bel.alloc (by have:=HW2.out.bel.size;omega) _⟩
  | false =>
   have HF:Hid (FracWIs (t,false) (.returned (.agg #[.int .i64 r.1,.int .i64 r.2]))):=Lib.hid (by
    unfold FracWIs sp.wFrac
    simp only [hf]
    exact rfl)
   clear hf
   go_enter Tryz.func53,Tryz.ntmps53
   go_wp2_with (first
    | (go_at_call 93;refine (HP.out _).mono ?_;rintro e w2 ⟨he,hb2⟩;unfold FracIs at he;rw [HE.out] at he;subst he;have HW2:=Lib.hid (FrW.of HB.out HC0.out HC1.out hb2);obtain ⟨g0,g1,g2,g3,g4,g5,g6⟩:=HW2.out.cells;clear hb2)
    | (go_at_call 23;refine (must_yes _).mono ?_;rintro e w3 ⟨rfl,rfl⟩))
   refine ret_fr1 rfl rfl (heap_old _ _ _ (two_set HW2.out.res _ _)) ⟨HF.out,?_⟩
   exact ((HW2.out.bel.setCell (Nat.le_succ _) _).setCell (Nat.le_succ _) _).alloc (by have:=HW2.out.bel.size;simp;omega) _
/-! ### A line that says nothing -/
theorem trimLeft_any (t:List UInt8) (w:World):Calls Tryz.prog 45 #[.string (bstr t),.string ⟨#[32]⟩] w fun e w'=>e=.returned (.string (bstr (t.dropWhile (· == 32))))∧w'=w :=
 (Any.strings_TrimLeft_one Tryz.laysTrim (bstr t) 32 (by decide) w).mono fun e w' ⟨h1,h2⟩=>⟨by
  rw [h1]
  have:Lib.trimLeftB (bstr t).data.toList 32=t.dropWhile (· == 32):=by rw [bstr_toList];rfl
  rw [this];rfl,h2⟩
set_option maxRecDepth 100000 in
set_option maxHeartbeats 1000000 in
theorem silent_any (t:List UInt8) (w:World):Calls Tryz.prog 25 #[.string (bstr t)] w fun e w'=>e=.returned (.bool (sp.silentB t))∧w'=w:=by
 have HT:=Lib.hid (fun W=>trimLeft_any t W)
 have hd:sp.silentB t=((t.dropWhile (· == 32)).head?==none||(t.dropWhile (· == 32)).head?==some 35):=rfl
 generalize t.dropWhile (· == 32)=u at HT hd
 have HD:=Lib.hid hd
 clear hd
 match u with
 | [] =>
  have e1:(bstr []).toList.isEmpty=true:=by rw [Lib.toList_data];rfl
  go_enter Tryz.func25,Tryz.ntmps25
  go_wp2_with (go_at_call 45;refine (HT.out _).mono ?_;rintro e w1 ⟨rfl,rfl⟩)
  go_ret
  exact ⟨by rw [HD.out];rfl,rfl⟩
 | c :: r =>
  have e1:(bstr (c :: r)).toList.isEmpty=false:=by rw [Lib.toList_data,bstr_toList];rfl
  have e0:0<(bstr (c :: r)).size:=by rw [bstr_size];simp
  have ei:∀p,(bstr (c :: r))[0]'p=c:=fun p=>rfl
  by_cases h:c=35
  ·subst h
   go_enter Tryz.func25,Tryz.ntmps25
   go_wp2_with (go_at_call 45;refine (HT.out _).mono ?_;rintro e w1 ⟨rfl,rfl⟩)
   go_ret
   exact ⟨by rw [HD.out];rfl,rfl⟩
  ·have t1:((c.toNat:Int)==35)=false:=u8ne c 35 h
   have HD2:Hid (sp.silentB t=false):=Lib.hid (by rw [HD.out];simp [h])
   clear h
   go_enter Tryz.func25,Tryz.ntmps25
   go_wp2_with (go_at_call 45;refine (HT.out _).mono ?_;rintro e w1 ⟨rfl,rfl⟩)
   go_ret
   exact ⟨by rw [HD2.out];rfl,rfl⟩
theorem contains_nl (t:List UInt8) (w:World):Calls Tryz.prog 24 #[.string (bstr t),.string ⟨#[10]⟩] w fun e w'=>e=.returned (.bool (decide (10∈t)))∧w'=w :=
 (Any.strings_Contains_one Tryz.laysContains (bstr t) 10 w).mono fun e w' ⟨h1,h2⟩=>⟨by
  rw [h1,bstr_toList,←Lib.contains_iff_indexByte,List.contains_eq_mem],h2⟩
def QS (wb:World) (b q:Nat) (O:Option Obj) (l:List UInt8) (wr:World):Prop :=
 ∃own,Bld wr 92 [] b own l∧some q≠own∧b<q∧q<wr.heap.size∧wr.heap[q]?=O∧Below b wb wr
theorem u8_of {c:Int} (h0:0≤c) (h1:c≤255):∃k:UInt8,c=k.toNat∧UInt8.ofNat c.toNat=k:=by
 refine ⟨UInt8.ofNat c.toNat,?_,rfl⟩
 rw [UInt8.toNat_ofNat']
 have:c.toNat%2 ^ 8=c.toNat:=Nat.mod_eq_of_lt (by omega)
 rw [this]
 omega
theorem u8_back (k:UInt8):UInt8.ofNat ((k.toNat:Int)).toNat=k:=by
 apply UInt8.toNat_inj.1
 simp
section
variable {wb wr:World} {b q:Nat} {O:Option Obj} {l:List UInt8}
theorem QS.step {own own':Option Nat} {w':World} {l':List UInt8} (hB:Bld wr 92 [] b own l) (hne:some q≠own) (hbq:b<q) (hq:q<wr.heap.size) (hO:wr.heap[q]?=O) (hbl:Below b wb wr) (h1:BldP w' 92 [] b (selfP b) own' l') (hf:Fr wr w' b own) (ho:Own wr own own'):QS wb b q O l' w' :=
 ⟨own',Or.inr h1,ho.ne hq hne,hbq,Nat.lt_of_lt_of_le hq hf.size,by rw [hf.block q hq (by omega) hne];exact hO,hbl.trans (hf.below (Nat.le_refl b) (fun g hg=>by have:=hB.own_lt g hg;omega) (by have:=hB.lt;omega))⟩
theorem QS.byte (h:QS wb b q O l wr) {c:Int} (h0:0≤c) (h1:c≤255) (hn:l.length+1≤140737488355328) :
  Calls Tryz.prog 41 #[.pointer (some ⟨b,0,none⟩),.int .u8 c] wr fun e w'=>e=.returned .nilIface∧QS wb b q O (l++[UInt8.ofNat c.toNat]) w':=by
 obtain ⟨own,hB,hne,hbq,hq,hO,hbl⟩:=h
 obtain ⟨k,rfl,_⟩:=u8_of h0 h1
 rw [u8_back]
 refine (writeByte_any wr 92 [] b own l k bt92 hB hn).mono ?_
 rintro e w' ⟨rfl,own',h1,hf,ho⟩
 exact ⟨rfl,QS.step hB hne hbq hq hO hbl h1 hf ho⟩
theorem QS.str (h:QS wb b q O l wr) (t:ByteArray) (hn:l.length+t.size≤140737488355328) :
  Calls Tryz.prog 40 #[.pointer (some ⟨b,0,none⟩),.string t] wr fun e w'=>e=.returned (.tuple #[.int .i64 t.size,.nilIface])∧QS wb b q O (l++t.data.toList) w':=by
 obtain ⟨own,hB,hne,hbq,hq,hO,hbl⟩:=h
 refine (writeString_any wr 92 [] b own l t bt92 hB hn).mono ?_
 rintro e w' ⟨rfl,own',h1,hf,ho⟩
 exact ⟨rfl,QS.step hB hne hbq hq hO hbl h1 hf ho⟩
theorem QS.text (h:QS wb b q O l wr):Calls Tryz.prog 42 #[.pointer (some ⟨b,0,none⟩)] wr fun e w'=>e=.returned (.string (bstr l))∧Below b wb w':=by
 obtain ⟨own,hB,hne,hbq,hq,hO,hbl⟩:=h
 refine (string_any wr 92 [] b own l hB).mono ?_
 rintro e w' ⟨rfl,hf⟩
 exact ⟨rfl,hbl.trans (hf.below (Nat.le_refl b) (fun g hg=>by have:=hB.own_lt g hg;omega) (by have:=hB.lt;omega))⟩
end
def Wrote (w:World) (b:Nat) (own:Option Nat) (l:List UInt8) (ok:Bool) (w':World):Prop :=
 ∃own',Bld w' 123 [.bool ok] b own' l∧Fr w w' b own∧Own w own own'
theorem Wrote.refl {w:World} {b:Nat} {own:Option Nat} {l:List UInt8} {ok:Bool} (h:Bld w 123 [.bool ok] b own l):Wrote w b own l ok w:=⟨own,h,Fr.refl _ _ _,Own.refl _ _⟩
theorem Wrote.then {w w1 w2:World} {b:Nat} {own own1 own2:Option Nat} {l:List UInt8} {ok:Bool} (hf:Fr w w1 b own) (ho:Own w own own1) (h2:Bld w2 123 [.bool ok] b own2 l) (hf2:Fr w1 w2 b own1) (ho2:Own w1 own1 own2):Wrote w b own l ok w2 :=
 ⟨own2,h2,hf.trans hf2 ho,ho.trans hf.size ho2⟩
theorem Fr.keepOwn {w w1:World} {b c:Nat} {own:Option Nat} (hf:Fr w w1 b own) (hc:c<w.heap.size) (hb:c≠b) (ho:some c≠own):w1.heap[c]?=w.heap[c]?:=hf.block c hc hb ho
/-! ### Fractions -/
end Go.Proofs.YtihlneenajlhoaaGreatDoor
namespace Go.Proofs.YtihlneenajlhoaaGreatDoor
open Go Go.RowKit Go.Shelf
end Go.Proofs.YtihlneenajlhoaaGreatDoor
set_option linter.unusedSimpArgs false
set_option linter.unusedVariables false
namespace Go.Proofs.YtihlneenajlhoaaGreatDoor
open Go Go.RowKit
section
variable {w0 w:World} {b:Nat} {own:Option Nat} {l:List UInt8} {ok:Bool}
theorem Wrote.new (h:Wrote w0 b own l ok w) (x:Obj):∃own1,Bld (w.alloc x) 123 [.bool ok] b own1 l∧Fr w0 (w.alloc x) b own∧Own w0 own own1∧w.heap.size≠b∧some w.heap.size≠own1:=by
 obtain ⟨own1,hb,hf,ho⟩:=h
 refine ⟨own1,hb.below (below_new _ _),hf.trans (Fr.of_below (below_new _ _)) ho,ho,by have:=hb.lt;omega,fun e => ?_⟩
 have:=hb.own_lt _ e.symm
 omega
theorem Wrote.below {w1:World} (h:Wrote w0 b own l ok w) (hb:Below w.heap.size w w1):Wrote w0 b own l ok w1:=by
 obtain ⟨own1,h1,hf,ho⟩:=h
 exact ⟨own1,h1.below hb,hf.trans (Fr.of_below hb) ho,ho⟩
end
def boxRow:Array Value:=#[.string ⟨#[110,111,110,101]⟩,.string ⟨#[105,110,108,105,110,101]⟩,.string ⟨#[115,105,122,101]⟩]
theorem boxes_any (w:World):Calls Tryz.prog 94 #[] w fun e w'=>e=.returned (.slice (some ⟨w.heap.size,0,none⟩) 3 3)∧w'=w.alloc (.cells boxRow 9):=by
 go_enter Tryz.func94,Tryz.ntmps94
 go_wp2
 go_ret
 exact ⟨rfl,rfl⟩
theorem Wrote.keep {wA w1:World} {b B:Nat} {own:Option Nat} {l:List UInt8} {ok:Bool} {x:Obj} (h:Wrote wA b own l ok w1) (hB:wA.heap[B]?=some x) (n1:B≠b) (n2:some B≠own):w1.heap[B]?=some x:=by
 obtain ⟨own2,hb2,hf2,ho2⟩:=h
 exact (hf2.keepOwn (Array.getElem?_eq_some_iff.1 hB).1 n1 n2).trans hB
theorem Wrote.since {w0 wA w:World} {b:Nat} {own own1:Option Nat} {l:List UInt8} {ok:Bool} (hf:Fr w0 wA b own) (ho:Own w0 own own1) (h:Wrote wA b own1 l ok w):Wrote w0 b own l ok w:=by
 obtain ⟨own2,hb2,hf2,ho2⟩:=h
 exact Wrote.then hf ho hb2 hf2 ho2
structure Rw where
 k:Int
 n:Int
 g:Nat
deriving DecidableEq
def Rw.v (r:Rw):Value:=.agg #[.int .i64 r.k,.int .i64 r.n,.func (.func r.g) #[] #[]]
def Rw.d (r:Rw):DataW Unit:=.agg [.lit (.int .i64 r.k),.lit (.int .i64 r.n),.lit (.int .i64 (r.g:Int))]
def noRow:Value:=.agg #[.int .i64 0,.int .i64 0,.nilFunc]
def rowE (v:Value):Option (DataW Unit×List MemPlace):=match v with
 | .agg c=>(match c.toList with
  | [.int .i64 k,.int .i64 n,.func (.func g) p q]=>if p=#[]∧q=#[] then some ((Rw.mk k n g).d,[]) else none
  | [.int .i64 0,.int .i64 0,.nilFunc]=>some (.nil,[])
  | _=>none)
 | _=>none
theorem rowE_nil {v:Value} {ps:List MemPlace} (h:rowE v=some (.nil,ps)):v=noRow:=by
 unfold rowE at h
 split at h
 ·rename_i c
  split at h
  ·split at h
   ·cases h
   ·cases h
  ·rename_i hc
   unfold noRow
   congr 1
   apply Array.ext'
   exact hc
  ·cases h
 ·cases h
theorem rowE_at {v:Value} {b:Rw} {ps:List MemPlace} (h:rowE v=some (b.d,ps)):v=b.v:=by
 unfold rowE at h
 split at h
 ·rename_i c
  split at h
  ·rename_i k n g p q hc
   split at h
   ·rename_i hpq
    obtain ⟨rfl,rfl⟩:=hpq
    simp only [Option.some.injEq,Prod.mk.injEq,Rw.d,DataW.agg.injEq,List.cons.injEq,DataW.lit.injEq,Lit.int.injEq,true_and,and_true] at h
    obtain ⟨⟨h1,h2,h3⟩,_⟩:=h
    have h3':g=b.g:=Int.ofNat_inj.1 h3
    unfold Rw.v
    congr 1
    apply Array.ext'
    rw [hc,h1,h2,h3']
   ·cases h
  ·cases h
  ·cases h
 ·cases h
theorem isKL {x:List UInt8}:WideAt.IsKeyLit (.string x):=by unfold WideAt.IsKeyLit;trivial
theorem nodup_of_fst:∀ {l:List (List UInt8×Rw)},(l.map (·.1)).Nodup→l.Nodup
 | [],_=>List.nodup_nil
 | p :: l,h=>by
  rw [List.map_cons,List.nodup_cons] at h
  exact List.nodup_cons.2 ⟨fun hm=>h.1 (List.mem_map_of_mem hm),nodup_of_fst h.2⟩
theorem eq_of_fst:∀ {l:List (List UInt8×Rw)},(l.map (·.1)).Nodup→∀ {p q},p∈l→q∈l→p.1=q.1→p=q
 | [],_,_,_,h,_,_=>by cases h
 | a :: l,h,p,q,hp,hq,e=>by
  rw [List.map_cons,List.nodup_cons] at h
  rcases List.mem_cons.1 hp with h1 | h1
  ·rcases List.mem_cons.1 hq with h2 | h2
   ·rw [h1,h2]
   ·exact absurd (show a.1∈l.map (·.1) by rw [←h1,e];exact List.mem_map_of_mem (f:=(·.1)) h2) h.1
  ·rcases List.mem_cons.1 hq with h2 | h2
   ·exact absurd (show a.1∈l.map (·.1) by rw [←h2,←e];exact List.mem_map_of_mem (f:=(·.1)) h1) h.1
   ·exact eq_of_fst h.2 h1 h2 e
theorem keyed:Maps.Keyed Tryz.prog 9:=Maps.string_keyed Tryz.underlying9
abbrev KL (x:List UInt8):Lit:=.string x
theorem keyOf_ok {x:List UInt8} (h:x.length≤maxLen):keyOf Tryz.prog 9 (.string (bstr x))=some (KL x):=by
 have:=WideMaps.keyOf_string_mk (P:=Tryz.prog) Tryz.underlying9 (s:=bstr x) (by rw [bstr_size];exact h)
 rw [bstr_toList] at this
 exact this
structure Reads (D:DataW Unit) (f:List (List UInt8×Rw)):Prop where
 size:Maps.size D=f.length
 at_:∀x b,(x,b)∈f→∀z,D.atKey (KL x) z=b.d
 has:∀kl,Maps.has D kl=true↔∃p∈f,kl=KL p.1
structure MapIs (w:World) (B:Nat) (f:List (List UInt8×Rw)):Prop where
 own:∃D,w.ownsMap Tryz.prog 9 rowE B f.length D∧Reads D f
 keys:(f.map (·.1)).Nodup
 wf:∀p∈f,p.1.length≤maxLen
theorem MapIs.made (w:World):MapIs (w.alloc (.map #[] 0)) w.heap.size [] :=
 ⟨⟨_,World.ownsMap_made w Tryz.prog 9 rowE,⟨rfl,fun x b h=>(by cases h),fun kl=>⟨fun h=>(by cases h),fun ⟨p,h,_⟩=>(by cases h)⟩⟩⟩,List.nodup_nil,fun p h=>by cases h⟩
theorem MapIs.lt {w:World} {B:Nat} {f:List (List UInt8×Rw)} (h:MapIs w B f):B<w.heap.size:=by obtain ⟨D,h1,_⟩:=h.own;exact h1.lt
theorem MapIs.kept {w w':World} {B:Nat} {f:List (List UInt8×Rw)} (h:MapIs w B f) (hb:w'.heap[B]?=w.heap[B]?):MapIs w' B f:=by
 obtain ⟨D,⟨es,clock,h1,h2⟩,hr⟩:=h.own
 exact ⟨⟨D,⟨es,clock,hb.trans h1,h2⟩,hr⟩,h.keys,h.wf⟩
theorem MapIs.below {w w':World} {B C:Nat} {f:List (List UInt8×Rw)} (h:MapIs w B f) (hb:Below C w w') (hc:B<C):MapIs w' B f:=h.kept (hb.block B hc)
theorem MapIs.len {w:World} {B:Nat} {f:List (List UInt8×Rw)} (h:MapIs w B f) (ty:TypeId):(Builtin.len_ #[67] ty #[.map (some B)]).run Tryz.prog w=.ok (.int .i64 f.length) w:=by
 obtain ⟨D,h1,hr⟩:=h.own
 rw [h1.len Tryz.underlying67 ty,hr.size]
theorem reads_put {D:DataW Unit} {f:List (List UInt8×Rw)} {x:List UInt8} {b:Rw} (h:Reads D f) (ht:Maps.Tidy D) (hx:x∉f.map (·.1)):Reads (D.put (KL x) b.d) (f++[(x,b)]):=by
 have hno:Maps.has D (KL x)=false:=by
  cases hh:Maps.has D (KL x) with
  | false=>rfl
  | true =>
   obtain ⟨p,hp,e⟩:=(h.has _).1 hh
   simp only [KL,Lit.string.injEq] at e
   exact absurd (e ▸ List.mem_map_of_mem (f:=(·.1)) hp) hx
 refine ⟨?_,?_,?_⟩
 ·rw [Maps.size_put ht,hno,h.size];simp
 ·intro y c hy z
  rcases List.mem_append.1 hy with hy | hy
  ·have hne:KL y≠KL x:=fun e=>by
    simp only [KL,Lit.string.injEq] at e
    exact hx (e ▸ List.mem_map_of_mem (f:=(·.1)) hy)
   rw [Maps.atKey_put_other hne]
   exact h.at_ y c hy z
  ·simp only [List.mem_singleton,Prod.mk.injEq] at hy
   obtain ⟨rfl,rfl⟩:=hy
   exact Maps.atKey_put_same ht.isMap isKL _ _
 ·intro kl
  by_cases e:kl=KL x
  ·subst e
   rw [Maps.has_put_same ht.isMap isKL]
   exact ⟨fun _=>⟨(x,b),by simp,rfl⟩,fun _=>rfl⟩
  ·rw [Maps.has_put_other e,h.has]
   constructor
   ·rintro ⟨p,hp,rfl⟩;exact ⟨p,List.mem_append_left _ hp,rfl⟩
   ·rintro ⟨p,hp,rfl⟩
    rcases List.mem_append.1 hp with hp | hp
    ·exact ⟨p,hp,rfl⟩
    ·simp only [List.mem_singleton] at hp;subst hp;exact absurd rfl e
theorem MapIs.put {w:World} {B:Nat} {f:List (List UInt8×Rw)} (h:MapIs w B f) {x:List UInt8} {b:Rw} (hi:x.length≤maxLen) (hx:x∉f.map (·.1)) (hl:f.length<1000000) :
  ∃w',(Instr.mapUpdate 67 (.map (some B)) (.string (bstr x)) b.v).run Tryz.prog w=.ok () w'∧MapIs w' B (f++[(x,b)])∧w.grownBy w' (some B):=by
 obtain ⟨D,h1,hr⟩:=h.own
 obtain ⟨w',hrun,h2,h3⟩:=h1.update keyed Tryz.underlying67 (by unfold maxLen;omega) (keyOf_ok hi) (val:=b.v) (d:=b.d) (ps:=[]) rfl
 refine ⟨w',hrun,⟨⟨_,by simpa using h2,reads_put hr (h1.tidy keyed) hx⟩,?_,?_⟩,h3⟩
 ·rw [List.map_append,List.nodup_append]
  refine ⟨h.keys,by simp,?_⟩
  intro a ha c hc e
  simp only [List.map_cons,List.map_nil,List.mem_singleton] at hc
  exact hx (by rw [←hc,←e];exact ha)
 ·intro p hp
  rcases List.mem_append.1 hp with hp | hp
  ·exact h.wf p hp
  ·simp only [List.mem_singleton] at hp;subst hp;exact hi
def RangeIs (w:World) (B r:Nat) (f rest:List (List UInt8×Rw)) (cnt:Nat):Prop :=
 ∃D left,Reads D f∧w.ranges Tryz.prog 9 rowE B r f.length D left cnt∧(∀kl,left kl=true↔∃p∈rest,kl=KL p.1)∧(∀p∈rest,p∈f)∧(rest.map (·.1)).Nodup
theorem RangeIs.left {w:World} {B r:Nat} {f rest:List (List UInt8×Rw)} {cnt:Nat} (h:RangeIs w B r f rest cnt):w.rangeLeft B r=cnt:=by
 obtain ⟨D,left,_,h2,_⟩:=h;exact h2.left_eq
theorem RangeIs.kept {w w':World} {B r:Nat} {f rest:List (List UInt8×Rw)} {cnt:Nat} (h:RangeIs w B r f rest cnt) (hB:w'.heap[B]?=w.heap[B]?) (hr:w'.heap[r]?=w.heap[r]?):RangeIs w' B r f rest cnt:=by
 obtain ⟨D,left,h1,⟨es,clock,since,seen,c0,g1,g2,g3,g4,g5,g6⟩,h3⟩:=h
 exact ⟨D,left,h1,⟨es,clock,since,seen,c0,hB.trans g1,g2,g3,g4,hr.trans g5,g6⟩,h3⟩
theorem RangeIs.lt {w:World} {B r:Nat} {f rest:List (List UInt8×Rw)} {cnt:Nat} (h:RangeIs w B r f rest cnt):B<w.heap.size∧r<w.heap.size∧r≠B:=by
 obtain ⟨D,left,_,h2,_⟩:=h;exact ⟨h2.owns.lt,h2.lt,h2.ne⟩
theorem MapIs.range {w:World} {B:Nat} {f:List (List UInt8×Rw)} (h:MapIs w B f):∃w',(Instr.range 67 (.map (some B))).run Tryz.prog w=.ok (.pointer (some ⟨w.heap.size,0,none⟩)) w'∧RangeIs w' B w.heap.size f f f.length∧w.grownBy w' none∧w'.heap.size=w.heap.size+1:=by
 obtain ⟨D,h1,hr⟩:=h.own
 obtain ⟨w',hrun,h2,h3,h4⟩:=h1.range keyed Tryz.underlying67
 exact ⟨w',hrun,⟨D,Maps.has D,hr,(by rw [←hr.size] at h2 ⊢; exact h2),hr.has,fun p hp=>hp,h.keys⟩,h3,h4⟩
theorem RangeIs.next {w:World} {B r:Nat} {f rest:List (List UInt8×Rw)} {cnt:Nat} (h:RangeIs w B r f rest cnt) (ty:TypeId) :
  (rest = []∧(Instr.next (.pointer (some ⟨r,0,none⟩)) false ty).run Tryz.prog w=.ok (.tuple #[.bool false]) w) ∨
  ∃x b w' cnt',(x,b)∈rest∧(Instr.next (.pointer (some ⟨r,0,none⟩)) false ty).run Tryz.prog w=.ok (.tuple #[.bool true,.string (bstr x),b.v]) w'∧RangeIs w' B r f (rest.erase (x,b)) cnt'∧cnt'<cnt ∧
   w.grownBy w' (some r)∧w'.heap.size=w.heap.size∧(Instr.entry (.pointer (some ⟨r,0,none⟩))).run Tryz.prog w'=.ok (.tuple #[.string (bstr x),b.v]) w':=by
 obtain ⟨D,left,hr,h2,hl,hf,hn⟩:=h
 rcases h2.next keyed ty with ⟨h0,hk,hrun⟩ | ⟨key,v,kl,y,w',cnt',hkey,hlk,hv,hat,hrun,hrg,hlt,hgr,hsz,hen⟩
 ·refine .inl ⟨?_,hrun⟩
  cases rest with
  | nil=>rfl
  | cons p l =>
   have:=(hl (KL p.1)).2 ⟨p,List.mem_cons_self,rfl⟩
   rw [hk] at this
   cases this
 ·obtain ⟨⟨x,b⟩,hp,rfl⟩:=(hl kl).1 hlk
  obtain ⟨x',rfl,e,_⟩:=Maps.keyOf_str Tryz.underlying9 hkey
  simp only [KL,Lit.string.injEq] at e
  subst e
  have hd:=hr.at_ x b (hf _ hp)
  have e2:y=(b.d,y.2):=Prod.ext ((hat .nil).symm.trans (hd .nil)) rfl
  rw [e2] at hv
  obtain rfl:=rowE_at hv
  have hnd:rest.Nodup:=nodup_of_fst hn
  refine .inr ⟨x,b,w',cnt',hp,hrun,⟨D,_,hr,hrg,fun kl => ?_,fun p hp=>hf p (List.mem_of_mem_erase hp),hn.sublist (List.erase_sublist.map _)⟩,hlt,hgr,hsz,hen⟩
  simp only [Bool.and_eq_true,Bool.not_eq_true',hl]
  constructor
  ·rintro ⟨⟨p,hp',rfl⟩,hs⟩
   refine ⟨p,(List.mem_erase_of_ne fun e => ?_).2 hp',rfl⟩
   subst e
   have:=WideAt.sameKey_self (a:=KL x) isKL
   rw [hs] at this
   cases this
  ·rintro ⟨p,hp',rfl⟩
   have hm:=List.mem_of_mem_erase hp'
   refine ⟨⟨p,hm,rfl⟩,Maps.sameKey_ne fun e => ?_⟩
   simp only [KL,Lit.string.injEq] at e
   have:p=(x,b):=by
    exact eq_of_fst hn hm hp e
   subst this
   exact (List.Nodup.not_mem_erase hnd) hp'
section
variable {ops:Array Oper} {rest:List Oper} {o:Oper} {a:Act} {Q:Exit→Act→World→Prop} {w:World} {B:Nat} {f:List (List UInt8×Rw)}
theorem wpl_row_ins (hg:o.guard=none) (m x v:Operand) (hop:o.op=Op.insert 67 m x v) (hm:a.eval m=.map (some B)) (h:MapIs w B f) (c:List UInt8) (hx:a.eval x=.string ⟨c.toArray⟩) (k n:Int) (g:Nat) (hv:a.eval v=.agg #[.int .i64 k,.int .i64 n,.func (.func g) #[] #[]]) (hi:c.length≤maxLen) (hk:c∉f.map (·.1)) (hl:f.length<1000000)
  (hS:∀w',MapIs w' B (f++[(c,⟨k,n,g⟩)])→w.grownBy w' (some B)→wpList Tryz.prog ops Q rest (a.put o.dst undef) w'):wpList Tryz.prog ops Q (o :: rest) a w:=by
 refine wpList_plain hg fun K' hK' => ?_
 obtain ⟨w',hrun,h1,h2⟩:=h.put hi hk hl (b:=⟨k,n,g⟩)
 have hrun':(Instr.mapUpdate 67 (.map (some B)) (.string ⟨c.toArray⟩) (.agg #[.int .i64 k,.int .i64 n,.func (.func g) #[] #[]])).run Tryz.prog w=.ok () w':=hrun
 unfold Oper.wp
 simp [execOp,hop,hm,hx,hv,hrun',Result.andThen]
 exact hK' _ _ (hS w' h1 h2)
end
def rowsL:List (List UInt8×Rw):=[([115,104,101,101,116],⟨1,2,54⟩),([118,105,101,119],⟨2,2,56⟩),([102,111,110,116],⟨3,1,52⟩),([99,111,108,111,114],⟨13,1,52⟩),([112,114,105,110,116],⟨14,1,57⟩),([119,111,114,100],⟨4,2,58⟩),([105,110,115,101,114,116],⟨5,3,59⟩),([114,101,109,111,118,101],⟨6,1,49⟩),([115,101,116],⟨7,3,60⟩),([117,110,115,101,116],⟨8,2,51⟩),([98,111,120],⟨9,5,61⟩),([97,115,107],⟨10,2,51⟩),([99,117,115,116,111,109],⟨11,2,51⟩),([114,117,108,101,115],⟨12,1,49⟩),([99,111,117,110,116],⟨15,0,62⟩)]
set_option maxRecDepth 100000 in
set_option maxHeartbeats 4000000 in
theorem rows_any (w:World):Calls Tryz.prog 27 #[] w fun e w'=>e=.returned (.map (some w.heap.size))∧MapIs w' w.heap.size rowsL∧Below w.heap.size w w':=by
 have hmm:=@run_makeMap Tryz.prog
 have HM:Hid (MapIs (w.alloc (.map #[] 0)) w.heap.size []):=Lib.hid (MapIs.made w)
 have HB:Hid (Below w.heap.size w (w.alloc (.map #[] 0))):=Lib.hid (below_new w _)
 go_enter Tryz.func27,Tryz.ntmps27
 go_wp2_with (refine wpl_row_ins rfl _ _ _ rfl rfl HM.out _ rfl _ _ _ rfl (by decide) (by decide) (by decide) ?_;intro w' hm' hg';clear HM;have HM:=Lib.hid hm';have HB2:=Lib.hid (HB.out.grown hg' HB.out.size (fun k hk=>by cases hk;exact Nat.le_refl _));clear HB;have HB:=Lib.hid HB2.out;clear HB2 hm' hg')
 go_ret
 exact ⟨rfl,HM.out,HB.out⟩
def QR (wb:World) (b q:Nat) (O:Option Obj) (l:List UInt8) (d:Value) (wr:World):Prop :=
 wr.ownsRow b 5 1 d l.length (Lib.byteCells l)∧d.ownBlock≠some q∧b≤q∧q<wr.heap.size∧wr.heap[q]?=O∧Below b wb wr
section
variable {wb wr w':World} {b q:Nat} {O:Option Obj} {l ys:List UInt8} {d v':Value}
theorem QR.alloc (h:QR wb b q O l d wr) (o:Obj):QR wb b q O l d (wr.alloc o):=by
 obtain ⟨h1,h2,h3,h4,h5,h6⟩:=h
 exact ⟨h1.alloc o,h2,h3,by simp;omega,by rw [Below.heap_alloc _ _ _ h4];exact h5,h6.alloc (by omega) o⟩
theorem QR.drew (h:QR wb b q O l d wr):QR wb b q O l d wr.drew:=by
 obtain ⟨h1,h2,h3,h4,h5,h6⟩:=h
 exact ⟨h1,h2,h3,h4,h5,h6.drew⟩
theorem QR.app (h:QR wb b q O l d wr) (hown:w'.ownsRow b 5 1 v' (l++ys).length (Lib.byteCells (l++ys))) (hg:wr.grownBy w' d.ownBlock) (hat:v'.ownBlock=d.ownBlock∨v'.ownBlock=some wr.heap.size):QR wb b q O (l++ys) v' w':=by
 obtain ⟨h1,h2,h3,h4,h5,h6⟩:=h
 refine ⟨hown,?_,h3,Nat.lt_of_lt_of_le h4 hg.size,by rw [hg.block q h4 (fun e=>h2 e.symm)];exact h5,h6.grown hg (by omega) (fun k hk=>(h1.lt k hk).1)⟩
 rcases hat with e | e
 ·rw [e];exact h2
 ·rw [e];intro k;have:=Option.some.inj k;omega
end
set_option maxRecDepth 100000 in
theorem conv_own {w:World} {base:Nat} {v:Value} {l:List UInt8} (h:w.ownsRow base 5 1 v l.length (Lib.byteCells l)):(convert 22 9 v).run Tryz.prog w=.ok (.string (bstr l)) w:=by
 rcases h.2 with ⟨rfl,h0⟩ | ⟨g,cap,cur,rfl,hbg,hg,hnc,hcm,hcs,htake⟩
 ·have:l = []:=List.eq_nil_of_length_eq_zero h0
  subst this
  exact Go.run_convert_bytes_back (P:=Tryz.prog) w 22 9 5 ⟨0,0,none⟩ 0 [] Tryz.underlying22 Tryz.underlying5 Tryz.underlying9 (fun j hj=>by cases hj)
 ·refine Go.run_convert_bytes_back (P:=Tryz.prog) w 22 9 5 ⟨g,0,none⟩ cap l Tryz.underlying22 Tryz.underlying5 Tryz.underlying9 (fun j hj => ?_)
  have:=h.cells (g:=g) rfl j (.int .u8 l[j].toNat) (by simp [Lib.byteCells,hj])
  exact this
end Go.Proofs.YtihlneenajlhoaaGreatDoor
