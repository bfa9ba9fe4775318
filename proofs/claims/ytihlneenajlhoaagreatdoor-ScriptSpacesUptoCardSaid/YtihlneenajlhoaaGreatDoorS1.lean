/-
 The shelf's contracts of strings.IndexAny, strings.IndexByte, utf8.ValidRune at this program. No condition: the premises are facts of the program's text.
-/
import Derived.Test.YtihlneenajlhoaaGreatDoorProg
import Derived.Shelf.Lay
import Derived.Shelf.Lays
import Derived.Shelf.Strings.IndexAnyAll
import Derived.Shelf.Small.Strs
import Derived.Shelf.Small.Utf8
import Derived.Ground.NamesProg
import Derived.Test.YtihlneenajlhoaaGreatDoorS0
import Derived.Lib.DecodeN
import Derived.Lib.TrimU
import Derived.Laws.RangeAny
import Derived.Deep.RegionHeld
import Derived.OrdersHeld
import Derived.Maps.RangeWalk
import Derived.StringKeys
import Derived.Laws.EntriesVeiled
import Derived.Sort.KeysCollected
import Derived.Deep.RegionLaw
import Derived.Deep.AppendLies
import Derived.Deep.MidRow
namespace Go.Proofs.YtihlneenajlhoaaGreatDoor
open Go Go.RowKit Go.Shelf
def Tryz.laysAny_ren:Go.Shelf.Ren:=⟨fun | 153=>148 | 152=>154 | 226=>211 | 227=>87 | 228=>119 | 137=>212 | 119=>213 | 224=>117 | 225=>116 | 217=>115 | 266=>151 | n=>n,fun | 9=>9 | 3=>3 | 4=>4 | 5=>5 | 21=>21 | 117=>135 | 116=>134 | 0=>0 | 46=>120 | 124=>138 | n=>n,fun | n=>n⟩
theorem Tryz.laysAny:Go.Proofs.Lays.n153 Tryz.prog Tryz.laysAny_ren:={
 mixed:=by kernel_rfl,
 f119:=Tryz.func213.trans (congrArg some (by kernel_rfl)),
 f137:=Tryz.func212.trans (congrArg some (by kernel_rfl)),
 f152:=Tryz.func154.trans (congrArg some (by kernel_rfl)),
 f153:=Tryz.func148.trans (congrArg some (by kernel_rfl)),
 f217:=Tryz.func115.trans (congrArg some (by kernel_rfl)),
 f224:=Tryz.func117.trans (congrArg some (by kernel_rfl)),
 f225:=Tryz.func116.trans (congrArg some (by kernel_rfl)),
 f226:=Tryz.func211.trans (congrArg some (by kernel_rfl)),
 f227:=Tryz.func87.trans (congrArg some (by kernel_rfl)),
 f228:=Tryz.func119.trans (congrArg some (by kernel_rfl)),
 f266:=Tryz.func151.trans (congrArg some (by kernel_rfl)),
 t0:=Tryz.underlying0,
 a0:=Tryz.isAgg0,
 z0:=Tryz.sizeOf0,
 v0:=Tryz.zeroValue0,
 t3:=Tryz.underlying3,
 a3:=Tryz.isAgg3,
 z3:=Tryz.sizeOf3,
 v3:=Tryz.zeroValue3,
 t4:=Tryz.underlying4,
 a4:=Tryz.isAgg4,
 z4:=Tryz.sizeOf4,
 v4:=Tryz.zeroValue4,
 t5:=Tryz.underlying5,
 a5:=Tryz.isAgg5,
 z5:=Tryz.sizeOf5,
 v5:=Tryz.zeroValue5,
 t9:=Tryz.underlying9,
 a9:=Tryz.isAgg9,
 z9:=Tryz.sizeOf9,
 v9:=Tryz.zeroValue9,
 t21:=Tryz.underlying21,
 a21:=Tryz.isAgg21,
 z21:=Tryz.sizeOf21,
 v21:=Tryz.zeroValue21,
 t46:=Tryz.underlying120,
 a46:=Tryz.isAgg120,
 z46:=Tryz.sizeOf120,
 v46:=Tryz.zeroValue120,
 t116:=Tryz.underlying134,
 a116:=Tryz.isAgg134,
 z116:=Tryz.sizeOf134,
 t117:=Tryz.underlying135,
 a117:=Tryz.isAgg135,
 z117:=Tryz.sizeOf135,
 v117:=Tryz.zeroValue135,
 t124:=Tryz.underlying138,
 a124:=Tryz.isAgg138,
 z124:=Tryz.sizeOf138,
 v124:=Tryz.zeroValue138 }
def Tryz.laysByte_ren:Go.Shelf.Ren:=⟨fun | 137=>212 | 217=>115 | 266=>151 | n=>n,fun | 9=>9 | 5=>5 | 3=>3 | n=>n,fun | n=>n⟩
theorem Tryz.laysByte:Go.Proofs.Lays.n137 Tryz.prog Tryz.laysByte_ren:={
 mixed:=by kernel_rfl,
 f137:=Tryz.func212.trans (congrArg some (by kernel_rfl)),
 f217:=Tryz.func115.trans (congrArg some (by kernel_rfl)),
 f266:=Tryz.func151.trans (congrArg some (by kernel_rfl)),
 t3:=Tryz.underlying3,
 a3:=Tryz.isAgg3,
 z3:=Tryz.sizeOf3,
 v3:=Tryz.zeroValue3,
 t5:=Tryz.underlying5,
 a5:=Tryz.isAgg5,
 z5:=Tryz.sizeOf5,
 v5:=Tryz.zeroValue5,
 t9:=Tryz.underlying9,
 a9:=Tryz.isAgg9,
 z9:=Tryz.sizeOf9,
 v9:=Tryz.zeroValue9 }
def Tryz.laysValid_ren:Go.Shelf.Ren:=⟨fun | 119=>213 | n=>n,fun | 21=>21 | 4=>4 | n=>n,fun | n=>n⟩
theorem Tryz.laysValid:Go.Proofs.Lays.n119 Tryz.prog Tryz.laysValid_ren:={
 mixed:=by kernel_rfl,
 f119:=Tryz.func213.trans (congrArg some (by kernel_rfl)),
 t4:=Tryz.underlying4,
 a4:=Tryz.isAgg4,
 z4:=Tryz.sizeOf4,
 v4:=Tryz.zeroValue4,
 t21:=Tryz.underlying21,
 a21:=Tryz.isAgg21,
 z21:=Tryz.sizeOf21,
 v21:=Tryz.zeroValue21 }
end Go.Proofs.YtihlneenajlhoaaGreatDoor
set_option linter.unusedSimpArgs false
set_option linter.unusedVariables false
namespace Go.Proofs.YtihlneenajlhoaaGreatDoor
open Go Go.RowKit
def seps:ByteArray:=⟨#[32,10,34]⟩
theorem seps_list:seps.data.toList = [32,10,34]:=rfl
theorem decodeN_hi (n b0 b1 b2 b3:Nat) (h:128≤b0) (h0:b0<256) (hn:0<n):let p:=Lib.decodeN n b0 b1 b2 b3;(1≤p.2∧p.2≤4∧p.2≤n)∧(2≤p.2→128≤b1)∧(3≤p.2→128≤b2)∧(4≤p.2→128≤b3)∧128≤p.1∧(p.1<55296∨(57344≤p.1∧p.1≤1114111)):=by
 simp only
 unfold Lib.decodeN
 repeat' split
 all_goals (simp only;omega)
theorem decode_hi (s:ByteArray) (i:Nat) (h:i<s.size) (hx:128≤(s[i]'h).toNat):(1≤(Utf8.decode s i).2∧i+(Utf8.decode s i).2≤s.size)∧(∀j,j<(Utf8.decode s i).2→128≤(s.get! (i+j)).toNat)∧128≤(Utf8.decode s i).1∧((Utf8.decode s i).1<55296∨(57344≤(Utf8.decode s i).1∧(Utf8.decode s i).1≤1114111)):=by
 have h0:128≤(s.get! i).toNat:=by have:=get_at s i h;rw [Nat.add_zero] at this;rw [this];exact hx
 have key:=decodeN_hi (s.size-i) (s.get! i).toNat (s.get! (i+1)).toNat (s.get! (i+2)).toNat (s.get! (i+3)).toNat h0 (UInt8.toNat_lt _) (by omega)
 rw [←Lib.decode_at s i] at key
 obtain ⟨⟨k1,k2,k3⟩,k4,k5,k6,k7,k8⟩:=key
 refine ⟨⟨k1,by omega⟩,fun j hj => ?_,k7,k8⟩
 have:j=0∨j=1∨j=2∨j=3:=by omega
 rcases this with rfl | rfl | rfl | rfl
 ·exact h0
 ·exact k4 (by omega)
 ·exact k5 (by omega)
 ·exact k6 (by omega)
theorem sep_hi (b:UInt8) (h:128≤b.toNat):seps.data.toList.contains b=false:=by
 rw [seps_list]
 simp only [List.contains_eq_mem,decide_eq_false_iff_not,List.mem_cons,List.not_mem_nil,or_false]
 rintro (rfl | rfl | rfl)<;>simp at h
theorem noAny_step {s:ByteArray} {i n:Nat} (h:Lib.NoAny s.data.toList seps.data.toList i) (hh:∀j,j<n→128≤(s.get! (i+j)).toNat) (hn:i+n≤s.size):Lib.NoAny s.data.toList seps.data.toList (i+n):=by
 intro j b hj hb
 by_cases hlt:j<i
 ·exact h j b hlt hb
 ·have h1:=hh (j-i) (by omega)
  rw [show i+(j-i)=j by omega] at h1
  have h2:s.get! j=b:=by
   have h3:j<s.size:=by omega
   have h4:=get_at s j h3
   rw [Nat.add_zero] at h4
   rw [h4]
   have h5:s.data.toList[j]?=some (s[j]'h3):=Lib.data_getElem? s j h3
   rw [hb] at h5
   exact (Option.some.inj h5).symm
  rw [h2] at h1
  exact sep_hi b h1
theorem below_iter (w:World) (s:ByteArray) (i:Nat):Below w.heap.size w (w.iter s i):=below_new w _
set_option maxRecDepth 100000 in
set_option maxHeartbeats 4000000 in
theorem indexRune_err (w:World):Calls Tryz.prog 154 #[.string ⟨#[32,10,34]⟩,.int .i32 65533] w fun e w'=>e=.returned (.int .i64 (-1))∧Below w.heap.size w w':=by
 go_enter Tryz.func154,Tryz.ntmps154
 go_wp2
 go_loopg [5,6] 3 (fun g _ _ wx=>∃i:Nat,i+g=3∧wx=w.iter ⟨#[32,10,34]⟩ i)
 case atStart=>exact ⟨0,rfl,rfl⟩
 case round =>
  obtain ⟨i,hig,rfl⟩:=hrel
  cases gk with
  | zero =>
   obtain rfl:i=3:=by omega
   have hnx:=fun ty=>run_next_end (P:=Tryz.prog) w ⟨#[32,10,34]⟩ 3 ty (by decide)
   go_wp2
   go_ret
   exact ⟨rfl,below_iter w _ _⟩
  | succ g =>
   have hi:i=0∨i=1∨i=2:=by omega
   rcases hi with rfl | rfl | rfl
   ·have hnx:=fun ty=>run_next_ascii (P:=Tryz.prog) w ⟨#[32,10,34]⟩ 0 ty (by decide) (by decide)
    have hb:((⟨#[32,10,34]⟩:ByteArray)[0]'(by decide)).toNat=32:=by decide
    go_wp2
    go_roundg g
    case measure=>omega
    case rel=>exact ⟨1,by omega,rfl⟩
   ·have hnx:=fun ty=>run_next_ascii (P:=Tryz.prog) w ⟨#[32,10,34]⟩ 1 ty (by decide) (by decide)
    have hb:((⟨#[32,10,34]⟩:ByteArray)[1]'(by decide)).toNat=10:=by decide
    go_wp2
    go_roundg g
    case measure=>omega
    case rel=>exact ⟨2,by omega,rfl⟩
   ·have hnx:=fun ty=>run_next_ascii (P:=Tryz.prog) w ⟨#[32,10,34]⟩ 2 ty (by decide) (by decide)
    have hb:((⟨#[32,10,34]⟩:ByteArray)[2]'(by decide)).toNat=34:=by decide
    go_wp2
    go_roundg g
    case measure=>omega
    case rel=>exact ⟨3,by omega,rfl⟩
theorem encode_two {r:Nat} (h0:128≤r) (h1:r<2048):Utf8.encode (r:Int)=⟨#[UInt8.ofNat (0xC0+r / 64),UInt8.ofNat (0x80+r%64)]⟩:=by
 have hv:Utf8.valid (r:Int)=true:=by unfold Utf8.valid;simp;omega
 unfold Utf8.encode
 rw [if_pos hv]
 simp only [Int.toNat_natCast]
 rw [if_neg (by omega),if_pos (by omega)]
theorem encode_three {r:Nat} (h0:2048≤r) (h1:r<65536) (hv:r<55296∨(57344≤r∧r≤1114111)):Utf8.encode (r:Int)=⟨#[UInt8.ofNat (0xE0+r / 4096),UInt8.ofNat (0x80+r / 64%64),UInt8.ofNat (0x80+r%64)]⟩:=by
 have hv:Utf8.valid (r:Int)=true:=by unfold Utf8.valid;simp;omega
 unfold Utf8.encode
 rw [if_pos hv]
 simp only [Int.toNat_natCast]
 rw [if_neg (by omega),if_neg (by omega),if_pos (by omega)]
theorem encode_four {r:Nat} (h0:65536≤r) (h1:r≤1114111):Utf8.encode (r:Int)=⟨#[UInt8.ofNat (0xF0+r / 262144),UInt8.ofNat (0x80+r / 4096%64),UInt8.ofNat (0x80+r / 64%64),UInt8.ofNat (0x80+r%64)]⟩:=by
 have hv:Utf8.valid (r:Int)=true:=by unfold Utf8.valid;simp;omega
 unfold Utf8.encode
 rw [if_pos hv]
 simp only [Int.toNat_natCast]
 rw [if_neg (by omega),if_neg (by omega),if_neg (by omega)]
theorem last_hi (k:Nat):128≤(UInt8.ofNat (128+k%64)).toNat:=by
 rw [UInt8.toNat_ofNat']
 omega
theorem valid_of {r:Nat} (h:r<55296∨(57344≤r∧r≤1114111)):Lib.validRune (r:Int)=true:=by
 unfold Lib.validRune
 simp
 omega
theorem index_no:∀(l:List UInt8) (y:UInt8),y∉l→Lib.indexByte l y = -1
 | [],_,_=>rfl
 | a :: l,y,h=>by
  have h1:(a==y)=false:=by simpa using fun e=>h (by rw [e];exact List.mem_cons_self)
  have h2:=index_no l y (fun hm=>h (List.mem_cons_of_mem _ hm))
  unfold Lib.indexByte
  rw [h1,h2]
  rfl
theorem byte_no (i j:Nat) (y:UInt8) (hy:128≤y.toNat) (w:World):Calls Tryz.prog 212 #[.string ((⟨#[32,10,34]⟩:ByteArray).extract i j),.int .u8 y.toNat] w fun e w'=>e=.returned (.int .i64 (-1))∧w'=w:=by
 refine (Any.strings_IndexByte Tryz.laysByte _ (y.toNat:Int) w).mono ?_
 rintro e w' ⟨rfl,rfl⟩
 refine ⟨?_,rfl⟩
 have e1:((y.toNat:Int)).toNat.toUInt8=y:=by simp
 rw [e1,index_no _ _ ?_]
 intro hm
 have h2:y∈[(32:UInt8),10,34]:=by
  have:((⟨#[32,10,34]⟩:ByteArray).extract i j).data.toList=([32,10,34]:List UInt8).extract i j:=by simp
  rw [this] at hm
  exact List.mem_of_mem_drop (List.mem_of_mem_take (by simpa [List.extract] using hm))
 simp only [List.mem_cons,List.not_mem_nil,or_false] at h2
 rcases h2 with rfl | rfl | rfl<;>simp at hy
theorem byte_no' (y:UInt8) (hy:128≤y.toNat) (w:World):Calls Tryz.prog 212 #[.string ByteArray.empty,.int .u8 y.toNat] w fun e w'=>e=.returned (.int .i64 (-1))∧w'=w:=byte_no 3 3 y hy w
theorem ret_goto {Q:Exit→Act→World→Prop} {a:Act} {w:World} (h:Q .ret a w):Exit.noGoto Q .ret a w:=h
theorem ret_block {Q:Exit→Act→World→Prop} {a:Act} {w:World} {n:Nat} (h:Q .ret a w):Exit.inBlock n Q .ret a w:=h
theorem ret_then {Q:Exit→Act→World→Prop} {K:Act→World→Prop} {a:Act} {w:World} (h:Q .ret a w):Exit.then K Q .ret a w:=h
set_option maxRecDepth 1000000 in
set_option maxHeartbeats 4000000 in
theorem indexRune_two (r:Nat) (w:World) (h0:128≤r) (h1:r<2048):Calls Tryz.prog 154 #[.string ⟨#[32,10,34]⟩,.int .i32 r] w fun e w'=>e=.returned (.int .i64 (-1))∧Below w.heap.size w w':=by
 obtain ⟨x,y,he,hy⟩:∃x y:UInt8,Utf8.encode (r:Int)=⟨#[x,y]⟩∧128≤y.toNat:=⟨_,_,encode_two h0 h1,last_hi r⟩
 have e10:∀h,(((⟨#[32,10,34]⟩:ByteArray)[1]'h).toNat:Int)=10:=fun _=>rfl
 have ey:∀h,(((⟨#[x,y]⟩:ByteArray)[1]'h).toNat:Int)=y.toNat:=fun _=>rfl
 have hw2:IntKind.i64.wrap 2=2:=by decide
 have hsz:(⟨#[32,10,34]⟩:ByteArray).size=3:=rfl
 have hy1:((10:Int) != (y.toNat:Int))=true:=by simp;omega
 have HV:=Lib.hid (valid_of (r:=r) (by omega))
 have q1:decide ((0:Int)≤(r:Int))=true:=by simp
 have q2:decide ((r:Int)<128)=false:=by simp;omega
 have q3:((r:Int)==65533)=false:=by simp;omega
 clear h0 h1
 go_enter Tryz.func154,Tryz.ntmps154
 go_wp2_with (first
  | (go_at_call 213;refine (Any.utf8_ValidRune Tryz.laysValid r w).mono ?_;rintro e w1 ⟨rfl,hw⟩;rw [hw,HV.out];clear hw))
 go_step3
 go_wp2
 refine wp_loop_rounds 1 ?_
 rw [rounds_succ]
 go_wp2
 go_step3
 go_wp2
 go_quiet (fail)
 go_wp2
 go_quiet ((go_at_call 212;exact (byte_no _ _ y hy _).mono (fun _ _ hq=>⟨hq.1,_,hq.2⟩)))
 go_wp2
 repeat (first | refine ret_goto ?_ | refine ret_block ?_ | refine ret_then ?_)
 go_ret
 exact ⟨rfl,below_drewN (Below.refl _ _) _⟩
set_option maxRecDepth 1000000 in
set_option maxHeartbeats 4000000 in
theorem indexRune_three (r:Nat) (w:World) (h0:2048≤r) (h1:r<65536) (h3:r≠65533) (h2:r<55296∨(57344≤r∧r≤1114111)):Calls Tryz.prog 154 #[.string ⟨#[32,10,34]⟩,.int .i32 r] w fun e w'=>e=.returned (.int .i64 (-1))∧Below w.heap.size w w':=by
 obtain ⟨x1,x2,y,he,hy⟩:∃x1 x2 y:UInt8,Utf8.encode (r:Int)=⟨#[x1,x2,y]⟩∧128≤y.toNat:=⟨_,_,_,encode_three h0 h1 h2,last_hi r⟩
 have e10:∀h,(((⟨#[32,10,34]⟩:ByteArray)[2]'h).toNat:Int)=34:=fun _=>rfl
 have ey:∀h,(((⟨#[x1,x2,y]⟩:ByteArray)[2]'h).toNat:Int)=y.toNat:=fun _=>rfl
 have hw2:IntKind.i64.wrap 3=3:=by decide
 have hsz:(⟨#[32,10,34]⟩:ByteArray).size=3:=rfl
 have hy1:((34:Int) != (y.toNat:Int))=true:=by simp;omega
 have HV:=Lib.hid (valid_of (r:=r) h2)
 have q1:decide ((0:Int)≤(r:Int))=true:=by simp
 have q2:decide ((r:Int)<128)=false:=by simp;omega
 have q3:((r:Int)==65533)=false:=by simp;omega
 clear h0 h1 h2 h3
 go_enter Tryz.func154,Tryz.ntmps154
 go_wp2_with (first
  | (go_at_call 213;refine (Any.utf8_ValidRune Tryz.laysValid r w).mono ?_;rintro e w1 ⟨rfl,hw⟩;rw [hw,HV.out];clear hw))
 go_step3
 go_wp2
 refine wp_loop_rounds 1 ?_
 rw [rounds_succ]
 go_wp2
 go_step3
 go_wp2
 go_quiet (fail)
 go_wp2
 go_quiet ((go_at_call 212;exact (byte_no' y hy _).mono (fun _ _ hq=>⟨hq.1,_,hq.2⟩)))
 go_wp2
 repeat (first | refine ret_goto ?_ | refine ret_block ?_ | refine ret_then ?_)
 go_ret
 exact ⟨rfl,below_drewN (Below.refl _ _) _⟩
set_option maxRecDepth 1000000 in
set_option maxHeartbeats 4000000 in
theorem indexRune_four (r:Nat) (w:World) (h0:65536≤r) (h1:r≤1114111):Calls Tryz.prog 154 #[.string ⟨#[32,10,34]⟩,.int .i32 r] w fun e w'=>e=.returned (.int .i64 (-1))∧Below w.heap.size w w':=by
 obtain ⟨x1,x2,x3,y,he⟩:∃x1 x2 x3 y:UInt8,Utf8.encode (r:Int)=⟨#[x1,x2,x3,y]⟩:=⟨_,_,_,_,encode_four h0 h1⟩
 have hsz:(⟨#[32,10,34]⟩:ByteArray).size=3:=rfl
 have HV:=Lib.hid (valid_of (r:=r) (by omega))
 have q1:decide ((0:Int)≤(r:Int))=true:=by simp
 have q2:decide ((r:Int)<128)=false:=by simp;omega
 have q3:((r:Int)==65533)=false:=by simp;omega
 clear h0 h1
 go_enter Tryz.func154,Tryz.ntmps154
 go_wp2_with (first
  | (go_at_call 213;refine (Any.utf8_ValidRune Tryz.laysValid r w).mono ?_;rintro e w1 ⟨rfl,hw⟩;rw [hw,HV.out];clear hw))
 go_step3
 go_wp2
 refine wp_loop_rounds 1 ?_
 rw [rounds_succ]
 go_wp2
 rw [Exit.noGoto_ret]
 go_ret
 exact ⟨rfl,Below.refl _ _⟩
theorem indexRune_hi (r:Nat) (w:World) (h0:128≤r) (h1:r<55296∨(57344≤r∧r≤1114111)):Calls Tryz.prog 154 #[.string ⟨#[32,10,34]⟩,.int .i32 r] w fun e w'=>e=.returned (.int .i64 (-1))∧Below w.heap.size w w':=by
 by_cases hr:r=65533
 ·subst hr;exact indexRune_err w
 ·by_cases h2:r<2048
  ·exact indexRune_two r w h0 h2
  ·by_cases h3:r<65536
   ·exact indexRune_three r w (by omega) h3 hr h1
   ·exact indexRune_four r w (by omega) (by omega)
theorem next_at {w:World} {b:Nat} {s:ByteArray} {pos:Nat} (hg:w.heap[b]?=some (.stringIter s pos)) (h:pos<s.size) (ty:TypeId) :
  (Instr.next (.pointer (some ⟨b,0,none⟩)) true ty).run Tryz.prog w =
   .ok (.tuple #[.bool true,.int .i64 pos,.int .i32 (Utf8.decode s pos).1]) { w with heap:=w.heap.setIfInBounds b (.stringIter s (pos+(Utf8.decode s pos).2)) }:=by
 simp only [Instr.next,getObj,setObj,Sem.run_bind,Sem.run,hg,Result.andThen,h,if_true]
 simp [goInt]
theorem next_end {w:World} {b:Nat} {s:ByteArray} {pos:Nat} (hg:w.heap[b]?=some (.stringIter s pos)) (h:¬pos<s.size) (ty:TypeId) :
  (Instr.next (.pointer (some ⟨b,0,none⟩)) true ty).run Tryz.prog w=.ok (.tuple #[.bool false]) w:=by
 simp [Instr.next,getObj,Sem.run,hg,h]
theorem below_set {B b:Nat} {a w:World} (x:Obj) (hB:B≤b) (h:Below B a w):Below B a { w with heap:=w.heap.setIfInBounds b x } :=
 ⟨h.os,h.tape,h.output,by simpa using h.size,fun k hk=>by
  have:=h.block k hk
  rw [←this]
  simp only [Array.getElem?_setIfInBounds]
  rw [if_neg (by omega)]⟩
theorem get_set {w:World} {b:Nat} {x:Obj} (y:Obj) (h:w.heap[b]?=some x):({ w with heap:=w.heap.setIfInBounds b y }:World).heap[b]?=some y:=by
 have hb:b<w.heap.size:=by
  rcases Nat.lt_or_ge b w.heap.size with h1 | h1
  ·exact h1
  ·rw [Array.getElem?_eq_none h1] at h;cases h
 show (w.heap.setIfInBounds b y)[b]?=_
 simp [Array.getElem?_setIfInBounds,hb]
set_option maxRecDepth 1000000 in
set_option maxHeartbeats 4000000 in
theorem indexAny_short (s:ByteArray) (w:World) (h8:s.size≤8):Calls Tryz.prog 148 #[.string s,.string ⟨#[32,10,34]⟩] w fun e w'=>e=.returned (.int .i64 (Lib.indexAny s.data.toList seps.data.toList))∧Below w.heap.size w w':=by
 have h8z:decide ((8:Int)<(s.size:Int))=false:=decide_eq_false (by omega)
 go_enter Tryz.func148,Tryz.ntmps148
 go_wp2_with (go_at_call 211;refine (Any.strings_shouldUseASCIISet { Tryz.laysAny with } _ _).mono ?_;rintro e w' ⟨rfl,hw⟩;rw [hw,h8z];clear hw)
 go_loopg [9,10] s.size (fun g _ _ wx=>∃i:Nat,i+g=s.size∧wx.heap[w.heap.size]?=some (.stringIter s i)∧Below w.heap.size w wx∧Lib.NoAny s.data.toList seps.data.toList i)
 case atStart=>exact ⟨0,by omega,World.iter_heap w s 0,below_iter w s 0,Lib.NoAny.zero _ _⟩
 case round =>
  obtain ⟨i,hig,hit,hbel,hno⟩:=hrel
  have HN:=Lib.hid hno
  clear hno
  cases gk with
  | zero =>
   obtain rfl:i=s.size:=by omega
   have hnx:=fun ty=>next_end hit (Nat.lt_irrefl _) ty
   go_wp2
   go_ret
   exact ⟨by rw [Lib.indexAny_none (by rw [←Lib.size_eq];exact HN.out)];rfl,hbel⟩
  | succ g =>
   have hi:i<s.size:=by omega
   have hnx:=fun ty=>next_at hit hi ty
   have hw1:=get_set (.stringIter s (i+(Utf8.decode s i).2)) hit
   have hb1:=below_set (.stringIter s (i+(Utf8.decode s i).2)) (Nat.le_refl _) hbel
   generalize ({ wr with heap:=wr.heap.setIfInBounds w.heap.size (.stringIter s (i+(Utf8.decode s i).2)) }:World)=w1 at hnx hw1 hb1
   clear hit hbel
   obtain ⟨x,hx⟩:∃x:UInt8,s[i]'hi=x:=⟨_,rfl⟩
   have Hx:=Lib.hid (show s.data.toList[i]?=some x by rw [←hx];exact Lib.data_getElem? s i hi)
   by_cases hlo:x.toNat<128
   ·have hd:=decode_ascii s i hi (by rw [hx];exact hlo)
    rw [hx] at hd
    rw [hd] at hnx hw1
    have hcon:=Lib.contains_iff_indexByte seps.data.toList x
    have hback:((x.toNat:Int)).toNat.toUInt8=x:=by simp
    clear hd hx
    cases hin:seps.data.toList.contains x
    ·rw [hin] at hcon
     have hlt:decide ((0:Int)≤Lib.indexByte [32,10,34] x)=false:=hcon.symm
     clear hcon
     go_wp2_with (go_at_call 154;refine (Any.strings_IndexRune_ascii { Tryz.laysAny with } _ _ _ (by omega) (by omega)).mono ?_;rintro e w' ⟨rfl,hw⟩;rw [hw,hback];clear hw)
     go_roundg g
     case measure=>omega
     case rel=>exact ⟨i+1,by omega,hw1,hb1,HN.out.succ Hx.out hin⟩
    ·rw [hin] at hcon
     have hge:decide ((0:Int)≤Lib.indexByte [32,10,34] x)=true:=hcon.symm
     clear hcon
     go_wp2_with (go_at_call 154;refine (Any.strings_IndexRune_ascii { Tryz.laysAny with } _ _ _ (by omega) (by omega)).mono ?_;rintro e w' ⟨rfl,hw⟩;rw [hw,hback];clear hw)
     go_ret
     exact ⟨by rw [Lib.indexAny_hit HN.out Hx.out hin];rfl,hb1⟩
   ·obtain ⟨⟨k1,k2⟩,k3,k4,k5⟩:=decode_hi s i hi (by rw [hx];omega)
    have HN2:=Lib.hid (noAny_step HN.out k3 k2)
    have HR:=Lib.hid (fun w=>indexRune_hi (Utf8.decode s i).1 w k4 k5)
    clear k3 k4 k5 HN Hx hx
    generalize (Utf8.decode s i).1=r at hnx HR
    generalize (Utf8.decode s i).2=k at k1 k2 hnx hw1 hb1 HN2
    have hs1:w.heap.size<w1.heap.size:=by
     rcases Nat.lt_or_ge w.heap.size w1.heap.size with h1 | h1
     ·exact h1
     ·rw [Array.getElem?_eq_none h1] at hw1;cases hw1
    go_wp2_with (go_at_call 154;refine (HR.out _).mono ?_;rintro e w2 ⟨rfl,hw2⟩;have hw3:=hw2.block _ hs1;have hb3:=hb1.trans (hw2.mono (Nat.le_of_lt hs1)))
    go_roundg (g+1-k)
    case measure=>omega
    case rel=>exact ⟨i+k,by omega,by rw [hw3];exact hw1,hb3,HN2.out⟩
theorem indexAny_long (s:ByteArray) (w:World) (h8:8<s.size) (hs:s.size<4294967281):Calls Tryz.prog 148 #[.string s,.string ⟨#[32,10,34]⟩] w fun e w'=>e=.returned (.int .i64 (Lib.indexAny s.data.toList seps.data.toList))∧Below w.heap.size w w':=by
 have z:=zero_of_info (P:=Tryz.prog) (t:=134) (v:=.agg (Array.replicate 256 (.bool false))) (n:=256) (by kernel_rfl)
 refine (Any.strings_IndexAny_long Tryz.laysAny z.1 z.2 s seps w (by decide) h8 hs (by decide) ?_).mono fun e w' ⟨h1,h2⟩=>⟨h1,?_⟩
 ·intro j b hb
  have hm:b∈seps.data.toList:=List.mem_of_getElem? hb
  rw [seps_list] at hm
  simp only [List.mem_cons,List.not_mem_nil,or_false] at hm
  rcases hm with rfl | rfl | rfl<;>decide
 ·rw [h2]
  exact ((Below.refl _ _).alloc (Nat.le_refl _) _).alloc (by simp) _
theorem indexAny_any (s:ByteArray) (w:World) (hs:s.size<4294967281):Calls Tryz.prog 148 #[.string s,.string ⟨#[32,10,34]⟩] w fun e w'=>e=.returned (.int .i64 (Lib.indexAny s.data.toList seps.data.toList))∧Below w.heap.size w w':=by
 by_cases h8:s.size≤8
 ·exact indexAny_short s w h8
 ·exact indexAny_long s w (by omega) hs
def sepIn (l:List UInt8):Bool:=l.any fun c=>c==32||c==10||c==34
theorem sepIn_eq:∀l:List UInt8,decide (0≤Lib.indexAny l seps.data.toList)=sepIn l
 | []=>rfl
 | a :: l=>by
  have ih:=sepIn_eq l
  have hg:=Lib.indexAny_ge seps.data.toList l
  have hc:seps.data.toList.contains a=(a==32||a==10||a==34):=by
   rw [seps_list]
   simp only [List.contains_eq_mem,List.mem_cons,List.not_mem_nil,or_false,Bool.decide_or,Bool.or_assoc]
   rfl
  unfold Lib.indexAny
  simp only [sepIn,List.any_cons]
  rw [hc]
  cases a==32||a==10||a==34
  ·simp only [Bool.false_or,Bool.false_eq_true,if_false]
   rw [←sepIn,←ih]
   generalize Lib.indexAny l seps.data.toList=n at *
   by_cases hn:n = -1
   ·subst hn;rfl
   ·rw [if_neg (by simpa using hn)]
    exact decide_eq_decide.2 ⟨fun _=>by omega,fun _=>by omega⟩
  ·simp
set_option maxRecDepth 100000 in
theorem contains_any (s:ByteArray) (w:World) (hs:s.size<4294967281):Calls Tryz.prog 112 #[.string s,.string ⟨#[32,10,34]⟩] w fun e w'=>e=.returned (.bool (sepIn s.data.toList))∧Below w.heap.size w w':=by
 have h:=sepIn_eq s.data.toList
 generalize sepIn s.data.toList=v at h ⊢
 go_enter Tryz.func112,Tryz.ntmps112
 go_wp2_with (go_at_call 148;refine (indexAny_any s _ hs).mono ?_;rintro e w1 ⟨rfl,hb1⟩)
 go_ret
 exact ⟨rfl,hb1⟩
end Go.Proofs.YtihlneenajlhoaaGreatDoor
set_option linter.unusedVariables false
namespace Go.Proofs.YtihlneenajlhoaaGreatDoor.sp
open Go
def SmallP (n:Int):Prop := -1000000000<n∧n<1000000000
instance (n:Int):Decidable (SmallP n):=inferInstanceAs (Decidable (_∧_))
def plainB (s:Bs):Bool := !s.isEmpty&&s.all fun c=>c != 32&&c != 10&&c != 34
def boxText (b:Int):Bs:=if b=0 then kNone else if b=1 then kInline else kSize
def boxWord (s:Bs):Bs:=if s = [] then [45] else s
abbrev sp (s:Bs):Bs:=32 :: s
def oneS (o:Op):Option Bs :=
 if o.kind=1 then if SmallP o.origin then some (kSheet++sp (Lib.itoa o.origin)++sp (quoteS o.text)) else none
 else if o.kind=2 then if MayP o.w.1 o.w.2∧MayP o.h.1 o.h.2 then some (kView++sp (ratS o.w.1 o.w.2)++sp (ratS o.h.1 o.h.2)) else none
 else if o.kind=3 then if MayP o.w.1 o.w.2 then some (kFont++sp (ratS o.w.1 o.w.2)) else none
 else if o.kind=13 then if MayP o.w.1 o.w.2 then some (kColor++sp (ratS o.w.1 o.w.2)) else none
 else if o.kind=14 then some (kPrint++sp (if o.on then kOn else kOff))
 else if o.kind=4 then if plainB o.name∧plainB o.word then some (kWord++sp o.name++sp o.word) else none
 else if o.kind=5 then if SmallP o.node∧SmallP o.at_∧plainB o.name then some (kInsert++sp (Lib.itoa o.node)++sp (Lib.itoa o.at_)++sp o.name) else none
 else if o.kind=6 then if SmallP o.node then some (kRemove++sp (Lib.itoa o.node)) else none
 else if o.kind=7 then if SmallP o.node∧plainB o.name then some (kSet++sp (Lib.itoa o.node)++sp o.name++sp (quoteS o.word)) else none
 else if o.kind=8 then if SmallP o.node∧plainB o.name then some (kUnset++sp (Lib.itoa o.node)++sp o.name) else none
 else if o.kind=9 then if SmallP o.node∧(0≤o.bt∧o.bt≤2)∧o.bn≠[45]∧(o.bn = []∨plainB o.bn)∧MayP o.bw.1 o.bw.2∧MayP o.bh.1 o.bh.2 then some (kBox++sp (Lib.itoa o.node)++sp (boxText o.bt)++sp (boxWord o.bn)++sp (ratS o.bw.1 o.bw.2)++sp (ratS o.bh.1 o.bh.2)) else none
 else if o.kind=10 then if SmallP o.node∧plainB o.name then some (kAsk++sp (Lib.itoa o.node)++sp o.name) else none
 else if o.kind=11 then if SmallP o.node∧plainB o.name then some (kCustom++sp (Lib.itoa o.node)++sp o.name) else none
 else if o.kind=12 then if SmallP o.node then some (kRules++sp (Lib.itoa o.node)) else none
 else if o.kind=15 then some kCount
 else none
def textS:List Op→Option Bs
 | []=>some []
 | o :: l=>(oneS o).bind fun s=>(textS l).map fun t=>s++10 :: t
def silentB (s:Bs):Bool:=(s.dropWhile (· == 32)).head?==none||(s.dropWhile (· == 32)).head?==some 35
noncomputable def lineS (s:Bs):Option (Option Op) :=
 if 10∈s then none else if silentB s then some none else
 match words s with
 | some ((w,false) :: a)=>(opS w a).map some
 | _=>none
/-! ### Words, written and read -/
theorem words_nil:words []=some []:=by rw [words.eq_def];rfl
theorem words_space (s:Bs):words (32 :: s)=words s:=by
 rw [words.eq_def,words.eq_def s]
 rfl
theorem words_plain {w u:Bs} (h0:w≠[]) (h:∀c∈w,wordB c=true) (hu:u.head?=none∨u.head?=some 32):words (w++u)=(words u).map fun l=>(w,false) :: l:=by
 obtain ⟨c,r,rfl⟩:=List.exists_cons_of_ne_nil h0
 have hc:=h c List.mem_cons_self
 have hc1:c≠32∧c≠34:=by simpa [wordB] using hc
 have hd:(c :: r++u).dropWhile (· == 32)=c :: (r++u):=by
  rw [List.cons_append,List.dropWhile_cons,if_neg]
  simpa using hc1.1
 have hspan:(c :: (r++u)).dropWhile wordB=u∧(c :: (r++u)).takeWhile wordB=c :: r:=by
  have hst:∀u:Bs,(u.head?=none∨u.head?=some 32)→u.dropWhile wordB=u∧u.takeWhile wordB = []:=by
   intro u hu
   cases u with
   | nil=>exact ⟨rfl,rfl⟩
   | cons x u =>
    have hx:x=32:=by simpa using hu
    subst hx
    exact ⟨rfl,rfl⟩
  rw [←List.cons_append]
  constructor
  ·rw [List.dropWhile_append_of_pos h];exact (hst u hu).1
  ·rw [List.takeWhile_append_of_pos h,(hst u hu).2,List.append_nil]
 rw [words.eq_def]
 split
 ·rename_i h1;rw [hd] at h1;cases h1
 ·rename_i c' r' h1
  rw [hd] at h1
  obtain ⟨rfl,rfl⟩:=List.cons.inj h1
  rw [if_neg hc1.2,hspan.1,hspan.2,if_neg]
  rcases hu with hu | hu<;>rw [hu]<;>decide
theorem words_quote (t:Bs) {u:Bs} (hu:u.head?=none∨u.head?=some 32):words (quoteS t++u)=(words u).map fun l=>(t,true) :: l:=by
 have hq:qread (t.flatMap quoteB++[34]++u)=some (t,u):=by
  rw [List.append_assoc];exact qread_quote t u
 have hd:(quoteS t++u).dropWhile (· == 32)=34 :: (t.flatMap quoteB++[34]++u):=by
  unfold quoteS
  rw [List.cons_append,List.dropWhile_cons,if_neg (by decide)]
 rw [words.eq_def]
 split
 ·rename_i h1;rw [hd] at h1;cases h1
 ·rename_i c' r' h1
  rw [hd] at h1
  obtain ⟨rfl,rfl⟩:=List.cons.inj h1
  rw [if_pos rfl]
  split
  ·rename_i h2;rw [hq] at h2;cases h2
  ·rename_i t' u' h2
   rw [hq] at h2
   cases h2
   rw [if_pos hu]
def Piece (p:Bs×Wd):Prop:=(∀u:Bs,(u.head?=none∨u.head?=some 32)→words (p.1++u)=(words u).map fun l=>p.2 :: l)∧(10:UInt8)∉p.1
def row (ps:List (Bs×Wd)):Bs:=ps.flatMap fun p=>32 :: p.1
theorem row_head (ps:List (Bs×Wd)):(row ps).head?=none∨(row ps).head?=some 32:=by
 cases ps with
 | nil=>exact Or.inl rfl
 | cons p ps=>exact Or.inr rfl
theorem words_row (ps:List (Bs×Wd)) (h:∀p∈ps,Piece p):words (row ps)=some (ps.map (·.2)):=by
 induction ps with
 | nil=>exact words_nil
 | cons p ps ih =>
  have e:row (p :: ps)=32 :: (p.1++row ps):=by simp [row]
  rw [e,words_space,(h p List.mem_cons_self).1 _ (row_head ps),ih fun q hq=>h q (List.mem_cons_of_mem _ hq)]
  rfl
theorem row_nl (ps:List (Bs×Wd)) (h:∀p∈ps,Piece p):(10:UInt8)∉row ps:=by
 intro hm
 obtain ⟨p,hp,hx⟩:=List.mem_flatMap.1 hm
 rcases List.mem_cons.1 hx with hx | hx
 ·exact absurd hx (by decide)
 ·exact (h p hp).2 hx
theorem lineS_row {k:Bs} (hk0:k≠[]) (hk:∀c∈k,(c != 32&&c != 34&&c != 10&&c != 35)=true) (ps:List (Bs×Wd)) (h:∀p∈ps,Piece p):lineS (k++row ps)=(opS k (ps.map (·.2))).map some:=by
 have hw:∀c∈k,wordB c=true:=fun c hc=>by
  have:=hk c hc
  simp only [Bool.and_eq_true] at this
  simp [wordB,this.1.1.1,this.1.1.2]
 have hnl:(10:UInt8)∉k++row ps:=by
  rw [List.mem_append]
  rintro (hm | hm)
  ·exact absurd (hk 10 hm) (by decide)
  ·exact row_nl ps h hm
 have hs:silentB (k++row ps)=false:=by
  obtain ⟨c,r,rfl⟩:=List.exists_cons_of_ne_nil hk0
  have hc:=hk c List.mem_cons_self
  simp only [Bool.and_eq_true,bne_iff_ne,ne_eq] at hc
  unfold silentB
  rw [List.cons_append,List.dropWhile_cons,if_neg (by simpa using hc.1.1.1)]
  simp [hc.2]
 unfold lineS
 rw [if_neg hnl,hs,words_plain hk0 hw (row_head ps),words_row ps h]
 rfl
theorem piece_word {w:Bs} (h0:w≠[]) (h:∀c∈w,(c != 32&&c != 34&&c != 10)=true):Piece (w,(w,false)):=by
 refine ⟨fun u hu=>words_plain h0 (fun c hc => ?_) hu,fun hm=>absurd (h 10 hm) (by decide)⟩
 have:=h c hc
 simp only [Bool.and_eq_true] at this
 simp [wordB,this.1.1,this.1.2]
theorem piece_plain {w:Bs} (h:plainB w=true):Piece (w,(w,false)):=by
 unfold plainB at h
 simp only [Bool.and_eq_true,Bool.not_eq_true',List.isEmpty_eq_false_iff,List.all_eq_true] at h
 refine piece_word h.1 fun c hc => ?_
 have:=h.2 c hc
 simp only [Bool.and_eq_true]
 exact ⟨⟨this.1.1,this.2⟩,this.1.2⟩
theorem numB_word {c:UInt8} (h:numB c=true):(c != 32&&c != 34&&c != 10)=true:=by
 simp only [Bool.and_eq_true,bne_iff_ne,ne_eq]
 refine ⟨⟨?_,?_⟩,?_⟩<;>(rintro rfl;exact absurd h (by decide))
theorem piece_itoa (n:Int):Piece (Lib.itoa n,(Lib.itoa n,false)):=by
 obtain ⟨c,r,e,_⟩:=itoa_head n
 exact piece_word (by rw [e];exact List.cons_ne_nil _ _) fun c hc=>numB_word (itoa_numB n c hc)
theorem piece_ratS (n d:Int):Piece (ratS n d,(ratS n d,false)):=by
 refine piece_word ?_ ?_
 ·unfold ratS
  split
  ·obtain ⟨c,r,e,_⟩:=itoa_head n
   rw [e];exact List.cons_ne_nil _ _
  ·exact List.cons_ne_nil _ _
 ·unfold ratS
  intro c hc
  split at hc
  ·rcases List.mem_append.1 hc with hc | hc
   ·exact numB_word (itoa_numB n c hc)
   ·split at hc
    ·rcases List.mem_cons.1 hc with rfl | hc
     ·decide
     ·exact numB_word (itoa_numB d c hc)
    ·cases hc
  ·revert c;decide
theorem quoteB_nl (c:UInt8):(10:UInt8)∉quoteB c:=by
 have hx:∀k,k<16→hexd k≠10:=by decide
 unfold quoteB
 intro h
 split at h
 ·rename_i h1
  simp only [List.mem_cons,List.not_mem_nil,or_false] at h
  rcases h with h | rfl
  ·exact absurd h (by decide)
  ·rcases h1 with h1 | h1<;>exact absurd h1 (by decide)
 ·split at h
  ·revert h;decide
  ·split at h
   ·simp only [List.mem_cons,List.not_mem_nil,or_false] at h
    have:=c.toNat_lt
    rcases h with h | h | h | h
    ·exact absurd h (by decide)
    ·exact absurd h (by decide)
    ·exact hx _ (by omega) h.symm
    ·exact hx _ (by omega) h.symm
   ·rename_i h1 _
    simp only [List.mem_cons,List.not_mem_nil,or_false] at h
    exact h1 h.symm
theorem piece_quote (t:Bs):Piece (quoteS t,(t,true)):=by
 refine ⟨fun u hu=>words_quote t hu,?_⟩
 unfold quoteS
 simp only [List.mem_cons,List.mem_append,List.mem_flatMap,List.not_mem_nil,or_false,not_or]
 refine ⟨by decide,?_,by decide⟩
 rintro ⟨c,_,h⟩
 exact quoteB_nl c h
/-! ### An operation, written and read -/
def bareS (o:Op):Op :=
 if o.kind=1 then { kind:=1,origin:=o.origin,text:=o.text }
 else if o.kind=2 then { kind:=2,w:=o.w,h:=o.h }
 else if o.kind=3 then { kind:=3,w:=o.w }
 else if o.kind=13 then { kind:=13,w:=o.w }
 else if o.kind=14 then { kind:=14,on:=o.on }
 else if o.kind=4 then { kind:=4,name:=o.name,word:=o.word }
 else if o.kind=5 then { kind:=5,node:=o.node,at_:=o.at_,name:=o.name }
 else if o.kind=6 then { kind:=6,node:=o.node }
 else if o.kind=7 then { kind:=7,node:=o.node,name:=o.name,word:=o.word }
 else if o.kind=8 then { kind:=8,node:=o.node,name:=o.name }
 else if o.kind=9 then { kind:=9,node:=o.node,bt:=o.bt,bn:=o.bn,bw:=o.bw,bh:=o.bh }
 else if o.kind=10 then { kind:=10,node:=o.node,name:=o.name }
 else if o.kind=11 then { kind:=11,node:=o.node,name:=o.name }
 else if o.kind=12 then { kind:=12,node:=o.node }
 else { kind:=o.kind }
structure Op.ok (o:Op):Prop where
 w1:I64 o.w.1
 w2:I64 o.w.2
 h1:I64 o.h.1
 h2:I64 o.h.2
 bw1:I64 o.bw.1
 bw2:I64 o.bw.2
 bh1:I64 o.bh.1
 bh2:I64 o.bh.2
theorem wNum_itoa {n:Int} (h:SmallP n):wNum (Lib.itoa n,false)=some n:=num_itoa h.1 h.2
theorem wFrac_ratS {p:Int×Int} (h1:I64 p.1) (h2:I64 p.2) (h:MayP p.1 p.2):wFrac (ratS p.1 p.2,false)=some p:=fracS_yes h1 h2 h
theorem wPlain_of (s:Bs):wPlain (s,false)=some s:=rfl
theorem wText_of (s:Bs):wText (s,true)=some s:=rfl
theorem pieces_nil:∀p∈([]:List (Bs×Wd)),Piece p:=fun _ h=>by cases h
theorem pieces_cons {p:Bs×Wd} {l:List (Bs×Wd)} (h:Piece p) (hl:∀q∈l,Piece q):∀q∈p :: l,Piece q:=fun q hq=>by
 rcases List.mem_cons.1 hq with rfl | hq
 ·exact h
 ·exact hl q hq
end Go.Proofs.YtihlneenajlhoaaGreatDoor.sp
set_option linter.unusedSimpArgs false
set_option linter.unusedVariables false
namespace Go.Proofs.YtihlneenajlhoaaGreatDoor
open Go Go.RowKit
def plainV (s:ByteArray):Bool:=sp.plainB s.data.toList
theorem sep_not (l:List UInt8):(l.all fun c=>c != 32&&c != 10&&c != 34) = !sepIn l:=by
 induction l with
 | nil=>rfl
 | cons a l ih =>
  unfold sepIn at *
  rw [List.all_cons,List.any_cons,ih]
  cases h1:a==32<;>cases h2:a==10<;>cases h3:a==34<;>simp [bne,h1,h2,h3]
theorem plainV_eq (s:ByteArray):plainV s=(!s.data.toList.isEmpty && !sepIn s.data.toList):=by
 unfold plainV sp.plainB
 rw [sep_not]
theorem ok_takeS (f:ByteArray→Bool) (ok:Bool) (ns:List ByteArray) (k:Nat) (h:k<ns.length):(ok&&(ns.take (k+1)).all f)=((ok&&(ns.take k).all f)&&f ns[k]):=by
 rw [List.take_add_one,List.getElem?_eq_getElem h,List.all_append]
 simp [Bool.and_assoc]
theorem putS_take1 (ss:List ByteArray) (k:Nat) (h:k<ss.length):putS (ss.take (k+1))=putS (ss.take k)++putS [ss[k]]:=by
 rw [putS_take ss k h]
 simp [putS]
theorem put_one (w:World) (b:Nat) (own:Option Nat) (l:List UInt8) (ok ok':Bool) (s:ByteArray) (h:Bld w 123 [.bool ok] b own l) (hn:l.length+(putS [s]).length≤140737488355328) :
  Calls Tryz.prog 77 #[.pointer (some ⟨b,0,none⟩),.slice (some ⟨w.heap.size,0,none⟩) 1 1] ((w.setCell ⟨b,2,none⟩ (.bool ok')).alloc (.cells #[.string s] 9)) fun e w'=>e=.returned (.tuple #[])∧Wrote w b own (l++putS [s]) ok' w':=by
 have hsz:(w.setCell ⟨b,2,none⟩ (.bool ok')).heap.size=w.heap.size:=by simp [World.setCell]
 have h1:=bld_flag h ok'
 have f1:Fr w (w.setCell ⟨b,2,none⟩ (.bool ok')) b own:=Fr.set 2 _
 have hlt:=h.lt
 have hol:=h.own_lt
 generalize w.setCell ⟨b,2,none⟩ (.bool ok')=w1 at hsz h1 f1 ⊢
 refine (put_any _ b own l ok' w.heap.size [s] (h1.below (below_new _ _)) ?_ (by omega) (fun e=>by have:=hol w.heap.size e.symm;omega) hn (by simp)).mono ?_
 ·rw [←hsz];exact heap_alloc_at _ _
 ·rintro e w2 ⟨rfl,own2,h2,hf2,ho2⟩
  exact ⟨rfl,Wrote.then (f1.trans (Fr.of_below (below_new _ _)) (Own.refl _ _)) (Own.refl _ _) h2 hf2 ho2⟩
set_option maxRecDepth 100000 in
set_option maxHeartbeats 4000000 in
theorem plain_any (w:World) (b:Nat) (own:Option Nat) (l:List UInt8) (ok:Bool) (c:Nat) (ss:List ByteArray) (h:Bld w 123 [.bool ok] b own l) (hc:StrsAt w c ss) (hcb:c≠b) (hco:some c≠own) (hn:l.length+(putS ss).length≤140737488355328) (hss:ss.length≤1000) (hsz:∀s∈ss,s.size≤1048576) :
  Calls Tryz.prog 79 #[.pointer (some ⟨b,0,none⟩),.slice (some ⟨c,0,none⟩) ss.length ss.length] w fun e w'=>e=.returned (.tuple #[])∧Wrote w b own (l++putS ss) (ok&&ss.all plainV) w':=by
 have HB:=Lib.hid h;have HC:=Lib.hid hc;have HCB:=Lib.hid hcb;have HCO:=Lib.hid hco;have HN:=Lib.hid hn;have HSS:=Lib.hid hss;have HSZ:=Lib.hid hsz
 clear h hc hcb hco hn hss hsz
 go_enter Tryz.func79,Tryz.ntmps79
 go_wp2
 go_loopw [8] (fun i wr=>∃k:Nat,k≤ss.length∧i=.int .i64 k∧Wrote w b own (l++putS (ss.take k)) (ok&&(ss.take k).all plainV) wr) (fun i _=>ss.length-(intOf i).toNat)
 case atStart=>exact ⟨0,Nat.zero_le _,rfl,by simpa [putS] using Wrote.refl HB.out⟩
 case round =>
  obtain ⟨k,hk,rfl,own1,hb1,hf1,ho1⟩:=hrel
  have hkb:(k:Int)≤1000:=by have:=HSS.out;omega
  have HB1:=Lib.hid hb1;have HF1:=Lib.hid hf1;have HO1:=Lib.hid ho1
  clear hb1 hf1 ho1
  by_cases hlt:k<ss.length
  ·have hclt:=lt_of_block HC.out
   have hcell:wr.cell? ⟨c,k,none⟩=some (.string ss[k]):=by
    have:=HF1.out.keepOwn hclt HCB.out HCO.out
    rw [cell_of_row wr c k _ 9 (0,0) (this.trans HC.out)]
    simp [hlt]
   have HX:=Lib.hid (putS_take1 ss k hlt)
   have HO:=Lib.hid (ok_takeS plainV ok ss k hlt)
   have HZ:=Lib.hid (HSZ.out _ (List.getElem_mem hlt))
   have HL:Hid ((l++putS (ss.take k)).length+(putS [ss[k]]).length≤140737488355328):=Lib.hid (by
    have h1:=putS_len ss (k+1)
    rw [HX.out,List.length_append] at h1
    have:=HN.out
    rw [List.length_append]
    omega)
   have hs:=plainV_eq ss[k]
   obtain ⟨hok,hfz⟩:=bld_ok HB1.out
   generalize ss[k]=s at hcell HX HL HO HZ hs
   have HX2:Hid (l++putS (ss.take (k+1))=(l++putS (ss.take k))++putS [s]):=Lib.hid (by rw [HX.out];simp)
   generalize l++putS (ss.take k)=l0 at HB1 HL HX2
   generalize (ok&&(ss.take k).all plainV)=ok0 at HB1 hok HO
   clear HX
   have hdat:s.data.toList.isEmpty=s.toList.isEmpty:=by rw [Lib.toList_data]
   rw [hdat] at hs
   cases ok0<;>cases t1:s.toList.isEmpty<;>cases t2:sepIn s.data.toList
   all_goals
    rw [t1,t2] at hs
    have HS:=Lib.hid hs;clear hs
    have HT2:=Lib.hid t2;clear t2 hdat
    have HB2:=Lib.hid HB1.out
    have HF2:=Lib.hid HF1.out
    have HSB:Hid (wr.heap.size≤wr.heap.size):=Lib.hid (Nat.le_refl _)
    go_wp2_with (first
     | (go_at_call 112;refine (contains_any s _ (by have:=HZ.out;omega)).mono ?_;rintro e w1 ⟨rfl,hb1⟩;rw [HT2.out];have HB3:=Lib.hid (HB2.out.below hb1);have HF3:=Lib.hid (HF2.out.trans (Fr.of_below hb1) HO1.out);clear HB2 HF2;have HB2:=HB3;have HF2:=HF3;obtain ⟨hok3,hfz3⟩:=bld_ok HB3.out;clear HB3 HF3)
     | (go_at_call 77;refine (put_one _ b own1 l0 _ _ s HB2.out (by have:=HL.out;omega)).mono ?_;rintro e w2 ⟨rfl,own2,h2,hf2,ho2⟩;have HW:Hid (Wrote w b own _ _ w2):=Lib.hid (Wrote.then HF2.out HO1.out h2 hf2 ho2);clear h2 hf2 ho2))
    refine ⟨⟨k+1,by omega,by go_num,?_⟩,by simp [intOf];omega⟩
    rw [HX2.out,HO.out,HS.out]
    exact HW.out
  ·have:k=ss.length:=by omega
   subst this
   have HE:Hid (l++putS (ss.take ss.length)=l++putS ss):=Lib.hid (by rw [List.take_length])
   have HE2:Hid ((ok&&(ss.take ss.length).all plainV)=(ok&&ss.all plainV)):=Lib.hid (by rw [List.take_length])
   go_wp2
   go_end0
   rw [←HE.out,←HE2.out]
   exact ⟨rfl,own1,HB1.out,HF1.out,HO1.out⟩
theorem datLen (s:ByteArray):s.data.toList.length=s.size:=by rw [Array.length_toList];rfl
section
variable {w0 w:World} {b:Nat} {own:Option Nat} {l:List UInt8} {ok:Bool}
theorem Wrote.new (h:Wrote w0 b own l ok w) (x:Obj):∃own1,Bld (w.alloc x) 123 [.bool ok] b own1 l∧Fr w0 (w.alloc x) b own∧Own w0 own own1∧w.heap.size≠b∧some w.heap.size≠own1:=by
 obtain ⟨own1,hb,hf,ho⟩:=h
 refine ⟨own1,hb.below (below_new _ _),hf.trans (Fr.of_below (below_new _ _)) ho,ho,by have:=hb.lt;omega,fun e => ?_⟩
 have:=hb.own_lt _ e.symm
 omega
theorem Wrote.below {w1:World} (h:Wrote w0 b own l ok w) (hb:Below w.heap.size w w1):Wrote w0 b own l ok w1:=by
 obtain ⟨own1,h1,hf,ho⟩:=h
 exact ⟨own1,h1.below hb,hf.trans (Fr.of_below hb) ho,ho⟩
theorem put_new (c:Nat) (hc:w.heap.size=c) (h:Wrote w0 b own l ok w) (s:ByteArray) (hl:l.length≤1000000000) (hs:s.size≤100000000) :
  Calls Tryz.prog 77 #[.pointer (some ⟨b,0,none⟩),.slice (some ⟨c,0,none⟩) 1 1] (w.alloc (.cells #[.string s] 9)) fun e w'=>e=.returned (.tuple #[])∧Wrote w0 b own (l++32 :: s.data.toList) ok w':=by
 subst hc
 obtain ⟨own1,hb,hf,ho,n1,n2⟩:=h.new (.cells #[.string s] 9)
 have e:putS [s]=32 :: s.data.toList:=by simp [putS]
 refine (put_any _ b own1 l ok w.heap.size [s] hb (heap_alloc_at _ _) n1 n2 ?_ (by simp)).mono ?_
 ·rw [e,List.length_cons,datLen];omega
 ·rw [e]
  rintro e w2 ⟨rfl,own2,h2,hf2,ho2⟩
  exact ⟨rfl,Wrote.then hf ho h2 hf2 ho2⟩
theorem plain_new (c:Nat) (hc:w.heap.size=c) (h:Wrote w0 b own l ok w) (s:ByteArray) (hl:l.length≤1000000000) (hs:s.size≤1048576) :
  Calls Tryz.prog 79 #[.pointer (some ⟨b,0,none⟩),.slice (some ⟨c,0,none⟩) 1 1] (w.alloc (.cells #[.string s] 9)) fun e w'=>e=.returned (.tuple #[])∧Wrote w0 b own (l++32 :: s.data.toList) (ok&&plainV s) w':=by
 subst hc
 obtain ⟨own1,hb,hf,ho,n1,n2⟩:=h.new (.cells #[.string s] 9)
 have e:putS [s]=32 :: s.data.toList:=by simp [putS]
 refine (plain_any _ b own1 l ok w.heap.size [s] hb (heap_alloc_at _ _) n1 n2 ?_ (by simp) (by simpa using hs)).mono ?_
 ·rw [e,List.length_cons,datLen];omega
 ·rw [e]
  rintro e w2 ⟨rfl,own2,h2,hf2,ho2⟩
  exact ⟨rfl,Wrote.then hf ho (by simpa using h2) hf2 ho2⟩
theorem plain_new2 (c:Nat) (hc:w.heap.size=c) (h:Wrote w0 b own l ok w) (s t:ByteArray) (hl:l.length≤1000000000) (hs:s.size≤1048576) (ht:t.size≤1048576) :
  Calls Tryz.prog 79 #[.pointer (some ⟨b,0,none⟩),.slice (some ⟨c,0,none⟩) 2 2] (w.alloc (.cells #[.string s,.string t] 9)) fun e w'=>e=.returned (.tuple #[])∧Wrote w0 b own (l++32 :: s.data.toList++32 :: t.data.toList) (ok&&plainV s&&plainV t) w':=by
 subst hc
 obtain ⟨own1,hb,hf,ho,n1,n2⟩:=h.new (.cells #[.string s,.string t] 9)
 have e:putS [s,t]=32 :: s.data.toList++32 :: t.data.toList:=by simp [putS]
 refine (plain_any _ b own1 l ok w.heap.size [s,t] hb (heap_alloc_at _ _) n1 n2 ?_ (by simp) (by simpa using ⟨hs,ht⟩)).mono ?_
 ·rw [e,List.length_append,List.length_cons,List.length_cons,datLen,datLen];omega
 ·rw [e]
  rintro e w2 ⟨rfl,own2,h2,hf2,ho2⟩
  exact ⟨rfl,Wrote.then hf ho (by simpa [Bool.and_assoc] using h2) hf2 ho2⟩
theorem numbers_new (c:Nat) (hc:w.heap.size=c) (h:Wrote w0 b own l ok w) (n:Int) (hn:I64 n) (hl:l.length≤1000000000) (hp:∀w',Fr w0 w' b own→Pow w') :
  Calls Tryz.prog 76 #[.pointer (some ⟨b,0,none⟩),.slice (some ⟨c,0,none⟩) 1 1] (w.alloc (.cells #[.int .i64 n] 3)) fun e w'=>e=.returned (.tuple #[])∧Wrote w0 b own (l++32 :: Lib.itoa n) (ok&&smallB n) w':=by
 subst hc
 obtain ⟨own1,hb,hf,ho,n1,n2⟩:=h.new (.cells #[.int .i64 n] 3)
 have e:putS (numsS [n])=32 :: Lib.itoa n:=by simp [putS,numsS,bstr]
 refine (numbers_any _ b own1 l ok w.heap.size [n] hb (heap_alloc_at _ _) n1 n2 (by simp;omega) (by simp) (by simpa using hn) (hp _ hf) (fun w' h=>hp _ (hf.trans h ho))).mono ?_
 rw [e]
 rintro e w2 ⟨rfl,own2,h2,hf2,ho2⟩
 exact ⟨rfl,Wrote.then hf ho (by simpa using h2) hf2 ho2⟩
theorem numbers_new2 (c:Nat) (hc:w.heap.size=c) (h:Wrote w0 b own l ok w) (n k:Int) (hn:I64 n) (hk:I64 k) (hl:l.length≤1000000000) (hp:∀w',Fr w0 w' b own→Pow w') :
  Calls Tryz.prog 76 #[.pointer (some ⟨b,0,none⟩),.slice (some ⟨c,0,none⟩) 2 2] (w.alloc (.cells #[.int .i64 n,.int .i64 k] 3)) fun e w'=>e=.returned (.tuple #[])∧Wrote w0 b own (l++32 :: Lib.itoa n++32 :: Lib.itoa k) (ok&&smallB n&&smallB k) w':=by
 subst hc
 obtain ⟨own1,hb,hf,ho,n1,n2⟩:=h.new (.cells #[.int .i64 n,.int .i64 k] 3)
 have e:putS (numsS [n,k])=32 :: Lib.itoa n++32 :: Lib.itoa k:=by simp [putS,numsS,bstr]
 refine (numbers_any _ b own1 l ok w.heap.size [n,k] hb (heap_alloc_at _ _) n1 n2 (by simp;omega) (by simp) (by simpa using ⟨hn,hk⟩) (hp _ hf) (fun w' h=>hp _ (hf.trans h ho))).mono ?_
 rw [e]
 rintro e w2 ⟨rfl,own2,h2,hf2,ho2⟩
 exact ⟨rfl,Wrote.then hf ho (by simpa [Bool.and_assoc] using h2) hf2 ho2⟩
theorem fractions_new (c:Nat) (hc:w.heap.size=c) (h:Wrote w0 b own l ok w) (r:Int×Int) (hr:I64 r.1∧I64 r.2) (hl:l.length≤1000000000) :
  Calls Tryz.prog 78 #[.pointer (some ⟨b,0,none⟩),.slice (some ⟨c,0,none⟩) 1 1] (w.alloc (.cells #[.int .i64 r.1,.int .i64 r.2] 24)) fun e w'=>e=.returned (.tuple #[])∧Wrote w0 b own (l++32 :: sp.ratS r.1 r.2) (ok&&mayR r) w':=by
 subst hc
 obtain ⟨own1,hb,hf,ho,n1,n2⟩:=h.new (.cells #[.int .i64 r.1,.int .i64 r.2] 24)
 have e:putS (ratsS [r])=32 :: sp.ratS r.1 r.2:=by simp [putS,ratsS,bstr]
 refine (fractions_any _ b own1 l ok w.heap.size [r] hb (heap_alloc_at _ _) n1 n2 (by simp;omega) (by simp) (by simpa using hr)).mono ?_
 rw [e]
 rintro e w2 ⟨rfl,own2,h2,hf2,ho2⟩
 exact ⟨rfl,Wrote.then hf ho (by simpa using h2) hf2 ho2⟩
theorem fractions_new2 (c:Nat) (hc:w.heap.size=c) (h:Wrote w0 b own l ok w) (r q:Int×Int) (hr:I64 r.1∧I64 r.2) (hq:I64 q.1∧I64 q.2) (hl:l.length≤1000000000) :
  Calls Tryz.prog 78 #[.pointer (some ⟨b,0,none⟩),.slice (some ⟨c,0,none⟩) 2 2] (w.alloc (.cells #[.int .i64 r.1,.int .i64 r.2,.int .i64 q.1,.int .i64 q.2] 24)) fun e w'=>e=.returned (.tuple #[])∧Wrote w0 b own (l++32 :: sp.ratS r.1 r.2++32 :: sp.ratS q.1 q.2) (ok&&mayR r&&mayR q) w':=by
 subst hc
 obtain ⟨own1,hb,hf,ho,n1,n2⟩:=h.new (.cells #[.int .i64 r.1,.int .i64 r.2,.int .i64 q.1,.int .i64 q.2] 24)
 have e:putS (ratsS [r,q])=32 :: sp.ratS r.1 r.2++32 :: sp.ratS q.1 q.2:=by simp [putS,ratsS,bstr]
 refine (fractions_any _ b own1 l ok w.heap.size [r,q] hb (heap_alloc_at _ _) n1 n2 (by simp;omega) (by simp) ?_).mono ?_
 ·intro x hx
  simp only [List.mem_cons,List.not_mem_nil,or_false] at hx
  rcases hx with rfl | rfl
  ·exact hr
  ·exact hq
 rw [e]
 rintro e w2 ⟨rfl,own2,h2,hf2,ho2⟩
 exact ⟨rfl,Wrote.then hf ho (by simpa [Bool.and_assoc] using h2) hf2 ho2⟩
end
def boxRow:Array Value:=#[.string ⟨#[110,111,110,101]⟩,.string ⟨#[105,110,108,105,110,101]⟩,.string ⟨#[115,105,122,101]⟩]
theorem boxes_any (w:World):Calls Tryz.prog 94 #[] w fun e w'=>e=.returned (.slice (some ⟨w.heap.size,0,none⟩) 3 3)∧w'=w.alloc (.cells boxRow 9):=by
 go_enter Tryz.func94,Tryz.ntmps94
 go_wp2
 go_ret
 exact ⟨rfl,rfl⟩
theorem op_cells {w:World} {B:Nat} {a0 a1 a2 a3 a4 a5 a6 a7 a8 a9 a10 a11 a12 a13 a14 a15 a16 a17:Value} (h:w.heap[B]?=some (.cells #[a0,a1,a2,a3,a4,a5,a6,a7,a8,a9,a10,a11,a12,a13,a14,a15,a16,a17] 28 (0,0))) :
  w.cell? ⟨B,11,none⟩=some a11∧w.cell? ⟨B,12,none⟩=some a12∧w.cell? ⟨B,13,none⟩=some a13∧w.cell? ⟨B,14,none⟩=some a14∧w.cell? ⟨B,15,none⟩=some a15∧w.cell? ⟨B,16,none⟩=some a16 :=
 ⟨by rw [Lib.cell_of_heap h];rfl,by rw [Lib.cell_of_heap h];rfl,by rw [Lib.cell_of_heap h];rfl,by rw [Lib.cell_of_heap h];rfl,by rw [Lib.cell_of_heap h];rfl,by rw [Lib.cell_of_heap h];rfl⟩
theorem Wrote.keep {wA w1:World} {b B:Nat} {own:Option Nat} {l:List UInt8} {ok:Bool} {x:Obj} (h:Wrote wA b own l ok w1) (hB:wA.heap[B]?=some x) (n1:B≠b) (n2:some B≠own):w1.heap[B]?=some x:=by
 obtain ⟨own2,hb2,hf2,ho2⟩:=h
 exact (hf2.keepOwn (Array.getElem?_eq_some_iff.1 hB).1 n1 n2).trans hB
theorem Wrote.flag {w0 w:World} {b:Nat} {own:Option Nat} {l:List UInt8} {ok:Bool} (h:Wrote w0 b own l ok w) (x:Bool):Wrote w0 b own l x (w.setCell ⟨b,2,none⟩ (.bool x)):=by
 obtain ⟨own2,hb2,hf2,ho2⟩:=h
 exact ⟨own2,bld_flag hb2 x,hf2.trans (Fr.set 2 _) ho2,ho2⟩
theorem Wrote.since {w0 wA w:World} {b:Nat} {own own1:Option Nat} {l:List UInt8} {ok:Bool} (hf:Fr w0 wA b own) (ho:Own w0 own own1) (h:Wrote wA b own1 l ok w):Wrote w0 b own l ok w:=by
 obtain ⟨own2,hb2,hf2,ho2⟩:=h
 exact Wrote.then hf ho hb2 hf2 ho2
noncomputable def boxB (node bt:Int) (bn:ByteArray) (bw bh:Int×Int):Bool:=smallB node&&(decide (0≤bt)&&decide (bt≤2)) && !(bn.toList==[45])&&(bn.toList.isEmpty||plainV bn)&&mayR bw&&mayR bh
def boxS (node bt:Int) (bn:ByteArray) (bw bh:Int×Int):List UInt8:=32 :: Lib.itoa node++32 :: sp.boxText bt++32 :: sp.boxWord bn.data.toList++32 :: sp.ratS bw.1 bw.2++32 :: sp.ratS bh.1 bh.2
theorem rat_len {r:Int×Int} (h:I64 r.1∧I64 r.2):(sp.ratS r.1 r.2).length≤43:=by have:=ratLen h.1 h.2;rwa [bstr_size] at this
theorem boxWord_e {bn:ByteArray} (h:bn.toList.isEmpty=true):sp.boxWord bn.data.toList = [45]:=by
 rw [Lib.toList_data] at h
 unfold sp.boxWord
 rw [if_pos (List.isEmpty_iff.1 h)]
theorem boxWord_n {bn:ByteArray} (h:bn.toList.isEmpty=false):sp.boxWord bn.data.toList=bn.data.toList:=by
 rw [Lib.toList_data] at h
 unfold sp.boxWord
 rw [if_neg (fun e=>by rw [e] at h;cases h)]
theorem box_fin {w0 w5:World} {b:Nat} {own:Option Nat} {l:List UInt8} {ok:Bool} (node bt:Int) (bn:ByteArray) (bw bh:Int×Int) (word:ByteArray) (btx:List UInt8) (hb:0≤bt∧bt≤2) (h3:(bn.toList==[45])=false) (hx:sp.boxText bt=btx) (hw:sp.boxWord bn.data.toList=word.data.toList) (hp:plainV word=(bn.toList.isEmpty||plainV bn)) (n1:(Lib.itoa node).length≤21) (n2:btx.length≤10) (n3:word.size≤1048576) (n4:I64 bw.1∧I64 bw.2) (n5:I64 bh.1∧I64 bh.2)
  (h:Wrote w0 b own (l++32 :: Lib.itoa node++32 :: btx++32 :: word.data.toList++32 :: sp.ratS bw.1 bw.2++32 :: sp.ratS bh.1 bh.2) (ok&&smallB node&&plainV word&&mayR bw&&mayR bh) w5) :
  ∃t ok',Wrote w0 b own (l++t) ok' w5∧ok'=(ok&&boxB node bt bn bw bh)∧(boxB node bt bn bw bh=true→t=boxS node bt bn bw bh)∧t.length≤10000000:=by
 have e1:boxB node bt bn bw bh=(smallB node&&plainV word&&mayR bw&&mayR bh):=by
  unfold boxB
  rw [h3,hp,decide_eq_true hb.1,decide_eq_true hb.2]
  simp
 refine ⟨boxS node bt bn bw bh,(ok&&smallB node&&plainV word&&mayR bw&&mayR bh),?_,?_,fun _=>rfl,?_⟩
 ·have e2:l++boxS node bt bn bw bh=l++32 :: Lib.itoa node++32 :: btx++32 :: word.data.toList++32 :: sp.ratS bw.1 bw.2++32 :: sp.ratS bh.1 bh.2:=by
   unfold boxS
   rw [hx,hw]
   simp
  rw [e2]
  exact h
 ·rw [e1];simp [Bool.and_assoc]
 ·unfold boxS
  rw [hx,hw]
  have:=rat_len n4;have:=rat_len n5;have:=datLen word
  simp only [List.length_append,List.length_cons]
  omega
theorem box_bad {w0 w5:World} {b:Nat} {own:Option Nat} {l:List UInt8} {ok:Bool} (node bt:Int) (bn:ByteArray) (bw bh:Int×Int) (hb:¬(0≤bt∧bt≤2)∨(bn.toList==[45])=true) (n1:(Lib.itoa node).length≤21) (h:Wrote w0 b own (l++32 :: Lib.itoa node) false w5) :
  ∃t ok',Wrote w0 b own (l++t) ok' w5∧ok'=(ok&&boxB node bt bn bw bh)∧(boxB node bt bn bw bh=true→t=boxS node bt bn bw bh)∧t.length≤10000000:=by
 have e1:boxB node bt bn bw bh=false:=by
  unfold boxB
  rcases hb with hb | hb
  ·have:(decide (0≤bt)&&decide (bt≤2))=false:=by
    rw [←Bool.decide_and];exact decide_eq_false hb
   rw [this];simp
  ·rw [hb];simp
 refine ⟨_,false,h,by rw [e1];simp,fun e=>(by rw [e1] at e;cases e),?_⟩
 rw [List.length_cons]
 omega
set_option maxRecDepth 100000 in
set_option maxHeartbeats 4000000 in
theorem box_any (kind node at_ org:Int) (name word:ByteArray) (tv:Value) (wn wd hn hd bt:Int) (bn:ByteArray) (bwn bwd bhn bhd:Int) (on:Bool) (w0 w:World) (b:Nat) (own:Option Nat) (l:List UInt8) (ok:Bool) (h:Wrote w0 b own l ok w) (hi:I64 node) (hl:l.length≤100000000) (hbn:bn.size≤1048576) (hr1:I64 bwn∧I64 bwd) (hr2:I64 bhn∧I64 bhd) (hp:∀w',Fr w0 w' b own→Pow w') :
  Calls Tryz.prog 80 #[.pointer (some ⟨b,0,none⟩),.agg #[.int .i64 kind,.int .i64 node,.int .i64 at_,.int .i64 org,.string name,.string word,tv,.int .i64 wn,.int .i64 wd,.int .i64 hn,.int .i64 hd,.int .i64 bt,.string bn,.int .i64 bwn,.int .i64 bwd,.int .i64 bhn,.int .i64 bhd,.bool on]] w fun e w'=>e=.returned (.tuple #[])∧∃t ok',Wrote w0 b own (l++t) ok' w'∧ok'=(ok&&boxB node bt bn (bwn,bwd) (bhn,bhd))∧(boxB node bt bn (bwn,bwd) (bhn,bhd)=true→t=boxS node bt bn (bwn,bwd) (bhn,bhd))∧t.length≤10000000:=by
 go_enter Tryz.func80,Tryz.ntmps80
 obtain ⟨own1,hb,hf,ho⟩:=h
 have HI:=Lib.hid hi;have HL:=Lib.hid hl
 have hB0:=heap_alloc_at w (.cells #[.int .i64 kind,.int .i64 node,.int .i64 at_,.int .i64 org,.string name,.string word,tv,.int .i64 wn,.int .i64 wd,.int .i64 hn,.int .i64 hd,.int .i64 bt,.string bn,.int .i64 bwn,.int .i64 bwd,.int .i64 bhn,.int .i64 bhd,.bool on] 28)
 have hA:=Wrote.refl (hb.below (below_new w (.cells #[.int .i64 kind,.int .i64 node,.int .i64 at_,.int .i64 org,.string name,.string word,tv,.int .i64 wn,.int .i64 wd,.int .i64 hn,.int .i64 hd,.int .i64 bt,.string bn,.int .i64 bwn,.int .i64 bwd,.int .i64 bhn,.int .i64 bhd,.bool on] 28)))
 have hfa:=hf.trans (Fr.of_below (below_new w (.cells #[.int .i64 kind,.int .i64 node,.int .i64 at_,.int .i64 org,.string name,.string word,tv,.int .i64 wn,.int .i64 wd,.int .i64 hn,.int .i64 hd,.int .i64 bt,.string bn,.int .i64 bwn,.int .i64 bwd,.int .i64 bhn,.int .i64 bhd,.bool on] 28))) ho
 have n1:w.heap.size≠b:=by have:=hb.lt;omega
 have n2:some w.heap.size≠own1:=fun e=>by have:=hb.own_lt _ e.symm;omega
 have HP:Hid (∀w',Fr (w.alloc (.cells #[.int .i64 kind,.int .i64 node,.int .i64 at_,.int .i64 org,.string name,.string word,tv,.int .i64 wn,.int .i64 wd,.int .i64 hn,.int .i64 hd,.int .i64 bt,.string bn,.int .i64 bwn,.int .i64 bwd,.int .i64 bhn,.int .i64 bhd,.bool on] 28)) w' b own1→Pow w'):=Lib.hid fun w' h=>hp w' (hfa.trans h ho)
 have HB0:=Lib.hid hB0;have HA:=Lib.hid hA;have N1:=Lib.hid n1;have N2:=Lib.hid n2;have HF:=Lib.hid hfa;have HO:=Lib.hid ho
 have HI0:Hid ((Lib.itoa node).length≤21):=Lib.hid (by have:=itoaLen hi;rw [bstr_size] at this;omega)
 have HBN:=Lib.hid hbn;have HR:=Lib.hid hr1;have HQ:=Lib.hid hr2
 clear hbn hr1 hr2
 clear hi hl hp hb hf ho hB0 hA n1 n2 hfa
 by_cases hr:0≤bt∧bt≤2
 ·have t1:decide (bt<0)=false:=decide_eq_false (by omega)
  have t2:decide (2<bt)=false:=decide_eq_false (by omega)
  cases t3:(bn.toList==[45])
  ·have hbt:bt=0∨bt=1∨bt=2:=by omega
   clear t1 t2 hr
   rcases hbt with hbt | hbt | hbt
   ·obtain rfl:bt=0:=hbt
    go_wp2_with (go_at_call 76;refine (numbers_new _ (by simp) HA.out node HI.out (by have:=HL.out;omega) HP.out).mono ?_;rintro e w1 ⟨rfl,h1⟩;obtain ⟨c11,c12,c13,c14,c15,c16⟩:=op_cells (h1.keep HB0.out N1.out N2.out);obtain ⟨f1,f2⟩:=bld_ok h1.choose_spec.1;have HW1:=Lib.hid h1;clear h1)
    refine wp_region_held_drew (S:=(fun s=>s.cell? ⟨w.heap.size,11,none⟩=some (.int .i64 0))) (by kernel_rfl) c11 (fun hHeld => ?_)
    refine wpAnyH_take (i:=0) (v:=.pointer (some ⟨b,0,none⟩)) rfl (by kernel_rfl) (by kernel_rfl) (by kernel_rfl) (fun _ _ _ h=>h) (Or.inl ⟨by kernel_rfl,fun s hs=>by have s0c:=hs;go_simp<;>omega⟩) hHeld ?_
    refine wpAnyH_take (i:=2) (v:=.pointer (some ⟨w.heap.size,11,none⟩)) rfl (by kernel_rfl) (by kernel_rfl) (by kernel_rfl) (fun _ _ _ h=>h) (Or.inl ⟨by kernel_rfl,fun s hs=>by have s0c:=hs;go_simp<;>omega⟩) hHeld ?_
    refine wpAnyH_take (i:=3) (v:=.pointer (some ⟨w.heap.size,11,none⟩)) rfl (by kernel_rfl) (by kernel_rfl) (by kernel_rfl) (fun _ _ _ h=>h) (Or.inl ⟨by kernel_rfl,fun s hs=>by have s0c:=hs;go_simp<;>omega⟩) hHeld ?_
    refine wpAnyH_take (i:=4) (v:=.int .i64 0) rfl (by kernel_rfl) (by kernel_rfl) (by kernel_rfl) (fun _ _ _ h=>h) (Or.inl ⟨by kernel_rfl,fun s hs=>by have s0c:=hs;go_simp<;>omega⟩) hHeld ?_
    have d11:=c11
    clear c11 c12 c13 c14 c15 c16 f1 f2
    refine wpAnyH_ready (rs:=[1]) (by kernel_rfl) (by simp) ?_
    refine AllReadyH.cons rfl (fun K hK => ?_) AllReadyH.nil
    rw [if_pos (by kernel_rfl)]
    go_simp
    refine (boxes_any _).mono ?_
    rintro e w2 ⟨rfl,hw2⟩
    have h2:=(HW1.out.below ((Below.refl _ _).drew)).below (hw2 ▸ below_new _ _)
    have hR:w2.heap[w1.heap.size]?=some (.cells boxRow 9 (0,0)):=by rw [hw2];exact heap_alloc_at _ _
    obtain ⟨c11,c12,c13,c14,c15,c16⟩:=op_cells (h2.keep HB0.out N1.out N2.out)
    have cR:w2.cell? ⟨w1.heap.size,0,none⟩=some (.string ⟨#[110,111,110,101]⟩):=by rw [Lib.cell_of_heap hR];rfl
    have HW2:=Lib.hid h2
    clear h2 hw2 hR d11
    refine hK _ _ c11 (fun hHeld => ?_)
    refine wpAnyH_ready (rs:=[5]) (by kernel_rfl) (by simp) ?_
    refine AllReadyH.cons rfl (fun K hK => ?_) AllReadyH.nil
    rw [if_pos (by kernel_rfl)]
    go_simp
    refine hK _ _ c11 (fun hHeld => ?_)
    refine wpAnyH_ready (rs:=[6]) (by kernel_rfl) (by simp) ?_
    refine AllReadyH.cons rfl (fun K hK => ?_) AllReadyH.nil
    rw [if_pos (by kernel_rfl)]
    go_simp
    refine hK _ _ c11 (fun hHeld => ?_)
    refine wpAnyH_ready (rs:=[7]) (by kernel_rfl) (by simp) ?_
    refine AllReadyH.cons rfl (fun K hK => ?_) AllReadyH.nil
    rw [if_pos (by kernel_rfl)]
    go_simp
    have c11y:=(op_cells ((HW2.out.below (below_new w2 (.cells #[.string ⟨#[110,111,110,101]⟩] 9))).keep HB0.out N1.out N2.out)).1
    refine hK _ _ c11y (fun hHeld => ?_)
    clear c11y
    refine wpAnyH_ready (rs:=[8]) (by kernel_rfl) (by simp) ?_
    refine AllReadyH.cons rfl (fun K hK => ?_) AllReadyH.nil
    rw [if_pos (by kernel_rfl)]
    go_simp
    refine (put_new _ rfl HW2.out ⟨#[110,111,110,101]⟩ (by have:=HL.out;have:=HI0.out;simp;omega) (by decide)).mono ?_
    rintro e w3 ⟨rfl,h3⟩
    clear c11 c12 c13 c14 c15 c16 cR
    obtain ⟨c11,c12,c13,c14,c15,c16⟩:=op_cells (h3.keep HB0.out N1.out N2.out)
    have HW3:=Lib.hid h3
    clear h3
    refine hK _ _ c11 (fun hHeld => ?_)
    refine wpAnyH_done (by kernel_rfl) ?_ _
    clear hHeld
    go_simp
    cases t4:bn.toList.isEmpty
    all_goals
     go_wp2_with (first | (go_at_call 79;refine (plain_new _ rfl HW3.out _ (by have:=HL.out;have:=HI0.out;have:=HBN.out;have:=datLen bn;simp;omega) (by first | exact HBN.out | decide)).mono ?_;rintro e w4 ⟨rfl,h4⟩;clear c11 c12 c13 c14 c15 c16;obtain ⟨c11,c12,c13,c14,c15,c16⟩:=op_cells (h4.keep HB0.out N1.out N2.out);have HW4:=Lib.hid h4;clear h4) | (go_at_call 78;refine (fractions_new2 _ rfl HW4.out (bwn,bwd) (bhn,bhd) HR.out HQ.out (by have:=HL.out;have:=HI0.out;have:=HBN.out;have:=datLen bn;simp;omega)).mono ?_;rintro e w5 ⟨rfl,h5⟩;have HW5:=Lib.hid (Wrote.since HF.out HO.out h5);clear h5))
     go_end0
    ·exact ⟨rfl,box_fin node 0 bn (bwn,bwd) (bhn,bhd) bn [110,111,110,101] (by decide) t3 rfl (boxWord_n t4) (by rw [t4];rfl) HI0.out (by decide) HBN.out HR.out HQ.out HW5.out⟩
    ·exact ⟨rfl,box_fin node 0 bn (bwn,bwd) (bhn,bhd) ⟨#[45]⟩ [110,111,110,101] (by decide) t3 rfl (boxWord_e t4) (by rw [t4];rfl) HI0.out (by decide) (by decide) HR.out HQ.out HW5.out⟩
   ·obtain rfl:bt=1:=hbt
    go_wp2_with (go_at_call 76;refine (numbers_new _ (by simp) HA.out node HI.out (by have:=HL.out;omega) HP.out).mono ?_;rintro e w1 ⟨rfl,h1⟩;obtain ⟨c11,c12,c13,c14,c15,c16⟩:=op_cells (h1.keep HB0.out N1.out N2.out);obtain ⟨f1,f2⟩:=bld_ok h1.choose_spec.1;have HW1:=Lib.hid h1;clear h1)
    refine wp_region_held_drew (S:=(fun s=>s.cell? ⟨w.heap.size,11,none⟩=some (.int .i64 1))) (by kernel_rfl) c11 (fun hHeld => ?_)
    refine wpAnyH_take (i:=0) (v:=.pointer (some ⟨b,0,none⟩)) rfl (by kernel_rfl) (by kernel_rfl) (by kernel_rfl) (fun _ _ _ h=>h) (Or.inl ⟨by kernel_rfl,fun s hs=>by have s0c:=hs;go_simp<;>omega⟩) hHeld ?_
    refine wpAnyH_take (i:=2) (v:=.pointer (some ⟨w.heap.size,11,none⟩)) rfl (by kernel_rfl) (by kernel_rfl) (by kernel_rfl) (fun _ _ _ h=>h) (Or.inl ⟨by kernel_rfl,fun s hs=>by have s0c:=hs;go_simp<;>omega⟩) hHeld ?_
    refine wpAnyH_take (i:=3) (v:=.pointer (some ⟨w.heap.size,11,none⟩)) rfl (by kernel_rfl) (by kernel_rfl) (by kernel_rfl) (fun _ _ _ h=>h) (Or.inl ⟨by kernel_rfl,fun s hs=>by have s0c:=hs;go_simp<;>omega⟩) hHeld ?_
    refine wpAnyH_take (i:=4) (v:=.int .i64 1) rfl (by kernel_rfl) (by kernel_rfl) (by kernel_rfl) (fun _ _ _ h=>h) (Or.inl ⟨by kernel_rfl,fun s hs=>by have s0c:=hs;go_simp<;>omega⟩) hHeld ?_
    have d11:=c11
    clear c11 c12 c13 c14 c15 c16 f1 f2
    refine wpAnyH_ready (rs:=[1]) (by kernel_rfl) (by simp) ?_
    refine AllReadyH.cons rfl (fun K hK => ?_) AllReadyH.nil
    rw [if_pos (by kernel_rfl)]
    go_simp
    refine (boxes_any _).mono ?_
    rintro e w2 ⟨rfl,hw2⟩
    have h2:=(HW1.out.below ((Below.refl _ _).drew)).below (hw2 ▸ below_new _ _)
    have hR:w2.heap[w1.heap.size]?=some (.cells boxRow 9 (0,0)):=by rw [hw2];exact heap_alloc_at _ _
    obtain ⟨c11,c12,c13,c14,c15,c16⟩:=op_cells (h2.keep HB0.out N1.out N2.out)
    have cR:w2.cell? ⟨w1.heap.size,1,none⟩=some (.string ⟨#[105,110,108,105,110,101]⟩):=by rw [Lib.cell_of_heap hR];rfl
    have HW2:=Lib.hid h2
    clear h2 hw2 hR d11
    refine hK _ _ c11 (fun hHeld => ?_)
    refine wpAnyH_ready (rs:=[5]) (by kernel_rfl) (by simp) ?_
    refine AllReadyH.cons rfl (fun K hK => ?_) AllReadyH.nil
    rw [if_pos (by kernel_rfl)]
    go_simp
    refine hK _ _ c11 (fun hHeld => ?_)
    refine wpAnyH_ready (rs:=[6]) (by kernel_rfl) (by simp) ?_
    refine AllReadyH.cons rfl (fun K hK => ?_) AllReadyH.nil
    rw [if_pos (by kernel_rfl)]
    go_simp
    refine hK _ _ c11 (fun hHeld => ?_)
    refine wpAnyH_ready (rs:=[7]) (by kernel_rfl) (by simp) ?_
    refine AllReadyH.cons rfl (fun K hK => ?_) AllReadyH.nil
    rw [if_pos (by kernel_rfl)]
    go_simp
    have c11y:=(op_cells ((HW2.out.below (below_new w2 (.cells #[.string ⟨#[105,110,108,105,110,101]⟩] 9))).keep HB0.out N1.out N2.out)).1
    refine hK _ _ c11y (fun hHeld => ?_)
    clear c11y
    refine wpAnyH_ready (rs:=[8]) (by kernel_rfl) (by simp) ?_
    refine AllReadyH.cons rfl (fun K hK => ?_) AllReadyH.nil
    rw [if_pos (by kernel_rfl)]
    go_simp
    refine (put_new _ rfl HW2.out ⟨#[105,110,108,105,110,101]⟩ (by have:=HL.out;have:=HI0.out;simp;omega) (by decide)).mono ?_
    rintro e w3 ⟨rfl,h3⟩
    clear c11 c12 c13 c14 c15 c16 cR
    obtain ⟨c11,c12,c13,c14,c15,c16⟩:=op_cells (h3.keep HB0.out N1.out N2.out)
    have HW3:=Lib.hid h3
    clear h3
    refine hK _ _ c11 (fun hHeld => ?_)
    refine wpAnyH_done (by kernel_rfl) ?_ _
    clear hHeld
    go_simp
    cases t4:bn.toList.isEmpty
    all_goals
     go_wp2_with (first | (go_at_call 79;refine (plain_new _ rfl HW3.out _ (by have:=HL.out;have:=HI0.out;have:=HBN.out;have:=datLen bn;simp;omega) (by first | exact HBN.out | decide)).mono ?_;rintro e w4 ⟨rfl,h4⟩;clear c11 c12 c13 c14 c15 c16;obtain ⟨c11,c12,c13,c14,c15,c16⟩:=op_cells (h4.keep HB0.out N1.out N2.out);have HW4:=Lib.hid h4;clear h4) | (go_at_call 78;refine (fractions_new2 _ rfl HW4.out (bwn,bwd) (bhn,bhd) HR.out HQ.out (by have:=HL.out;have:=HI0.out;have:=HBN.out;have:=datLen bn;simp;omega)).mono ?_;rintro e w5 ⟨rfl,h5⟩;have HW5:=Lib.hid (Wrote.since HF.out HO.out h5);clear h5))
     go_end0
    ·exact ⟨rfl,box_fin node 1 bn (bwn,bwd) (bhn,bhd) bn [105,110,108,105,110,101] (by decide) t3 rfl (boxWord_n t4) (by rw [t4];rfl) HI0.out (by decide) HBN.out HR.out HQ.out HW5.out⟩
    ·exact ⟨rfl,box_fin node 1 bn (bwn,bwd) (bhn,bhd) ⟨#[45]⟩ [105,110,108,105,110,101] (by decide) t3 rfl (boxWord_e t4) (by rw [t4];rfl) HI0.out (by decide) (by decide) HR.out HQ.out HW5.out⟩
   ·obtain rfl:bt=2:=hbt
    go_wp2_with (go_at_call 76;refine (numbers_new _ (by simp) HA.out node HI.out (by have:=HL.out;omega) HP.out).mono ?_;rintro e w1 ⟨rfl,h1⟩;obtain ⟨c11,c12,c13,c14,c15,c16⟩:=op_cells (h1.keep HB0.out N1.out N2.out);obtain ⟨f1,f2⟩:=bld_ok h1.choose_spec.1;have HW1:=Lib.hid h1;clear h1)
    refine wp_region_held_drew (S:=(fun s=>s.cell? ⟨w.heap.size,11,none⟩=some (.int .i64 2))) (by kernel_rfl) c11 (fun hHeld => ?_)
    refine wpAnyH_take (i:=0) (v:=.pointer (some ⟨b,0,none⟩)) rfl (by kernel_rfl) (by kernel_rfl) (by kernel_rfl) (fun _ _ _ h=>h) (Or.inl ⟨by kernel_rfl,fun s hs=>by have s0c:=hs;go_simp<;>omega⟩) hHeld ?_
    refine wpAnyH_take (i:=2) (v:=.pointer (some ⟨w.heap.size,11,none⟩)) rfl (by kernel_rfl) (by kernel_rfl) (by kernel_rfl) (fun _ _ _ h=>h) (Or.inl ⟨by kernel_rfl,fun s hs=>by have s0c:=hs;go_simp<;>omega⟩) hHeld ?_
    refine wpAnyH_take (i:=3) (v:=.pointer (some ⟨w.heap.size,11,none⟩)) rfl (by kernel_rfl) (by kernel_rfl) (by kernel_rfl) (fun _ _ _ h=>h) (Or.inl ⟨by kernel_rfl,fun s hs=>by have s0c:=hs;go_simp<;>omega⟩) hHeld ?_
    refine wpAnyH_take (i:=4) (v:=.int .i64 2) rfl (by kernel_rfl) (by kernel_rfl) (by kernel_rfl) (fun _ _ _ h=>h) (Or.inl ⟨by kernel_rfl,fun s hs=>by have s0c:=hs;go_simp<;>omega⟩) hHeld ?_
    have d11:=c11
    clear c11 c12 c13 c14 c15 c16 f1 f2
    refine wpAnyH_ready (rs:=[1]) (by kernel_rfl) (by simp) ?_
    refine AllReadyH.cons rfl (fun K hK => ?_) AllReadyH.nil
    rw [if_pos (by kernel_rfl)]
    go_simp
    refine (boxes_any _).mono ?_
    rintro e w2 ⟨rfl,hw2⟩
    have h2:=(HW1.out.below ((Below.refl _ _).drew)).below (hw2 ▸ below_new _ _)
    have hR:w2.heap[w1.heap.size]?=some (.cells boxRow 9 (0,0)):=by rw [hw2];exact heap_alloc_at _ _
    obtain ⟨c11,c12,c13,c14,c15,c16⟩:=op_cells (h2.keep HB0.out N1.out N2.out)
    have cR:w2.cell? ⟨w1.heap.size,2,none⟩=some (.string ⟨#[115,105,122,101]⟩):=by rw [Lib.cell_of_heap hR];rfl
    have HW2:=Lib.hid h2
    clear h2 hw2 hR d11
    refine hK _ _ c11 (fun hHeld => ?_)
    refine wpAnyH_ready (rs:=[5]) (by kernel_rfl) (by simp) ?_
    refine AllReadyH.cons rfl (fun K hK => ?_) AllReadyH.nil
    rw [if_pos (by kernel_rfl)]
    go_simp
    refine hK _ _ c11 (fun hHeld => ?_)
    refine wpAnyH_ready (rs:=[6]) (by kernel_rfl) (by simp) ?_
    refine AllReadyH.cons rfl (fun K hK => ?_) AllReadyH.nil
    rw [if_pos (by kernel_rfl)]
    go_simp
    refine hK _ _ c11 (fun hHeld => ?_)
    refine wpAnyH_ready (rs:=[7]) (by kernel_rfl) (by simp) ?_
    refine AllReadyH.cons rfl (fun K hK => ?_) AllReadyH.nil
    rw [if_pos (by kernel_rfl)]
    go_simp
    have c11y:=(op_cells ((HW2.out.below (below_new w2 (.cells #[.string ⟨#[115,105,122,101]⟩] 9))).keep HB0.out N1.out N2.out)).1
    refine hK _ _ c11y (fun hHeld => ?_)
    clear c11y
    refine wpAnyH_ready (rs:=[8]) (by kernel_rfl) (by simp) ?_
    refine AllReadyH.cons rfl (fun K hK => ?_) AllReadyH.nil
    rw [if_pos (by kernel_rfl)]
    go_simp
    refine (put_new _ rfl HW2.out ⟨#[115,105,122,101]⟩ (by have:=HL.out;have:=HI0.out;simp;omega) (by decide)).mono ?_
    rintro e w3 ⟨rfl,h3⟩
    clear c11 c12 c13 c14 c15 c16 cR
    obtain ⟨c11,c12,c13,c14,c15,c16⟩:=op_cells (h3.keep HB0.out N1.out N2.out)
    have HW3:=Lib.hid h3
    clear h3
    refine hK _ _ c11 (fun hHeld => ?_)
    refine wpAnyH_done (by kernel_rfl) ?_ _
    clear hHeld
    go_simp
    cases t4:bn.toList.isEmpty
    all_goals
     go_wp2_with (first | (go_at_call 79;refine (plain_new _ rfl HW3.out _ (by have:=HL.out;have:=HI0.out;have:=HBN.out;have:=datLen bn;simp;omega) (by first | exact HBN.out | decide)).mono ?_;rintro e w4 ⟨rfl,h4⟩;clear c11 c12 c13 c14 c15 c16;obtain ⟨c11,c12,c13,c14,c15,c16⟩:=op_cells (h4.keep HB0.out N1.out N2.out);have HW4:=Lib.hid h4;clear h4) | (go_at_call 78;refine (fractions_new2 _ rfl HW4.out (bwn,bwd) (bhn,bhd) HR.out HQ.out (by have:=HL.out;have:=HI0.out;have:=HBN.out;have:=datLen bn;simp;omega)).mono ?_;rintro e w5 ⟨rfl,h5⟩;have HW5:=Lib.hid (Wrote.since HF.out HO.out h5);clear h5))
     go_end0
    ·exact ⟨rfl,box_fin node 2 bn (bwn,bwd) (bhn,bhd) bn [115,105,122,101] (by decide) t3 rfl (boxWord_n t4) (by rw [t4];rfl) HI0.out (by decide) HBN.out HR.out HQ.out HW5.out⟩
    ·exact ⟨rfl,box_fin node 2 bn (bwn,bwd) (bhn,bhd) ⟨#[45]⟩ [115,105,122,101] (by decide) t3 rfl (boxWord_e t4) (by rw [t4];rfl) HI0.out (by decide) (by decide) HR.out HQ.out HW5.out⟩
  ·go_wp2_with (go_at_call 76;refine (numbers_new _ (by simp) HA.out node HI.out (by have:=HL.out;omega) HP.out).mono ?_;rintro e w1 ⟨rfl,h1⟩;obtain ⟨c11,c12,c13,c14,c15,c16⟩:=op_cells (h1.keep HB0.out N1.out N2.out);obtain ⟨f1,f2⟩:=bld_ok h1.choose_spec.1;have HW1:=Lib.hid h1;clear h1)
   refine bodyPost_ret (results_none rfl _ _ _) rfl ?_
   exact ⟨rfl,box_bad node bt bn (bwn,bwd) (bhn,bhd) (Or.inr t3) HI0.out (Wrote.since HF.out HO.out (HW1.out.flag false))⟩
 ·have HNR:=Lib.hid hr
  by_cases hlt:bt<0
  ·have t1:decide (bt<0)=true:=decide_eq_true hlt
   clear hlt hr
   go_wp2_with (go_at_call 76;refine (numbers_new _ (by simp) HA.out node HI.out (by have:=HL.out;omega) HP.out).mono ?_;rintro e w1 ⟨rfl,h1⟩;obtain ⟨c11,c12,c13,c14,c15,c16⟩:=op_cells (h1.keep HB0.out N1.out N2.out);obtain ⟨f1,f2⟩:=bld_ok h1.choose_spec.1;have HW1:=Lib.hid h1;clear h1)
   refine bodyPost_ret (results_none rfl _ _ _) rfl ?_
   exact ⟨rfl,box_bad node bt bn (bwn,bwd) (bhn,bhd) (Or.inl HNR.out) HI0.out (Wrote.since HF.out HO.out (HW1.out.flag false))⟩
  ·have t1:decide (bt<0)=false:=decide_eq_false hlt
   have t2:decide (2<bt)=true:=decide_eq_true (by omega)
   clear hlt hr
   go_wp2_with (go_at_call 76;refine (numbers_new _ (by simp) HA.out node HI.out (by have:=HL.out;omega) HP.out).mono ?_;rintro e w1 ⟨rfl,h1⟩;obtain ⟨c11,c12,c13,c14,c15,c16⟩:=op_cells (h1.keep HB0.out N1.out N2.out);obtain ⟨f1,f2⟩:=bld_ok h1.choose_spec.1;have HW1:=Lib.hid h1;clear h1)
   refine bodyPost_ret (results_none rfl _ _ _) rfl ?_
   exact ⟨rfl,box_bad node bt bn (bwn,bwd) (bhn,bhd) (Or.inl HNR.out) HI0.out (Wrote.since HF.out HO.out (HW1.out.flag false))⟩
structure Rw where
 k:Int
 n:Int
 g:Nat
deriving DecidableEq
def Rw.v (r:Rw):Value:=.agg #[.int .i64 r.k,.int .i64 r.n,.func (.func r.g) #[] #[]]
def Rw.d (r:Rw):DataW Unit:=.agg [.lit (.int .i64 r.k),.lit (.int .i64 r.n),.lit (.int .i64 (r.g:Int))]
def noRow:Value:=.agg #[.int .i64 0,.int .i64 0,.nilFunc]
def rowE (v:Value):Option (DataW Unit×List MemPlace):=match v with
 | .agg c=>(match c.toList with
  | [.int .i64 k,.int .i64 n,.func (.func g) p q]=>if p=#[]∧q=#[] then some ((Rw.mk k n g).d,[]) else none
  | [.int .i64 0,.int .i64 0,.nilFunc]=>some (.nil,[])
  | _=>none)
 | _=>none
theorem rowE_nil {v:Value} {ps:List MemPlace} (h:rowE v=some (.nil,ps)):v=noRow:=by
 unfold rowE at h
 split at h
 ·rename_i c
  split at h
  ·split at h
   ·cases h
   ·cases h
  ·rename_i hc
   unfold noRow
   congr 1
   apply Array.ext'
   exact hc
  ·cases h
 ·cases h
theorem rowE_at {v:Value} {b:Rw} {ps:List MemPlace} (h:rowE v=some (b.d,ps)):v=b.v:=by
 unfold rowE at h
 split at h
 ·rename_i c
  split at h
  ·rename_i k n g p q hc
   split at h
   ·rename_i hpq
    obtain ⟨rfl,rfl⟩:=hpq
    simp only [Option.some.injEq,Prod.mk.injEq,Rw.d,DataW.agg.injEq,List.cons.injEq,DataW.lit.injEq,Lit.int.injEq,true_and,and_true] at h
    obtain ⟨⟨h1,h2,h3⟩,_⟩:=h
    have h3':g=b.g:=Int.ofNat_inj.1 h3
    unfold Rw.v
    congr 1
    apply Array.ext'
    rw [hc,h1,h2,h3']
   ·cases h
  ·cases h
  ·cases h
 ·cases h
theorem isKL {x:List UInt8}:WideAt.IsKeyLit (.string x):=by unfold WideAt.IsKeyLit;trivial
theorem nodup_of_fst:∀ {l:List (List UInt8×Rw)},(l.map (·.1)).Nodup→l.Nodup
 | [],_=>List.nodup_nil
 | p :: l,h=>by
  rw [List.map_cons,List.nodup_cons] at h
  exact List.nodup_cons.2 ⟨fun hm=>h.1 (List.mem_map_of_mem hm),nodup_of_fst h.2⟩
theorem eq_of_fst:∀ {l:List (List UInt8×Rw)},(l.map (·.1)).Nodup→∀ {p q},p∈l→q∈l→p.1=q.1→p=q
 | [],_,_,_,h,_,_=>by cases h
 | a :: l,h,p,q,hp,hq,e=>by
  rw [List.map_cons,List.nodup_cons] at h
  rcases List.mem_cons.1 hp with h1 | h1
  ·rcases List.mem_cons.1 hq with h2 | h2
   ·rw [h1,h2]
   ·exact absurd (show a.1∈l.map (·.1) by rw [←h1,e];exact List.mem_map_of_mem (f:=(·.1)) h2) h.1
  ·rcases List.mem_cons.1 hq with h2 | h2
   ·exact absurd (show a.1∈l.map (·.1) by rw [←h2,←e];exact List.mem_map_of_mem (f:=(·.1)) h1) h.1
   ·exact eq_of_fst h.2 h1 h2 e
theorem keyed:Maps.Keyed Tryz.prog 9:=Maps.string_keyed Tryz.underlying9
abbrev KL (x:List UInt8):Lit:=.string x
theorem keyOf_ok {x:List UInt8} (h:x.length≤maxLen):keyOf Tryz.prog 9 (.string (bstr x))=some (KL x):=by
 have:=WideMaps.keyOf_string_mk (P:=Tryz.prog) Tryz.underlying9 (s:=bstr x) (by rw [bstr_size];exact h)
 rw [bstr_toList] at this
 exact this
structure Reads (D:DataW Unit) (f:List (List UInt8×Rw)):Prop where
 size:Maps.size D=f.length
 at_:∀x b,(x,b)∈f→∀z,D.atKey (KL x) z=b.d
 has:∀kl,Maps.has D kl=true↔∃p∈f,kl=KL p.1
structure MapIs (w:World) (B:Nat) (f:List (List UInt8×Rw)):Prop where
 own:∃D,w.ownsMap Tryz.prog 9 rowE B f.length D∧Reads D f
 keys:(f.map (·.1)).Nodup
 wf:∀p∈f,p.1.length≤maxLen
theorem MapIs.made (w:World):MapIs (w.alloc (.map #[] 0)) w.heap.size [] :=
 ⟨⟨_,World.ownsMap_made w Tryz.prog 9 rowE,⟨rfl,fun x b h=>(by cases h),fun kl=>⟨fun h=>(by cases h),fun ⟨p,h,_⟩=>(by cases h)⟩⟩⟩,List.nodup_nil,fun p h=>by cases h⟩
theorem MapIs.lt {w:World} {B:Nat} {f:List (List UInt8×Rw)} (h:MapIs w B f):B<w.heap.size:=by obtain ⟨D,h1,_⟩:=h.own;exact h1.lt
theorem MapIs.kept {w w':World} {B:Nat} {f:List (List UInt8×Rw)} (h:MapIs w B f) (hb:w'.heap[B]?=w.heap[B]?):MapIs w' B f:=by
 obtain ⟨D,⟨es,clock,h1,h2⟩,hr⟩:=h.own
 exact ⟨⟨D,⟨es,clock,hb.trans h1,h2⟩,hr⟩,h.keys,h.wf⟩
theorem MapIs.below {w w':World} {B C:Nat} {f:List (List UInt8×Rw)} (h:MapIs w B f) (hb:Below C w w') (hc:B<C):MapIs w' B f:=h.kept (hb.block B hc)
theorem MapIs.len {w:World} {B:Nat} {f:List (List UInt8×Rw)} (h:MapIs w B f) (ty:TypeId):(Builtin.len_ #[67] ty #[.map (some B)]).run Tryz.prog w=.ok (.int .i64 f.length) w:=by
 obtain ⟨D,h1,hr⟩:=h.own
 rw [h1.len Tryz.underlying67 ty,hr.size]
theorem reads_put {D:DataW Unit} {f:List (List UInt8×Rw)} {x:List UInt8} {b:Rw} (h:Reads D f) (ht:Maps.Tidy D) (hx:x∉f.map (·.1)):Reads (D.put (KL x) b.d) (f++[(x,b)]):=by
 have hno:Maps.has D (KL x)=false:=by
  cases hh:Maps.has D (KL x) with
  | false=>rfl
  | true =>
   obtain ⟨p,hp,e⟩:=(h.has _).1 hh
   simp only [KL,Lit.string.injEq] at e
   exact absurd (e ▸ List.mem_map_of_mem (f:=(·.1)) hp) hx
 refine ⟨?_,?_,?_⟩
 ·rw [Maps.size_put ht,hno,h.size];simp
 ·intro y c hy z
  rcases List.mem_append.1 hy with hy | hy
  ·have hne:KL y≠KL x:=fun e=>by
    simp only [KL,Lit.string.injEq] at e
    exact hx (e ▸ List.mem_map_of_mem (f:=(·.1)) hy)
   rw [Maps.atKey_put_other hne]
   exact h.at_ y c hy z
  ·simp only [List.mem_singleton,Prod.mk.injEq] at hy
   obtain ⟨rfl,rfl⟩:=hy
   exact Maps.atKey_put_same ht.isMap isKL _ _
 ·intro kl
  by_cases e:kl=KL x
  ·subst e
   rw [Maps.has_put_same ht.isMap isKL]
   exact ⟨fun _=>⟨(x,b),by simp,rfl⟩,fun _=>rfl⟩
  ·rw [Maps.has_put_other e,h.has]
   constructor
   ·rintro ⟨p,hp,rfl⟩;exact ⟨p,List.mem_append_left _ hp,rfl⟩
   ·rintro ⟨p,hp,rfl⟩
    rcases List.mem_append.1 hp with hp | hp
    ·exact ⟨p,hp,rfl⟩
    ·simp only [List.mem_singleton] at hp;subst hp;exact absurd rfl e
theorem MapIs.put {w:World} {B:Nat} {f:List (List UInt8×Rw)} (h:MapIs w B f) {x:List UInt8} {b:Rw} (hi:x.length≤maxLen) (hx:x∉f.map (·.1)) (hl:f.length<1000000) :
  ∃w',(Instr.mapUpdate 67 (.map (some B)) (.string (bstr x)) b.v).run Tryz.prog w=.ok () w'∧MapIs w' B (f++[(x,b)])∧w.grownBy w' (some B):=by
 obtain ⟨D,h1,hr⟩:=h.own
 obtain ⟨w',hrun,h2,h3⟩:=h1.update keyed Tryz.underlying67 (by unfold maxLen;omega) (keyOf_ok hi) (val:=b.v) (d:=b.d) (ps:=[]) rfl
 refine ⟨w',hrun,⟨⟨_,by simpa using h2,reads_put hr (h1.tidy keyed) hx⟩,?_,?_⟩,h3⟩
 ·rw [List.map_append,List.nodup_append]
  refine ⟨h.keys,by simp,?_⟩
  intro a ha c hc e
  simp only [List.map_cons,List.map_nil,List.mem_singleton] at hc
  exact hx (by rw [←hc,←e];exact ha)
 ·intro p hp
  rcases List.mem_append.1 hp with hp | hp
  ·exact h.wf p hp
  ·simp only [List.mem_singleton] at hp;subst hp;exact hi
def RangeIs (w:World) (B r:Nat) (f rest:List (List UInt8×Rw)) (cnt:Nat):Prop :=
 ∃D left,Reads D f∧w.ranges Tryz.prog 9 rowE B r f.length D left cnt∧(∀kl,left kl=true↔∃p∈rest,kl=KL p.1)∧(∀p∈rest,p∈f)∧(rest.map (·.1)).Nodup
theorem RangeIs.left {w:World} {B r:Nat} {f rest:List (List UInt8×Rw)} {cnt:Nat} (h:RangeIs w B r f rest cnt):w.rangeLeft B r=cnt:=by
 obtain ⟨D,left,_,h2,_⟩:=h;exact h2.left_eq
theorem RangeIs.kept {w w':World} {B r:Nat} {f rest:List (List UInt8×Rw)} {cnt:Nat} (h:RangeIs w B r f rest cnt) (hB:w'.heap[B]?=w.heap[B]?) (hr:w'.heap[r]?=w.heap[r]?):RangeIs w' B r f rest cnt:=by
 obtain ⟨D,left,h1,⟨es,clock,since,seen,c0,g1,g2,g3,g4,g5,g6⟩,h3⟩:=h
 exact ⟨D,left,h1,⟨es,clock,since,seen,c0,hB.trans g1,g2,g3,g4,hr.trans g5,g6⟩,h3⟩
theorem RangeIs.lt {w:World} {B r:Nat} {f rest:List (List UInt8×Rw)} {cnt:Nat} (h:RangeIs w B r f rest cnt):B<w.heap.size∧r<w.heap.size∧r≠B:=by
 obtain ⟨D,left,_,h2,_⟩:=h;exact ⟨h2.owns.lt,h2.lt,h2.ne⟩
theorem MapIs.range {w:World} {B:Nat} {f:List (List UInt8×Rw)} (h:MapIs w B f):∃w',(Instr.range 67 (.map (some B))).run Tryz.prog w=.ok (.pointer (some ⟨w.heap.size,0,none⟩)) w'∧RangeIs w' B w.heap.size f f f.length∧w.grownBy w' none∧w'.heap.size=w.heap.size+1:=by
 obtain ⟨D,h1,hr⟩:=h.own
 obtain ⟨w',hrun,h2,h3,h4⟩:=h1.range keyed Tryz.underlying67
 exact ⟨w',hrun,⟨D,Maps.has D,hr,(by rw [←hr.size] at h2 ⊢; exact h2),hr.has,fun p hp=>hp,h.keys⟩,h3,h4⟩
theorem RangeIs.next {w:World} {B r:Nat} {f rest:List (List UInt8×Rw)} {cnt:Nat} (h:RangeIs w B r f rest cnt) (ty:TypeId) :
  (rest = []∧(Instr.next (.pointer (some ⟨r,0,none⟩)) false ty).run Tryz.prog w=.ok (.tuple #[.bool false]) w) ∨
  ∃x b w' cnt',(x,b)∈rest∧(Instr.next (.pointer (some ⟨r,0,none⟩)) false ty).run Tryz.prog w=.ok (.tuple #[.bool true,.string (bstr x),b.v]) w'∧RangeIs w' B r f (rest.erase (x,b)) cnt'∧cnt'<cnt ∧
   w.grownBy w' (some r)∧w'.heap.size=w.heap.size∧(Instr.entry (.pointer (some ⟨r,0,none⟩))).run Tryz.prog w'=.ok (.tuple #[.string (bstr x),b.v]) w':=by
 obtain ⟨D,left,hr,h2,hl,hf,hn⟩:=h
 rcases h2.next keyed ty with ⟨h0,hk,hrun⟩ | ⟨key,v,kl,y,w',cnt',hkey,hlk,hv,hat,hrun,hrg,hlt,hgr,hsz,hen⟩
 ·refine .inl ⟨?_,hrun⟩
  cases rest with
  | nil=>rfl
  | cons p l =>
   have:=(hl (KL p.1)).2 ⟨p,List.mem_cons_self,rfl⟩
   rw [hk] at this
   cases this
 ·obtain ⟨⟨x,b⟩,hp,rfl⟩:=(hl kl).1 hlk
  obtain ⟨x',rfl,e,_⟩:=Maps.keyOf_str Tryz.underlying9 hkey
  simp only [KL,Lit.string.injEq] at e
  subst e
  have hd:=hr.at_ x b (hf _ hp)
  have e2:y=(b.d,y.2):=Prod.ext ((hat .nil).symm.trans (hd .nil)) rfl
  rw [e2] at hv
  obtain rfl:=rowE_at hv
  have hnd:rest.Nodup:=nodup_of_fst hn
  refine .inr ⟨x,b,w',cnt',hp,hrun,⟨D,_,hr,hrg,fun kl => ?_,fun p hp=>hf p (List.mem_of_mem_erase hp),hn.sublist (List.erase_sublist.map _)⟩,hlt,hgr,hsz,hen⟩
  simp only [Bool.and_eq_true,Bool.not_eq_true',hl]
  constructor
  ·rintro ⟨⟨p,hp',rfl⟩,hs⟩
   refine ⟨p,(List.mem_erase_of_ne fun e => ?_).2 hp',rfl⟩
   subst e
   have:=WideAt.sameKey_self (a:=KL x) isKL
   rw [hs] at this
   cases this
  ·rintro ⟨p,hp',rfl⟩
   have hm:=List.mem_of_mem_erase hp'
   refine ⟨⟨p,hm,rfl⟩,Maps.sameKey_ne fun e => ?_⟩
   simp only [KL,Lit.string.injEq] at e
   have:p=(x,b):=by
    exact eq_of_fst hn hm hp e
   subst this
   exact (List.Nodup.not_mem_erase hnd) hp'
section
variable {ops:Array Oper} {rest:List Oper} {o:Oper} {a:Act} {Q:Exit→Act→World→Prop} {w:World} {B:Nat} {f:List (List UInt8×Rw)}
theorem wpl_row_ins (hg:o.guard=none) (m x v:Operand) (hop:o.op=Op.insert 67 m x v) (hm:a.eval m=.map (some B)) (h:MapIs w B f) (c:List UInt8) (hx:a.eval x=.string ⟨c.toArray⟩) (k n:Int) (g:Nat) (hv:a.eval v=.agg #[.int .i64 k,.int .i64 n,.func (.func g) #[] #[]]) (hi:c.length≤maxLen) (hk:c∉f.map (·.1)) (hl:f.length<1000000)
  (hS:∀w',MapIs w' B (f++[(c,⟨k,n,g⟩)])→w.grownBy w' (some B)→wpList Tryz.prog ops Q rest (a.put o.dst undef) w'):wpList Tryz.prog ops Q (o :: rest) a w:=by
 refine wpList_plain hg fun K' hK' => ?_
 obtain ⟨w',hrun,h1,h2⟩:=h.put hi hk hl (b:=⟨k,n,g⟩)
 have hrun':(Instr.mapUpdate 67 (.map (some B)) (.string ⟨c.toArray⟩) (.agg #[.int .i64 k,.int .i64 n,.func (.func g) #[] #[]])).run Tryz.prog w=.ok () w':=hrun
 unfold Oper.wp
 simp [execOp,hop,hm,hx,hv,hrun',Result.andThen]
 exact hK' _ _ (hS w' h1 h2)
theorem wpl_row_range (hg:o.guard=none) (m:Operand) (hop:o.op=Op.range 67 m) (hm:a.eval m=.map (some B)) (h:MapIs w B f)
  (hS:∀w',RangeIs w' B w.heap.size f f f.length→w.grownBy w' none→w'.heap.size=w.heap.size+1→wpList Tryz.prog ops Q rest (a.put o.dst (.pointer (some ⟨w.heap.size,0,none⟩))) w'):wpList Tryz.prog ops Q (o :: rest) a w:=by
 refine wpList_plain hg fun K' hK' => ?_
 obtain ⟨w',hrun,h1,h2,h3⟩:=h.range
 unfold Oper.wp
 simp [execOp,hop,hm,hrun,Result.andThen]
 exact hK' _ _ (hS w' h1 h2 h3)
theorem wpl_row_next {r cnt:Nat} {left:List (List UInt8×Rw)} (hg:o.guard=none) (it:Operand) (hop:o.op=Op.next it false) (hit:a.eval it=.pointer (some ⟨r,0,none⟩)) (h:RangeIs w B r f left cnt)
  (hDone:left = []→wpList Tryz.prog ops Q rest (a.put o.dst (.tuple #[.bool false])) w)
  (hMore:∀(x:List UInt8) (b:Rw) (w':World) (cnt':Nat),(x,b)∈left→RangeIs w' B r f (left.erase (x,b)) cnt'→cnt'<cnt→w.grownBy w' (some r)→w'.heap.size=w.heap.size →
   (Instr.entry (.pointer (some ⟨r,0,none⟩))).run Tryz.prog w'=.ok (.tuple #[.string (bstr x),b.v]) w'→wpList Tryz.prog ops Q rest (a.put o.dst (.tuple #[.bool true,.string (bstr x),b.v])) w') :
  wpList Tryz.prog ops Q (o :: rest) a w:=by
 refine wpList_plain hg fun K' hK' => ?_
 unfold Oper.wp
 rcases h.next o.type with ⟨h0,hrun⟩ | ⟨x,b,w',cnt',hx,hrun,h1,h2,h3,h4,h5⟩
 ·simp [execOp,hop,hit,hrun,Result.andThen]
  exact hK' _ _ (hDone h0)
 ·simp [execOp,hop,hit,hrun,Result.andThen]
  exact hK' _ _ (hMore x b w' cnt' hx h1 h2 h3 h4 h5)
end
def rowsL:List (List UInt8×Rw):=[([115,104,101,101,116],⟨1,2,54⟩),([118,105,101,119],⟨2,2,56⟩),([102,111,110,116],⟨3,1,52⟩),([99,111,108,111,114],⟨13,1,52⟩),([112,114,105,110,116],⟨14,1,57⟩),([119,111,114,100],⟨4,2,58⟩),([105,110,115,101,114,116],⟨5,3,59⟩),([114,101,109,111,118,101],⟨6,1,49⟩),([115,101,116],⟨7,3,60⟩),([117,110,115,101,116],⟨8,2,51⟩),([98,111,120],⟨9,5,61⟩),([97,115,107],⟨10,2,51⟩),([99,117,115,116,111,109],⟨11,2,51⟩),([114,117,108,101,115],⟨12,1,49⟩),([99,111,117,110,116],⟨15,0,62⟩)]
set_option maxRecDepth 100000 in
set_option maxHeartbeats 4000000 in
theorem rows_any (w:World):Calls Tryz.prog 27 #[] w fun e w'=>e=.returned (.map (some w.heap.size))∧MapIs w' w.heap.size rowsL∧Below w.heap.size w w':=by
 have hmm:=@run_makeMap Tryz.prog
 have HM:Hid (MapIs (w.alloc (.map #[] 0)) w.heap.size []):=Lib.hid (MapIs.made w)
 have HB:Hid (Below w.heap.size w (w.alloc (.map #[] 0))):=Lib.hid (below_new w _)
 go_enter Tryz.func27,Tryz.ntmps27
 go_wp2_with (refine wpl_row_ins rfl _ _ _ rfl rfl HM.out _ rfl _ _ _ rfl (by decide) (by decide) (by decide) ?_;intro w' hm' hg';clear HM;have HM:=Lib.hid hm';have HB2:=Lib.hid (HB.out.grown hg' HB.out.size (fun k hk=>by cases hk;exact Nat.le_refl _));clear HB;have HB:=Lib.hid HB2.out;clear HB2 hm' hg')
 go_ret
 exact ⟨rfl,HM.out,HB.out⟩
theorem kinds_once:∀p∈rowsL,∀q∈rowsL,p.2.k=q.2.k→p=q:=by decide
def firstS (k:Int):List UInt8:=match rowsL.find? (fun p=>p.2.k==k) with | some p=>p.1 | none=>[]
theorem first_at {p:List UInt8×Rw} (h:p∈rowsL):firstS p.2.k=p.1:=by
 unfold firstS
 cases hf:rowsL.find? (fun q=>q.2.k==p.2.k) with
 | none=>exact absurd (List.find?_eq_none.1 hf p h) (by simp)
 | some q =>
  have h1:=List.mem_of_find?_eq_some hf
  have h2:q.2.k=p.2.k:=by simpa using List.find?_some hf
  rw [kinds_once q h1 p h h2]
theorem first_no {k:Int} (h:∀p∈rowsL,p.2.k≠k):firstS k = []:=by
 unfold firstS
 rw [List.find?_eq_none.2 fun p hp=>by simpa using h p hp]
set_option maxRecDepth 100000 in
set_option maxHeartbeats 4000000 in
theorem first_any (k:Int) (w:World):Calls Tryz.prog 75 #[.int .i64 k] w fun e w'=>e=.returned (.string (bstr (firstS k)))∧Below w.heap.size w w':=by
 go_enter Tryz.func75,Tryz.ntmps75
 go_wp2_with (first
  | (go_at_call 27;refine (rows_any w).mono ?_;rintro e w1 ⟨rfl,hm1,hb1⟩;have HM:=Lib.hid hm1;have HB1:=Lib.hid hb1;clear hm1 hb1)
  | (at_range;refine wpl_row_range rfl _ rfl rfl HM.out ?_;intro w2 hr2 hg2 hs2;have HR:=Lib.hid hr2;have HB2:=Lib.hid (HB1.out.grown hg2 HB1.out.size (fun k hk=>by cases hk));have HS:=Lib.hid hs2;clear hr2 hg2 hs2))
 go_frame
 have HR0:Hid (∀p∈rowsL,p∈rowsL∨p.2.k≠k):=Lib.hid (fun p hp=>Or.inl hp)
 go_loopw [8] (fun _ wr=>∃(left:List (List UInt8×Rw)) (cnt:Nat),RangeIs wr w.heap.size w1.heap.size rowsL left cnt∧(∀p∈rowsL,p∈left∨p.2.k≠k)∧Below w.heap.size w wr) (fun _ wr=>wr.rangeLeft w.heap.size w1.heap.size)
 case atStart=>exact ⟨rowsL,_,HR.out,HR0.out,HB2.out⟩
 case round =>
  obtain ⟨left,cnt,hrg,hno,hbl⟩:=hrel
  have HRG:=Lib.hid hrg;have HNO:=Lib.hid hno;have HBL:=Lib.hid hbl
  clear hrg hno hbl HR HR0 HB2 HM
  go_wp2_with (at_next;refine wpl_row_next rfl _ rfl rfl HRG.out ?_ ?_)
  ·intro hnil
   have HF:Hid (firstS k = []):=Lib.hid (first_no fun p hp=>by
    rcases HNO.out p hp with h | h
    ·rw [hnil] at h;cases h
    ·exact h)
   clear hnil
   go_wp2
   go_ret
   exact ⟨ret_str HF.out.symm,HBL.out⟩
  ·intro x b w3 cnt1 hx hrg1 hlt hg1 hs1 hen
   have HX:=Lib.hid hx;have HRG1:=Lib.hid hrg1;have HLT:=Lib.hid hlt
   have HB3:=Lib.hid (HBL.out.grown hg1 HBL.out.size (fun q hq=>by cases hq;exact HB1.out.size))
   have HIN:Hid ((x,b)∈rowsL):=Lib.hid (by obtain ⟨_,_,_,_,_,h5,_⟩:=HRG.out;exact h5 _ hx)
   clear hx hrg1 hlt hg1 hs1
   obtain ⟨bk,bn,bg⟩:=b
   simp only [Rw.v] at hen ⊢
   by_cases hk:bk=k
   ·subst hk
    have HF:Hid (firstS bk=x):=Lib.hid (first_at HIN.out)
    go_wp2
    go_ret
    exact ⟨ret_str HF.out.symm,HB3.out.alloc HB3.out.size _⟩
   ·have hk':(bk==k)=false:=by simpa using hk
    have HK:=Lib.hid hk;clear hk
    go_wp2
    have hlt:=HRG1.out.lt
    have hrg2:=RangeIs.kept (w':=w3.alloc (.cells #[.int .i64 bk,.int .i64 bn,.func (.func bg) #[] #[]] 65)) HRG1.out (Below.heap_alloc _ _ _ hlt.1) (Below.heap_alloc _ _ _ hlt.2.1)
    refine ⟨⟨_,_,hrg2,fun p hp => ?_,HB3.out.alloc HB3.out.size _⟩,?_⟩
    ·rcases HNO.out p hp with h | h
     ·by_cases e:p=(x,⟨bk,bn,bg⟩)
      ·right;rw [e];exact HK.out
      ·left;exact (List.mem_erase_of_ne e).2 h
     ·exact Or.inr h
    ·rw [hrg2.left,HRG.out.left];exact HLT.out
def QR (wb:World) (b q:Nat) (O:Option Obj) (l:List UInt8) (d:Value) (wr:World):Prop :=
 wr.ownsRow b 5 1 d l.length (Lib.byteCells l)∧d.ownBlock≠some q∧b≤q∧q<wr.heap.size∧wr.heap[q]?=O∧Below b wb wr
section
variable {wb wr w':World} {b q:Nat} {O:Option Obj} {l ys:List UInt8} {d v':Value}
theorem QR.alloc (h:QR wb b q O l d wr) (o:Obj):QR wb b q O l d (wr.alloc o):=by
 obtain ⟨h1,h2,h3,h4,h5,h6⟩:=h
 exact ⟨h1.alloc o,h2,h3,by simp;omega,by rw [Below.heap_alloc _ _ _ h4];exact h5,h6.alloc (by omega) o⟩
theorem QR.drew (h:QR wb b q O l d wr):QR wb b q O l d wr.drew:=by
 obtain ⟨h1,h2,h3,h4,h5,h6⟩:=h
 exact ⟨h1,h2,h3,h4,h5,h6.drew⟩
theorem QR.app (h:QR wb b q O l d wr) (hown:w'.ownsRow b 5 1 v' (l++ys).length (Lib.byteCells (l++ys))) (hg:wr.grownBy w' d.ownBlock) (hat:v'.ownBlock=d.ownBlock∨v'.ownBlock=some wr.heap.size):QR wb b q O (l++ys) v' w':=by
 obtain ⟨h1,h2,h3,h4,h5,h6⟩:=h
 refine ⟨hown,?_,h3,Nat.lt_of_lt_of_le h4 hg.size,by rw [hg.block q h4 (fun e=>h2 e.symm)];exact h5,h6.grown hg (by omega) (fun k hk=>(h1.lt k hk).1)⟩
 rcases hat with e | e
 ·rw [e];exact h2
 ·rw [e];intro k;have:=Option.some.inj k;omega
end
def RowAt (B:Nat) (w:World) (v:Value) (n:Nat) (cs:List Value):Prop :=
 ∃a cap,v=.slice a n cap∧n≤cap∧cap≤maxLen∧((n=0∧cs = []∧(a=none→cap=0))∨(0<n∧∃b off,a=some ⟨b,off,none⟩∧b<B∧w.rangeAt b off cs))
theorem RowAt.mono {B B':Nat} {w:World} {v:Value} {n:Nat} {cs:List Value} (h:RowAt B w v n cs) (hB:B≤B'):RowAt B' w v n cs:=by
 obtain ⟨a,cap,h1,h2,h3,h4⟩:=h
 exact ⟨a,cap,h1,h2,h3,h4.imp id fun ⟨x,b,off,y1,y2,y3⟩=>⟨x,b,off,y1,by omega,y3⟩⟩
theorem rangeAt_below {B:Nat} {w w':World} (hb:Below B w w') {b off:Nat} {cs:List Value} (h:b<B) (hr:w.rangeAt b off cs):w'.rangeAt b off cs:=fun j v hv=>by
 rw [(bcell hb).1 b (off+j) h];exact hr j v hv
theorem RowAt.keep {B:Nat} {w w':World} {v:Value} {n:Nat} {cs:List Value} (h:RowAt B w v n cs) (hb:Below B w w'):RowAt B w' v n cs:=by
 obtain ⟨a,cap,h1,h2,h3,h4⟩:=h
 exact ⟨a,cap,h1,h2,h3,h4.imp id fun ⟨x,b,off,y1,y2,y3⟩=>⟨x,b,off,y1,y2,rangeAt_below hb y2 y3⟩⟩
theorem RowAt.slice {B:Nat} {w:World} {v:Value} {n:Nat} {cs:List Value} (h:RowAt B w v n cs):∃a cap,v=.slice a n cap:=by
 obtain ⟨a,cap,h1,_⟩:=h;exact ⟨a,cap,h1⟩
theorem RowAt.place {B:Nat} {w:World} {a:Option Addr} {n cap:Nat} {cs:List Value} (h:RowAt B w (.slice a n cap) n cs) (hn:0<n):∃b off,a=some ⟨b,off,none⟩∧b<B∧w.rangeAt b off cs:=by
 obtain ⟨a',cap',e,_,_,h | ⟨_,b,off,h1,h2,h3⟩⟩:=h
 ·omega
 ·cases e;exact ⟨b,off,h1,h2,h3⟩
theorem run_loadVar_range {P:Program} (w:World) (b off:Nat) (ty:TypeId) (cs:Array Value) (d:TypeDesc) (hg:∀j u,cs.toList[j]?=some u→w.cell? ⟨b,off+j,none⟩=some u)
  (hu:P.underlying ty=some d) (hd:(match d with | .struct _ | .array _ _=>true | _=>false)=true) (hi:(P.info? ty).map (·.size)=some cs.size):(loadVar ty ⟨b,off,none⟩).run P w=.ok (.agg cs) w:=by
 have hl:(loadCells ⟨b,off,none⟩ cs.toList.length).run P w=.ok cs.toList.toArray w :=
  run_loadCells_list (P:=P) w ⟨b,off,none⟩ cs.toList (fun j v hv=>by
   have hadd:(⟨b,off,none⟩:Addr).add j=⟨b,off+j,none⟩:=Addr.add_mid b off j
   rw [hadd]
   exact hg j v hv)
 cases hq:P.info? ty with
 | none=>simp [hq] at hi
 | some i =>
  have hs:i.size=cs.size:=by simpa [hq] using hi
  have hagg:(isAgg ty).run P w=.ok true w:=by
   unfold isAgg
   rw [Sem.run_bind,run_underlying hu w]
   cases d<;>simp_all
  simp only [Array.length_toList,Array.toArray_toList] at hl
  simp [loadVar,Sem.run_bind,hagg,sizeOf,typeInfo,hq,hs,hl]
theorem wpList_load_range {P:Program} {ops:Array Oper} {rest:List Oper} {o:Oper} {a:Act} {w:World} {Q:Exit→Act→World→Prop} (hgd:o.guard=none) (ty:TypeId) (x:Operand) (ho:o.op=.load ty x)
  (b off:Nat) (hx:a.eval x=.pointer (some ⟨b,off,none⟩)) (cs:Array Value) (d:TypeDesc) (hg:∀j u,cs.toList[j]?=some u→w.cell? ⟨b,off+j,none⟩=some u)
  (hu:P.underlying ty=some d) (hd:(match d with | .struct _ | .array _ _=>true | _=>false)=true) (hi:(P.info? ty).map (·.size)=some cs.size) (h:wpList P ops Q rest (a.put o.dst (.agg cs)) w):wpList P ops Q (o :: rest) a w :=
 wpList_plain hgd fun _ hK=>by
  unfold Oper.wp execOp
  simp only [ho,hx,Instr.loadAt,Instr.sureAddr,Sem.run_bind,Sem.run_pure,Result.andThen_ok,run_loadVar_range w b off ty cs d hg hu hd hi]
  exact hK _ _ h
theorem flat_at {α:Type} {cells:α→List Value} {k:Nat} (hl:∀a,(cells a).length=k):∀(l:List α) (i:Nat) (h:i<l.length) (q:Nat),q<k→(l.flatMap cells)[i*k+q]?=(cells l[i])[q]?:=by
 intro l
 induction l with
 | nil=>intro i h;simp at h
 | cons a l ih =>
  intro i h q hq
  rw [List.flatMap_cons]
  cases i with
  | zero=>rw [Nat.zero_mul,Nat.zero_add,List.getElem?_append_left (by rw [hl];exact hq)];rfl
  | succ i =>
   rw [List.getElem?_append_right (by rw [hl,Nat.succ_mul];omega),hl,show (i+1)*k+q-k=i*k+q by rw [Nat.succ_mul];omega,ih i (by simpa using h) q hq]
   rfl
structure Rf where
 a:Int
 b:Int
 x:Int
 y:Int
 z:Int
instance:Inhabited Rf:=⟨⟨0,0,0,0,0⟩⟩
def Rf.cells (r:Rf):List Value:=[.int .i64 r.a,.int .i64 r.b,.int .i64 r.x,.int .i64 r.y,.int .i64 r.z]
structure Rf.ok (r:Rf):Prop where
 a:I64 r.a
 b:I64 r.b
structure Ans where
 err:Int
 id:Int
 k:Int
 n:Int
 d:Int
 word:ByteArray
 text:ByteArray
 has:Bool
 rv:Value
 rules:List Rf
 count:Int
abbrev Ans.v (a:Ans):Value:=.agg #[.int .i64 a.err,.int .i64 a.id,.int .i64 a.k,.int .i64 a.n,.int .i64 a.d,.string a.word,.string a.text,.bool a.has,a.rv,.int .i64 a.count]
set_option maxHeartbeats 2000000 in
set_option maxRecDepth 100000 in
theorem string_some' (w:World) (T:TypeId) (tail:List Value) (b:Nat) (own:Option Nat) (l:List UInt8) (h:Bld w T tail b own l) (h0:l≠[]) :
  Calls Tryz.prog 42 #[.pointer (some ⟨b,0,none⟩)] w fun e w'=>e=.returned (.string ⟨l.toArray⟩)∧Fr w w' b own∧w'.heap[b]?=w.heap[b]?:=by
 obtain ⟨p,sl,hbk,hown,ho,hnl⟩:∃p,BldP w T tail b p own l:=h.elim (fun h=>⟨_,h⟩) (fun h=>⟨_,h⟩)
 have hl0:l.length≠0:=by simpa using h0
 obtain ⟨g,cap,cur,rfl,hbg,hg,hnc,hcm,hcs,htake⟩:∃g cap cur,sl=.slice (some ⟨g,0,none⟩) l.length cap∧b+1≤g∧w.heap[g]?=some (.cells cur 5 (0,0))∧l.length≤cap∧cap≤maxLen∧cur.size=cap*1∧cur.toList.take (l.length*1)=Lib.byteCells l:=by
  rcases hown.2 with ⟨_,hz⟩ | ⟨g,cap,cur,hv,r⟩
  ·exact absurd hz hl0
  ·exact ⟨g,cap,cur,hv,r⟩
 have hbd:w.drew.heap[b]?=some (.cells (p :: .slice (some ⟨g,0,none⟩) l.length cap :: tail).toArray T (0,0)):=hbk
 have c1:w.drew.cell? ⟨b,1,none⟩=some (.slice (some ⟨g,0,none⟩) l.length cap):=by rw [Lib.cell_of_heap hbd];rfl
 have hSD:(Builtin.unsafeSliceData_ #[22] 128 #[.slice (some ⟨g,0,none⟩) l.length cap]).run Tryz.prog w.drew=.ok (.pointer (some ⟨g,0,none⟩)) w.drew :=
  Lib.run_unsafeSliceData_row _ _ _ _ _ _ (by omega)
 have hUS:(Builtin.unsafeString_ #[128,3] 9 #[.pointer (some ⟨g,0,none⟩),.int .i64 l.length]).run Tryz.prog w.drew=.ok (.string ⟨l.toArray⟩) (w.drew.freeze ⟨g,0,none⟩ l.length):=by
  refine Lib.run_unsafeString_row w.drew 128 3 9 5 und128 cells5 g cur.size (by have hg':w.drew.heap[g]?=some (.cells cur 5 (0,0)):=hg;simp [World.shape?,hg']) l h0 (by omega) (by unfold maxLen at hcm;omega) ?_
  intro j x hx
  have:=hown.cells (g:=g) rfl j (.int .u8 x.toNat) (by simp [Lib.byteCells,hx])
  exact this
 have hfz:Fr w (w.drew.freeze ⟨g,0,none⟩ l.length) b own:=by
  have hb:Below g w (w.drew.freeze ⟨g,0,none⟩ l.length):=Lib.below_freeze (Below.drew (Below.refl g w)) (p:=⟨g,0,none⟩) (Nat.le_refl _) _
  refine ⟨hb.os,hb.tape,hb.output,hb.size,fun k hk _ hne => ?_⟩
  have hkg:k≠g:=fun e=>hne (by rw [←ho,e];rfl)
  unfold World.freeze
  split
  ·rfl
  ·simp only [Array.getElem?_modify]
   rw [if_neg (fun e=>hkg e.symm)]
   rfl
 have HF:=Lib.hid hfz
 have HK:Hid ((w.drew.freeze ⟨g,0,none⟩ l.length).heap[b]?=w.heap[b]?):=Lib.hid (by
  unfold World.freeze
  split
  ·rfl
  ·simp only [Array.getElem?_modify]
   rw [if_neg (by omega)]
   rfl)
 clear hbk hown ho hnl hg htake hbd hfz h
 go_enter Tryz.func42,Tryz.ntmps42
 go_wp2
 go_region
 all_goals (go_wp2;go_ret;exact ⟨rfl,HF.out,HK.out⟩)
set_option maxHeartbeats 2000000 in
set_option maxRecDepth 100000 in
theorem string_none' (w:World) (T:TypeId) (tail:List Value) (b:Nat) (own:Option Nat) (h:Bld w T tail b own []) :
  Calls Tryz.prog 42 #[.pointer (some ⟨b,0,none⟩)] w fun e w'=>e=.returned (.string ⟨#[]⟩)∧Fr w w' b own∧w'.heap[b]?=w.heap[b]?:=by
 obtain ⟨p,sl,hbk,hown,ho,hnl⟩:∃p,BldP w T tail b p own []:=h.elim (fun h=>⟨_,h⟩) (fun h=>⟨_,h⟩)
 obtain rfl:=hnl rfl
 have hbd:w.drew.heap[b]?=some (.cells (p :: .slice none 0 0 :: tail).toArray T (0,0)):=hbk
 have c1:w.drew.cell? ⟨b,1,none⟩=some (.slice none 0 0):=by rw [Lib.cell_of_heap hbd];rfl
 have hSD:(Builtin.unsafeSliceData_ #[22] 128 #[.slice none 0 0]).run Tryz.prog w.drew=.ok (.pointer none) w.drew:=rfl
 have hUS:∀(W:World) (q:Option Addr),(Builtin.unsafeString_ #[128,3] 9 #[.pointer q,.int .i64 0]).run Tryz.prog W=.ok (.string .empty) W:=fun W q=>Lib.run_unsafeString_none W _ _ _ q
 clear hbk hown ho hnl hbd h
 go_enter Tryz.func42,Tryz.ntmps42
 go_wp2
 go_region
 all_goals (go_wp2;go_ret;exact ⟨rfl,(Fr.refl w b own).drew,rfl⟩)
theorem string_keep (w:World) (T:TypeId) (tail:List Value) (b:Nat) (own:Option Nat) (l:List UInt8) (h:Bld w T tail b own l) :
  Calls Tryz.prog 42 #[.pointer (some ⟨b,0,none⟩)] w fun e w'=>e=.returned (.string ⟨l.toArray⟩)∧Fr w w' b own∧w'.heap[b]?=w.heap[b]?:=by
 cases l with
 | nil=>exact string_none' w T tail b own h
 | cons x r=>exact string_some' w T tail b own (x :: r) h (by simp)
theorem op_cell {w:World} {B:Nat} {cs:Array Value} {t:TypeId} (h:w.heap[B]?=some (.cells cs t (0,0))) (k:Nat) (v:Value) (hk:cs[k]?=some v):w.cell? ⟨B,k,none⟩=some v:=by rw [Lib.cell_of_heap h];exact hk
theorem start_facts (w:World) (cs:Array Value) :
  ((w.alloc (.cells cs 28)).alloc (.cells #[.pointer none,.slice none 0 0,.bool true] 123)).heap[w.heap.size]?=some (.cells cs 28 (0,0)) ∧
  Wrote ((w.alloc (.cells cs 28)).alloc (.cells #[.pointer none,.slice none 0 0,.bool true] 123)) (w.heap.size+1) none [] true ((w.alloc (.cells cs 28)).alloc (.cells #[.pointer none,.slice none 0 0,.bool true] 123)) ∧
  Below w.heap.size w ((w.alloc (.cells cs 28)).alloc (.cells #[.pointer none,.slice none 0 0,.bool true] 123)):=by
 have h1:=heap_alloc_at w (.cells cs 28)
 have hs:(w.alloc (.cells cs 28)).heap.size=w.heap.size+1:=by simp
 have b1:=below_new w (.cells cs 28)
 generalize w.alloc (.cells cs 28)=w1 at *
 have b2:=below_new w1 (.cells #[.pointer none,.slice none 0 0,.bool true] 123)
 refine ⟨(b2.block _ (by omega)).trans h1,Wrote.refl (bld_new 123 [.bool true] _ ?_),b1.trans (b2.mono (by omega))⟩
 rw [←hs]
 exact heap_alloc_at _ _
theorem wrote_below {w W1 w':World} {b:Nat} (h:Fr W1 w' b none) (hb:Below w.heap.size w W1) (hw:w.heap.size≤b):Below w.heap.size w w':=hb.trans (Fr.below h hw (fun g hg=>by cases hg) hb.size)
theorem write_first {W1 w:World} {b:Nat} (h:Wrote W1 b none [] true w) (X:List UInt8) (hX:X.length≤1000):Calls Tryz.prog 40 #[.pointer (some ⟨b,0,none⟩),.string (bstr X)] w fun e w'=>e=.returned (.tuple #[.int .i64 (bstr X).size,.nilIface])∧Wrote W1 b none X true w':=by
 obtain ⟨own,hb,hf,ho⟩:=h
 refine (writeString_any _ 123 [.bool true] b own [] _ bt123 hb (by rw [bstr_size];simp;omega)).mono ?_
 rintro e w3 ⟨rfl,own3,h3,hf3,ho3⟩
 refine ⟨rfl,Wrote.then hf ho (Or.inr ?_) hf3 ho3⟩
 simpa [bstr] using h3
theorem string_wrote {W1 w:World} {b:Nat} {l:List UInt8} {ok:Bool} (h:Wrote W1 b none l ok w):Calls Tryz.prog 42 #[.pointer (some ⟨b,0,none⟩)] w fun e w'=>e=.returned (.string (bstr l))∧Fr W1 w' b none∧w'.cell? ⟨b,2,none⟩=some (.bool ok):=by
 obtain ⟨own,hb,hf,ho⟩:=h
 have hc:=(bld_ok hb).1
 refine (string_keep _ 123 _ b own l hb).mono ?_
 rintro e w9 ⟨rfl,hf9,hk9⟩
 refine ⟨rfl,hf.trans hf9 ho,?_⟩
 rw [World.cell?_of_block (w:=w) hk9]
 exact hc
set_option maxRecDepth 100000 in
theorem conv_row {B:Nat} {w:World} {v:Value} {l:List UInt8} (h:RowAt B w v l.length (Lib.byteCells l)):(convert 22 9 v).run Tryz.prog w=.ok (.string (bstr l)) w:=by
 obtain ⟨a,cap,rfl,h1,h2,h3⟩:=h
 rcases h3 with ⟨h0,_,h4⟩ | ⟨h0,b,off,rfl,hb,hr⟩
 ·have:l = []:=List.eq_nil_of_length_eq_zero h0
  subst this
  cases a with
  | none =>
   rw [h4 rfl]
   exact Go.run_convert_bytes_back (P:=Tryz.prog) w 22 9 5 ⟨0,0,none⟩ 0 [] Tryz.underlying22 Tryz.underlying5 Tryz.underlying9 (fun j hj=>by cases hj)
  | some a=>exact Go.run_convert_bytes_back (P:=Tryz.prog) w 22 9 5 a cap [] Tryz.underlying22 Tryz.underlying5 Tryz.underlying9 (fun j hj=>by cases hj)
 ·refine Go.run_convert_bytes_back (P:=Tryz.prog) w 22 9 5 ⟨b,off,none⟩ cap l Tryz.underlying22 Tryz.underlying5 Tryz.underlying9 (fun j hj => ?_)
  have:=hr j (.int .u8 l[j].toNat) (by simp [Lib.byteCells,hj])
  rw [Addr.add_mid]
  exact this
theorem quoteB_len (c:UInt8):(sp.quoteB c).length≤4:=by
 unfold sp.quoteB
 repeat' split
 all_goals simp
theorem quoteS_len (l:List UInt8):(sp.quoteS l).length≤4*l.length+2:=by
 have h:∀l:List UInt8,(l.flatMap sp.quoteB).length≤4*l.length:=by
  intro l
  induction l with
  | nil=>simp
  | cons a l ih =>
   have:=quoteB_len a
   rw [List.flatMap_cons,List.length_append,List.length_cons]
   omega
 have:=h l
 unfold sp.quoteS
 simp only [List.length_cons,List.length_append,List.length_nil]
 omega
end Go.Proofs.YtihlneenajlhoaaGreatDoor
