/-
 Contracts, for a run of one goroutine, of what looks at a fraction: rat.gcd, rat.size, rat.sure, rat.May; jalousieref1.small, mag, May, Is. Condition: the numbers are of their kinds.
-/
import Derived.Test.YtihlneenajlhoaaGreatDoorProg
import Derived.WalkKit
import Derived.WalkSpells
import Derived.Below
import Derived.OneCell
import Derived.LoopTactic
import Derived.Lib.Hide
import Derived.Lib.ConvBytes
import Derived.BigQuiet
import Derived.BigGuardPart
import Derived.Deep.QuietTactic
import Derived.Outline
import Derived.StillTailTactics
import Derived.WalkLawsBesides
import Derived.ChangeKeysEq
import Derived.Deep.RegionHeld3
import Derived.BigRegion
import Derived.Lib.AppendStr
import Derived.Lib.UnsafeStr
import Derived.Lib.Builder
import Derived.Maps.AppendAt
import Derived.Deep.Quiet
import Derived.RegionTactic
import Derived.ChangeAlike
import Derived.Shelf.Lay
import Derived.Shelf.LaysM
import Derived.Shelf.Strconv.Itoa3
import Derived.Shelf.Strconv.Itoa4
import Derived.Ground.NamesProg
import Derived.Lib.ItoaLen
import Derived.Laws.IdiomStrings
import Derived.Lib.AppendIntMem
set_option linter.unusedSimpArgs false
set_option linter.unusedVariables false
namespace Go.Proofs.YtihlneenajlhoaaGreatDoor
open Go Go.RowKit
theorem bcell {B:Nat} {W w1:World} (hb:Below B W w1):(∀b o,b<B→w1.cell? ⟨b,o,none⟩=W.cell? ⟨b,o,none⟩)∧(∀b o,b<B→w1.frozen? ⟨b,o,none⟩=W.frozen? ⟨b,o,none⟩) :=
 ⟨fun b o h=>hb.cell (p:=⟨b,o,none⟩) h,fun b o h=>hb.frozen (p:=⟨b,o,none⟩) h⟩
theorem ret_bool {a b:Bool} (h:a=b):Ending.returned (.bool a)=.returned (.bool b):=by rw [h]
theorem below_bytes (w:World) (s:ByteArray):Below w.heap.size w (Lib.bytesWorld w 5 s) :=
 ⟨rfl,rfl,rfl,by rw [Lib.bytesWorld_size];omega,fun k hk=>Lib.bytesWorld_at_old w 5 s k hk⟩
theorem ret_u64 {a b:Int} (h:a=b):Ending.returned (.int .u64 a)=.returned (.int .u64 b):=by rw [h]
set_option maxRecDepth 100000 in
theorem gcd_any (x y:Nat) (w:World) (hx:x≤18446744073709551615) (hy:y≤18446744073709551615):Calls Tryz.prog 147 #[.int .u64 x,.int .u64 y] w fun e w'=>e=.returned (.int .u64 (Nat.gcd x y))∧w=w':=by
 have HX:=Lib.hid hx;have HY:=Lib.hid hy;clear hx hy
 go_enter Tryz.func147,Tryz.ntmps147
 go_wp2
 go_loop [0,1] (fun a b=>∃p q:Nat,p≤18446744073709551615∧q≤18446744073709551615∧a=.int .u64 p∧b=.int .u64 q∧Nat.gcd p q=Nat.gcd x y) (fun a _=>(intOf a).toNat)
 case atStart=>exact ⟨x,y,HX.out,HY.out,rfl,rfl,rfl⟩
 case round =>
  obtain ⟨p,q,hp,hq,rfl,rfl,hg⟩:=hrel
  have HG:=Lib.hid hg;have HP:=Lib.hid hp;have HQ:=Lib.hid hq;clear hg hp hq
  by_cases h0:p=0
  ·subst h0
   go_wp2
   go_ret
   exact ⟨ret_u64 (by rw [←HG.out,Nat.gcd_zero_left]),rfl⟩
  ·have hp1:(1:Int)≤p:=by omega
   have hne:((p:Int) != 0)=true:=by simp;omega
   have hlt:q%p<p:=Nat.mod_lt _ (by omega)
   have HE:Hid (Nat.gcd (q%p) p=Nat.gcd x y):=Lib.hid (by rw [←Nat.gcd_rec];exact HG.out)
   clear h0
   go_wp2
   exact ⟨⟨q%p,p,by have:=HP.out;omega,HP.out,by simp,rfl,HE.out⟩,by simp [intOf];omega⟩
def I64 (n:Int):Prop := -9223372036854775808≤n∧n≤9223372036854775807
theorem wrap_u64_pos {n:Int} (h0:0≤n) (h:I64 n):IntKind.u64.wrap n=n:=by unfold I64 at h;simp [IntKind.wrap,IntKind.bits,IntKind.signed];omega
theorem size_pos (n:Int) (w:World) (hn:I64 n) (h0:0≤n):Calls Tryz.prog 108 #[.int .i64 n] w fun e w'=>e=.returned (.int .u64 (n.natAbs:Nat))∧w=w':=by
 have HN:=Lib.hid (show IntKind.u64.wrap n=(n.natAbs:Nat) by rw [wrap_u64_pos h0 hn];omega)
 clear hn
 go_enter Tryz.func108,Tryz.ntmps108
 go_wp2
 go_ret
 exact ⟨ret_u64 (by first | exact HN.out | omega),rfl⟩
theorem wrap_u64_neg {n:Int} (h0:n<0) (h:I64 n):IntKind.u64.wrap (-(IntKind.u64.wrap n)) = -n:=by unfold I64 at h;simp [IntKind.wrap,IntKind.bits,IntKind.signed];omega
theorem size_neg (n:Int) (w:World) (hn:I64 n) (h0:n<0):Calls Tryz.prog 108 #[.int .i64 n] w fun e w'=>e=.returned (.int .u64 (n.natAbs:Nat))∧w=w':=by
 have HN:=Lib.hid (show IntKind.u64.wrap (-(IntKind.u64.wrap n))=(n.natAbs:Nat) by rw [wrap_u64_neg h0 hn];omega)
 clear hn
 go_enter Tryz.func108,Tryz.ntmps108
 go_wp2
 go_ret
 exact ⟨ret_u64 (by first | exact HN.out | (simpa using HN.out) | omega),rfl⟩
theorem size_any (n:Int) (w:World) (hn:I64 n):Calls Tryz.prog 108 #[.int .i64 n] w fun e w'=>e=.returned (.int .u64 (n.natAbs:Nat))∧w=w':=by
 by_cases h0:0≤n
 ·exact size_pos n w hn h0
 ·exact size_neg n w hn (by omega)
def SureP (n d:Int):Prop:=1≤d∧n ≠ -9223372036854775808∧Nat.gcd n.natAbs d.toNat=1
noncomputable def sureB (n d:Int):Bool:=@decide (SureP n d) (Classical.propDecidable _)
theorem sureB_yes {n d:Int} (h:SureP n d):sureB n d=true:=by unfold sureB;exact @decide_eq_true _ (Classical.propDecidable _) h
theorem sureB_no {n d:Int} (h:¬SureP n d):sureB n d=false:=by unfold sureB;exact @decide_eq_false _ (Classical.propDecidable _) h
theorem flip {P:Program} {f:FuncId} {args:Array Value} {w:World} {v:Ending} (h:Calls P f args w fun e w'=>e=v∧w=w'):Calls P f args w fun e w'=>e=v∧w'=w:=h.mono fun _ _ ⟨a,b⟩=>⟨a,b.symm⟩
theorem below_drewN {B:Nat} {a w:World} (h:Below B a w) (n:Nat):Below B a (w.drewN n):=⟨h.os,h.tape,h.output,h.size,h.block⟩
theorem sureB_eq {n:Int} {D:Nat} (h1:1≤(D:Int)) (h2:n ≠ -9223372036854775808):(((Nat.gcd n.natAbs D:Nat):Int)==1)=sureB n D:=by
 by_cases h:Nat.gcd n.natAbs D=1
 ·rw [sureB_yes ⟨h1,h2,by simpa using h⟩,h];rfl
 ·rw [sureB_no fun k=>h (by simpa using k.2.2)]
  simp;omega
theorem natAbs_le {n:Int} (h:I64 n):n.natAbs≤18446744073709551615:=by unfold I64 at h;omega
set_option maxRecDepth 100000 in
set_option maxHeartbeats 2000000 in
theorem sure_any (n d:Int) (w:World) (hn:I64 n) (hd:I64 d):Calls Tryz.prog 106 #[.agg #[.int .i64 n,.int .i64 d]] w fun e w'=>e=.returned (.bool (sureB n d))∧Below w.heap.size w w':=by
 by_cases h1:d<1
 ·have HS:=Lib.hid (sureB_no (n:=n) (d:=d) fun h=>by have:=h.1;omega)
  have q1:decide (1≤d)=false:=by simp;omega
  clear hn hd
  go_enter Tryz.func106,Tryz.ntmps106
  go_wp2
  go_quiet (fail)
  go_wp2
  go_ret
  exact ⟨ret_bool HS.out.symm,below_drewN ((Below.refl _ _).alloc (Nat.le_refl _) _) _⟩
 obtain ⟨D,rfl⟩:=Int.eq_ofNat_of_zero_le (show 0≤d by omega)
 have q1:decide (1≤(D:Int))=true:=by simp;omega
 by_cases h2:n = -9223372036854775808
 ·have HS:=Lib.hid (sureB_no (n:=n) (d:=D) fun h=>h.2.1 h2)
  have q2:(n != -9223372036854775808)=false:=by simpa using h2
  clear hn hd h2 h1
  go_enter Tryz.func106,Tryz.ntmps106
  go_wp2
  go_quiet (fail)
  go_wp2
  go_ret
  exact ⟨ret_bool HS.out.symm,below_drewN ((Below.refl _ _).alloc (Nat.le_refl _) _) _⟩
 have HS:=Lib.hid (sureB_eq (n:=n) (D:=D) (by omega) h2)
 have q2:(n != -9223372036854775808)=true:=by simpa using h2
 have HA:=Lib.hid (natAbs_le hn)
 have HN:=Lib.hid hn
 have HD:=Lib.hid (show D≤18446744073709551615 by unfold I64 at hd;omega)
 have hw:IntKind.u64.wrap (D:Int)=D:=wrap_u64_pos (by omega) hd
 clear hn hd h2 h1
 go_enter Tryz.func106,Tryz.ntmps106
 go_wp2
 go_quiet ((first | (go_at_call 108;exact Calls.quiet_of_same (flip (size_any _ _ HN.out))) | (go_at_call 147;exact Calls.quiet_of_same (flip (gcd_any _ _ _ HA.out HD.out)))))
 go_wp2
 go_ret
 exact ⟨ret_bool HS.out,below_drewN ((Below.refl _ _).alloc (Nat.le_refl _) _) _⟩
def zeroB (n d:Int):Bool:=(n==0)&&(d==0)
noncomputable def mayB (n d:Int):Bool:=zeroB n d||sureB n d
theorem fmap43:(Tryz.prog.fieldsOf 24).toList.map (fun f=>(f.name == "_",f.type,f.offset)) = [(false,2,0),(false,2,1)]:=by kernel_rfl
theorem pair_of {A:Type} {B:Type} {f:A→B} {a b:B}:∀ {L:List A},L.map f = [a,b]→∃x y,L = [x,y]∧f x=a∧f y=b
 | [x,y],h=>⟨x,y,rfl,by simpa using h⟩
 | [],h=>by simp at h
 | [_],h=>by simp at h
 | _ :: _ :: _ :: _,h=>by simp at h
theorem plain2:Tryz.prog.plainKey 2=true:=by kernel_rfl
theorem und43:Tryz.prog.underlying 24=some (.struct (Tryz.prog.fieldsOf 24)):=by kernel_rfl
theorem held43:Tryz.prog.stoodInHeld 24=false:=by kernel_rfl
theorem eql43 (n d:Int) (w:World):(binOp .eql 24 (.agg #[.int .i64 n,.int .i64 d]) (.agg #[.int .i64 0,.int .i64 0])).run Tryz.prog w=.ok (.bool (zeroB n d)) w:=by
 rw [run_eql_struct,run_equalIn_agg w 9999 24 _ _ und43 held43]
 obtain ⟨f,g,hL,hf,hg⟩:=pair_of fmap43
 rw [hL]
 ·simp only [Prod.mk.injEq,beq_eq_false_iff_ne] at hf hg
  obtain ⟨h1,h2,h3⟩:=hf
  obtain ⟨h4,h5,h6⟩:=hg
  simp only [Op.eqFields,h1,h4,h2,h3,h5,h6,ne_eq,not_false_eq_true,if_true,Sem.run_bind]
  rw [run_part_plain w plain2 (v:=.int .i64 n) rfl]
  simp only [Result.andThen_ok]
  rw [run_part_plain w plain2 (v:=.int .i64 0) rfl]
  simp only [Result.andThen_ok]
  rw [run_equalIn_int w 9998 2 .i64 .i64 n 0 Tryz.underlying2]
  simp only [Result.andThen_ok]
  cases hn:(n==0) with
  | false=>simp [zeroB,hn,Result.andThen]
  | true =>
   simp only [Bool.not_true,Bool.false_eq_true,if_false,Sem.run_bind]
   rw [run_part_plain w plain2 (v:=.int .i64 d) rfl]
   simp only [Result.andThen_ok]
   rw [run_part_plain w plain2 (v:=.int .i64 0) rfl]
   simp only [Result.andThen_ok]
   rw [run_equalIn_int w 9998 2 .i64 .i64 d 0 Tryz.underlying2]
   cases hd:(d==0)<;>simp [zeroB,hn,hd,Result.andThen]
set_option maxRecDepth 100000 in
theorem may_any (n d:Int) (w:World) (hn:I64 n) (hd:I64 d):Calls Tryz.prog 111 #[.agg #[.int .i64 n,.int .i64 d]] w fun e w'=>e=.returned (.bool (mayB n d))∧Below w.heap.size w w':=by
 have HN:=Lib.hid hn;have HD:=Lib.hid hd
 have he:=eql43 n d
 cases hz:zeroB n d with
 | true =>
  have HM:=Lib.hid (show mayB n d=true by unfold mayB;rw [hz];rfl)
  rw [hz] at he
  clear hz hn hd
  go_enter Tryz.func111,Tryz.ntmps111
  go_wp2_with fail
  go_ret
  exact ⟨ret_bool HM.out.symm,(Below.refl _ _).alloc (Nat.le_refl _) _⟩
 | false =>
  have HM:=Lib.hid (show mayB n d=sureB n d by unfold mayB;rw [hz];rfl)
  rw [hz] at he
  clear hz hn hd
  go_enter Tryz.func111,Tryz.ntmps111
  go_wp2_with (go_at_call 106;refine (sure_any n d _ HN.out HD.out).mono ?_;rintro e w1 ⟨rfl,hb⟩;have HB:=Lib.hid hb;clear hb)
  go_ret
  exact ⟨ret_bool HM.out.symm,((Below.refl _ _).alloc (Nat.le_refl _) _).trans (HB.out.mono (by simp))⟩
theorem blk_set {w:World} {b:Nat} {c:Array Value} {t:TypeId} {fz:Nat×Nat} (h:w.heap[b]?=some (.cells c t fz)) (o:Nat) (v:Value):(w.setCell ⟨b,o,none⟩ v).heap[b]?=some (.cells (c.setIfInBounds o v) t fz):=by
 have hlt:=lt_of_block h
 have h':w.heap[b]=.cells c t fz:=by simpa [Array.getElem?_eq_getElem hlt] using h
 show (w.heap.modify b _)[b]?=_
 rw [Array.getElem?_eq_getElem (by simpa using hlt),Array.getElem_modify_self,h']
 rfl
theorem blk_cell {w:World} {b:Nat} {c:Array Value} {t:TypeId} {fz:Nat×Nat} (h:w.heap[b]?=some (.cells c t fz)) (o:Nat) (v:Value) (hv:c[o]?=some v):w.cell? ⟨b,o,none⟩=some v:=by rw [cell_of_row w b o c t fz h,hv]
theorem blk_free {w:World} {b:Nat} {c:Array Value} {t:TypeId} (h:w.heap[b]?=some (.cells c t (0,0))) (o:Nat):w.frozen? ⟨b,o,none⟩=false:=by simp [World.frozen?,h]
theorem heap_old (w:World) (o x:Obj) {k:Nat} (h:w.heap[k]?=some x):(w.alloc o).heap[k]?=some x:=(Below.heap_alloc w o k (lt_of_block h)).trans h
theorem heap_alloc_at (w:World) (o:Obj):(w.alloc o).heap[w.heap.size]?=some o:=by
 show (w.heap.push o)[w.heap.size]?=some o
 simp
theorem below_new (w:World) (x:Obj):Below w.heap.size w (w.alloc x):=(Below.refl _ _).alloc (Nat.le_refl _) _
/-! ### append of a text's bytes: where the new row lies -/
section
variable {P:Program} (w:World)
theorem append_string_at (base:Nat) (t u ty e:TypeId) (i:TypeInfo) (ht:P.underlying t=some (.slice e)) (hu:P.underlying u=some .string) (hi:P.info? e=some i) (hz:i.zero=some (.int .u8 0))
  (hsize:i.size=1) (hby:i.bytes=1)
  (v:Value) (n:Nat) (xs:List Value) (hown:w.ownsRow base e 1 v n xs) (s:ByteArray)
  (h63:n+s.size≤maxLen) (hbytes:n+s.size≤140737488355328) (hbase:base≤w.heap.size) :
  ∃v' w',(Builtin.append_ #[t,u] ty #[v,.string s]).run P w=.ok v' w'∧w'.ownsRow base e 1 v' (n+s.size) (xs++Lib.strCells s)∧w.grownBy w' v.ownBlock ∧
   (v'=.slice none 0 0↔v=.slice none 0 0∧s.size=0)∧(v'.ownBlock=v.ownBlock∨v'.ownBlock=some w.heap.size):=by
 obtain ⟨v',w',hr,h2,h3,h4⟩:=Lib.run_append_own_string (P:=P) w base t u ty e i ht hu hi hz hsize hby v n xs hown s h63 hbytes hbase
 refine ⟨v',w',hr,h2,h3,h4,?_⟩
 have hxl:xs.length=n:=by simpa using hown.1
 have hsmall:n+s.size≤9223372036854775807:=by simp only [maxLen] at h63;omega
 rcases hown.2 with ⟨rfl,rfl⟩ | ⟨g,cap,cur,rfl,hbg,hg,hnc,hcm,hcs,htake⟩
 ·by_cases hm:s.size=0
  ·left
   rw [h4.2 ⟨rfl,hm⟩]
  ·right
   have hr2:=run_append_nil_string (P:=P) w t u ty e i (.int .u8 0) ht hu hi hz s (by omega) (by omega) (by rw [hby];omega)
   rw [hr] at hr2
   obtain ⟨rfl,_⟩:=Result.ok.inj hr2
   rfl
 ·by_cases hroom:n+s.size≤cap
  ·left
   have hcs':cur.size=cap:=by simpa using hcs
   have hr2:=Lib.run_append_room_string (P:=P) w t u ty e i ht hu hi hsize g n cap cur hg s hroom (by omega)
   rw [hr] at hr2
   obtain ⟨rfl,_⟩:=Result.ok.inj hr2
   rfl
  ·right
   have holds:∀j u,xs[j]?=some u→w.cell? ((⟨g,0,none⟩:Addr).add j)=some u:=hown.cells (g:=g) rfl
   have hr2:=Lib.run_append_grow_string (P:=P) w t u ty e i (.int .u8 0) ht hu hi hz ⟨g,0,none⟩ n cap xs (by rw [hsize];simpa using hxl) holds s (by omega) (by omega) (by rw [hby];exact growslice_fits (by omega) (by omega))
   rw [hr] at hr2
   obtain ⟨rfl,_⟩:=Result.ok.inj hr2
   rfl
end
theorem info5:(Tryz.prog.info? 5).map (fun i=>(i.zero,i.size,i.bytes))=some (some (.int .u8 0),1,1):=by kernel_rfl
theorem byteCells_get {l:List UInt8} {j:Nat} {u:Value} (h:(Lib.byteCells l)[j]?=some u):∃b,l[j]?=some b∧u=.int .u8 b.toNat:=by
 unfold Lib.byteCells at h
 rw [List.getElem?_map] at h
 cases hl:l[j]? with
 | none=>rw [hl] at h;cases h
 | some b=>rw [hl] at h;exact ⟨b,rfl,by simpa using h.symm⟩
section
variable {ops:Array Oper} {rest:List Oper} {o:Oper} {a:Act} {Q:Exit→Act→World→Prop} {w:World}
theorem wpl_append_str (hgd:o.guard=none) (s x:Operand) (ho:o.op=.call { callee:=.builtin .append,args:=#[s,x],argTypes:=#[22,9] }) (base:Nat) (l:List UInt8) (d:Value) (hs:a.eval s=d) (hown:w.ownsRow base 5 1 d l.length (Lib.byteCells l))
  (t:ByteArray) (hx:a.eval x=.string t) (hn:l.length+t.size≤140737488355328) (hbase:base≤w.heap.size)
  (h:∀v' w',w'.ownsRow base 5 1 v' (l++t.data.toList).length (Lib.byteCells (l++t.data.toList))→w.grownBy w' d.ownBlock→(v'=.slice none 0 0↔d=.slice none 0 0∧t.size=0)→(v'.ownBlock=d.ownBlock∨v'.ownBlock=some w.heap.size)→wpList Tryz.prog ops Q rest (a.put o.dst v') w'):wpList Tryz.prog ops Q (o :: rest) a w:=by
 obtain ⟨i,hi,hz,hsz,hby⟩:=info_parts info5
 refine wpList_plain hgd fun K hK => ?_
 obtain ⟨v',w',hr,h2,h3,h4,h5⟩:=append_string_at (P:=Tryz.prog) w base 22 9 o.type 5 i Tryz.underlying22 Tryz.underlying9 hi hz hsz hby d l.length _ hown t (by unfold maxLen;omega) hn hbase
 unfold Oper.wp execOp
 simp only [ho,resolve,invoke,builtin,Sem.run_bind,Sem.run_pure,Result.andThen_ok,List.map_toArray,List.map_cons,List.map_nil,hs,hx,hr]
 refine hK _ _ (h v' w' ?_ h3 h4 h5)
 have e1:(l++t.data.toList).length=l.length+t.size:=by rw [List.length_append,Array.length_toList];rfl
 rw [e1,Lib.byteCells_append,←Lib.strCells_eq]
 exact h2
theorem wpl_append_bytes (hgd:o.guard=none) (s x:Operand) (ho:o.op=.call { callee:=.builtin .append,args:=#[s,x],argTypes:=#[22,22] }) (base:Nat) (l:List UInt8) (d:Value) (hs:a.eval s=d) (hown:w.ownsRow base 5 1 d l.length (Lib.byteCells l))
  (b m:Nat) (ys:List UInt8) (cs:Array Value) (fz:Nat×Nat) (hx:a.eval x=.slice (some ⟨b,0,none⟩) m m) (hm:ys.length=m) (hcs:cs=(Lib.byteCells ys).toArray) (hb:w.heap[b]?=some (.cells cs 5 fz)) (hn:l.length+m≤140737488355328) (hbase:base≤w.heap.size)
  (h:∀v' w',w'.ownsRow base 5 1 v' (l++ys).length (Lib.byteCells (l++ys))→w.grownBy w' d.ownBlock→(v'=.slice none 0 0↔d=.slice none 0 0∧m=0)→(v'.ownBlock=d.ownBlock∨v'.ownBlock=some w.heap.size)→wpList Tryz.prog ops Q rest (a.put o.dst v') w'):wpList Tryz.prog ops Q (o :: rest) a w:=by
 obtain ⟨i,hi,hz,hsz,hby⟩:=info_parts info5
 subst hm
 subst hcs
 refine Go.wpList_append_own_at w hgd s x 22 ho base 5 i _ 1 1 Tryz.underlying22 hi hz hsz hby rfl (by decide) d l.length (Lib.byteCells l) hs hown ⟨b,0,none⟩ ys.length ys.length (Lib.byteCells ys) hx (by rw [Lib.byteCells_length];omega) (fun j u hu => ?_) (fun u hu => ?_) (by unfold maxLen;omega) (by omega) hbase (fun v' w' k1 k2 k3 k4=>h v' w' ?_ k2 k3 k4)
 ·rw [Addr.add_mid,Nat.zero_add,cell_of_row w b j _ 5 fz hb]
  simpa using hu
 ·unfold Lib.byteCells at hu
  obtain ⟨y,_,rfl⟩:=List.mem_map.1 hu
  rfl
 ·rw [List.length_append,Lib.byteCells_append]
  exact k1
end
/-! ### The blocks that stand -/
structure Fr (w w':World) (b:Nat) (own:Option Nat):Prop where
 os:w'.os=w.os
 tape:w'.tape=w.tape
 output:w'.output=w.output
 size:w.heap.size≤w'.heap.size
 block:∀k,k<w.heap.size→k≠b→some k≠own→w'.heap[k]?=w.heap[k]?
def Own (w:World) (own own':Option Nat):Prop:=own'=own∨∃g,own'=some g∧w.heap.size≤g
section
variable {w w1 w2:World} {b:Nat} {own own1 own2:Option Nat}
theorem Fr.refl (w:World) (b:Nat) (own:Option Nat):Fr w w b own:=⟨rfl,rfl,rfl,Nat.le_refl _,fun _ _ _ _=>rfl⟩
theorem Fr.trans (h1:Fr w w1 b own) (h2:Fr w1 w2 b own1) (ho:Own w own own1):Fr w w2 b own :=
 ⟨h2.os.trans h1.os,h2.tape.trans h1.tape,h2.output.trans h1.output,Nat.le_trans h1.size h2.size,fun k hk hb hn=>by
  rw [h2.block k (Nat.lt_of_lt_of_le hk h1.size) hb ?_,h1.block k hk hb hn]
  rcases ho with rfl | ⟨g,rfl,hg⟩
  ·exact hn
  ·intro e
   have:=Option.some.inj e
   omega⟩
theorem Own.refl (w:World) (own:Option Nat):Own w own own:=Or.inl rfl
theorem Own.trans (h1:Own w own own1) (hs:w.heap.size≤w1.heap.size) (h2:Own w1 own1 own2):Own w own own2:=by
 rcases h2 with rfl | ⟨g,rfl,hg⟩
 ·exact h1
 ·exact .inr ⟨g,rfl,by omega⟩
theorem Own.ne {q:Nat} (h:Own w own own1) (hq:q<w.heap.size) (hn:some q≠own):some q≠own1:=by
 rcases h with rfl | ⟨g,rfl,hg⟩
 ·exact hn
 ·intro e
  have:=Option.some.inj e
  omega
theorem Fr.below {B:Nat} (h:Fr w w1 b own) (hb:B≤b) (ho:∀g,own=some g→B≤g) (hB:B≤w.heap.size):Below B w w1 :=
 ⟨h.os,h.tape,h.output,h.size,fun k hk=>h.block k (by omega) (by omega) fun e=>by have:=ho k e.symm;omega⟩
theorem Fr.of_below (h:Below w.heap.size w w1):Fr w w1 b own:=⟨h.os,h.tape,h.output,h.size,fun k hk _ _=>h.block k hk⟩
theorem Fr.of_grown (h:w.grownBy w1 own):Fr w w1 b own:=⟨h.os,h.tape,h.output,h.size,fun k hk _ hn=>h.block k hk hn⟩
theorem Fr.set (o:Nat) (v:Value):Fr w (w.setCell ⟨b,o,none⟩ v) b own:=⟨rfl,rfl,rfl,by simp [World.setCell],fun k _ hb _=>Below.heap_setCell _ _ _ _ hb⟩
end
/-! ### A builder -/
structure BT (T:TypeId) (n:Nat):Prop where
 lies:liesAt Tryz.prog Tryz.prog.depth T (n / Tryz.prog.cellsOf T) 0 92 1=true
 pos:0<n
theorem bt92:BT 92 2:=⟨by kernel_rfl,by decide⟩
theorem bt123:BT 123 3:=⟨by kernel_rfl,by decide⟩
def BldP (w:World) (T:TypeId) (tail:List Value) (b:Nat) (p:Value) (own:Option Nat) (l:List UInt8):Prop :=
 ∃sl,w.heap[b]?=some (.cells (p :: sl :: tail).toArray T (0,0))∧w.ownsRow (b+1) 5 1 sl l.length (Lib.byteCells l)∧sl.ownBlock=own∧(l = []→sl=.slice none 0 0)
def selfP (b:Nat):Value:=.pointer (some ⟨b,0,none⟩)
def Bld (w:World) (T:TypeId) (tail:List Value) (b:Nat) (own:Option Nat) (l:List UInt8):Prop:=BldP w T tail b (.pointer none) own l∨BldP w T tail b (selfP b) own l
section
variable {w w':World} {T:TypeId} {tail:List Value} {b:Nat} {p:Value} {own:Option Nat} {l:List UInt8}
theorem BldP.lt (h:BldP w T tail b p own l):b<w.heap.size:=by obtain ⟨sl,h1,_⟩:=h;exact (Array.getElem?_eq_some_iff.1 h1).1
theorem BldP.own_lt (h:BldP w T tail b p own l):∀g,own=some g→b<g∧g<w.heap.size:=by
 obtain ⟨sl,h1,h2,h3,_⟩:=h
 intro g hg
 have:=h2.lt g (h3.trans hg)
 omega
theorem BldP.keep (h:BldP w T tail b p own l) (hb:w'.heap[b]?=w.heap[b]?) (ho:∀g,own=some g→w'.heap[g]?=w.heap[g]?):BldP w' T tail b p own l:=by
 obtain ⟨sl,h1,h2,h3,h4⟩:=h
 refine ⟨sl,hb.trans h1,?_,h3,h4⟩
 obtain ⟨hl,h5⟩:=h2
 refine ⟨hl,h5.imp id fun ⟨g,cap,cur,y1,y2,y3,y4⟩=>⟨g,cap,cur,y1,y2,(ho g (by rw [←h3,y1];rfl)).trans y3,y4⟩⟩
theorem Bld.lt (h:Bld w T tail b own l):b<w.heap.size:=by rcases h with h | h<;>exact h.lt
theorem Bld.own_lt (h:Bld w T tail b own l):∀g,own=some g→b<g∧g<w.heap.size:=by rcases h with h | h<;>exact h.own_lt
theorem Bld.keep (h:Bld w T tail b own l) (hb:w'.heap[b]?=w.heap[b]?) (ho:∀g,own=some g→w'.heap[g]?=w.heap[g]?):Bld w' T tail b own l:=h.imp (fun h=>h.keep hb ho) (fun h=>h.keep hb ho)
theorem Bld.below (h:Bld w T tail b own l) (hb:Below w.heap.size w w'):Bld w' T tail b own l:=h.keep (hb.block b h.lt) fun g hg=>hb.block g (h.own_lt g hg).2
theorem bld_new (T:TypeId) (tail:List Value) (b:Nat) (h:w.heap[b]?=some (.cells (.pointer none :: .slice none 0 0 :: tail).toArray T (0,0))):Bld w T tail b none [] :=
 .inl ⟨_,h,World.ownsRow_nil _ _ _ _,rfl,fun _=>rfl⟩
end
theorem size92:(Tryz.prog.info? 92).map (·.size)=some 2:=by kernel_rfl
set_option maxHeartbeats 1000000 in
set_option maxRecDepth 100000 in
theorem copyCheck_any (w:World) (T:TypeId) (tail:List Value) (b:Nat) (own:Option Nat) (l:List UInt8) (hT:BT T (tail.length+2)) (h:Bld w T tail b own l) :
  Calls Tryz.prog 81 #[.pointer (some ⟨b,0,none⟩)] w fun e w'=>e=.returned (.tuple #[])∧BldP w' T tail b (selfP b) own l∧Fr w w' b own:=by
 obtain ⟨j,hj,hjs⟩:=Option.map_eq_some_iff.1 size92
 rcases h with h | h
 ·have h':=h
  obtain ⟨sl,h1,h2,h3,h4⟩:=h'
  have h0:w.cell? ⟨b,0,none⟩=some (.pointer none):=by rw [Lib.cell_of_heap h1];rfl
  have hsh:w.shape? b=some (T,tail.length+2):=by simp [World.shape?,h1]
  have hfz:w.frozen? ⟨b,0,none⟩=false:=Lib.frozen_of_heap h1 0
  have HB:=Lib.hid h
  have H1:=Lib.hid h1
  clear h h1 h2 h4
  go_enter Tryz.func81,Tryz.ntmps81
  go_wp2
  rw [Lib.run_to_unsafe w ⟨b,0,none⟩ Tryz.underlying90 Tryz.underlying170 hj (by rw [hjs];decide) hsh hT.pos]
  simp only [Result.andThen]
  rw [Oper.upon_value]
  go_wp2
  rw [run_callFunc_extern Tryz.func113 (by kernel_rfl) (by kernel_rfl) (by kernel_rfl) (e:=Extern.AbiNoEscape.same) (by kernel_rfl)]
  rw [Lib.run_noEscape]
  simp only [Result.andThen]
  rw [Oper.upon_value]
  go_wp2
  rw [Lib.run_from_unsafe w ⟨b,0,none⟩ Tryz.underlying170 Tryz.underlying90 hj hsh hT.lies]
  simp only [Result.andThen]
  rw [Oper.upon_value]
  go_wp2
  go_end0
  refine ⟨rfl,?_,Fr.set 0 _⟩
  obtain ⟨sl',k1,k2,k3,k4⟩:=HB.out
  refine ⟨sl',?_,?_,k3,k4⟩
  ·have:=blk_set k1 0 (selfP b)
   simp at this
   exact this
  ·exact ownsRow_setCell_below k2 (a:=⟨b,0,none⟩) (Nat.lt_succ_self b) _
 ·have h':=h
  obtain ⟨sl,h1,h2,h3,h4⟩:=h'
  have h0:w.cell? ⟨b,0,none⟩=some (.pointer (some ⟨b,0,none⟩)):=by rw [Lib.cell_of_heap h1];rfl
  have HB:=Lib.hid h
  clear h h1 h2 h4
  go_enter Tryz.func81,Tryz.ntmps81
  go_wp2
  rw [Lib.run_neq_ptr_same w _ Tryz.underlying90 hj]
  go_wp2
  go_end0
  exact ⟨rfl,HB.out,Fr.refl _ _ _⟩
theorem BldP.put {w:World} {T:TypeId} {tail:List Value} {b:Nat} {p:Value} {sl v:Value} {l':List UInt8} {own:Option Nat} (h1:w.heap[b]?=some (.cells (p :: sl :: tail).toArray T (0,0))) (h2:w.ownsRow (b+1) 5 1 v l'.length (Lib.byteCells l')) (h3:v.ownBlock=own) (h4:l' = []→v=.slice none 0 0):BldP (w.setCell ⟨b,1,none⟩ v) T tail b p own l':=by
 refine ⟨v,?_,ownsRow_setCell_below h2 (a:=⟨b,1,none⟩) (Nat.lt_succ_self b) _,h3,h4⟩
 have:=blk_set h1 1 v
 simpa using this
theorem BldP.putn {w:World} {T:TypeId} {tail:List Value} {b:Nat} {p:Value} {sl v:Value} {l':List UInt8} {own:Option Nat} {n:Nat} (h1:w.heap[b]?=some (.cells (p :: sl :: tail).toArray T (0,0))) (h2:w.ownsRow (b+1) 5 1 v n (Lib.byteCells l')) (hn:n=l'.length) (h3:v.ownBlock=own) (h4:l' = []→v=.slice none 0 0):BldP (w.setCell ⟨b,1,none⟩ v) T tail b p own l':=by
 subst hn
 exact BldP.put h1 h2 h3 h4
def WroteP (w:World) (T:TypeId) (tail:List Value) (b:Nat) (own:Option Nat) (l:List UInt8) (w':World):Prop :=
 ∃own',BldP w' T tail b (selfP b) own' l∧Fr w w' b own∧Own w own own'
set_option maxHeartbeats 2000000 in
set_option maxRecDepth 100000 in
theorem writeByte_any (w:World) (T:TypeId) (tail:List Value) (b:Nat) (own:Option Nat) (l:List UInt8) (c:UInt8) (hT:BT T (tail.length+2)) (h:Bld w T tail b own l) (hn:l.length+1≤140737488355328) :
  Calls Tryz.prog 41 #[.pointer (some ⟨b,0,none⟩),.int .u8 c.toNat] w fun e w'=>e=.returned .nilIface∧WroteP w T tail b own (l++[c]) w':=by
 have HLT:=Lib.hid h.lt
 have HCC:=Lib.hid (copyCheck_any w T tail b own l hT h)
 have HN:=Lib.hid hn
 have hc5:∀W:World,∀x,(#[Value.int .u8 c.toNat]:Array Value)=x→x=(Lib.byteCells [c]).toArray:=fun _ x e=>by rw [←e];rfl
 clear h hn hT
 go_enter Tryz.func41,Tryz.ntmps41
 go_wp2_with (go_at_call 81;refine HCC.out.mono ?_)
 rintro e w1 ⟨rfl,h1,hf1⟩
 have H1:=Lib.hid h1
 have HF1:=Lib.hid hf1
 obtain ⟨sl,hbk,hown,ho,hnl⟩:=h1
 have c1:w1.cell? ⟨b,1,none⟩=some sl:=by rw [Lib.cell_of_heap hbk];rfl
 have hbn:(w1.alloc (.cells #[Value.int .u8 c.toNat] 5)).heap[w1.heap.size]?=some (.cells #[Value.int .u8 c.toNat] 5 (0,0)):=heap_alloc_at _ _
 have hown1:=hown.alloc (.cells #[Value.int .u8 c.toNat] 5)
 have hsz:b+1≤(w1.alloc (.cells #[Value.int .u8 c.toNat] 5)).heap.size:=by have:=H1.out.lt;simp;omega
 have HBK:=Lib.hid hbk;have HOWN:=Lib.hid hown;have HBN:=Lib.hid hbn;have HOWN1:=Lib.hid hown1;have HSZ:=Lib.hid hsz;have HO:=Lib.hid ho
 clear hbk hown hbn hown1 hsz ho hnl hf1
 go_wp2_with (at_builtin;refine wpl_append_bytes rfl _ _ rfl (b+1) l _ rfl HOWN1.out w1.heap.size 1 [c] _ (0,0) rfl rfl rfl HBN.out HN.out HSZ.out ?_)
 intro v' w2 hown' hgrow hnil hat
 have hlt:=H1.out.lt
 have hne:sl.ownBlock≠some b:=fun e=>by have:=HOWN.out.lt b e;omega
 have hb2:w2.heap[b]?=some (.cells (selfP b :: sl :: tail).toArray T (0,0)):=by
  rw [hgrow.block b (by simp;omega) (fun e=>hne e.symm),Below.heap_alloc _ _ _ hlt]
  exact HBK.out
 have d1:w2.cell? ⟨b,1,none⟩=some sl:=by rw [Lib.cell_of_heap hb2];rfl
 have f1:w2.frozen? ⟨b,1,none⟩=false:=Lib.frozen_of_heap hb2 1
 obtain ⟨g,cap,hv⟩:∃g cap,v'=.slice (some ⟨g,0,none⟩) (l.length+1) cap:=by
  rcases hown'.2 with ⟨_,h0⟩ | ⟨g,cap,cur,hv,_⟩
  ·simp at h0
  ·exact ⟨g,cap,hv⟩
 have HB2:=Lib.hid hb2;have HOWN':=Lib.hid hown';have HG:=Lib.hid hgrow;have HAT:=Lib.hid hat
 have HV:=Lib.hid hv
 clear hb2 hown' hgrow hat hnil hne hlt
 subst hv
 clear HV
 go_wp2
 go_ret
 refine ⟨rfl,some g,BldP.putn HB2.out HOWN'.out (by simp) rfl (fun e=>by simp at e),?_,?_⟩
 ·refine HF1.out.trans ((Fr.of_below (below_new w1 _)).trans (Fr.of_grown (b:=b) HG.out) ?_ |>.trans (Fr.set 1 _) (Own.refl _ _)) (Own.refl _ _)
  rw [HO.out]
  exact Own.refl _ _
 ·have:=HF1.out.size
  rcases HAT.out with h | h
  ·left
   rw [←HO.out,←h]
   rfl
  ·right
   refine ⟨g,rfl,?_⟩
   have h2:some g=some (w1.heap.size+1):=h
   have h3:=Option.some.inj h2
   omega
set_option maxHeartbeats 2000000 in
set_option maxRecDepth 100000 in
theorem writeString_any (w:World) (T:TypeId) (tail:List Value) (b:Nat) (own:Option Nat) (l:List UInt8) (t:ByteArray) (hT:BT T (tail.length+2)) (h:Bld w T tail b own l) (hn:l.length+t.size≤140737488355328) :
  Calls Tryz.prog 40 #[.pointer (some ⟨b,0,none⟩),.string t] w fun e w'=>e=.returned (.tuple #[.int .i64 t.size,.nilIface])∧WroteP w T tail b own (l++t.data.toList) w':=by
 have HLT:=Lib.hid h.lt
 have HCC:=Lib.hid (copyCheck_any w T tail b own l hT h)
 have HN:=Lib.hid hn
 clear h hn hT
 go_enter Tryz.func40,Tryz.ntmps40
 go_wp2_with (go_at_call 81;refine HCC.out.mono ?_)
 rintro e w1 ⟨rfl,h1,hf1⟩
 have H1:=Lib.hid h1
 have HF1:=Lib.hid hf1
 obtain ⟨sl,hbk,hown,ho,hnl⟩:=h1
 have c1:w1.cell? ⟨b,1,none⟩=some sl:=by rw [Lib.cell_of_heap hbk];rfl
 have hsz:b+1≤w1.heap.size:=by have:=H1.out.lt;omega
 have HBK:=Lib.hid hbk;have HOWN:=Lib.hid hown;have HSZ:=Lib.hid hsz;have HO:=Lib.hid ho;have HNL:=Lib.hid hnl
 clear hbk hown hsz ho hnl hf1
 go_wp2_with (at_builtin;refine wpl_append_str rfl _ _ rfl (b+1) l _ rfl HOWN.out t rfl HN.out HSZ.out ?_)
 intro v' w2 hown' hgrow hnil hat
 have hlt:=H1.out.lt
 have hne:sl.ownBlock≠some b:=fun e=>by have:=HOWN.out.lt b e;omega
 have hb2:w2.heap[b]?=some (.cells (selfP b :: sl :: tail).toArray T (0,0)):=by
  rw [hgrow.block b hlt (fun e=>hne e.symm)]
  exact HBK.out
 have d1:w2.cell? ⟨b,1,none⟩=some sl:=by rw [Lib.cell_of_heap hb2];rfl
 have f1:w2.frozen? ⟨b,1,none⟩=false:=Lib.frozen_of_heap hb2 1
 obtain ⟨ao,n',cap,hv⟩:∃ao n' cap,v'=.slice ao n' cap:=by
  rcases hown'.2 with ⟨hv,_⟩ | ⟨g,cap,cur,hv,_⟩
  ·exact ⟨_,_,_,hv⟩
  ·exact ⟨_,_,_,hv⟩
 have hnil2:l++t.data.toList = []→v'=.slice none 0 0:=fun e=>by
  obtain ⟨e1,e2⟩:=List.append_eq_nil_iff.1 e
  have e3:t.size=0:=by
   have:t.data.toList.length=0:=by rw [e2];rfl
   rw [Array.length_toList] at this
   exact this
  exact hnil.2 ⟨HNL.out e1,by first | exact e3 | exact ByteArray.ext (Array.eq_empty_of_size_eq_zero e3)⟩
 have HB2:=Lib.hid hb2;have HOWN':=Lib.hid hown';have HG:=Lib.hid hgrow;have HAT:=Lib.hid hat;have HNIL:=Lib.hid hnil2
 clear hb2 hown' hgrow hat hnil hne hlt hnil2
 subst hv
 go_wp2
 go_ret2
 refine ⟨rfl,(Value.slice ao n' cap).ownBlock,BldP.putn HB2.out HOWN'.out (by rw [List.length_append,Array.length_toList];rfl) rfl HNIL.out,?_,?_⟩
 ·refine HF1.out.trans ((Fr.of_grown (b:=b) HG.out).trans (Fr.set 1 _) (Own.refl _ _)) ?_
  rw [HO.out]
  exact Own.refl _ _
 ·have:=HF1.out.size
  rcases HAT.out with h | h
  ·left
   rw [h]
   exact HO.out
  ·right
   exact ⟨w1.heap.size,h,this⟩
theorem und128:Tryz.prog.underlying 128=some (.pointer 5):=by kernel_rfl
theorem cells5:Tryz.prog.cellsOf 5=1:=by kernel_rfl
theorem Fr.drew {w w1:World} {b:Nat} {own:Option Nat} (h:Fr w w1 b own):Fr w w1.drew b own:=⟨h.os,h.tape,h.output,h.size,h.block⟩
set_option maxHeartbeats 2000000 in
set_option maxRecDepth 100000 in
theorem string_some (w:World) (T:TypeId) (tail:List Value) (b:Nat) (own:Option Nat) (l:List UInt8) (h:Bld w T tail b own l) (h0:l≠[]) :
  Calls Tryz.prog 42 #[.pointer (some ⟨b,0,none⟩)] w fun e w'=>e=.returned (.string ⟨l.toArray⟩)∧Fr w w' b own:=by
 obtain ⟨p,sl,hbk,hown,ho,hnl⟩:∃p,BldP w T tail b p own l:=h.elim (fun h=>⟨_,h⟩) (fun h=>⟨_,h⟩)
 have hl0:l.length≠0:=by simpa using h0
 obtain ⟨g,cap,cur,rfl,hbg,hg,hnc,hcm,hcs,htake⟩:∃g cap cur,sl=.slice (some ⟨g,0,none⟩) l.length cap∧b+1≤g∧w.heap[g]?=some (.cells cur 5 (0,0))∧l.length≤cap∧cap≤maxLen∧cur.size=cap*1∧cur.toList.take (l.length*1)=Lib.byteCells l:=by
  rcases hown.2 with ⟨_,hz⟩ | ⟨g,cap,cur,hv,r⟩
  ·exact absurd hz hl0
  ·exact ⟨g,cap,cur,hv,r⟩
 have hbd:w.drew.heap[b]?=some (.cells (p :: .slice (some ⟨g,0,none⟩) l.length cap :: tail).toArray T (0,0)):=hbk
 have c1:w.drew.cell? ⟨b,1,none⟩=some (.slice (some ⟨g,0,none⟩) l.length cap):=by rw [Lib.cell_of_heap hbd];rfl
 have hSD:(Builtin.unsafeSliceData_ #[22] 128 #[.slice (some ⟨g,0,none⟩) l.length cap]).run Tryz.prog w.drew=.ok (.pointer (some ⟨g,0,none⟩)) w.drew :=
  Lib.run_unsafeSliceData_row _ _ _ _ _ _ (by omega)
 have hUS:(Builtin.unsafeString_ #[128,3] 9 #[.pointer (some ⟨g,0,none⟩),.int .i64 l.length]).run Tryz.prog w.drew=.ok (.string ⟨l.toArray⟩) (w.drew.freeze ⟨g,0,none⟩ l.length):=by
  refine Lib.run_unsafeString_row w.drew 128 3 9 5 und128 cells5 g cur.size (by have hg':w.drew.heap[g]?=some (.cells cur 5 (0,0)):=hg;simp [World.shape?,hg']) l h0 (by omega) (by unfold maxLen at hcm;omega) ?_
  intro j x hx
  have:=hown.cells (g:=g) rfl j (.int .u8 x.toNat) (by simp [Lib.byteCells,hx])
  exact this
 have hfz:Fr w (w.drew.freeze ⟨g,0,none⟩ l.length) b own:=by
  have hb:Below g w (w.drew.freeze ⟨g,0,none⟩ l.length):=Lib.below_freeze (Below.drew (Below.refl g w)) (p:=⟨g,0,none⟩) (Nat.le_refl _) _
  refine ⟨hb.os,hb.tape,hb.output,hb.size,fun k hk _ hne => ?_⟩
  have hkg:k≠g:=fun e=>hne (by rw [←ho,e];rfl)
  unfold World.freeze
  split
  ·rfl
  ·simp only [Array.getElem?_modify]
   rw [if_neg (fun e=>hkg e.symm)]
   rfl
 have HF:=Lib.hid hfz
 clear hbk hown ho hnl hg htake hbd hfz h
 go_enter Tryz.func42,Tryz.ntmps42
 go_wp2
 go_region
 all_goals (go_wp2;go_ret;exact ⟨rfl,HF.out⟩)
set_option maxHeartbeats 2000000 in
set_option maxRecDepth 100000 in
theorem string_none (w:World) (T:TypeId) (tail:List Value) (b:Nat) (own:Option Nat) (h:Bld w T tail b own []) :
  Calls Tryz.prog 42 #[.pointer (some ⟨b,0,none⟩)] w fun e w'=>e=.returned (.string ⟨#[]⟩)∧Fr w w' b own:=by
 obtain ⟨p,sl,hbk,hown,ho,hnl⟩:∃p,BldP w T tail b p own []:=h.elim (fun h=>⟨_,h⟩) (fun h=>⟨_,h⟩)
 obtain rfl:=hnl rfl
 have hbd:w.drew.heap[b]?=some (.cells (p :: .slice none 0 0 :: tail).toArray T (0,0)):=hbk
 have c1:w.drew.cell? ⟨b,1,none⟩=some (.slice none 0 0):=by rw [Lib.cell_of_heap hbd];rfl
 have hSD:(Builtin.unsafeSliceData_ #[22] 128 #[.slice none 0 0]).run Tryz.prog w.drew=.ok (.pointer none) w.drew:=rfl
 have hUS:∀(W:World) (q:Option Addr),(Builtin.unsafeString_ #[128,3] 9 #[.pointer q,.int .i64 0]).run Tryz.prog W=.ok (.string .empty) W:=fun W q=>Lib.run_unsafeString_none W _ _ _ q
 clear hbk hown ho hnl hbd h
 go_enter Tryz.func42,Tryz.ntmps42
 go_wp2
 go_region
 all_goals (go_wp2;go_ret;exact ⟨rfl,(Fr.refl w b own).drew⟩)
theorem string_any (w:World) (T:TypeId) (tail:List Value) (b:Nat) (own:Option Nat) (l:List UInt8) (h:Bld w T tail b own l) :
  Calls Tryz.prog 42 #[.pointer (some ⟨b,0,none⟩)] w fun e w'=>e=.returned (.string ⟨l.toArray⟩)∧Fr w w' b own:=by
 cases l with
 | nil=>exact string_none w T tail b own h
 | cons x r=>exact string_some w T tail b own (x :: r) h (by simp)
end Go.Proofs.YtihlneenajlhoaaGreatDoor
namespace Go.Proofs.YtihlneenajlhoaaGreatDoor
open Go Go.RowKit Go.Sort Go.Shelf
def Tryz.laysItoa_ren:Go.Shelf.Ren:=⟨fun | 171=>34 | 243=>72 | 246=>105 | 283=>143 | 284=>144 | 285=>145 | 286=>146 | 129=>207 | 317=>206 | 318=>208 | 319=>209 | 320=>210 | 337=>272 | 338=>273 | n=>n,fun | 3=>3 | 9=>9 | 2=>2 | 4=>4 | 171=>229 | 0=>0 | 53=>191 | 37=>22 | 5=>5 | 173=>232 | 212=>311 | 51=>236 | 20=>20 | 213=>312 | 46=>120 | 232=>532 | 233=>533 | n=>n,fun | 17=>1 | 18=>4 | 19=>5 | n=>n⟩
theorem Tryz.laysItoa:Go.Proofs.LaysM.n171 Tryz.prog Tryz.laysItoa_ren:={
 mixed:=by kernel_rfl,
 f129:=Tryz.func207.trans (congrArg some (by kernel_rfl)),
 f171:=Tryz.func34.trans (congrArg some (by kernel_rfl)),
 f243:=Tryz.func72.trans (congrArg some (by kernel_rfl)),
 f246:=Tryz.func105.trans (congrArg some (by kernel_rfl)),
 f283:=Tryz.func143.trans (congrArg some (by kernel_rfl)),
 f284:=Tryz.func144.trans (congrArg some (by kernel_rfl)),
 f285:=Tryz.func145.trans (congrArg some (by kernel_rfl)),
 f286:=Tryz.func146.trans (congrArg some (by kernel_rfl)),
 f317:=Tryz.func206.trans (congrArg some (by kernel_rfl)),
 f318:=Tryz.func208.trans (congrArg some (by kernel_rfl)),
 f319:=Tryz.func209.trans (congrArg some (by kernel_rfl)),
 f320:=Tryz.func210.trans (congrArg some (by kernel_rfl)),
 f337:=Tryz.func272.trans (congrArg some (by kernel_rfl)),
 f338:=Tryz.func273.trans (congrArg some (by kernel_rfl)),
 t0:=Tryz.underlying0,
 a0:=Tryz.isAgg0,
 z0:=Tryz.sizeOf0,
 v0:=Tryz.zeroValue0,
 t2:=Tryz.underlying2,
 a2:=Tryz.isAgg2,
 z2:=Tryz.sizeOf2,
 v2:=Tryz.zeroValue2,
 t3:=Tryz.underlying3,
 a3:=Tryz.isAgg3,
 z3:=Tryz.sizeOf3,
 v3:=Tryz.zeroValue3,
 t4:=Tryz.underlying4,
 a4:=Tryz.isAgg4,
 z4:=Tryz.sizeOf4,
 v4:=Tryz.zeroValue4,
 t5:=Tryz.underlying5,
 a5:=Tryz.isAgg5,
 z5:=Tryz.sizeOf5,
 v5:=Tryz.zeroValue5,
 t9:=Tryz.underlying9,
 a9:=Tryz.isAgg9,
 z9:=Tryz.sizeOf9,
 v9:=Tryz.zeroValue9,
 t20:=Tryz.underlying20,
 a20:=Tryz.isAgg20,
 z20:=Tryz.sizeOf20,
 v20:=Tryz.zeroValue20,
 t37:=Tryz.underlying22,
 a37:=Tryz.isAgg22,
 z37:=Tryz.sizeOf22,
 v37:=Tryz.zeroValue22,
 t46:=Tryz.underlying120,
 a46:=Tryz.isAgg120,
 z46:=Tryz.sizeOf120,
 v46:=Tryz.zeroValue120,
 t51:=Tryz.underlying236,
 a51:=Tryz.isAgg236,
 z51:=Tryz.sizeOf236,
 v51:=Tryz.zeroValue236,
 t53:=Tryz.underlying191,
 a53:=Tryz.isAgg191,
 z53:=Tryz.sizeOf191,
 v53:=Tryz.zeroValue191,
 t171:=Tryz.underlying229,
 a171:=Tryz.isAgg229,
 z171:=Tryz.sizeOf229,
 v171:=Tryz.zeroValue229,
 t173:=Tryz.underlying232,
 a173:=Tryz.isAgg232,
 z173:=Tryz.sizeOf232,
 v173:=Tryz.zeroValue232,
 t212:=Tryz.underlying311,
 a212:=Tryz.isAgg311,
 z212:=Tryz.sizeOf311,
 v212:=Tryz.zeroValue311,
 t213:=Tryz.underlying312,
 a213:=Tryz.isAgg312,
 z213:=Tryz.sizeOf312,
 t232:=Tryz.underlying532,
 a232:=Tryz.isAgg532,
 z232:=Tryz.sizeOf532,
 v232:=Tryz.zeroValue532,
 t233:=Tryz.underlying533,
 a233:=Tryz.isAgg533,
 z233:=Tryz.sizeOf533,
 v233:=Tryz.zeroValue533,
 g17:=by kernel_rfl,
 g18:=by kernel_rfl,
 g19:=by kernel_rfl,
 i0:=by kernel_rfl,
 i2:=by kernel_rfl,
 i3:=by kernel_rfl,
 i4:=by kernel_rfl,
 i5:=by kernel_rfl,
 i9:=by kernel_rfl,
 i20:=by kernel_rfl,
 i37:=by kernel_rfl,
 i46:=by kernel_rfl,
 i51:=by kernel_rfl,
 i53:=by kernel_rfl,
 i171:=by kernel_rfl,
 i173:=by kernel_rfl,
 i212:=by kernel_rfl,
 i232:=by kernel_rfl,
 i233:=by kernel_rfl,
 m17:=by kernel_rfl,
 m18:=by kernel_rfl,
 m19:=by kernel_rfl }
end Go.Proofs.YtihlneenajlhoaaGreatDoor
set_option linter.unusedVariables false
namespace Go.Proofs.YtihlneenajlhoaaGreatDoor.sp
open Go
abbrev Bs:=List UInt8
/-! ### Numbers -/
def digitB (c:UInt8):Bool:=decide (48≤c.toNat)&&decide (c.toNat≤57)
def val (n:Nat) (s:Bs):Nat:=s.foldl (fun n c=>n*10+(c.toNat-48)) n
theorem val_nil (n:Nat):val n []=n:=by unfold val;rw [List.foldl_nil]
theorem val_cons (n:Nat) (c:UInt8) (s:Bs):val n (c :: s)=val (n*10+(c.toNat-48)) s:=by unfold val;rw [List.foldl_cons]
theorem val_append (n:Nat) (a b:Bs):val n (a++b)=val (val n a) b:=by unfold val;rw [List.foldl_append]
theorem toNat_digit {d:Nat} (h:d<10):(UInt8.ofNat (48+d)).toNat=48+d:=by
 rw [UInt8.toNat_ofNat']
 exact Nat.mod_eq_of_lt (by omega)
theorem digitB_digit {d:Nat} (h:d<10):digitB (UInt8.ofNat (48+d))=true:=by unfold digitB;rw [toNat_digit h];simp;omega
theorem dec_small {u:Nat} (h:u<10):Lib.decDigits u = [UInt8.ofNat (48+u)]:=by rw [Lib.decDigits,dif_pos h]
theorem dec_big {u:Nat} (h:¬u<10):Lib.decDigits u=Lib.decDigits (u / 10)++[UInt8.ofNat (48+u%10)]:=by rw [Lib.decDigits,dif_neg h]
theorem dec_all (u:Nat):∀c∈Lib.decDigits u,digitB c=true:=by
 induction u using Nat.strongRecOn with
 | _ u ih =>
  by_cases h:u<10
  ·rw [dec_small h];intro c hc;simp only [List.mem_singleton] at hc;subst hc;exact digitB_digit h
  ·rw [dec_big h]
   intro c hc
   rcases List.mem_append.1 hc with hc | hc
   ·exact ih (u / 10) (by omega) c hc
   ·simp only [List.mem_singleton] at hc;subst hc;exact digitB_digit (by omega)
theorem dec_val (u:Nat):val 0 (Lib.decDigits u)=u:=by
 induction u using Nat.strongRecOn with
 | _ u ih =>
  by_cases h:u<10
  ·rw [dec_small h,val_cons,val_nil,toNat_digit h];omega
  ·rw [dec_big h,val_append,ih (u / 10) (by omega),val_cons,val_nil,toNat_digit (by omega)];omega
theorem dec_ne (u:Nat):Lib.decDigits u≠[]:=by
 intro h
 have:=Lib.decDigits_length u
 have h1:=Lib.nDigits_pos u
 rw [h] at this
 simp at this
 omega
theorem head_append {a b:Bs} (h:a≠[]):(a++b).head?=a.head?:=by
 cases a with
 | nil=>exact absurd rfl h
 | cons x a=>rfl
theorem dec_head (u:Nat) (h0:u≠0):(Lib.decDigits u).head?≠some 48:=by
 induction u using Nat.strongRecOn with
 | _ u ih =>
  by_cases h:u<10
  ·rw [dec_small h]
   simp only [List.head?_cons,ne_eq,Option.some.injEq]
   intro hh
   have:=congrArg UInt8.toNat hh
   rw [toNat_digit h] at this
   have e:(48:UInt8).toNat=48:=rfl
   omega
  ·rw [dec_big h,head_append (dec_ne _)]
   exact ih (u / 10) (by omega) (by omega)
theorem dec_head_digit (u:Nat):∃c r,Lib.decDigits u=c :: r∧digitB c=true:=by
 cases h:Lib.decDigits u with
 | nil=>exact absurd h (dec_ne u)
 | cons c r=>exact ⟨c,r,rfl,dec_all u c (by rw [h];exact List.mem_cons_self)⟩
theorem val_le (s:Bs):∀n,n*10 ^ s.length≤val n s:=by
 induction s with
 | nil=>intro n;simp [val_nil]
 | cons c s ih =>
  intro n
  rw [val_cons,List.length_cons,Nat.pow_succ]
  refine Nat.le_trans ?_ (ih _)
  rw [Nat.mul_comm (10 ^ s.length) 10,←Nat.mul_assoc]
  exact Nat.mul_le_mul_right _ (by omega)
theorem val_lt (s:Bs) (hs:∀c∈s,digitB c=true):∀n,val n s<(n+1)*10 ^ s.length:=by
 induction s with
 | nil=>intro n;simp [val_nil]
 | cons c s ih =>
  intro n
  rw [val_cons,List.length_cons,Nat.pow_succ]
  refine Nat.lt_of_lt_of_le (ih (fun d hd=>hs d (List.mem_cons_of_mem _ hd)) _) ?_
  rw [Nat.mul_comm (10 ^ s.length) 10,←Nat.mul_assoc]
  have:=hs c List.mem_cons_self
  simp only [digitB,Bool.and_eq_true,decide_eq_true_eq] at this
  exact Nat.mul_le_mul_right _ (by omega)
def num (s:Bs):Option Int :=
 let t:=if s.head?=some 45 then s.tail else s
 if t = []∨9<t.length∨(t.head?=some 48∧s≠[48]) then none
 else if t.all digitB then some (if s.head?=some 45 then -(val 0 t:Int) else (val 0 t:Int)) else none
theorem itoa_nat (u:Nat):Lib.itoa (u:Int)=Lib.decDigits u:=Lib.itoa_nonneg u
theorem itoa_minus (u:Nat) (h:1≤u):Lib.itoa (-(u:Int))=45 :: Lib.decDigits u:=Lib.itoa_neg u h
theorem nDigits_le9 {u:Nat} (h:u<1000000000):Lib.nDigits u≤9:=by
 have h1:=val_le (Lib.decDigits u).tail 1
 by_cases h0:u=0
 ·subst h0;rw [Lib.nDigits_small (by omega)];omega
 ·obtain ⟨c,r,e,hc⟩:=dec_head_digit u
  have hv:=dec_val u
  have hh:=dec_head u h0
  have hl:=Lib.decDigits_length u
  rw [e] at hv hh hl
  simp only [digitB,Bool.and_eq_true,decide_eq_true_eq] at hc
  have hne:c.toNat≠48:=fun h=>hh (by simp only [List.head?_cons,Option.some.injEq];exact UInt8.toNat_inj.1 h)
  rw [val_cons] at hv
  have h2:=val_le r (0*10+(c.toNat-48))
  rw [hv] at h2
  simp only [List.length_cons] at hl
  by_cases hr:r.length≤8
  ·omega
  ·have h3:(10:Nat) ^ 9≤10 ^ r.length:=Nat.pow_le_pow_right (by decide) (by omega)
   have h4:1*10 ^ r.length≤(0*10+(c.toNat-48))*10 ^ r.length:=Nat.mul_le_mul_right _ (by omega)
   have h5:(10:Nat) ^ 9=1000000000:=by decide
   omega
theorem dec_head_ne (u:Nat):(Lib.decDigits u).head?≠some 45:=by
 obtain ⟨c,r,e,hc⟩:=dec_head_digit u
 rw [e]
 simp only [List.head?_cons,ne_eq,Option.some.injEq]
 intro h
 subst h
 exact absurd hc (by decide)
theorem num_itoa {n:Int} (h0 : -1000000000<n) (h1:n<1000000000):num (Lib.itoa n)=some n:=by
 have hall:∀u,(Lib.decDigits u).all digitB=true:=fun u=>List.all_eq_true.2 (dec_all u)
 by_cases hn:0≤n
 ·obtain ⟨u,rfl⟩:=Int.eq_ofNat_of_zero_le hn
  rw [itoa_nat]
  unfold num
  simp only [if_neg (dec_head_ne u),hall,if_true,dec_val]
  rw [if_neg]
  rintro (h | h | ⟨h,h'⟩)
  ·exact dec_ne u h
  ·rw [Lib.decDigits_length] at h
   have:=nDigits_le9 (u:=u) (by omega)
   omega
  ·by_cases hu:u=0
   ·subst hu;exact h' (by rw [dec_small (by omega)];rfl)
   ·exact dec_head u hu h
 ·obtain ⟨u,rfl⟩:∃u:Nat,n = -(u:Int):=⟨n.natAbs,by omega⟩
  rw [itoa_minus u (by omega)]
  unfold num
  simp only [List.head?_cons,if_true,List.tail_cons,hall,dec_val]
  rw [if_neg]
  rintro (h | h | ⟨h,h'⟩)
  ·exact dec_ne u h
  ·rw [Lib.decDigits_length] at h
   have:=nDigits_le9 (u:=u) (by omega)
   omega
  ·exact dec_head u (by omega) h
/-! ### Quoted texts -/
def hexd (k:Nat):UInt8:=if k<10 then UInt8.ofNat (48+k) else UInt8.ofNat (87+k)
def hexv (c:UInt8):Option Nat:=if 48≤c.toNat∧c.toNat≤57 then some (c.toNat-48) else if 97≤c.toNat∧c.toNat≤102 then some (c.toNat-87) else none
theorem hexv_lt {c:UInt8} {k:Nat} (h:hexv c=some k):k<16:=by
 unfold hexv at h
 split at h
 ·simp only [Option.some.injEq] at h;omega
 ·split at h
  ·simp only [Option.some.injEq] at h;omega
  ·cases h
theorem hexv_hexd:∀k:Fin 16,hexv (hexd k.val)=some k.val:=by decide
def quoteB (c:UInt8):Bs:=if c=34∨c=92 then [92,c] else if c=10 then [92,110] else if c.toNat<32∨127≤c.toNat then [92,120,hexd (c.toNat / 16),hexd (c.toNat%16)] else [c]
def quoteS (s:Bs):Bs:=34 :: (s.flatMap quoteB++[34])
def qread (s:Bs):Option (Bs×Bs) :=
 match s with
 | []=>none
 | c :: r =>
  if c=34 then some ([],r)
  else if c=92 then
   match r with
   | []=>none
   | d :: r1 =>
    if d=92∨d=34 then (qread r1).map fun p=>(d :: p.1,p.2)
    else if d=110 then (qread r1).map fun p=>(10 :: p.1,p.2)
    else if d=120 then
     match r1 with
     | a :: b :: r2 =>
      match hexv a,hexv b with
      | some x,some y=>(qread r2).map fun p=>(UInt8.ofNat (16*x+y) :: p.1,p.2)
      | _,_=>none
     | _=>none
    else none
  else (qread r).map fun p=>(c :: p.1,p.2)
termination_by s.length
theorem qread_nil:qread []=none:=by rw [qread.eq_def]
theorem qread_end (r:Bs):qread (34 :: r)=some ([],r):=by rw [qread.eq_def];rfl
theorem qread_plain {c:UInt8} (h1:c≠34) (h2:c≠92) (r:Bs):qread (c :: r)=(qread r).map fun p=>(c :: p.1,p.2):=by rw [qread.eq_def];simp only [if_neg h1,if_neg h2]
theorem qread_esc0:qread [92]=none:=by rw [qread.eq_def];rfl
theorem qread_esc_same {d:UInt8} (h:d=92∨d=34) (r:Bs):qread (92 :: d :: r)=(qread r).map fun p=>(d :: p.1,p.2):=by
 rw [qread.eq_def]
 simp only [if_neg (by decide:¬(92:UInt8)=34),if_pos h,if_true]
theorem qread_esc_n (r:Bs):qread (92 :: 110 :: r)=(qread r).map fun p=>(10 :: p.1,p.2):=by rw [qread.eq_def];rfl
theorem qread_esc_bad {d:UInt8} (h1:¬(d=92∨d=34)) (h2:d≠110) (h3:d≠120) (r:Bs):qread (92 :: d :: r)=none:=by
 rw [qread.eq_def]
 simp only [if_neg (by decide:¬(92:UInt8)=34),if_neg h1,if_neg h2,if_neg h3,if_true]
theorem qread_esc_x {a b:UInt8} {x y:Nat} (hx:hexv a=some x) (hy:hexv b=some y) (r:Bs):qread (92 :: 120 :: a :: b :: r)=(qread r).map fun p=>(UInt8.ofNat (16*x+y) :: p.1,p.2):=by
 rw [qread.eq_def]
 simp only [if_neg (by decide:¬(92:UInt8)=34),if_neg (by decide:¬((120:UInt8)=92∨(120:UInt8)=34)),if_neg (by decide:¬(120:UInt8)=110),if_true,hx,hy]
theorem qread_esc_x0:qread [92,120]=none:=by rw [qread.eq_def];rfl
theorem qread_esc_x1 (a:UInt8):qread [92,120,a]=none:=by rw [qread.eq_def];rfl
theorem qread_esc_xa {a:UInt8} (hx:hexv a=none) (b:UInt8) (r:Bs):qread (92 :: 120 :: a :: b :: r)=none:=by
 rw [qread.eq_def]
 simp only [if_neg (by decide:¬(92:UInt8)=34),if_neg (by decide:¬((120:UInt8)=92∨(120:UInt8)=34)),if_neg (by decide:¬(120:UInt8)=110),if_true,hx]
theorem qread_esc_xb {b:UInt8} (hy:hexv b=none) (a:UInt8) (r:Bs):qread (92 :: 120 :: a :: b :: r)=none:=by
 rw [qread.eq_def]
 simp only [if_neg (by decide:¬(92:UInt8)=34),if_neg (by decide:¬((120:UInt8)=92∨(120:UInt8)=34)),if_neg (by decide:¬(120:UInt8)=110),if_true,hy]
 cases hexv a<;>rfl
theorem quoteB_byte (c:UInt8):UInt8.ofNat (16*(c.toNat / 16)+c.toNat%16)=c:=by
 apply UInt8.toNat_inj.1
 rw [Nat.div_add_mod]
 simp
theorem qread_quoteB (c:UInt8) (r:Bs):qread (quoteB c++r)=(qread r).map fun p=>(c :: p.1,p.2):=by
 unfold quoteB
 split
 ·rename_i h
  exact qread_esc_same h.symm r
 ·rename_i h
  split
  ·rename_i h1
   subst h1
   exact qread_esc_n r
  ·split
   ·have h1:=hexv_hexd ⟨c.toNat / 16,by have:=c.toNat_lt;omega⟩
    have h2:=hexv_hexd ⟨c.toNat%16,by omega⟩
    have:=qread_esc_x h1 h2 r
    rw [quoteB_byte] at this
    exact this
   ·exact qread_plain (fun e=>h (Or.inl e)) (fun e=>h (Or.inr e)) r
theorem qread_quote (s r:Bs):qread (s.flatMap quoteB++34 :: r)=some (s,r):=by
 induction s with
 | nil=>exact qread_end r
 | cons c s ih =>
  rw [List.flatMap_cons,List.append_assoc,qread_quoteB,ih]
  rfl
theorem qread_shorter (s:Bs):∀p,qread s=some p→p.2.length<s.length:=by
 induction hn:s.length using Nat.strongRecOn generalizing s with
 | _ n ih =>
  intro p h
  have go:∀(r:Bs) (x:UInt8),r.length<n→(qread r).map (fun p=>(x :: p.1,p.2))=some p→p.2.length<n:=by
   intro r x hl h
   obtain ⟨q,h1,rfl⟩:=Option.map_eq_some_iff.1 h
   exact Nat.lt_trans (ih r.length hl r rfl q h1) hl
  subst hn
  rw [qread.eq_def] at h
  split at h
  ·cases h
  ·rename_i c r
   split at h
   ·cases h;simp
   ·split at h
    ·split at h
     ·cases h
     ·rename_i d r1
      split at h
      ·exact go _ _ (by simp only [List.length_cons];omega) h
      ·split at h
       ·exact go _ _ (by simp only [List.length_cons];omega) h
       ·split at h
        ·split at h
         ·rename_i a b r2
          split at h
          ·exact go _ _ (by simp only [List.length_cons];omega) h
          ·cases h
         ·cases h
        ·cases h
    ·exact go _ _ (by simp only [List.length_cons];omega) h
/-! ### The words of a line -/
def wordB (c:UInt8):Bool:=c != 32&&c != 34
theorem drop_spaces_length (s:Bs):(s.dropWhile (· == 32)).length≤s.length:=(List.dropWhile_sublist _).length_le
def words (s:Bs):Option (List (Bs×Bool)) :=
 match h:s.dropWhile (· == 32) with
 | []=>some []
 | c :: r =>
  if c=34 then
   match h2:qread r with
   | none=>none
   | some (t,u)=>if u.head?=none∨u.head?=some 32 then (words u).map fun l=>(t,true) :: l else none
  else
   if ((c :: r).dropWhile wordB).head?=some 34 then none else (words ((c :: r).dropWhile wordB)).map fun l=>((c :: r).takeWhile wordB,false) :: l
termination_by s.length
decreasing_by
 ·have h1:=drop_spaces_length s
  have h3:=qread_shorter _ _ h2
  rw [h] at h1
  simp at h1 h3
  omega
 ·rename_i hc0 _
  have h1:=drop_spaces_length s
  rw [h] at h1
  simp only [List.length_cons] at h1
  have h0:c≠32:=fun e=>by
   have:=List.head?_dropWhile_not (· == (32:UInt8)) s
   rw [h] at this
   subst e
   simp at this
  have h4:wordB c=true:=by simp [wordB,h0,hc0]
  rw [List.dropWhile_cons,if_pos h4]
  have:=(List.dropWhile_sublist wordB (l:=r)).length_le
  omega
/-! ### Fractions -/
def SureP (n d:Int):Prop:=1≤d∧n ≠ -9223372036854775808∧Nat.gcd n.natAbs d.toNat=1
instance (n d:Int):Decidable (SureP n d):=inferInstanceAs (Decidable (_∧_∧_))
def MayP (n d:Int):Prop:=(n=0∧d=0)∨SureP n d
instance (n d:Int):Decidable (MayP n d):=inferInstanceAs (Decidable (_∨_))
def I64 (n:Int):Prop := -9223372036854775808≤n∧n≤9223372036854775807
abbrev over:Bs:=[111,118,101,114]
def ratS (n d:Int):Bs:=if SureP n d then Lib.itoa n++(if 1<d then 47 :: Lib.itoa d else []) else over
def numB (c:UInt8):Bool:=digitB c||c==45
theorem itoa_numB (n:Int):∀c∈Lib.itoa n,numB c=true:=by
 intro c hc
 unfold Lib.itoa at hc
 split at hc
 ·rcases List.mem_cons.1 hc with rfl | hc
  ·decide
  ·unfold numB;rw [dec_all _ c hc];rfl
 ·unfold numB;rw [dec_all _ c hc];rfl
theorem itoa_head (n:Int):∃c r,Lib.itoa n=c :: r∧numB c=true:=by
 cases h:Lib.itoa n with
 | nil =>
  unfold Lib.itoa at h
  split at h
  ·cases h
  ·exact absurd h (dec_ne _)
 | cons c r=>exact ⟨c,r,rfl,itoa_numB n c (by rw [h];exact List.mem_cons_self)⟩
theorem dec_inj {u v:Nat} (h:Lib.decDigits u=Lib.decDigits v):u=v:=by rw [←dec_val u,h,dec_val]
theorem itoa_inj {n m:Int} (h:Lib.itoa n=Lib.itoa m):n=m:=by
 have key:∀u v:Nat,Lib.decDigits u≠45 :: Lib.decDigits v:=fun u v e=>dec_head_ne u (by rw [e];rfl)
 unfold Lib.itoa at h
 split at h<;>split at h
 ·have:=dec_inj (List.cons.inj h).2;omega
 ·exact absurd h.symm (key _ _)
 ·exact absurd h (key _ _)
 ·have:=dec_inj h;omega
theorem split_at {a b c d:Bs} {x:UInt8} (h:a++x :: b=c++x :: d) (ha:x∉a) (hc:x∉c):a=c∧b=d:=by
 induction a generalizing c with
 | nil =>
  cases c with
  | nil=>exact ⟨rfl,(List.cons.inj h).2⟩
  | cons y c=>exact absurd ((List.cons.inj h).1 ▸ List.mem_cons_self) hc
 | cons y a ih =>
  cases c with
  | nil=>exact absurd ((List.cons.inj h).1 ▸ List.mem_cons_self) ha
  | cons z c =>
   obtain ⟨h1,h2⟩:=List.cons.inj h
   obtain ⟨h3,h4⟩:=ih h2 (fun h=>ha (List.mem_cons_of_mem _ h)) (fun h=>hc (List.mem_cons_of_mem _ h))
   exact ⟨by rw [h1,h3],h4⟩
theorem slash_itoa (n:Int):(47:UInt8)∉Lib.itoa n:=fun h=>absurd (itoa_numB n 47 h) (by decide)
theorem ratS_inj {n d m e:Int} (h1:MayP n d) (h2:MayP m e) (h:ratS n d=ratS m e):n=m∧d=e:=by
 have key:∀n d:Int,SureP n d→ratS n d≠over:=by
  intro n d hs e
  unfold ratS at e
  rw [if_pos hs] at e
  obtain ⟨c,r,e1,hc⟩:=itoa_head n
  rw [e1,List.cons_append] at e
  have:=(List.cons.inj e).1
  subst this
  exact absurd hc (by decide)
 have zero:∀n d:Int,¬SureP n d→MayP n d→n=0∧d=0:=fun n d h1 h2=>h2.resolve_right h1
 by_cases hs:SureP n d<;>by_cases ht:SureP m e
 ·unfold ratS at h
  rw [if_pos hs,if_pos ht] at h
  have hd:=hs.1
  have he:=ht.1
  by_cases k1:1<d<;>by_cases k2:1<e
  ·rw [if_pos k1,if_pos k2] at h
   obtain ⟨a,b⟩:=split_at h (slash_itoa n) (slash_itoa m)
   exact ⟨itoa_inj a,itoa_inj b⟩
  ·rw [if_pos k1,if_neg k2,List.append_nil] at h
   exact absurd (h ▸ by simp:(47:UInt8)∈Lib.itoa m) (slash_itoa m)
  ·rw [if_neg k1,if_pos k2,List.append_nil] at h
   exact absurd (h ▸ by simp:(47:UInt8)∈Lib.itoa n) (slash_itoa n)
  ·rw [if_neg k1,if_neg k2,List.append_nil,List.append_nil] at h
   exact ⟨itoa_inj h,by omega⟩
 ·exact absurd (h.trans (by unfold ratS;rw [if_neg ht])) (key _ _ hs)
 ·exact absurd (h.symm.trans (by unfold ratS;rw [if_neg hs])) (key _ _ ht)
 ·obtain ⟨a,b⟩:=zero _ _ hs h1
  obtain ⟨c,d⟩:=zero _ _ ht h2
  omega
open Classical in
noncomputable def fracS (s:Bs):Option (Int×Int):=if h:∃p:Int×Int,I64 p.1∧I64 p.2∧MayP p.1 p.2∧ratS p.1 p.2=s then some h.choose else none
theorem fracS_yes {n d:Int} (hn:I64 n) (hd:I64 d) (h:MayP n d):fracS (ratS n d)=some (n,d):=by
 unfold fracS
 have hx:∃p:Int×Int,I64 p.1∧I64 p.2∧MayP p.1 p.2∧ratS p.1 p.2=ratS n d:=⟨(n,d),hn,hd,h,rfl⟩
 rw [dif_pos hx]
 obtain ⟨_,_,h3,h4⟩:=hx.choose_spec
 obtain ⟨a,b⟩:=ratS_inj h3 h h4
 exact congrArg some (Prod.ext a b)
theorem fracS_no {s:Bs} (h:∀n d:Int,I64 n→I64 d→MayP n d→ratS n d≠s):fracS s=none:=by
 unfold fracS
 rw [dif_neg]
 rintro ⟨p,h1,h2,h3,h4⟩
 exact h p.1 p.2 h1 h2 h3 h4
/-! ### Operations -/
structure Op where
 kind:Int:=0
 node:Int:=0
 at_:Int:=0
 origin:Int:=0
 name:Bs:=[]
 word:Bs:=[]
 text:Bs:=[]
 w:Int×Int:=(0,0)
 h:Int×Int:=(0,0)
 bt:Int:=0
 bn:Bs:=[]
 bw:Int×Int:=(0,0)
 bh:Int×Int:=(0,0)
 on:Bool:=false
abbrev kSheet:Bs:=[115,104,101,101,116]
abbrev kView:Bs:=[118,105,101,119]
abbrev kFont:Bs:=[102,111,110,116]
abbrev kColor:Bs:=[99,111,108,111,114]
abbrev kPrint:Bs:=[112,114,105,110,116]
abbrev kWord:Bs:=[119,111,114,100]
abbrev kInsert:Bs:=[105,110,115,101,114,116]
abbrev kRemove:Bs:=[114,101,109,111,118,101]
abbrev kSet:Bs:=[115,101,116]
abbrev kUnset:Bs:=[117,110,115,101,116]
abbrev kBox:Bs:=[98,111,120]
abbrev kAsk:Bs:=[97,115,107]
abbrev kCustom:Bs:=[99,117,115,116,111,109]
abbrev kRules:Bs:=[114,117,108,101,115]
abbrev kCount:Bs:=[99,111,117,110,116]
abbrev kOn:Bs:=[111,110]
abbrev kOff:Bs:=[111,102,102]
abbrev kNone:Bs:=[110,111,110,101]
abbrev kInline:Bs:=[105,110,108,105,110,101]
abbrev kSize:Bs:=[115,105,122,101]
abbrev Wd:=Bs×Bool
def wNum (w:Wd):Option Int:=if w.2 then none else num w.1
noncomputable def wFrac (w:Wd):Option (Int×Int):=if w.2 then none else fracS w.1
def wPlain (w:Wd):Option Bs:=if w.2 then none else some w.1
def wText (w:Wd):Option Bs:=if w.2 then some w.1 else none
def boxOf (s:Bs):Option Int:=if s=kNone then some 0 else if s=kInline then some 1 else if s=kSize then some 2 else none
def boxName (s:Bs):Bs:=if s = [45] then [] else s
noncomputable def opS (name:Bs) (a:List Wd):Option Op :=
 if name=kSheet then (match a with | [x,y]=>(wNum x).bind fun o=>(wText y).bind fun t=>some { kind:=1,origin:=o,text:=t } | _=>none)
 else if name=kView then (match a with | [x,y]=>(wFrac x).bind fun p=>(wFrac y).bind fun q=>some { kind:=2,w:=p,h:=q } | _=>none)
 else if name=kFont then (match a with | [x]=>(wFrac x).bind fun p=>some { kind:=3,w:=p } | _=>none)
 else if name=kColor then (match a with | [x]=>(wFrac x).bind fun p=>some { kind:=13,w:=p } | _=>none)
 else if name=kPrint then (match a with | [x]=>(wPlain x).bind fun s=>if s=kOn then some { kind:=14,on:=true } else if s=kOff then some { kind:=14 } else none | _=>none)
 else if name=kWord then (match a with | [x,y]=>(wPlain x).bind fun s=>(wPlain y).bind fun t=>some { kind:=4,name:=s,word:=t } | _=>none)
 else if name=kInsert then (match a with | [x,y,z]=>(wNum x).bind fun n=>(wNum y).bind fun k=>(wPlain z).bind fun s=>some { kind:=5,node:=n,at_:=k,name:=s } | _=>none)
 else if name=kRemove then (match a with | [x]=>(wNum x).bind fun n=>some { kind:=6,node:=n } | _=>none)
 else if name=kSet then (match a with | [x,y,z]=>(wNum x).bind fun n=>(wPlain y).bind fun s=>(wText z).bind fun t=>some { kind:=7,node:=n,name:=s,word:=t } | _=>none)
 else if name=kUnset then (match a with | [x,y]=>(wNum x).bind fun n=>(wPlain y).bind fun s=>some { kind:=8,node:=n,name:=s } | _=>none)
 else if name=kBox then (match a with | [x,y,z,u,v]=>(wNum x).bind fun n=>(wPlain y).bind fun s=>(boxOf s).bind fun b=>(wPlain z).bind fun t=>(wFrac u).bind fun p=>(wFrac v).bind fun q=>some { kind:=9,node:=n,bt:=b,bn:=boxName t,bw:=p,bh:=q } | _=>none)
 else if name=kAsk then (match a with | [x,y]=>(wNum x).bind fun n=>(wPlain y).bind fun s=>some { kind:=10,node:=n,name:=s } | _=>none)
 else if name=kCustom then (match a with | [x,y]=>(wNum x).bind fun n=>(wPlain y).bind fun s=>some { kind:=11,node:=n,name:=s } | _=>none)
 else if name=kRules then (match a with | [x]=>(wNum x).bind fun n=>some { kind:=12,node:=n } | _=>none)
 else if name=kCount then (match a with | []=>some { kind:=15 } | _=>none)
 else none
end Go.Proofs.YtihlneenajlhoaaGreatDoor.sp
set_option linter.unusedSimpArgs false
set_option linter.unusedVariables false
namespace Go.Proofs.YtihlneenajlhoaaGreatDoor
open Go Go.RowKit
def bstr (l:List UInt8):ByteArray:=⟨l.toArray⟩
theorem bstr_toList (l:List UInt8):(bstr l).data.toList=l:=by simp [bstr]
theorem bstr_size (l:List UInt8):(bstr l).size=l.length:=by simp [bstr,ByteArray.size]
theorem bstr_of (s:ByteArray):bstr s.data.toList=s:=by apply ByteArray.ext;simp [bstr]
theorem ret_str {a b:List UInt8} (h:a=b):Ending.returned (.string (bstr a))=.returned (.string (bstr b)):=by rw [h]
def Pow (w:World):Prop:=Lib.TabBelow Tryz.prog w.heap.size w "internal/strconv.uint64pow10" .u64 Lib.pow10Tab
theorem Pow.on {w w':World} (h:Pow w) (hb:Below w.heap.size w w'):Pow w':=fun w'' h''=>h w'' (hb.trans (h''.mono hb.size))
theorem below_grow (w:World) (k:Nat) (os:Array Obj):Below w.heap.size w (Sort.grow (w.drewN k) os):=by
 have h:=below_drewN (Below.refl w.heap.size w) k
 refine ⟨h.os,h.tape,h.output,?_,fun j hj => ?_⟩
 ·show w.heap.size≤((w.drewN k).heap++os).size
  rw [Array.size_append]
  have:=h.size
  omega
 ·show ((w.drewN k).heap++os)[j]?=w.heap[j]?
  have:=h.size
  rw [Array.getElem?_append_left (by omega)]
  exact h.block j hj
theorem itoa_any (n:Int) (w:World) (hn:I64 n) (hp:Pow w):Calls Tryz.prog 34 #[.int .i64 n] w fun e w'=>e=.returned (.string (bstr (Lib.itoa n)))∧Below w.heap.size w w' :=
 (Any.strconv_Itoa Tryz.laysItoa n hn.1 hn.2 w hp.here).mono fun e w' ⟨h1,k,os,h2⟩=>⟨h1,by rw [h2];exact below_grow w k os⟩
theorem dec_len_le {m:Nat} {tl:List UInt8} {N:Nat} (h:Lib.decDigits N=Lib.decDigits m++tl) (hN:N≤18446744073709551615):tl.length+1≤20:=by
 have h1:=Lib.decDigits_length N
 have h2:=Lib.nDigits_le20 N (by omega)
 have h3:=Lib.decDigits_length m
 have h4:=Lib.nDigits_pos m
 rw [h,List.length_append] at h1
 omega
theorem drop_set_self {α:Type} (l:List α) (k:Nat) (v:α) (h:k<l.length):(l.set k v).drop k=v :: l.drop (k+1):=by
 rw [List.drop_eq_getElem_cons (by simpa using h)]
 simp [List.drop_set_of_lt]
theorem arr235:Tryz.prog.arrayLen 235=20:=by kernel_rfl
theorem elem235:Tryz.prog.elem 235=5:=by kernel_rfl
theorem sizeOf5 (W:World):(sizeOf 5).run Tryz.prog W=.ok 1 W:=by kernel_rfl
theorem slice20 (W:World) (b k:Nat) (hk:k<20):(Instr.sliceAt 235 (.pointer (some ⟨b,0,none⟩)) (some (.int .i64 k)) none none).run Tryz.prog W=.ok (.slice (some ⟨b,k,none⟩) (20-k) (20-k)) W:=by
 rw [run_sliceAt_array_l W 235 ⟨b,0,none⟩ (by rw [arr235,elem235];exact Tryz.underlying235) .i64 k (by omega) (by rw [arr235];omega),elem235,sizeOf5]
 have e:¬20=k:=by omega
 simp [Result.andThen,slicedAt,arr235,Addr.add,e]
 omega
set_option maxRecDepth 100000 in
set_option maxHeartbeats 4000000 in
theorem number_any (N:Nat) (w:World) (hN:N≤18446744073709551615):Calls Tryz.prog 107 #[.int .u64 N] w fun e w'=>e=.returned (.string (bstr (Lib.decDigits N)))∧Below w.heap.size w w':=by
 have HN:=Lib.hid hN;clear hN
 go_enter Tryz.func107,Tryz.ntmps107
 go_wp2
 go_loopw [0,4] (fun n a wr=>∃(m k:Nat) (cs:Array Value) (tl:List UInt8),n=.int .u64 m∧a=.int .i64 (k+1:Nat)∧m≤18446744073709551615∧k+1+tl.length=20∧wr.heap[w.heap.size]?=some (.cells cs 235 (0,0))∧cs.size=20∧cs.toList.drop (k+1)=Lib.byteCells tl∧Lib.decDigits N=Lib.decDigits m++tl∧Below w.heap.size w wr) (fun n _ _=>(intOf n).toNat)
 case atStart =>
  refine ⟨N,19,_,[],rfl,rfl,HN.out,rfl,heap_alloc_at _ _,rfl,?_,by simp,below_new w _⟩
  rfl
 case round =>
  obtain ⟨m,k,cs,tl,rfl,rfl,hm,hk,hb,hc,hd,hdd,hbl⟩:=hrel
  have hk20:k<20:=by omega
  obtain ⟨y,hy⟩:∃y,cs[k]?=some y:=⟨cs[k],Array.getElem?_eq_getElem (by omega)⟩
  have hce:wr.cell? ⟨w.heap.size,k,none⟩=some y:=by rw [cell_of_row wr _ k cs 235 (0,0) hb,hy]
  have hfr:=blk_free hb k
  have hlt:=lt_of_block hb
  have hmod:m%10<10:=Nat.mod_lt _ (by omega)
  have hu8:(48+(m:Int)%10)=(UInt8.ofNat (48+m%10)).toNat:=by rw [sp.toNat_digit hmod];omega
  have hb2:=blk_set hb k (.int .u8 (48+(m:Int)%10))
  have hd2:List.drop k (cs.setIfInBounds k (.int .u8 (48+(m:Int)%10))).toList=Lib.byteCells (UInt8.ofNat (48+m%10) :: tl):=by
   rw [Array.toList_setIfInBounds,drop_set_self _ _ _ (by rw [Array.length_toList];omega),hd,hu8]
   rfl
  have hbl2:Below w.heap.size w (wr.setCell ⟨w.heap.size,k,none⟩ (.int .u8 (48+(m:Int)%10))):=hbl.setCell (Nat.le_refl _) _
  have hc2:(cs.setIfInBounds k (.int .u8 (48+(m:Int)%10))).size=20:=by rw [Array.size_setIfInBounds];exact hc
  have HC:=Lib.hid hc2;have HD:=Lib.hid hd2;have HDD:=Lib.hid hdd;have HBL:=Lib.hid hbl2;have HB2:=Lib.hid hb2;have HY:=Lib.hid hy
  clear hb hd hd2 hdd hbl hbl2 hb2 hc hu8 hc2 hy
  by_cases h0:m<10
  ·have hsl:=fun W=>slice20 W w.heap.size k hk20
   have h10:((m:Int) / 10==0)=true:=by simp;omega
   have HE:Hid (UInt8.ofNat (48+m%10) :: tl=Lib.decDigits N):=Lib.hid (by
    rw [HDD.out,sp.dec_small h0,Nat.mod_eq_of_lt h0];rfl)
   have hcv:(convert 22 9 (.slice (some ⟨w.heap.size,k,none⟩) (20-k) (20-k))).run Tryz.prog (wr.setCell ⟨w.heap.size,k,none⟩ (.int .u8 (48+(m:Int)%10)))=.ok (.string (bstr (Lib.decDigits N))) (wr.setCell ⟨w.heap.size,k,none⟩ (.int .u8 (48+(m:Int)%10))):=by
    have e:(Lib.decDigits N).length=20-k:=by rw [←HE.out,List.length_cons];omega
    have:=Go.run_convert_bytes_back (P:=Tryz.prog) (wr.setCell ⟨w.heap.size,k,none⟩ (.int .u8 (48+(m:Int)%10))) 22 9 5 ⟨w.heap.size,k,none⟩ (20-k) (Lib.decDigits N) Tryz.underlying22 Tryz.underlying5 Tryz.underlying9 (fun j hj => ?_)
    ·rw [e] at this
     exact this
    ·have e2:(⟨w.heap.size,k,none⟩:Addr).add j=⟨w.heap.size,k+j,none⟩:=Addr.add_mid _ _ _
     rw [e2,cell_of_row _ _ (k+j) _ 235 (0,0) HB2.out]
     have h3:=congrArg (·[j]?) HD.out
     simp only [List.getElem?_drop,HE.out] at h3
     rw [←Array.getElem?_toList,h3]
     simp [Lib.byteCells,hj]
   go_wp2
   go_ret
   exact ⟨rfl,HBL.out⟩
  ·have h10:((m:Int) / 10==0)=false:=by simp;omega
   have hE:Lib.decDigits N=Lib.decDigits (m / 10)++UInt8.ofNat (48+m%10) :: tl:=by rw [HDD.out,sp.dec_big h0,List.append_assoc];rfl
   have hk1:1≤k:=by
    have:=dec_len_le hE HN.out
    rw [List.length_cons] at this
    omega
   have HE:=Lib.hid hE;clear hE
   go_wp2
   refine ⟨⟨m / 10,k-1,_,UInt8.ofNat (48+m%10) :: tl,by simp,?_,by omega,?_,HB2.out,HC.out,?_,HE.out,HBL.out⟩,by simp [intOf];omega⟩
   ·have e:k-1+1=k:=by omega
    rw [e]
   ·rw [List.length_cons];omega
   ·have e:k-1+1=k:=by omega
    rw [e]
    exact HD.out
theorem bstr_append (a b:List UInt8):bstr a++bstr b=bstr (a++b):=by apply ByteArray.ext;simp [bstr]
theorem rat_cells {w:World} {b:Nat} {n d:Int} (h:w.heap[b]?=some (.cells #[.int .i64 n,.int .i64 d] 24 (0,0))):w.cell? ⟨b,0,none⟩=some (.int .i64 n)∧w.cell? ⟨b,1,none⟩=some (.int .i64 d) :=
 ⟨by rw [cell_of_row w b 0 _ _ _ h];rfl,by rw [cell_of_row w b 1 _ _ _ h];rfl⟩
theorem itoa_pos {n:Int} (h:0≤n):Lib.itoa n=Lib.decDigits n.natAbs:=by
 obtain ⟨u,rfl⟩:=Int.eq_ofNat_of_zero_le h
 exact sp.itoa_nat u
theorem itoa_neg' {n:Int} (h:n<0):Lib.itoa n=45 :: Lib.decDigits n.natAbs:=by
 obtain ⟨u,hu⟩:=Int.eq_ofNat_of_zero_le (show 0 ≤ -n by omega)
 have e:n = -(u:Int):=by omega
 subst e
 rw [sp.itoa_minus u (by omega),Int.natAbs_neg,Int.natAbs_natCast]
theorem decLen {N:Nat} (h:N≤18446744073709551615):(Lib.decDigits N).length≤20:=by
 rw [Lib.decDigits_length]
 exact Lib.nDigits_le20 N (by omega)
theorem ratS_eq (n:Int) (D:Nat) (hs:SureP n D):sp.ratS n D=(bif decide (n<0) then 45 :: Lib.decDigits n.natAbs else Lib.decDigits n.natAbs)++(bif decide (1<(D:Int)) then 47 :: Lib.decDigits D else []):=by
 unfold sp.ratS
 rw [if_pos (show sp.SureP n D from hs),sp.itoa_nat]
 congr 1
 ·by_cases h:n<0
  ·rw [decide_eq_true h,itoa_neg' h];rfl
  ·rw [decide_eq_false h,itoa_pos (by omega)];rfl
 ·by_cases h:1<(D:Int)
  ·rw [decide_eq_true h,if_pos h];rfl
  ·rw [decide_eq_false h,if_neg h];rfl
theorem ret_s {a b:ByteArray} (h:a=b):Ending.returned (.string a)=.returned (.string b):=by rw [h]
theorem over_of {n d:Int} (h:¬SureP n d):sp.ratS n d=sp.over:=by
 unfold sp.ratS
 rw [if_neg (show ¬sp.SureP n d from h)]
set_option maxRecDepth 100000 in
set_option maxHeartbeats 4000000 in
theorem ratText_any (n d:Int) (w:World) (hn:I64 n) (hd:I64 d):Calls Tryz.prog 73 #[.agg #[.int .i64 n,.int .i64 d]] w fun e w'=>e=.returned (.string (bstr (sp.ratS n d)))∧Below w.heap.size w w':=by
 by_cases hs:SureP n d
 ·have hpos:0≤d:=by have:=hs.1;omega
  obtain ⟨D,rfl⟩:=Int.eq_ofNat_of_zero_le hpos
  have HN:=Lib.hid hn;have HD:=Lib.hid hd;have HA:=Lib.hid (natAbs_le hn)
  have HDD:Hid (D≤18446744073709551615):=Lib.hid (by unfold I64 at hd;omega)
  have HS:=Lib.hid (sureB_yes hs)
  have hw:IntKind.u64.wrap (D:Int)=D:=wrap_u64_pos (by omega) hd
  have Z1:(bstr (Lib.decDigits n.natAbs)).size≤20:=by rw [bstr_size];exact decLen HA.out
  have Z2:(bstr (Lib.decDigits D)).size≤20:=by rw [bstr_size];exact decLen HDD.out
  have ER:=Lib.hid (ratS_eq n D hs)
  clear hn hd hs hpos
  cases q0:decide (n<0)<;>cases q1:decide (1<(D:Int))
  all_goals
   have HQ0:=Lib.hid q0;have HQ1:=Lib.hid q1
   go_enter Tryz.func73,Tryz.ntmps73
   go_wp2_with (first
    | (go_at_call 106;refine (sure_any n D _ HN.out HD.out).mono ?_;rintro e w1 ⟨rfl,hb1⟩;rw [HS.out];have hk1:=hb1.block w.heap.size (by simp);rw [heap_alloc_at] at hk1;obtain ⟨c0,c1⟩:=rat_cells hk1;have HB1:=Lib.hid ((below_new w _).trans (hb1.mono (by simp)));have HK1:=Lib.hid hk1;clear hb1 hk1)
    | (go_at_call 108;refine (size_any n _ HN.out).mono ?_;rintro e w2 ⟨rfl,rfl⟩)
    | (have hgd:=HB3;clear hgd;go_at_call 107;refine (number_any _ _ HDD.out).mono ?_;rintro e w4 ⟨rfl,hb4⟩;have HB4:=Lib.hid (HB3.out.trans (hb4.mono HB3.out.size));clear hb4)
    | (go_at_call 107;refine (number_any _ _ HA.out).mono ?_;rintro e w3 ⟨rfl,hb3⟩;have hk3:=(hb3.block w.heap.size (lt_of_block HK1.out)).trans HK1.out;obtain ⟨c2,c3⟩:=rat_cells hk3;have HB3:=Lib.hid (HB1.out.trans (hb3.mono HB1.out.size));clear hb3 hk3))
   go_ret
   refine ⟨ret_s ?_,by first | exact HB4.out | exact HB3.out⟩
   rw [ER.out,HQ0.out,HQ1.out]
   apply ByteArray.ext
   simp [bstr]
 ·have HN:=Lib.hid hn;have HD:=Lib.hid hd
  have HS:=Lib.hid (sureB_no hs);have HR:=Lib.hid (over_of hs)
  clear hn hd hs
  go_enter Tryz.func73,Tryz.ntmps73
  go_wp2_with (go_at_call 106;refine (sure_any n d _ HN.out HD.out).mono ?_;rintro e w1 ⟨rfl,hb1⟩;rw [HS.out];have HB1:=Lib.hid ((below_new w _).trans (hb1.mono (by simp)));clear hb1)
  go_ret
  exact ⟨ret_s (by rw [HR.out];rfl),HB1.out⟩
theorem itoaLen {n:Int} (h:I64 n):(bstr (Lib.itoa n)).size≤21:=by rw [bstr_size];exact Lib.itoa_length_le n h.1 h.2
theorem rratS_eq (n d:Int) (hs:SureP n d):sp.ratS n d=Lib.itoa n++(bif decide (1<d) then 47 :: Lib.itoa d else []):=by
 unfold sp.ratS
 rw [if_pos (show sp.SureP n d from hs)]
 congr 1
 by_cases h:1<d
 ·rw [decide_eq_true h,if_pos h];rfl
 ·rw [decide_eq_false h,if_neg h];rfl
def QS (wb:World) (b q:Nat) (O:Option Obj) (l:List UInt8) (wr:World):Prop :=
 ∃own,Bld wr 92 [] b own l∧some q≠own∧b<q∧q<wr.heap.size∧wr.heap[q]?=O∧Below b wb wr
theorem u8_of {c:Int} (h0:0≤c) (h1:c≤255):∃k:UInt8,c=k.toNat∧UInt8.ofNat c.toNat=k:=by
 refine ⟨UInt8.ofNat c.toNat,?_,rfl⟩
 rw [UInt8.toNat_ofNat']
 have:c.toNat%2 ^ 8=c.toNat:=Nat.mod_eq_of_lt (by omega)
 rw [this]
 omega
theorem u8_back (k:UInt8):UInt8.ofNat ((k.toNat:Int)).toNat=k:=by
 apply UInt8.toNat_inj.1
 simp
section
variable {wb wr:World} {b q:Nat} {O:Option Obj} {l:List UInt8}
theorem QS.step {own own':Option Nat} {w':World} {l':List UInt8} (hB:Bld wr 92 [] b own l) (hne:some q≠own) (hbq:b<q) (hq:q<wr.heap.size) (hO:wr.heap[q]?=O) (hbl:Below b wb wr) (h1:BldP w' 92 [] b (selfP b) own' l') (hf:Fr wr w' b own) (ho:Own wr own own'):QS wb b q O l' w' :=
 ⟨own',Or.inr h1,ho.ne hq hne,hbq,Nat.lt_of_lt_of_le hq hf.size,by rw [hf.block q hq (by omega) hne];exact hO,hbl.trans (hf.below (Nat.le_refl b) (fun g hg=>by have:=hB.own_lt g hg;omega) (by have:=hB.lt;omega))⟩
theorem QS.byte (h:QS wb b q O l wr) {c:Int} (h0:0≤c) (h1:c≤255) (hn:l.length+1≤140737488355328) :
  Calls Tryz.prog 41 #[.pointer (some ⟨b,0,none⟩),.int .u8 c] wr fun e w'=>e=.returned .nilIface∧QS wb b q O (l++[UInt8.ofNat c.toNat]) w':=by
 obtain ⟨own,hB,hne,hbq,hq,hO,hbl⟩:=h
 obtain ⟨k,rfl,_⟩:=u8_of h0 h1
 rw [u8_back]
 refine (writeByte_any wr 92 [] b own l k bt92 hB hn).mono ?_
 rintro e w' ⟨rfl,own',h1,hf,ho⟩
 exact ⟨rfl,QS.step hB hne hbq hq hO hbl h1 hf ho⟩
theorem QS.byteU (h:QS wb b q O l wr) (k:UInt8) (hn:l.length+1≤140737488355328) :
  Calls Tryz.prog 41 #[.pointer (some ⟨b,0,none⟩),.int .u8 k.toNat] wr fun e w'=>e=.returned .nilIface∧QS wb b q O (l++[k]) w':=by
 obtain ⟨own,hB,hne,hbq,hq,hO,hbl⟩:=h
 refine (writeByte_any wr 92 [] b own l k bt92 hB hn).mono ?_
 rintro e w' ⟨rfl,own',h1,hf,ho⟩
 exact ⟨rfl,QS.step hB hne hbq hq hO hbl h1 hf ho⟩
theorem QS.str (h:QS wb b q O l wr) (t:ByteArray) (hn:l.length+t.size≤140737488355328) :
  Calls Tryz.prog 40 #[.pointer (some ⟨b,0,none⟩),.string t] wr fun e w'=>e=.returned (.tuple #[.int .i64 t.size,.nilIface])∧QS wb b q O (l++t.data.toList) w':=by
 obtain ⟨own,hB,hne,hbq,hq,hO,hbl⟩:=h
 refine (writeString_any wr 92 [] b own l t bt92 hB hn).mono ?_
 rintro e w' ⟨rfl,own',h1,hf,ho⟩
 exact ⟨rfl,QS.step hB hne hbq hq hO hbl h1 hf ho⟩
theorem QS.text (h:QS wb b q O l wr):Calls Tryz.prog 42 #[.pointer (some ⟨b,0,none⟩)] wr fun e w'=>e=.returned (.string (bstr l))∧Below b wb w':=by
 obtain ⟨own,hB,hne,hbq,hq,hO,hbl⟩:=h
 refine (string_any wr 92 [] b own l hB).mono ?_
 rintro e w' ⟨rfl,hf⟩
 exact ⟨rfl,hbl.trans (hf.below (Nat.le_refl b) (fun g hg=>by have:=hB.own_lt g hg;omega) (by have:=hB.lt;omega))⟩
end
theorem getD_lt {α:Type} (l:List α) (d:α) {k:Nat} (h:k<l.length):l.getD k d=l[k]:=by simp [List.getD,List.getElem?_eq_getElem h]
theorem quote_take (s:List UInt8) (k:Nat) (hk:k<s.length):(s.take (k+1)).flatMap sp.quoteB=(s.take k).flatMap sp.quoteB++sp.quoteB s[k]:=by
 rw [List.take_add_one,List.getElem?_eq_getElem hk,List.flatMap_append]
 simp
theorem quote_len (s:List UInt8):(s.flatMap sp.quoteB).length≤4*s.length:=by
 have h1:∀c,(sp.quoteB c).length≤4:=fun c=>by
  unfold sp.quoteB
  split
  ·simp
  ·split
   ·simp
   ·split<;>simp
 induction s with
 | nil=>simp
 | cons c s ih =>
  rw [List.flatMap_cons,List.length_append,List.length_cons]
  have:=h1 c
  omega
theorem quoteB_ctl {K:UInt8} (h1:K≠34) (h2:K≠92) (h3:K≠10) (h:K.toNat<32∨127≤K.toNat):sp.quoteB K = [92,120,sp.hexd (K.toNat / 16),sp.hexd (K.toNat%16)]:=by
 unfold sp.quoteB
 rw [if_neg (by simp [h1,h2]),if_neg h3,if_pos h]
theorem quoteB_plain {K:UInt8} (h1:K≠34) (h2:K≠92) (h3:K≠10) (h:¬(K.toNat<32∨127≤K.toNat)):sp.quoteB K = [K]:=by
 unfold sp.quoteB
 rw [if_neg (by simp [h1,h2]),if_neg h3,if_neg h]
theorem hexAt (k:Nat) (h:k<(⟨#[48,49,50,51,52,53,54,55,56,57,97,98,99,100,101,102]⟩:ByteArray).size):(⟨#[48,49,50,51,52,53,54,55,56,57,97,98,99,100,101,102]⟩:ByteArray)[k]=sp.hexd k:=by
 have h':k<16:=h
 have:∀j:Fin 16,(⟨#[48,49,50,51,52,53,54,55,56,57,97,98,99,100,101,102]⟩:ByteArray)[j.val]=sp.hexd j.val:=by decide
 exact this ⟨k,h'⟩
set_option maxRecDepth 100000 in
set_option maxHeartbeats 8000000 in
theorem quoted_any (s:ByteArray) (w:World) (hs:s.size≤1099511627776):Calls Tryz.prog 36 #[.string s] w fun e w'=>e=.returned (.string (bstr (sp.quoteS s.data.toList)))∧Below w.heap.size w w':=by
 have HS:=Lib.hid hs;clear hs
 go_enter Tryz.func36,Tryz.ntmps36
 go_wp2_with (go_at_call 41;refine (writeByte_any _ 92 [] w.heap.size none [] 34 bt92 (bld_new 92 [] w.heap.size (heap_alloc_at _ _)) (by decide)).mono ?_;rintro e w1 ⟨rfl,own1,hw1,hf1,ho1⟩;have HW1:=Lib.hid hw1;have HF1:=Lib.hid hf1;have HO1:=Lib.hid ho1;clear hw1 hf1 ho1;refine Hid.out ?_)
 refine Lib.hid ?_
 have hb1:Below w.heap.size w w1:=(below_new w _).trans (HF1.out.below (Nat.le_refl _) (fun g hg=>by cases hg) (by simp))
 have hlt:w.heap.size<w1.heap.size:=HW1.out.lt
 have hq0:some w1.heap.size≠own1:=fun e=>by have:=HW1.out.own_lt w1.heap.size e.symm;omega
 have hcv:=Lib.run_convert_string_bytes (P:=Tryz.prog) w1 9 22 5 s Tryz.underlying9 Tryz.underlying22 Tryz.underlying5
 have HC:=Lib.hid (fun j (hj:j<s.size)=>Lib.bytesWorld_cell w1 5 s j hj)
 have HQ:Hid (QS w w.heap.size w1.heap.size (Lib.bytesWorld w1 5 s).heap[w1.heap.size]? [34] (Lib.bytesWorld w1 5 s)):=Lib.hid ⟨own1,Bld.below (Or.inr HW1.out) (below_bytes w1 s),hq0,hlt,by rw [Lib.bytesWorld_size];omega,rfl,hb1.trans ((below_bytes w1 s).mono (by omega))⟩
 generalize Lib.bytesWorld w1 5 s=W2 at hcv HC HQ
 generalize grownCap w1 s.size 0 5=cp at hcv
 generalize w1.heap.size=q at hcv HC HQ hlt hq0
 clear hb1 hlt hq0 HW1 HF1 HO1
 go_wp2
 go_loopw [10] (fun i wr=>∃k:Nat,k≤s.size∧i=.int .i64 k∧QS w w.heap.size q W2.heap[q]? (34 :: (s.data.toList.take k).flatMap sp.quoteB) wr) (fun i _=>s.size-(intOf i).toNat)
 case atStart=>exact ⟨0,Nat.zero_le _,rfl,HQ.out⟩
 case round =>
  obtain ⟨k,hk,rfl,hr⟩:=hrel
  clear HQ
  have HQ:=Lib.hid hr;clear hr
  have hlen:s.data.toList.length=s.size:=by rw [Array.length_toList];rfl
  by_cases hlt:k<s.size
  ·have hc:wr.cell? ⟨q,k,none⟩=some (.int .u8 (s.data.toList.getD k 0).toNat):=by
    obtain ⟨_,_,_,_,_,hO,_⟩:=HQ.out
    rw [World.cell?_of_block (a:=⟨q,k,none⟩) hO]
    exact HC.out k hlt
   have HX:Hid ((34 :: (s.data.toList.take (k+1)).flatMap sp.quoteB)=(34 :: (s.data.toList.take k).flatMap sp.quoteB)++sp.quoteB (s.data.toList.getD k 0)):=Lib.hid (by
    rw [quote_take _ k (by omega),getD_lt _ _ (by omega)];rfl)
   have HL:Hid ((34 :: (s.data.toList.take k).flatMap sp.quoteB).length+8≤140737488355328):=Lib.hid (by
    have h1:=quote_len (s.data.toList.take k)
    have h2:(s.data.toList.take k).length≤s.size:=by rw [List.length_take];omega
    have:=HS.out
    simp only [List.length_cons]
    omega)
   generalize hl1:(34 :: (s.data.toList.take (k+1)).flatMap sp.quoteB)=l1 at HX
   have HL1:=Lib.hid hl1;clear hl1
   have hkb:(k:Int)≤1099511627776:=by have:=HS.out;omega
   generalize (34 :: (s.data.toList.take k).flatMap sp.quoteB)=l0 at HX HL HQ
   generalize s.data.toList.getD k 0=K at hc HX
   have hK:(K.toNat:Int)≤255:=by have:=K.toNat_lt;omega
   have hK0:(0:Int)≤K.toNat:=by omega
   have HK:Hid (K=UInt8.ofNat ((K.toNat:Int)).toNat):=Lib.hid (u8_back K).symm
   clear hcv HC
   by_cases c34:K=34
   ·subst c34
    have HX2:Hid (l1=l0++[92]++[34]):=Lib.hid (by rw [HX.out,List.append_assoc];rfl)
    go_wp2_with (first
     | (have hgd:=HQ1;clear hgd;go_at_call 41;refine (HQ1.out.byte (by decide) (by decide) (by have:=HL.out;first | omega | (simp only [List.length_append,List.length_cons,List.length_nil];omega))).mono ?_;rintro e w2 ⟨rfl,h2⟩;have HQ2:=Lib.hid h2;clear h2)
     | (go_at_call 41;refine (HQ.out.byte (by decide) (by decide) (by have:=HL.out;first | omega | (simp only [List.length_append,List.length_cons,List.length_nil];omega))).mono ?_;rintro e w1 ⟨rfl,h1⟩;have HQ1:=Lib.hid h1;clear h1))
    refine ⟨⟨k+1,by omega,by go_num,?_⟩,by simp [intOf];omega⟩
    rw [HL1.out,HX2.out]
    exact HQ2.out
   by_cases c92:K=92
   ·subst c92
    have HX2:Hid (l1=l0++[92]++[92]):=Lib.hid (by rw [HX.out,List.append_assoc];rfl)
    go_wp2_with (first
     | (have hgd:=HQ1;clear hgd;go_at_call 41;refine (HQ1.out.byte (by decide) (by decide) (by have:=HL.out;first | omega | (simp only [List.length_append,List.length_cons,List.length_nil];omega))).mono ?_;rintro e w2 ⟨rfl,h2⟩;have HQ2:=Lib.hid h2;clear h2)
     | (go_at_call 41;refine (HQ.out.byte (by decide) (by decide) (by have:=HL.out;first | omega | (simp only [List.length_append,List.length_cons,List.length_nil];omega))).mono ?_;rintro e w1 ⟨rfl,h1⟩;have HQ1:=Lib.hid h1;clear h1))
    refine ⟨⟨k+1,by omega,by go_num,?_⟩,by simp [intOf];omega⟩
    rw [HL1.out,HX2.out]
    exact HQ2.out
   by_cases c10:K=10
   ·subst c10
    have HX2:Hid (l1=l0++(⟨#[92,110]⟩:ByteArray).data.toList):=Lib.hid (by rw [HX.out];rfl)
    go_wp2_with (first
     | (go_at_call 40;refine (HQ.out.str _ (by have:=HL.out;have:ByteArray.size ⟨#[92,110]⟩=2:=rfl;omega)).mono ?_;rintro e w1 ⟨rfl,h1⟩;have HQ1:=Lib.hid h1;clear h1))
    refine ⟨⟨k+1,by omega,by go_num,?_⟩,by simp [intOf];omega⟩
    rw [HL1.out,HX2.out]
    exact HQ1.out
   have n34:((K.toNat:Int)==34)=false:=by simp;intro h;exact c34 (UInt8.toNat_inj.1 (by simpa using (by omega:K.toNat=34)))
   have n92:((K.toNat:Int)==92)=false:=by simp;intro h;exact c92 (UInt8.toNat_inj.1 (by simpa using (by omega:K.toNat=92)))
   have n10:((K.toNat:Int)==10)=false:=by simp;intro h;exact c10 (UInt8.toNat_inj.1 (by simpa using (by omega:K.toNat=10)))
   by_cases cc:K.toNat<32∨127≤K.toNat
   ·have HX2:Hid (l1=l0++(⟨#[92,120]⟩:ByteArray).data.toList++[sp.hexd (K.toNat / 16)]++[sp.hexd (K.toNat%16)]):=Lib.hid (by
     rw [HX.out,quoteB_ctl c34 c92 c10 cc]
     simp)
    cases t1:decide ((K.toNat:Int)<32)<;>cases t2:decide (127≤(K.toNat:Int))
    ·exfalso
     simp at t1 t2
     omega
    all_goals
     clear c34 c92 c10 cc
     go_wp2_with (first
      | (go_at_call 40;refine (HQ.out.str _ (by have:=HL.out;have:ByteArray.size ⟨#[92,120]⟩=2:=rfl;omega)).mono ?_;rintro e w1 ⟨rfl,h1⟩;have HQ1:=Lib.hid h1;clear h1)
      | (have hgd:=HQ2;clear hgd;go_at_call 41;refine (HQ2.out.byteU _ (by have:=HL.out;have:(⟨#[92,120]⟩:ByteArray).data.toList.length=2:=rfl;first | omega | (simp only [List.length_append,List.length_cons,List.length_nil];omega))).mono ?_;rintro e w3 ⟨rfl,h3⟩;have HQ3:=Lib.hid h3;clear h3)
      | (go_at_call 41;refine (HQ1.out.byteU _ (by have:=HL.out;have:(⟨#[92,120]⟩:ByteArray).data.toList.length=2:=rfl;first | omega | (simp only [List.length_append,List.length_cons,List.length_nil];omega))).mono ?_;rintro e w2 ⟨rfl,h2⟩;have HQ2:=Lib.hid h2;clear h2))
     refine ⟨⟨k+1,by omega,by go_num,?_⟩,by simp [intOf];omega⟩
     rw [HL1.out,HX2.out,←hexAt (K.toNat / 16),←hexAt (K.toNat%16)]
     exact HQ3.out
   ·have HX2:Hid (l1=l0++[K]):=Lib.hid (by rw [HX.out,quoteB_plain c34 c92 c10 cc])
    have t1:decide ((K.toNat:Int)<32)=false:=by simp;omega
    have t2:decide (127≤(K.toNat:Int))=false:=by simp;omega
    clear c34 c92 c10 cc
    go_wp2_with (go_at_call 41;refine (HQ.out.byteU _ (by have:=HL.out;omega)).mono ?_;rintro e w1 ⟨rfl,h1⟩;have HQ1:=Lib.hid h1;clear h1)
    refine ⟨⟨k+1,by omega,by go_num,?_⟩,by simp [intOf];omega⟩
    rw [HL1.out,HX2.out]
    exact HQ1.out
  ·have:k=s.size:=by omega
   subst this
   have HE:Hid ((34 :: (s.data.toList.take s.size).flatMap sp.quoteB)++[34]=sp.quoteS s.data.toList):=Lib.hid (by rw [←hlen,List.take_length];rfl)
   have HL:Hid ((34 :: (s.data.toList.take s.size).flatMap sp.quoteB).length+8≤140737488355328):=Lib.hid (by
    have h1:=quote_len (s.data.toList.take s.size)
    have h2:(s.data.toList.take s.size).length≤s.size:=by rw [List.length_take];omega
    have:=HS.out
    simp only [List.length_cons]
    omega)
   generalize (34 :: (s.data.toList.take s.size).flatMap sp.quoteB)=l0 at HE HL HQ
   go_wp2_with (first
    | (go_at_call 41;refine (HQ.out.byte (by decide) (by decide) (by have:=HL.out;omega)).mono ?_;rintro e w1 ⟨rfl,h1⟩;have HQ1:=Lib.hid h1;clear h1)
    | (go_at_call 42;refine HQ1.out.text.mono ?_;rintro e w2 ⟨rfl,h2⟩;have HB:=Lib.hid h2;clear h2))
   go_ret
   exact ⟨ret_str HE.out,HB.out⟩
def putS (ss:List ByteArray):List UInt8:=ss.flatMap fun s=>32 :: s.data.toList
theorem putS_take (ss:List ByteArray) (k:Nat) (h:k<ss.length):putS (ss.take (k+1))=putS (ss.take k)++(32 :: ss[k].data.toList):=by
 unfold putS
 rw [List.take_add_one,List.getElem?_eq_getElem h,List.flatMap_append]
 simp
theorem putS_len (ss:List ByteArray) (k:Nat):(putS (ss.take k)).length≤(putS ss).length:=by
 have h:putS ss=putS (ss.take k)++putS (ss.drop k):=by
  unfold putS
  rw [←List.flatMap_append,List.take_append_drop]
 rw [h,List.length_append]
 omega
def Wrote (w:World) (b:Nat) (own:Option Nat) (l:List UInt8) (ok:Bool) (w':World):Prop :=
 ∃own',Bld w' 123 [.bool ok] b own' l∧Fr w w' b own∧Own w own own'
theorem Wrote.refl {w:World} {b:Nat} {own:Option Nat} {l:List UInt8} {ok:Bool} (h:Bld w 123 [.bool ok] b own l):Wrote w b own l ok w:=⟨own,h,Fr.refl _ _ _,Own.refl _ _⟩
theorem Wrote.then {w w1 w2:World} {b:Nat} {own own1 own2:Option Nat} {l:List UInt8} {ok:Bool} (hf:Fr w w1 b own) (ho:Own w own own1) (h2:Bld w2 123 [.bool ok] b own2 l) (hf2:Fr w1 w2 b own1) (ho2:Own w1 own1 own2):Wrote w b own l ok w2 :=
 ⟨own2,h2,hf.trans hf2 ho,ho.trans hf.size ho2⟩
theorem Fr.keepOwn {w w1:World} {b c:Nat} {own:Option Nat} (hf:Fr w w1 b own) (hc:c<w.heap.size) (hb:c≠b) (ho:some c≠own):w1.heap[c]?=w.heap[c]?:=hf.block c hc hb ho
theorem bld_flag {w:World} {b:Nat} {own:Option Nat} {l:List UInt8} {ok:Bool} (h:Bld w 123 [.bool ok] b own l) (ok':Bool):Bld (w.setCell ⟨b,2,none⟩ (.bool ok')) 123 [.bool ok'] b own l:=by
 refine h.imp (fun h => ?_) (fun h => ?_)
 all_goals
  obtain ⟨sl,h1,h2,h3,h4⟩:=h
  refine ⟨sl,?_,ownsRow_setCell_below h2 (a:=⟨b,2,none⟩) (Nat.lt_succ_self b) _,h3,h4⟩
  have:=blk_set h1 2 (.bool ok')
  simp at this
  exact this
theorem bld_ok {w:World} {b:Nat} {own:Option Nat} {l:List UInt8} {ok:Bool} (h:Bld w 123 [.bool ok] b own l):w.cell? ⟨b,2,none⟩=some (.bool ok)∧w.frozen? ⟨b,2,none⟩=false:=by
 rcases h with h | h
 all_goals
  obtain ⟨sl,h1,_⟩:=h
  exact ⟨by rw [Lib.cell_of_heap h1];rfl,Lib.frozen_of_heap h1 2⟩
def StrsAt (w:World) (c:Nat) (ss:List ByteArray):Prop:=w.heap[c]?=some (.cells (ss.map Value.string).toArray 9 (0,0))
set_option maxRecDepth 100000 in
set_option maxHeartbeats 4000000 in
theorem put_any (w:World) (b:Nat) (own:Option Nat) (l:List UInt8) (ok:Bool) (c:Nat) (ss:List ByteArray) (h:Bld w 123 [.bool ok] b own l) (hc:StrsAt w c ss) (hcb:c≠b) (hco:some c≠own) (hn:l.length+(putS ss).length≤140737488355328) (hss:ss.length≤1000) :
  Calls Tryz.prog 77 #[.pointer (some ⟨b,0,none⟩),.slice (some ⟨c,0,none⟩) ss.length ss.length] w fun e w'=>e=.returned (.tuple #[])∧Wrote w b own (l++putS ss) ok w':=by
 have HB:=Lib.hid h;have HC:=Lib.hid hc;have HCB:=Lib.hid hcb;have HCO:=Lib.hid hco;have HN:=Lib.hid hn;have HSS:=Lib.hid hss
 clear h hc hcb hco hn hss
 go_enter Tryz.func77,Tryz.ntmps77
 go_wp2
 go_loopw [8] (fun i wr=>∃k:Nat,k≤ss.length∧i=.int .i64 k∧Wrote w b own (l++putS (ss.take k)) ok wr) (fun i _=>ss.length-(intOf i).toNat)
 case atStart=>exact ⟨0,Nat.zero_le _,rfl,by simpa [putS] using Wrote.refl HB.out⟩
 case round =>
  obtain ⟨k,hk,rfl,own1,hb1,hf1,ho1⟩:=hrel
  have hkb:(k:Int)≤1000:=by have:=HSS.out;omega
  have HB1:=Lib.hid hb1;have HF1:=Lib.hid hf1;have HO1:=Lib.hid ho1
  clear hb1 hf1 ho1
  by_cases hlt:k<ss.length
  ·have hclt:=lt_of_block HC.out
   have hcell:wr.cell? ⟨c,k,none⟩=some (.string ss[k]):=by
    have:=HF1.out.keepOwn hclt HCB.out HCO.out
    rw [cell_of_row wr c k _ 9 (0,0) (this.trans HC.out)]
    simp [hlt]
   have HX:=Lib.hid (putS_take ss k hlt)
   have HL:Hid ((l++putS (ss.take k)).length+1+ss[k].size≤140737488355328):=Lib.hid (by
    have h1:=putS_len ss (k+1)
    have h3:ss[k].data.toList.length=ss[k].size:=by rw [Array.length_toList];rfl
    rw [putS_take ss k hlt,List.length_append,List.length_cons,h3] at h1
    have:=HN.out
    rw [List.length_append]
    omega)
   generalize ss[k]=s at hcell HX HL
   have HX2:Hid (l++putS (ss.take (k+1))=(l++putS (ss.take k))++[32]++s.data.toList):=Lib.hid (by rw [HX.out];simp)
   generalize l++putS (ss.take k)=l0 at HB1 HL HX2
   clear HX
   go_wp2_with (first
    | (go_at_call 41;refine (writeByte_any _ 123 [.bool ok] b own1 l0 32 bt123 HB1.out (by have:=HL.out;omega)).mono ?_;rintro e w1 ⟨rfl,own2,h2,hf2,ho2⟩;have HB2:Hid (Bld w1 123 [.bool ok] b own2 (l0++[32])):=Lib.hid (Or.inr h2);have HF2:=Lib.hid (HF1.out.trans hf2 HO1.out);have HO2:=Lib.hid (HO1.out.trans HF1.out.size ho2);clear h2 hf2 ho2)
    | (go_at_call 40;refine (writeString_any _ 123 [.bool ok] b own2 (l0++[32]) s bt123 HB2.out (by have:=HL.out;rw [List.length_append];simp only [List.length_cons,List.length_nil];omega)).mono ?_;rintro e w2 ⟨rfl,own3,h3,hf3,ho3⟩;have HW3:Hid (Wrote w b own (l0++[32]++s.data.toList) ok w2):=Lib.hid (Wrote.then HF2.out HO2.out (Or.inr h3) hf3 ho3);clear h3 hf3 ho3))
   refine ⟨⟨k+1,by omega,by go_num,?_⟩,by simp [intOf];omega⟩
   rw [HX2.out]
   exact HW3.out
  ·have:k=ss.length:=by omega
   subst this
   have HE:Hid (l++putS (ss.take ss.length)=l++putS ss):=Lib.hid (by rw [List.take_length])
   go_wp2
   go_end0
   rw [←HE.out]
   exact ⟨rfl,own1,HB1.out,HF1.out,HO1.out⟩
def smallB (n:Int):Bool:=decide (-1000000000<n)&&decide (n<1000000000)
theorem ok_take (f:Int→Bool) (ok:Bool) (ns:List Int) (k:Nat) (h:k<ns.length):(ok&&(ns.take (k+1)).all f)=((ok&&(ns.take k).all f)&&f ns[k]):=by
 rw [List.take_add_one,List.getElem?_eq_getElem h,List.all_append]
 simp [Bool.and_assoc]
def IntsIn (w:World) (c:Nat) (ns:List Int):Prop:=w.heap[c]?=some (.cells (ns.map (Value.int .i64)).toArray 3 (0,0))
def numsS (ns:List Int):List ByteArray:=ns.map fun n=>bstr (Lib.itoa n)
theorem putS_nums (ns:List Int) (h:∀n∈ns,I64 n):(putS (numsS ns)).length≤22*ns.length:=by
 induction ns with
 | nil=>simp [putS,numsS]
 | cons n ns ih =>
  have h1:=ih (fun m hm=>h m (List.mem_cons_of_mem _ hm))
  have h2:=itoaLen (h n List.mem_cons_self)
  rw [bstr_size] at h2
  have e:putS (numsS (n :: ns))=32 :: Lib.itoa n++putS (numsS ns):=by simp [putS,numsS,bstr]
  rw [e,List.length_append,List.length_cons,List.length_cons]
  omega
theorem putS_nums_take (ns:List Int) (k:Nat) (h:k<ns.length):putS (numsS (ns.take (k+1)))=putS (numsS (ns.take k))++putS [bstr (Lib.itoa ns[k])]:=by
 have e1:numsS (ns.take (k+1))=(numsS ns).take (k+1):=by simp [numsS]
 have e2:numsS (ns.take k)=(numsS ns).take k:=by simp [numsS]
 rw [e1,e2,putS_take (numsS ns) k (by simpa [numsS] using h)]
 simp [numsS,putS]
set_option maxRecDepth 100000 in
set_option maxHeartbeats 4000000 in
theorem numbers_any (w:World) (b:Nat) (own:Option Nat) (l:List UInt8) (ok:Bool) (c:Nat) (ns:List Int) (h:Bld w 123 [.bool ok] b own l) (hc:IntsIn w c ns) (hcb:c≠b) (hco:some c≠own) (hn:l.length+22*ns.length≤1407374883553) (hns:ns.length≤1000) (hi:∀n∈ns,I64 n) (hp:Pow w) (hbw:∀w',Fr w w' b own→Pow w') :
  Calls Tryz.prog 76 #[.pointer (some ⟨b,0,none⟩),.slice (some ⟨c,0,none⟩) ns.length ns.length] w fun e w'=>e=.returned (.tuple #[])∧Wrote w b own (l++putS (numsS ns)) (ok&&ns.all smallB) w':=by
 have HB:=Lib.hid h;have HC:=Lib.hid hc;have HCB:=Lib.hid hcb;have HCO:=Lib.hid hco;have HN:=Lib.hid hn;have HNS:=Lib.hid hns;have HI:=Lib.hid hi;have HP:=Lib.hid hbw
 clear h hc hcb hco hn hns hi hp hbw
 go_enter Tryz.func76,Tryz.ntmps76
 go_wp2
 go_loopw [8] (fun i wr=>∃k:Nat,k≤ns.length∧i=.int .i64 k∧Wrote w b own (l++putS (numsS (ns.take k))) (ok&&(ns.take k).all smallB) wr) (fun i _=>ns.length-(intOf i).toNat)
 case atStart=>exact ⟨0,Nat.zero_le _,rfl,by simpa [putS,numsS] using Wrote.refl HB.out⟩
 case round =>
  obtain ⟨k,hk,rfl,own1,hb1,hf1,ho1⟩:=hrel
  have hkb:(k:Int)≤1000:=by have:=HNS.out;omega
  have HB1:=Lib.hid hb1;have HF1:=Lib.hid hf1;have HO1:=Lib.hid ho1
  clear hb1 hf1 ho1
  by_cases hlt:k<ns.length
  ·have hclt:=lt_of_block HC.out
   have hcell:wr.cell? ⟨c,k,none⟩=some (.int .i64 ns[k]):=by
    have:=HF1.out.keepOwn hclt HCB.out HCO.out
    rw [cell_of_row wr c k _ 3 (0,0) (this.trans HC.out)]
    simp [hlt]
   have HX:=Lib.hid (putS_nums_take ns k hlt)
   have HO:=Lib.hid (ok_take smallB ok ns k hlt)
   have HI1:=Lib.hid (HI.out ns[k] (List.getElem_mem hlt))
   have hz:=itoaLen HI1.out
   have HL:Hid ((l++putS (numsS (ns.take k))).length+(putS [bstr (Lib.itoa ns[k])]).length≤1407374883553):=Lib.hid (by
    have h1:=putS_nums (ns.take (k+1)) (fun n hn=>HI.out n (List.mem_of_mem_take hn))
    rw [putS_nums_take ns k hlt,List.length_append,List.length_take] at h1
    have:=HN.out
    rw [List.length_append]
    omega)
   obtain ⟨hok,hfz⟩:=bld_ok HB1.out
   have hs:smallB ns[k]=(decide (-1000000000<ns[k])&&decide (ns[k]<1000000000)):=rfl
   generalize ns[k]=n at hcell HX HO HI1 HL hs hz
   have HX2:Hid (l++putS (numsS (ns.take (k+1)))=(l++putS (numsS (ns.take k)))++putS [bstr (Lib.itoa n)]):=Lib.hid (by rw [HX.out];simp)
   generalize l++putS (numsS (ns.take k))=l0 at HB1 HL HX2
   generalize (ok&&(ns.take k).all smallB)=ok0 at HB1 hok HO
   clear HX
   cases ok0<;>cases t1:decide (-1000000000<n)<;>cases t2:decide (n<1000000000)
   all_goals
    rw [t1,t2] at hs
    have HS:=Lib.hid hs;clear hs
    go_wp2_with (first
     | (go_at_call 34;refine (itoa_any n _ HI1.out (HP.out _ (HF1.out.trans (Fr.set 2 _) HO1.out))).mono ?_;rintro e w1 ⟨rfl,hb1⟩;have HB2:=Lib.hid (Bld.below (bld_flag HB1.out _) hb1);have HF2:=Lib.hid (HF1.out.trans ((Fr.set 2 _).trans (Fr.of_below hb1) (Own.refl _ _)) HO1.out);have HO2:Hid (Own w own own1):=HO1;have HSZ:Hid (wr.heap.size≤w1.heap.size):=Lib.hid (by have:=hb1.size;simpa [World.setCell] using this);clear hb1)
     | (go_at_call 77;refine (put_any _ b own1 l0 _ w1.heap.size [bstr (Lib.itoa n)] (HB2.out.below (below_new _ _)) (heap_alloc_at _ _) (Nat.ne_of_gt HB2.out.lt) (fun e=>by have:=HB2.out.own_lt w1.heap.size e.symm;omega) (by have:=HL.out;omega) (by simp)).mono ?_;rintro e w2 ⟨rfl,own2,h2,hf2,ho2⟩;have HW:Hid (Wrote w b own _ _ w2):=Lib.hid (Wrote.then (HF2.out.trans (Fr.of_below (below_new _ _)) HO2.out) HO2.out h2 hf2 ho2);clear h2 hf2 ho2))
    refine ⟨⟨k+1,by omega,by go_num,?_⟩,by simp [intOf];omega⟩
    rw [HX2.out,HO.out,HS.out]
    exact HW.out
  ·have:k=ns.length:=by omega
   subst this
   have HE:Hid (ns.take ns.length=ns):=Lib.hid (by rw [List.take_length])
   go_wp2
   go_end0
   refine ⟨rfl,own1,?_,HF1.out,HO1.out⟩
   have:=HB1.out
   rw [HE.out] at this
   exact this
/-! ### Fractions -/
def ratCells (r:Int×Int):List Value:=[.int .i64 r.1,.int .i64 r.2]
def RatsIn (w:World) (c:Nat) (rs:List (Int×Int)):Prop:=w.heap[c]?=some (.cells (rs.flatMap ratCells).toArray 24 (0,0))
def ratsS (rs:List (Int×Int)):List ByteArray:=rs.map fun r=>bstr (sp.ratS r.1 r.2)
noncomputable def mayR (r:Int×Int):Bool:=mayB r.1 r.2
theorem rats_get:∀(rs:List (Int×Int)) (k:Nat) (h:k<rs.length),(rs.flatMap ratCells)[k*2]?=some (.int .i64 rs[k].1)∧(rs.flatMap ratCells)[k*2+1]?=some (.int .i64 rs[k].2):=by
 intro rs
 induction rs with
 | nil=>intro k h;simp at h
 | cons a l ih =>
  intro k h
  have e:(a :: l).flatMap ratCells=.int .i64 a.1 :: .int .i64 a.2 :: l.flatMap ratCells:=rfl
  cases k with
  | zero=>exact ⟨rfl,rfl⟩
  | succ k =>
   have:=ih k (by simpa using h)
   rw [e,show (k+1)*2=k*2+1+1 by omega]
   simp only [List.getElem?_cons_succ,List.getElem_cons_succ]
   exact this
theorem ok_takeR (f:Int×Int→Bool) (ok:Bool) (ns:List (Int×Int)) (k:Nat) (h:k<ns.length):(ok&&(ns.take (k+1)).all f)=((ok&&(ns.take k).all f)&&f ns[k]):=by
 rw [List.take_add_one,List.getElem?_eq_getElem h,List.all_append]
 simp [Bool.and_assoc]
theorem ratLen {n d:Int} (hn:I64 n) (hd:I64 d):(bstr (sp.ratS n d)).size≤43:=by
 rw [bstr_size]
 by_cases hs:SureP n d
 ·rw [rratS_eq n d hs,List.length_append]
  have h1:=Lib.itoa_length_le n hn.1 hn.2
  have h2:=Lib.itoa_length_le d hd.1 hd.2
  cases decide (1<d)
  ·simp;omega
  ·simp;omega
 ·rw [over_of hs];decide
theorem putS_rats (rs:List (Int×Int)) (h:∀r∈rs,I64 r.1∧I64 r.2):(putS (ratsS rs)).length≤44*rs.length:=by
 induction rs with
 | nil=>simp [putS,ratsS]
 | cons n ns ih =>
  have h1:=ih (fun m hm=>h m (List.mem_cons_of_mem _ hm))
  have h2:=ratLen (h n List.mem_cons_self).1 (h n List.mem_cons_self).2
  rw [bstr_size] at h2
  have e:putS (ratsS (n :: ns))=32 :: sp.ratS n.1 n.2++putS (ratsS ns):=by simp [putS,ratsS,bstr]
  rw [e,List.length_append,List.length_cons,List.length_cons]
  omega
theorem putS_rats_take (rs:List (Int×Int)) (k:Nat) (h:k<rs.length):putS (ratsS (rs.take (k+1)))=putS (ratsS (rs.take k))++putS [bstr (sp.ratS rs[k].1 rs[k].2)]:=by
 have e1:ratsS (rs.take (k+1))=(ratsS rs).take (k+1):=by simp [ratsS]
 have e2:ratsS (rs.take k)=(ratsS rs).take k:=by simp [ratsS]
 rw [e1,e2,putS_take (ratsS rs) k (by simpa [ratsS] using h)]
 simp [ratsS,putS]
theorem flag_other {w:World} {b c o:Nat} {v x:Value} (h:w.cell? ⟨c,o,none⟩=some x) (hb:b≠c):(w.setCell ⟨b,2,none⟩ v).cell? ⟨c,o,none⟩=some x:=by
 rw [World.cell?_of_block (w:=w) (Below.heap_setCell _ _ _ _ (fun e=>hb e.symm))]
 exact h
set_option maxRecDepth 100000 in
set_option maxHeartbeats 4000000 in
theorem fractions_any (w:World) (b:Nat) (own:Option Nat) (l:List UInt8) (ok:Bool) (c:Nat) (rs:List (Int×Int)) (h:Bld w 123 [.bool ok] b own l) (hc:RatsIn w c rs) (hcb:c≠b) (hco:some c≠own) (hn:l.length+44*rs.length≤1407374883553) (hns:rs.length≤1000) (hi:∀r∈rs,I64 r.1∧I64 r.2) :
  Calls Tryz.prog 78 #[.pointer (some ⟨b,0,none⟩),.slice (some ⟨c,0,none⟩) rs.length rs.length] w fun e w'=>e=.returned (.tuple #[])∧Wrote w b own (l++putS (ratsS rs)) (ok&&rs.all mayR) w':=by
 have HB:=Lib.hid h;have HC:=Lib.hid hc;have HCB:=Lib.hid hcb;have HCO:=Lib.hid hco;have HN:=Lib.hid hn;have HNS:=Lib.hid hns;have HI:=Lib.hid hi
 clear h hc hcb hco hn hns hi
 go_enter Tryz.func78,Tryz.ntmps78
 go_wp2
 go_loopw [8] (fun i wr=>∃k:Nat,k≤rs.length∧i=.int .i64 k∧Wrote w b own (l++putS (ratsS (rs.take k))) (ok&&(rs.take k).all mayR) wr) (fun i _=>rs.length-(intOf i).toNat)
 case atStart=>exact ⟨0,Nat.zero_le _,rfl,by simpa [putS,ratsS] using Wrote.refl HB.out⟩
 case round =>
  obtain ⟨k,hk,rfl,own1,hb1,hf1,ho1⟩:=hrel
  have hkb:(k:Int)≤1000:=by have:=HNS.out;omega
  have HB1:=Lib.hid hb1;have HF1:=Lib.hid hf1;have HO1:=Lib.hid ho1
  clear hb1 hf1 ho1
  by_cases hlt:k<rs.length
  ·have hclt:=lt_of_block HC.out
   have hrow:=(HF1.out.keepOwn hclt HCB.out HCO.out).trans HC.out
   have hcell0:wr.cell? ⟨c,k*2,none⟩=some (.int .i64 rs[k].1):=by
    rw [cell_of_row wr c (k*2) _ 24 (0,0) hrow,List.getElem?_toArray,(rats_get rs k hlt).1]
   have hcell1:wr.cell? ⟨c,k*2+1,none⟩=some (.int .i64 rs[k].2):=by
    rw [cell_of_row wr c (k*2+1) _ 24 (0,0) hrow,List.getElem?_toArray,(rats_get rs k hlt).2]
   have HX:=Lib.hid (putS_rats_take rs k hlt)
   have HO:=Lib.hid (ok_takeR mayR ok rs k hlt)
   obtain ⟨i1,i2⟩:=HI.out rs[k] (List.getElem_mem hlt)
   have HI1:=Lib.hid i1;have HI2:=Lib.hid i2
   have hz:=ratLen i1 i2
   have HL:Hid ((l++putS (ratsS (rs.take k))).length+(putS [bstr (sp.ratS rs[k].1 rs[k].2)]).length≤1407374883553):=Lib.hid (by
    have h1:=putS_rats (rs.take (k+1)) (fun n hn=>HI.out n (List.mem_of_mem_take hn))
    rw [putS_rats_take rs k hlt,List.length_append,List.length_take] at h1
    have:=HN.out
    rw [List.length_append]
    omega)
   have hs:mayR rs[k]=mayB rs[k].1 rs[k].2:=rfl
   obtain ⟨hok,hfz⟩:=bld_ok HB1.out
   have hok2:=(Below.heap_alloc wr (.cells #[.int .i64 rs[k].1,.int .i64 rs[k].2] 24) b HB1.out.lt)
   generalize rs[k]=r at hcell0 hcell1 HX HO HI1 HI2 HL hs hz hok2
   obtain ⟨n,d⟩:=r
   simp only at hcell0 hcell1 HX HO HI1 HI2 HL hs hz hok2
   have HX2:Hid (l++putS (ratsS (rs.take (k+1)))=(l++putS (ratsS (rs.take k)))++putS [bstr (sp.ratS n d)]):=Lib.hid (by rw [HX.out];simp)
   generalize l++putS (ratsS (rs.take k))=l0 at HB1 HL HX2
   generalize (ok&&(rs.take k).all mayR)=ok0 at HB1 hok HO
   have HRB:=Lib.hid (heap_alloc_at wr (.cells #[.int .i64 n,.int .i64 d] 24))
   have HBA:=Lib.hid (HB1.out.below (below_new wr (.cells #[.int .i64 n,.int .i64 d] 24)))
   have HFA:=Lib.hid (HF1.out.trans (Fr.of_below (below_new wr (.cells #[.int .i64 n,.int .i64 d] 24))) HO1.out)
   have HNB:Hid (b≠wr.heap.size):=Lib.hid (Nat.ne_of_lt HB1.out.lt)
   obtain ⟨g0,g1⟩:=rat_cells HRB.out
   obtain ⟨f0,f1⟩:=bld_ok HBA.out
   have q0:=fun v=>flag_other (v:=v) g0 HNB.out
   have q1:=fun v=>flag_other (v:=v) g1 HNB.out
   clear HX hok2 hrow i1 i2
   cases hm:mayB n d
   all_goals
    rw [hm] at hs
    have HS:=Lib.hid hs;have HM:=Lib.hid hm;clear hs hm
    cases ok0
    ·go_wp2_with (first
      | (go_at_call 73;refine (ratText_any n d _ HI1.out HI2.out).mono ?_;rintro e w2 ⟨rfl,hb2⟩;have HB2:=Lib.hid (Bld.below (bld_flag HBA.out _) hb2);have HF2:=Lib.hid (HFA.out.trans ((Fr.set 2 _).trans (Fr.of_below hb2) (Own.refl _ _)) HO1.out);clear hb2)
      | (go_at_call 77;refine (put_any _ b own1 l0 _ w2.heap.size [bstr (sp.ratS n d)] (HB2.out.below (below_new _ _)) (heap_alloc_at _ _) (Nat.ne_of_gt HB2.out.lt) (fun e=>by have:=HB2.out.own_lt w2.heap.size e.symm;omega) (by have:=HL.out;omega) (by simp)).mono ?_;rintro e w3 ⟨rfl,own2,h2,hf2,ho2⟩;have HW:Hid (Wrote w b own _ _ w3):=Lib.hid (Wrote.then (HF2.out.trans (Fr.of_below (below_new _ _)) HO1.out) HO1.out h2 hf2 ho2);clear h2 hf2 ho2))
     refine ⟨⟨k+1,by omega,by go_num,?_⟩,by simp [intOf];omega⟩
     rw [HX2.out,HO.out,HS.out]
     exact HW.out
    ·go_wp2_with (first
      | (go_at_call 111;refine (may_any n d _ HI1.out HI2.out).mono ?_;rintro e w1 ⟨rfl,hb1⟩;rw [HM.out];have hk1:=(hb1.block wr.heap.size (by simp)).trans HRB.out;obtain ⟨g2,g3⟩:=rat_cells hk1;have q2:=fun v=>flag_other (v:=v) g2 HNB.out;have q3:=fun v=>flag_other (v:=v) g3 HNB.out;have HBB:=Lib.hid (HBA.out.below hb1);obtain ⟨f2,f3⟩:=bld_ok HBB.out;have HFB:=Lib.hid (HFA.out.trans (Fr.of_below hb1) HO1.out);clear hb1 hk1)
      | (go_at_call 73;refine (ratText_any n d _ HI1.out HI2.out).mono ?_;rintro e w2 ⟨rfl,hb2⟩;have HB2:=Lib.hid (Bld.below (bld_flag HBB.out _) hb2);have HF2:=Lib.hid (HFB.out.trans ((Fr.set 2 _).trans (Fr.of_below hb2) (Own.refl _ _)) HO1.out);clear hb2)
      | (go_at_call 77;refine (put_any _ b own1 l0 _ w2.heap.size [bstr (sp.ratS n d)] (HB2.out.below (below_new _ _)) (heap_alloc_at _ _) (Nat.ne_of_gt HB2.out.lt) (fun e=>by have:=HB2.out.own_lt w2.heap.size e.symm;omega) (by have:=HL.out;omega) (by simp)).mono ?_;rintro e w3 ⟨rfl,own2,h2,hf2,ho2⟩;have HW:Hid (Wrote w b own _ _ w3):=Lib.hid (Wrote.then (HF2.out.trans (Fr.of_below (below_new _ _)) HO1.out) HO1.out h2 hf2 ho2);clear h2 hf2 ho2))
     refine ⟨⟨k+1,by omega,by go_num,?_⟩,by simp [intOf];omega⟩
     rw [HX2.out,HO.out,HS.out]
     exact HW.out
  ·have:k=rs.length:=by omega
   subst this
   have HE:Hid (rs.take rs.length=rs):=Lib.hid (by rw [List.take_length])
   go_wp2
   go_end0
   refine ⟨rfl,own1,?_,HF1.out,HO1.out⟩
   have:=HB1.out
   rw [HE.out] at this
   exact this
end Go.Proofs.YtihlneenajlhoaaGreatDoor
