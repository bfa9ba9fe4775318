/-
 The map of the lines by their first words in memory: what looking up, laying in, counting and ranging do; jalousie script.rows and script.first. Condition: the words' lengths fit.
-/
import Derived.Test.YtihlneenajlhoaaGreatDoorS0
import Derived.Maps.RangeWalk
import Derived.StringKeys
import Derived.Laws.EntriesVeiled
import Derived.Sort.KeysCollected
import Derived.Deep.RegionLaw
import Derived.Deep.AppendLies
import Derived.Deep.MidRow
import Derived.Test.YtihlneenajlhoaaGreatDoorS1
set_option linter.unusedSimpArgs false
set_option linter.unusedVariables false
namespace Go.Proofs.YtihlneenajlhoaaGreatDoor
open Go Go.RowKit
structure Rw where
 k:Int
 n:Int
 g:Nat
deriving DecidableEq
def Rw.v (r:Rw):Value:=.agg #[.int .i64 r.k,.int .i64 r.n,.func (.func r.g) #[] #[]]
def Rw.d (r:Rw):DataW Unit:=.agg [.lit (.int .i64 r.k),.lit (.int .i64 r.n),.lit (.int .i64 (r.g:Int))]
def noRow:Value:=.agg #[.int .i64 0,.int .i64 0,.nilFunc]
def KX (v:Value):Option (DataW Unit×List MemPlace):=match v with
 | .agg c=>(match c.toList with
  | [.int .i64 k,.int .i64 n,.func (.func g) p q]=>if p=#[]∧q=#[] then some ((Rw.mk k n g).d,[]) else none
  | [.int .i64 0,.int .i64 0,.nilFunc]=>some (.nil,[])
  | _=>none)
 | _=>none
theorem tX {v:Value} {ps:List MemPlace} (h:KX v=some (.nil,ps)):v=noRow:=by
 unfold KX at h
 split at h
 ·rename_i c
  split at h
  ·split at h
   ·cases h
   ·cases h
  ·rename_i hc
   unfold noRow
   congr 1
   apply Array.ext'
   exact hc
  ·cases h
 ·cases h
theorem YX {v:Value} {b:Rw} {ps:List MemPlace} (h:KX v=some (b.d,ps)):v=b.v:=by
 unfold KX at h
 split at h
 ·rename_i c
  split at h
  ·rename_i k n g p q hc
   split at h
   ·rename_i hpq
    obtain ⟨rfl,rfl⟩:=hpq
    simp only [Option.some.injEq,Prod.mk.injEq,Rw.d,DataW.agg.injEq,List.cons.injEq,DataW.lit.injEq,Lit.int.injEq,true_and,and_true] at h
    obtain ⟨⟨h1,h2,h3⟩,_⟩:=h
    have h3':g=b.g:=Int.ofNat_inj.1 h3
    unfold Rw.v
    congr 1
    apply Array.ext'
    rw [hc,h1,h2,h3']
   ·cases h
  ·cases h
  ·cases h
 ·cases h
theorem Uk {x:List UInt8}:WideAt.IsKeyLit (.string x):=by unfold WideAt.IsKeyLit;trivial
theorem YY:∀ {l:List (List UInt8×Rw)},(l.map (·.1)).Nodup→l.Nodup
 | [],_=>List.nodup_nil
 | p :: l,h=>by
  rw [List.map_cons,List.nodup_cons] at h
  exact List.nodup_cons.2 ⟨fun hm=>h.1 (List.mem_map_of_mem hm),YY h.2⟩
theorem YZ:∀ {l:List (List UInt8×Rw)},(l.map (·.1)).Nodup→∀ {p q},p∈l→q∈l→p.1=q.1→p=q
 | [],_,_,_,h,_,_=>by cases h
 | a :: l,h,p,q,hp,hq,e=>by
  rw [List.map_cons,List.nodup_cons] at h
  rcases List.mem_cons.1 hp with h1 | h1
  ·rcases List.mem_cons.1 hq with h2 | h2
   ·rw [h1,h2]
   ·exact absurd (show a.1∈l.map (·.1) by rw [←h1,e];exact List.mem_map_of_mem (f:=(·.1)) h2) h.1
  ·rcases List.mem_cons.1 hq with h2 | h2
   ·exact absurd (show a.1∈l.map (·.1) by rw [←h2,←e];exact List.mem_map_of_mem (f:=(·.1)) h1) h.1
   ·exact YZ h.2 h1 h2 e
theorem keyed:Maps.Keyed Tryz.prog 9:=Maps.string_keyed Tryz.underlying9
abbrev KL (x:List UInt8):Lit:=.string x
theorem Ul {x:List UInt8} (h:x.length≤maxLen):keyOf Tryz.prog 9 (.string (AA x))=some (KL x):=by
 have:=WideMaps.keyOf_string_mk (P:=Tryz.prog) Tryz.underlying9 (s:=AA x) (by rw [Aa];exact h)
 rw [CY] at this
 exact this
structure Reads (D:DataW Unit) (f:List (List UInt8×Rw)):Prop where
 size:Maps.size D=f.length
 at_:∀x b,(x,b)∈f→∀z,D.atKey (KL x) z=b.d
 has:∀kl,Maps.has D kl=true↔∃p∈f,kl=KL p.1
structure DK (w:World) (B:Nat) (f:List (List UInt8×Rw)):Prop where
 own:∃D,w.ownsMap Tryz.prog 9 KX B f.length D∧Reads D f
 keys:(f.map (·.1)).Nodup
 wf:∀p∈f,p.1.length≤maxLen
theorem DK.made (w:World):DK (w.alloc (.map #[] 0)) w.heap.size [] :=
 ⟨⟨_,World.ownsMap_made w Tryz.prog 9 KX,⟨rfl,fun x b h=>(by cases h),fun kl=>⟨fun h=>(by cases h),fun ⟨p,h,_⟩=>(by cases h)⟩⟩⟩,List.nodup_nil,fun p h=>by cases h⟩
theorem DK.lt {w:World} {B:Nat} {f:List (List UInt8×Rw)} (h:DK w B f):B<w.heap.size:=by obtain ⟨D,h1,_⟩:=h.own;exact h1.lt
theorem DK.kept {w w':World} {B:Nat} {f:List (List UInt8×Rw)} (h:DK w B f) (hb:w'.heap[B]?=w.heap[B]?):DK w' B f:=by
 obtain ⟨D,⟨es,clock,h1,h2⟩,hr⟩:=h.own
 exact ⟨⟨D,⟨es,clock,hb.trans h1,h2⟩,hr⟩,h.keys,h.wf⟩
theorem DK.below {w w':World} {B C:Nat} {f:List (List UInt8×Rw)} (h:DK w B f) (hb:Below C w w') (hc:B<C):DK w' B f:=h.kept (hb.block B hc)
theorem DK.len {w:World} {B:Nat} {f:List (List UInt8×Rw)} (h:DK w B f) (ty:TypeId):(Builtin.len_ #[67] ty #[.map (some B)]).run Tryz.prog w=.ok (.int .i64 f.length) w:=by
 obtain ⟨D,h1,hr⟩:=h.own
 rw [h1.len Tryz.underlying67 ty,hr.size]
theorem tY {D:DataW Unit} {f:List (List UInt8×Rw)} {x:List UInt8} {b:Rw} (h:Reads D f) (ht:Maps.Tidy D) (hx:x∉f.map (·.1)):Reads (D.put (KL x) b.d) (f++[(x,b)]):=by
 have hno:Maps.has D (KL x)=false:=by
  cases hh:Maps.has D (KL x) with
  | false=>rfl
  | true =>
   obtain ⟨p,hp,e⟩:=(h.has _).1 hh
   simp only [KL,Lit.string.injEq] at e
   exact absurd (e ▸ List.mem_map_of_mem (f:=(·.1)) hp) hx
 refine ⟨?_,?_,?_⟩
 ·rw [Maps.size_put ht,hno,h.size];simp
 ·intro y c hy z
  rcases List.mem_append.1 hy with hy | hy
  ·have hne:KL y≠KL x:=fun e=>by
    simp only [KL,Lit.string.injEq] at e
    exact hx (e ▸ List.mem_map_of_mem (f:=(·.1)) hy)
   rw [Maps.atKey_put_other hne]
   exact h.at_ y c hy z
  ·simp only [List.mem_singleton,Prod.mk.injEq] at hy
   obtain ⟨rfl,rfl⟩:=hy
   exact Maps.atKey_put_same ht.isMap Uk _ _
 ·intro kl
  by_cases e:kl=KL x
  ·subst e
   rw [Maps.has_put_same ht.isMap Uk]
   exact ⟨fun _=>⟨(x,b),by simp,rfl⟩,fun _=>rfl⟩
  ·rw [Maps.has_put_other e,h.has]
   constructor
   ·rintro ⟨p,hp,rfl⟩;exact ⟨p,List.mem_append_left _ hp,rfl⟩
   ·rintro ⟨p,hp,rfl⟩
    rcases List.mem_append.1 hp with hp | hp
    ·exact ⟨p,hp,rfl⟩
    ·simp only [List.mem_singleton] at hp;subst hp;exact absurd rfl e
theorem DK.put {w:World} {B:Nat} {f:List (List UInt8×Rw)} (h:DK w B f) {x:List UInt8} {b:Rw} (hi:x.length≤maxLen) (hx:x∉f.map (·.1)) (hl:f.length<1000000) :
  ∃w',(Instr.mapUpdate 67 (.map (some B)) (.string (AA x)) b.v).run Tryz.prog w=.ok () w'∧DK w' B (f++[(x,b)])∧w.grownBy w' (some B):=by
 obtain ⟨D,h1,hr⟩:=h.own
 obtain ⟨w',hrun,h2,h3⟩:=h1.update keyed Tryz.underlying67 (by unfold maxLen;omega) (Ul hi) (val:=b.v) (d:=b.d) (ps:=[]) rfl
 refine ⟨w',hrun,⟨⟨_,by simpa using h2,tY hr (h1.tidy keyed) hx⟩,?_,?_⟩,h3⟩
 ·rw [List.map_append,List.nodup_append]
  refine ⟨h.keys,by simp,?_⟩
  intro a ha c hc e
  simp only [List.map_cons,List.map_nil,List.mem_singleton] at hc
  exact hx (by rw [←hc,←e];exact ha)
 ·intro p hp
  rcases List.mem_append.1 hp with hp | hp
  ·exact h.wf p hp
  ·simp only [List.mem_singleton] at hp;subst hp;exact hi
def Fg (w:World) (B r:Nat) (f rest:List (List UInt8×Rw)) (cnt:Nat):Prop :=
 ∃D left,Reads D f∧w.ranges Tryz.prog 9 KX B r f.length D left cnt∧(∀kl,left kl=true↔∃p∈rest,kl=KL p.1)∧(∀p∈rest,p∈f)∧(rest.map (·.1)).Nodup
theorem Fg.left {w:World} {B r:Nat} {f rest:List (List UInt8×Rw)} {cnt:Nat} (h:Fg w B r f rest cnt):w.rangeLeft B r=cnt:=by
 obtain ⟨D,left,_,h2,_⟩:=h;exact h2.left_eq
theorem Fg.kept {w w':World} {B r:Nat} {f rest:List (List UInt8×Rw)} {cnt:Nat} (h:Fg w B r f rest cnt) (hB:w'.heap[B]?=w.heap[B]?) (hr:w'.heap[r]?=w.heap[r]?):Fg w' B r f rest cnt:=by
 obtain ⟨D,left,h1,⟨es,clock,since,seen,c0,g1,g2,g3,g4,g5,g6⟩,h3⟩:=h
 exact ⟨D,left,h1,⟨es,clock,since,seen,c0,hB.trans g1,g2,g3,g4,hr.trans g5,g6⟩,h3⟩
theorem Fg.lt {w:World} {B r:Nat} {f rest:List (List UInt8×Rw)} {cnt:Nat} (h:Fg w B r f rest cnt):B<w.heap.size∧r<w.heap.size∧r≠B:=by
 obtain ⟨D,left,_,h2,_⟩:=h;exact ⟨h2.owns.lt,h2.lt,h2.ne⟩
theorem DK.range {w:World} {B:Nat} {f:List (List UInt8×Rw)} (h:DK w B f):∃w',(Instr.range 67 (.map (some B))).run Tryz.prog w=.ok (.pointer (some ⟨w.heap.size,0,none⟩)) w'∧Fg w' B w.heap.size f f f.length∧w.grownBy w' none∧w'.heap.size=w.heap.size+1:=by
 obtain ⟨D,h1,hr⟩:=h.own
 obtain ⟨w',hrun,h2,h3,h4⟩:=h1.range keyed Tryz.underlying67
 exact ⟨w',hrun,⟨D,Maps.has D,hr,(by rw [←hr.size] at h2 ⊢; exact h2),hr.has,fun p hp=>hp,h.keys⟩,h3,h4⟩
theorem Fg.next {w:World} {B r:Nat} {f rest:List (List UInt8×Rw)} {cnt:Nat} (h:Fg w B r f rest cnt) (ty:TypeId) :
  (rest = []∧(Instr.next (.pointer (some ⟨r,0,none⟩)) false ty).run Tryz.prog w=.ok (.tuple #[.bool false]) w) ∨
  ∃x b w' cnt',(x,b)∈rest∧(Instr.next (.pointer (some ⟨r,0,none⟩)) false ty).run Tryz.prog w=.ok (.tuple #[.bool true,.string (AA x),b.v]) w'∧Fg w' B r f (rest.erase (x,b)) cnt'∧cnt'<cnt ∧
   w.grownBy w' (some r)∧w'.heap.size=w.heap.size∧(Instr.entry (.pointer (some ⟨r,0,none⟩))).run Tryz.prog w'=.ok (.tuple #[.string (AA x),b.v]) w':=by
 obtain ⟨D,left,hr,h2,hl,hf,hn⟩:=h
 rcases h2.next keyed ty with ⟨h0,hk,hrun⟩ | ⟨key,v,kl,y,w',cnt',hkey,hlk,hv,hat,hrun,hrg,hlt,hgr,hsz,hen⟩
 ·refine .inl ⟨?_,hrun⟩
  cases rest with
  | nil=>rfl
  | cons p l =>
   have:=(hl (KL p.1)).2 ⟨p,List.mem_cons_self,rfl⟩
   rw [hk] at this
   cases this
 ·obtain ⟨⟨x,b⟩,hp,rfl⟩:=(hl kl).1 hlk
  obtain ⟨x',rfl,e,_⟩:=Maps.keyOf_str Tryz.underlying9 hkey
  simp only [KL,Lit.string.injEq] at e
  subst e
  have hd:=hr.at_ x b (hf _ hp)
  have e2:y=(b.d,y.2):=Prod.ext ((hat .nil).symm.trans (hd .nil)) rfl
  rw [e2] at hv
  obtain rfl:=YX hv
  have hnd:rest.Nodup:=YY hn
  refine .inr ⟨x,b,w',cnt',hp,hrun,⟨D,_,hr,hrg,fun kl => ?_,fun p hp=>hf p (List.mem_of_mem_erase hp),hn.sublist (List.erase_sublist.map _)⟩,hlt,hgr,hsz,hen⟩
  simp only [Bool.and_eq_true,Bool.not_eq_true',hl]
  constructor
  ·rintro ⟨⟨p,hp',rfl⟩,hs⟩
   refine ⟨p,(List.mem_erase_of_ne fun e => ?_).2 hp',rfl⟩
   subst e
   have:=WideAt.sameKey_self (a:=KL x) Uk
   rw [hs] at this
   cases this
  ·rintro ⟨p,hp',rfl⟩
   have hm:=List.mem_of_mem_erase hp'
   refine ⟨⟨p,hm,rfl⟩,Maps.sameKey_ne fun e => ?_⟩
   simp only [KL,Lit.string.injEq] at e
   have:p=(x,b):=by
    exact YZ hn hm hp e
   subst this
   exact (List.Nodup.not_mem_erase hnd) hp'
section
variable {ops:Array Oper} {rest:List Oper} {o:Oper} {a:Act} {Q:Exit→Act→World→Prop} {w:World} {B:Nat} {f:List (List UInt8×Rw)}
theorem tZ (hg:o.guard=none) (m x v:Operand) (hop:o.op=Op.insert 67 m x v) (hm:a.eval m=.map (some B)) (h:DK w B f) (c:List UInt8) (hx:a.eval x=.string ⟨c.toArray⟩) (k n:Int) (g:Nat) (hv:a.eval v=.agg #[.int .i64 k,.int .i64 n,.func (.func g) #[] #[]]) (hi:c.length≤maxLen) (hk:c∉f.map (·.1)) (hl:f.length<1000000)
  (hS:∀w',DK w' B (f++[(c,⟨k,n,g⟩)])→w.grownBy w' (some B)→wpList Tryz.prog ops Q rest (a.put o.dst undef) w'):wpList Tryz.prog ops Q (o :: rest) a w:=by
 refine wpList_plain hg fun K' hK' => ?_
 obtain ⟨w',hrun,h1,h2⟩:=h.put hi hk hl (b:=⟨k,n,g⟩)
 have hrun':(Instr.mapUpdate 67 (.map (some B)) (.string ⟨c.toArray⟩) (.agg #[.int .i64 k,.int .i64 n,.func (.func g) #[] #[]])).run Tryz.prog w=.ok () w':=hrun
 unfold Oper.wp
 simp [execOp,hop,hm,hx,hv,hrun',Result.andThen]
 exact hK' _ _ (hS w' h1 h2)
theorem uA (hg:o.guard=none) (m:Operand) (hop:o.op=Op.range 67 m) (hm:a.eval m=.map (some B)) (h:DK w B f)
  (hS:∀w',Fg w' B w.heap.size f f f.length→w.grownBy w' none→w'.heap.size=w.heap.size+1→wpList Tryz.prog ops Q rest (a.put o.dst (.pointer (some ⟨w.heap.size,0,none⟩))) w'):wpList Tryz.prog ops Q (o :: rest) a w:=by
 refine wpList_plain hg fun K' hK' => ?_
 obtain ⟨w',hrun,h1,h2,h3⟩:=h.range
 unfold Oper.wp
 simp [execOp,hop,hm,hrun,Result.andThen]
 exact hK' _ _ (hS w' h1 h2 h3)
theorem uB {r cnt:Nat} {left:List (List UInt8×Rw)} (hg:o.guard=none) (it:Operand) (hop:o.op=Op.next it false) (hit:a.eval it=.pointer (some ⟨r,0,none⟩)) (h:Fg w B r f left cnt)
  (hDone:left = []→wpList Tryz.prog ops Q rest (a.put o.dst (.tuple #[.bool false])) w)
  (hMore:∀(x:List UInt8) (b:Rw) (w':World) (cnt':Nat),(x,b)∈left→Fg w' B r f (left.erase (x,b)) cnt'→cnt'<cnt→w.grownBy w' (some r)→w'.heap.size=w.heap.size →
   (Instr.entry (.pointer (some ⟨r,0,none⟩))).run Tryz.prog w'=.ok (.tuple #[.string (AA x),b.v]) w'→wpList Tryz.prog ops Q rest (a.put o.dst (.tuple #[.bool true,.string (AA x),b.v])) w') :
  wpList Tryz.prog ops Q (o :: rest) a w:=by
 refine wpList_plain hg fun K' hK' => ?_
 unfold Oper.wp
 rcases h.next o.type with ⟨h0,hrun⟩ | ⟨x,b,w',cnt',hx,hrun,h1,h2,h3,h4,h5⟩
 ·simp [execOp,hop,hit,hrun,Result.andThen]
  exact hK' _ _ (hDone h0)
 ·simp [execOp,hop,hit,hrun,Result.andThen]
  exact hK' _ _ (hMore x b w' cnt' hx h1 h2 h3 h4 h5)
end
def Ce:List (List UInt8×Rw):=[([115,104,101,101,116],⟨1,2,54⟩),([118,105,101,119],⟨2,2,56⟩),([102,111,110,116],⟨3,1,52⟩),([99,111,108,111,114],⟨13,1,52⟩),([112,114,105,110,116],⟨14,1,57⟩),([119,111,114,100],⟨4,2,58⟩),([105,110,115,101,114,116],⟨5,3,59⟩),([114,101,109,111,118,101],⟨6,1,49⟩),([115,101,116],⟨7,3,60⟩),([117,110,115,101,116],⟨8,2,51⟩),([98,111,120],⟨9,5,61⟩),([97,115,107],⟨10,2,51⟩),([99,117,115,116,111,109],⟨11,2,51⟩),([114,117,108,101,115],⟨12,1,49⟩),([99,111,117,110,116],⟨15,0,62⟩)]
set_option maxRecDepth 100000 in
set_option maxHeartbeats 4000000 in
theorem JA (w:World):Calls Tryz.prog 27 #[] w fun e w'=>e=.returned (.map (some w.heap.size))∧DK w' w.heap.size Ce∧Below w.heap.size w w':=by
 have hmm:=@run_makeMap Tryz.prog
 have HM:Hid (DK (w.alloc (.map #[] 0)) w.heap.size []):=Lib.hid (DK.made w)
 have HB:Hid (Below w.heap.size w (w.alloc (.map #[] 0))):=Lib.hid (AZ w _)
 go_enter Tryz.func27,Tryz.ntmps27
 go_wp2_with (refine tZ rfl _ _ _ rfl rfl HM.out _ rfl _ _ _ rfl (by decide) (by decide) (by decide) ?_;intro w' hm' hg';clear HM;have HM:=Lib.hid hm';have HB2:=Lib.hid (HB.out.grown hg' HB.out.size (fun k hk=>by cases hk;exact Nat.le_refl _));clear HB;have HB:=Lib.hid HB2.out;clear HB2 hm' hg')
 go_ret
 exact ⟨rfl,HM.out,HB.out⟩
theorem uC:∀p∈Ce,∀q∈Ce,p.2.k=q.2.k→p=q:=by decide
def Gg (k:Int):List UInt8:=match Ce.find? (fun p=>p.2.k==k) with | some p=>p.1 | none=>[]
theorem uD {p:List UInt8×Rw} (h:p∈Ce):Gg p.2.k=p.1:=by
 unfold Gg
 cases hf:Ce.find? (fun q=>q.2.k==p.2.k) with
 | none=>exact absurd (List.find?_eq_none.1 hf p h) (by simp)
 | some q =>
  have h1:=List.mem_of_find?_eq_some hf
  have h2:q.2.k=p.2.k:=by simpa using List.find?_some hf
  rw [uC q h1 p h h2]
theorem Ya {k:Int} (h:∀p∈Ce,p.2.k≠k):Gg k = []:=by
 unfold Gg
 rw [List.find?_eq_none.2 fun p hp=>by simpa using h p hp]
set_option maxRecDepth 100000 in
set_option maxHeartbeats 4000000 in
theorem first_any (k:Int) (w:World):Calls Tryz.prog 75 #[.int .i64 k] w fun e w'=>e=.returned (.string (AA (Gg k)))∧Below w.heap.size w w':=by
 go_enter Tryz.func75,Tryz.ntmps75
 go_wp2_with (first
  | (go_at_call 27;refine (JA w).mono ?_;rintro e w1 ⟨rfl,hm1,hb1⟩;have HM:=Lib.hid hm1;have HB1:=Lib.hid hb1;clear hm1 hb1)
  | (at_range;refine uA rfl _ rfl rfl HM.out ?_;intro w2 hr2 hg2 hs2;have HR:=Lib.hid hr2;have HB2:=Lib.hid (HB1.out.grown hg2 HB1.out.size (fun k hk=>by cases hk));have HS:=Lib.hid hs2;clear hr2 hg2 hs2))
 go_frame
 have HR0:Hid (∀p∈Ce,p∈Ce∨p.2.k≠k):=Lib.hid (fun p hp=>Or.inl hp)
 go_loopw [8] (fun _ wr=>∃(left:List (List UInt8×Rw)) (cnt:Nat),Fg wr w.heap.size w1.heap.size Ce left cnt∧(∀p∈Ce,p∈left∨p.2.k≠k)∧Below w.heap.size w wr) (fun _ wr=>wr.rangeLeft w.heap.size w1.heap.size)
 case atStart=>exact ⟨Ce,_,HR.out,HR0.out,HB2.out⟩
 case round =>
  obtain ⟨left,cnt,hrg,hno,hbl⟩:=hrel
  have HRG:=Lib.hid hrg;have HNO:=Lib.hid hno;have HBL:=Lib.hid hbl
  clear hrg hno hbl HR HR0 HB2 HM
  go_wp2_with (at_next;refine uB rfl _ rfl rfl HRG.out ?_ ?_)
  ·intro hnil
   have HF:Hid (Gg k = []):=Lib.hid (Ya fun p hp=>by
    rcases HNO.out p hp with h | h
    ·rw [hnil] at h;cases h
    ·exact h)
   clear hnil
   go_wp2
   go_ret
   exact ⟨UN HF.out.symm,HBL.out⟩
  ·intro x b w3 cnt1 hx hrg1 hlt hg1 hs1 hen
   have HX:=Lib.hid hx;have Yb:=Lib.hid hrg1;have HLT:=Lib.hid hlt
   have HB3:=Lib.hid (HBL.out.grown hg1 HBL.out.size (fun q hq=>by cases hq;exact HB1.out.size))
   have HIN:Hid ((x,b)∈Ce):=Lib.hid (by obtain ⟨_,_,_,_,_,h5,_⟩:=HRG.out;exact h5 _ hx)
   clear hx hrg1 hlt hg1 hs1
   obtain ⟨bk,bn,bg⟩:=b
   simp only [Rw.v] at hen ⊢
   by_cases hk:bk=k
   ·subst hk
    have HF:Hid (Gg bk=x):=Lib.hid (uD HIN.out)
    go_wp2
    go_ret
    exact ⟨UN HF.out.symm,HB3.out.alloc HB3.out.size _⟩
   ·have hk':(bk==k)=false:=by simpa using hk
    have HK:=Lib.hid hk;clear hk
    go_wp2
    have hlt:=Yb.out.lt
    have hrg2:=Fg.kept (w':=w3.alloc (.cells #[.int .i64 bk,.int .i64 bn,.func (.func bg) #[] #[]] 65)) Yb.out (Below.heap_alloc _ _ _ hlt.1) (Below.heap_alloc _ _ _ hlt.2.1)
    refine ⟨⟨_,_,hrg2,fun p hp => ?_,HB3.out.alloc HB3.out.size _⟩,?_⟩
    ·rcases HNO.out p hp with h | h
     ·by_cases e:p=(x,⟨bk,bn,bg⟩)
      ·right;rw [e];exact HK.out
      ·left;exact (List.mem_erase_of_ne e).2 h
     ·exact Or.inr h
    ·rw [hrg2.left,HRG.out.left];exact HLT.out
def QR (wb:World) (b q:Nat) (O:Option Obj) (l:List UInt8) (d:Value) (wr:World):Prop :=
 wr.ownsRow b 5 1 d l.length (Lib.byteCells l)∧d.ownBlock≠some q∧b≤q∧q<wr.heap.size∧wr.heap[q]?=O∧Below b wb wr
section
variable {wb wr w':World} {b q:Nat} {O:Option Obj} {l ys:List UInt8} {d v':Value}
theorem QR.alloc (h:QR wb b q O l d wr) (o:Obj):QR wb b q O l d (wr.alloc o):=by
 obtain ⟨h1,h2,h3,h4,h5,h6⟩:=h
 exact ⟨h1.alloc o,h2,h3,by simp;omega,by rw [Below.heap_alloc _ _ _ h4];exact h5,h6.alloc (by omega) o⟩
theorem QR.drew (h:QR wb b q O l d wr):QR wb b q O l d wr.drew:=by
 obtain ⟨h1,h2,h3,h4,h5,h6⟩:=h
 exact ⟨h1,h2,h3,h4,h5,h6.drew⟩
theorem QR.app (h:QR wb b q O l d wr) (hown:w'.ownsRow b 5 1 v' (l++ys).length (Lib.byteCells (l++ys))) (hg:wr.grownBy w' d.ownBlock) (hat:v'.ownBlock=d.ownBlock∨v'.ownBlock=some wr.heap.size):QR wb b q O (l++ys) v' w':=by
 obtain ⟨h1,h2,h3,h4,h5,h6⟩:=h
 refine ⟨hown,?_,h3,Nat.lt_of_lt_of_le h4 hg.size,by rw [hg.block q h4 (fun e=>h2 e.symm)];exact h5,h6.grown hg (by omega) (fun k hk=>(h1.lt k hk).1)⟩
 rcases hat with e | e
 ·rw [e];exact h2
 ·rw [e];intro k;have:=Option.some.inj k;omega
end
set_option maxRecDepth 100000 in
theorem Yc {w:World} {base:Nat} {v:Value} {l:List UInt8} (h:w.ownsRow base 5 1 v l.length (Lib.byteCells l)):(convert 22 9 v).run Tryz.prog w=.ok (.string (AA l)) w:=by
 rcases h.2 with ⟨rfl,h0⟩ | ⟨g,cap,cur,rfl,hbg,hg,hnc,hcm,hcs,htake⟩
 ·have:l = []:=List.eq_nil_of_length_eq_zero h0
  subst this
  exact Go.run_convert_bytes_back (P:=Tryz.prog) w 22 9 5 ⟨0,0,none⟩ 0 [] Tryz.underlying22 Tryz.underlying5 Tryz.underlying9 (fun j hj=>by cases hj)
 ·refine Go.run_convert_bytes_back (P:=Tryz.prog) w 22 9 5 ⟨g,0,none⟩ cap l Tryz.underlying22 Tryz.underlying5 Tryz.underlying9 (fun j hj => ?_)
  have:=h.cells (g:=g) rfl j (.int .u8 l[j].toNat) (by simp [Lib.byteCells,hj])
  exact this
set_option maxRecDepth 100000 in
set_option maxHeartbeats 8000000 in
theorem uF (s:ByteArray) (w:World) (hs:s.size≤1099511627776):Calls Tryz.prog 38 #[.string s] w fun e w'=>e=.returned (.string (AA (sp.DJ s.data.toList)))∧Below w.heap.size w w':=by
 have HS:=Lib.hid hs
 have hcv:=fun W=>Lib.run_convert_string_bytes (P:=Tryz.prog) W 9 22 5 s Tryz.underlying9 Tryz.underlying22 Tryz.underlying5
 clear hs
 go_enter Tryz.func38,Tryz.ntmps38
 go_wp2
 have HQ:Hid (QR w w.heap.size (w.heap.size+1) (Lib.bytesWorld (w.alloc (.cells #[.int .u8 34] 5)) 5 s).heap[w.heap.size+1]? [34] (.slice (some ⟨w.heap.size,0,none⟩) 1 1) (Lib.bytesWorld (w.alloc (.cells #[.int .u8 34] 5)) 5 s)):=Lib.hid (by
  have hb:=Lt (w.alloc (.cells #[.int .u8 34] 5)) s
  refine ⟨⟨rfl,Or.inr ⟨w.heap.size,1,#[.int .u8 34],rfl,Nat.le_refl _,?_,Nat.le_refl _,by decide,rfl,rfl⟩⟩,?_,by omega,by rw [Lib.bytesWorld_size];simp,rfl,(AZ w _).trans (hb.mono (by simp))⟩
  ·rw [hb.block w.heap.size (by simp)];exact AX _ _
  ·intro e;have:some w.heap.size=some (w.heap.size+1):=e;simp at this)
 have HC:=Lib.hid (fun j (hj:j<s.size)=>Lib.bytesWorld_cell (w.alloc (.cells #[.int .u8 34] 5)) 5 s j hj)
 have hq:(w.alloc (.cells #[.int .u8 34] 5)).heap.size=w.heap.size+1:=by simp
 rw [hq] at HC
 clear hq hcv
 generalize Lib.bytesWorld (w.alloc (.cells #[.int .u8 34] 5)) 5 s=W2 at HQ HC
 generalize grownCap (w.alloc (.cells #[.int .u8 34] 5)) s.size 0 5=cp
 generalize hqq:w.heap.size+1=q at HQ HC
 have HQQ:=Lib.hid hqq;clear hqq
 generalize Value.slice (some ⟨w.heap.size,0,none⟩) 1 1=d0 at HQ
 go_loopw [3,10] (fun d i wr=>∃k:Nat,k≤s.size∧i=.int .i64 k∧QR w w.heap.size q W2.heap[q]? (34 :: (s.data.toList.take k).flatMap sp.Bj) d wr) (fun _ i _=>s.size-(intOf i).toNat)
 case atStart=>exact ⟨0,Nat.zero_le _,rfl,HQ.out⟩
 case round =>
  obtain ⟨k,hk,rfl,hr⟩:=hrel
  clear HQ
  have HQ:=Lib.hid hr;clear hr
  have hlen:s.data.toList.length=s.size:=by rw [Array.length_toList];rfl
  by_cases hlt:k<s.size
  ·have hc:wr.cell? ⟨q,k,none⟩=some (.int .u8 (s.data.toList.getD k 0).toNat):=by
    obtain ⟨_,_,_,_,hO,_⟩:=HQ.out
    rw [World.cell?_of_block (a:=⟨q,k,none⟩) hO]
    exact HC.out k hlt
   have HX:Hid ((34 :: (s.data.toList.take (k+1)).flatMap sp.Bj)=(34 :: (s.data.toList.take k).flatMap sp.Bj)++sp.Bj (s.data.toList.getD k 0)):=Lib.hid (by
    rw [Xv _ k (by omega),getD_lt _ _ (by omega)];rfl)
   have HL:Hid ((34 :: (s.data.toList.take k).flatMap sp.Bj).length+8≤140737488355328):=Lib.hid (by
    have h1:=QN (s.data.toList.take k)
    have h2:(s.data.toList.take k).length≤s.size:=by rw [List.length_take];omega
    have:=HS.out
    simp only [List.length_cons]
    omega)
   generalize hl1:(34 :: (s.data.toList.take (k+1)).flatMap sp.Bj)=l1 at HX
   have HL1:=Lib.hid hl1;clear hl1
   have hkb:(k:Int)≤1099511627776:=by have:=HS.out;omega
   generalize (34 :: (s.data.toList.take k).flatMap sp.Bj)=l0 at HX HL HQ
   generalize s.data.toList.getD k 0=K at hc HX
   have hK:(K.toNat:Int)≤255:=by have:=K.toNat_lt;omega
   have hK0:(0:Int)≤K.toNat:=by omega
   clear HC
   by_cases c34:K=34
   ·subst c34
    have HX2:Hid (l1=l0++[92,34]):=Lib.hid (by rw [HX.out];rfl)
    go_wp2_with (at_builtin;refine Hg rfl _ _ rfl w.heap.size l0 _ rfl (HQ.out.alloc _).1 wr.heap.size 2 [92,34] _ (0,0) rfl rfl rfl (AX _ _) (by have:=HL.out;omega) (by have:=(HQ.out.alloc (.cells #[] 5)).2.2.2.1;have:=HQ.out.2.2.1;simp at *; omega) ?_;intro v' w1 hown hgrow _ hat;have HQ1:=Lib.hid ((HQ.out.alloc _).app hown hgrow hat);clear hown hgrow hat)
    refine ⟨⟨k+1,by omega,by go_num,?_⟩,by simp [intOf];omega⟩
    rw [HL1.out,HX2.out]
    exact HQ1.out
   by_cases c92:K=92
   ·subst c92
    have HX2:Hid (l1=l0++[92,92]):=Lib.hid (by rw [HX.out];rfl)
    go_wp2_with (at_builtin;refine Hg rfl _ _ rfl w.heap.size l0 _ rfl (HQ.out.alloc _).1 wr.heap.size 2 [92,92] _ (0,0) rfl rfl rfl (AX _ _) (by have:=HL.out;omega) (by have:=(HQ.out.alloc (.cells #[] 5)).2.2.2.1;have:=HQ.out.2.2.1;simp at *; omega) ?_;intro v' w1 hown hgrow _ hat;have HQ1:=Lib.hid ((HQ.out.alloc _).app hown hgrow hat);clear hown hgrow hat)
    refine ⟨⟨k+1,by omega,by go_num,?_⟩,by simp [intOf];omega⟩
    rw [HL1.out,HX2.out]
    exact HQ1.out
   by_cases c10:K=10
   ·subst c10
    have HX2:Hid (l1=l0++[92,110]):=Lib.hid (by rw [HX.out];rfl)
    go_wp2_with (at_builtin;refine Hg rfl _ _ rfl w.heap.size l0 _ rfl (HQ.out.alloc _).1 wr.heap.size 2 [92,110] _ (0,0) rfl rfl rfl (AX _ _) (by have:=HL.out;omega) (by have:=(HQ.out.alloc (.cells #[] 5)).2.2.2.1;have:=HQ.out.2.2.1;simp at *; omega) ?_;intro v' w1 hown hgrow _ hat;have HQ1:=Lib.hid ((HQ.out.alloc _).app hown hgrow hat);clear hown hgrow hat)
    refine ⟨⟨k+1,by omega,by go_num,?_⟩,by simp [intOf];omega⟩
    rw [HL1.out,HX2.out]
    exact HQ1.out
   have n34:((K.toNat:Int)==34)=false:=by simp;intro h;exact c34 (UInt8.toNat_inj.1 (by simpa using (by omega:K.toNat=34)))
   have n92:((K.toNat:Int)==92)=false:=by simp;intro h;exact c92 (UInt8.toNat_inj.1 (by simpa using (by omega:K.toNat=92)))
   have n10:((K.toNat:Int)==10)=false:=by simp;intro h;exact c10 (UInt8.toNat_inj.1 (by simpa using (by omega:K.toNat=10)))
   by_cases cc:K.toNat<32∨127≤K.toNat
   ·have HX2:Hid (l1=l0++[92,120,sp.GK (K.toNat / 16),sp.GK (K.toNat%16)]):=Lib.hid (by
     rw [HX.out,Xw c34 c92 c10 cc])
    cases t1:decide ((K.toNat:Int)<32)<;>cases t2:decide (127≤(K.toNat:Int))
    ·exfalso
     simp at t1 t2
     omega
    all_goals
     have b1:(0:Int)≤(K.toNat:Int) / 16:=by omega
     have b2:(K.toNat:Int) / 16<16:=by omega
     have b3:(0:Int)≤(K.toNat:Int)%16:=by omega
     have b4:(K.toNat:Int)%16<16:=by omega
     have b5:bits BinOp.and IntKind.u8 (K.toNat:Int) 15=(K.toNat:Int)%16:=bits_mask .u8 8 (by decide) wraps_u8 4 (by decide) _ (by omega) (by omega)
     clear c34 c92 c10 cc
     go_wp2
     go_region_law ((refine nO rfl _ _ rfl w.heap.size l0 _ rfl (HQ.out.alloc _).drew.1 wr.heap.size 4 [92,120,sp.GK (K.toNat / 16),sp.GK (K.toNat%16)] _ (0,0) rfl rfl (AX _ _) (by rw [QO,QO];rfl) (by have:=HL.out;omega) (by have:=HQ.out.2.2.1;have:=HQ.out.2.2.2.1;simp;omega) ?_;intro v' w1 hown hgrow hat;have HQ1:=Lib.hid ((HQ.out.alloc _).drew.app hown hgrow hat);clear hown hgrow hat))
     all_goals
      go_wp2
      refine ⟨⟨k+1,by omega,by go_num,?_⟩,by simp [intOf];omega⟩
      rw [HL1.out,HX2.out]
      exact HQ1.out
   ·have HX2:Hid (l1=l0++[K]):=Lib.hid (by rw [HX.out,Xx c34 c92 c10 cc])
    have t1:decide ((K.toNat:Int)<32)=false:=by simp;omega
    have t2:decide (127≤(K.toNat:Int))=false:=by simp;omega
    clear c34 c92 c10 cc
    go_wp2_with (at_builtin;refine Hg rfl _ _ rfl w.heap.size l0 _ rfl (HQ.out.alloc _).1 wr.heap.size 1 [K] _ (0,0) rfl rfl rfl (AX _ _) (by have:=HL.out;omega) (by have:=(HQ.out.alloc (.cells #[] 5)).2.2.2.1;have:=HQ.out.2.2.1;simp at *; omega) ?_;intro v' w1 hown hgrow _ hat;have HQ1:=Lib.hid ((HQ.out.alloc _).app hown hgrow hat);clear hown hgrow hat)
    refine ⟨⟨k+1,by omega,by go_num,?_⟩,by simp [intOf];omega⟩
    rw [HL1.out,HX2.out]
    exact HQ1.out
  ·have:k=s.size:=by omega
   subst this
   have HE:Hid ((34 :: (s.data.toList.take s.size).flatMap sp.Bj)++[34]=sp.DJ s.data.toList):=Lib.hid (by rw [←hlen,List.take_length];rfl)
   have HL:Hid ((34 :: (s.data.toList.take s.size).flatMap sp.Bj).length+8≤140737488355328):=Lib.hid (by
    have h1:=QN (s.data.toList.take s.size)
    have h2:(s.data.toList.take s.size).length≤s.size:=by rw [List.length_take];omega
    have:=HS.out
    simp only [List.length_cons]
    omega)
   generalize (34 :: (s.data.toList.take s.size).flatMap sp.Bj)=l0 at HE HL HQ
   clear HC
   go_wp2_with (at_builtin;refine Hg rfl _ _ rfl w.heap.size l0 _ rfl (HQ.out.alloc _).1 wr.heap.size 1 [34] _ (0,0) rfl rfl rfl (AX _ _) (by have:=HL.out;omega) (by have:=(HQ.out.alloc (.cells #[] 5)).2.2.2.1;have:=HQ.out.2.2.1;simp at *; omega) ?_;intro v' w1 hown hgrow _ hat;have HQ1:=Lib.hid ((HQ.out.alloc _).app hown hgrow hat);clear hown hgrow hat;rw [HE.out] at HQ1;have hcw:=Yc HQ1.out.1)
   go_ret
   exact ⟨rfl,HQ1.out.2.2.2.2.2⟩
def BK (B:Nat) (w:World) (v:Value) (n:Nat) (cs:List Value):Prop :=
 ∃a cap,v=.slice a n cap∧n≤cap∧cap≤maxLen∧((n=0∧cs = []∧(a=none→cap=0))∨(0<n∧∃b off,a=some ⟨b,off,none⟩∧b<B∧w.rangeAt b off cs))
theorem BK.mono {B B':Nat} {w:World} {v:Value} {n:Nat} {cs:List Value} (h:BK B w v n cs) (hB:B≤B'):BK B' w v n cs:=by
 obtain ⟨a,cap,h1,h2,h3,h4⟩:=h
 exact ⟨a,cap,h1,h2,h3,h4.imp id fun ⟨x,b,off,y1,y2,y3⟩=>⟨x,b,off,y1,by omega,y3⟩⟩
theorem KU {B:Nat} {w w':World} (hb:Below B w w') {b off:Nat} {cs:List Value} (h:b<B) (hr:w.rangeAt b off cs):w'.rangeAt b off cs:=fun j v hv=>by
 rw [(KE hb).1 b (off+j) h];exact hr j v hv
theorem BK.keep {B:Nat} {w w':World} {v:Value} {n:Nat} {cs:List Value} (h:BK B w v n cs) (hb:Below B w w'):BK B w' v n cs:=by
 obtain ⟨a,cap,h1,h2,h3,h4⟩:=h
 exact ⟨a,cap,h1,h2,h3,h4.imp id fun ⟨x,b,off,y1,y2,y3⟩=>⟨x,b,off,y1,y2,KU hb y2 y3⟩⟩
theorem BK.slice {B:Nat} {w:World} {v:Value} {n:Nat} {cs:List Value} (h:BK B w v n cs):∃a cap,v=.slice a n cap:=by
 obtain ⟨a,cap,h1,_⟩:=h;exact ⟨a,cap,h1⟩
theorem BK.place {B:Nat} {w:World} {a:Option Addr} {n cap:Nat} {cs:List Value} (h:BK B w (.slice a n cap) n cs) (hn:0<n):∃b off,a=some ⟨b,off,none⟩∧b<B∧w.rangeAt b off cs:=by
 obtain ⟨a',cap',e,_,_,h | ⟨_,b,off,h1,h2,h3⟩⟩:=h
 ·omega
 ·cases e;exact ⟨b,off,h1,h2,h3⟩
theorem YS {P:Program} (w:World) (b off:Nat) (ty:TypeId) (cs:Array Value) (d:TypeDesc) (hg:∀j u,cs.toList[j]?=some u→w.cell? ⟨b,off+j,none⟩=some u)
  (hu:P.underlying ty=some d) (hd:(match d with | .struct _ | .array _ _=>true | _=>false)=true) (hi:(P.info? ty).map (·.size)=some cs.size):(loadVar ty ⟨b,off,none⟩).run P w=.ok (.agg cs) w:=by
 have hl:(loadCells ⟨b,off,none⟩ cs.toList.length).run P w=.ok cs.toList.toArray w :=
  run_loadCells_list (P:=P) w ⟨b,off,none⟩ cs.toList (fun j v hv=>by
   have hadd:(⟨b,off,none⟩:Addr).add j=⟨b,off+j,none⟩:=Addr.add_mid b off j
   rw [hadd]
   exact hg j v hv)
 cases hq:P.info? ty with
 | none=>simp [hq] at hi
 | some i =>
  have hs:i.size=cs.size:=by simpa [hq] using hi
  have hagg:(isAgg ty).run P w=.ok true w:=by
   unfold isAgg
   rw [Sem.run_bind,run_underlying hu w]
   cases d<;>simp_all
  simp only [Array.length_toList,Array.toArray_toList] at hl
  simp [loadVar,Sem.run_bind,hagg,sizeOf,typeInfo,hq,hs,hl]
theorem Qd {P:Program} {ops:Array Oper} {rest:List Oper} {o:Oper} {a:Act} {w:World} {Q:Exit→Act→World→Prop} (hgd:o.guard=none) (ty:TypeId) (x:Operand) (ho:o.op=.load ty x)
  (b off:Nat) (hx:a.eval x=.pointer (some ⟨b,off,none⟩)) (cs:Array Value) (d:TypeDesc) (hg:∀j u,cs.toList[j]?=some u→w.cell? ⟨b,off+j,none⟩=some u)
  (hu:P.underlying ty=some d) (hd:(match d with | .struct _ | .array _ _=>true | _=>false)=true) (hi:(P.info? ty).map (·.size)=some cs.size) (h:wpList P ops Q rest (a.put o.dst (.agg cs)) w):wpList P ops Q (o :: rest) a w :=
 wpList_plain hgd fun _ hK=>by
  unfold Oper.wp execOp
  simp only [ho,hx,Instr.loadAt,Instr.sureAddr,Sem.run_bind,Sem.run_pure,Result.andThen_ok,YS w b off ty cs d hg hu hd hi]
  exact hK _ _ h
theorem Uh {α:Type} {cells:α→List Value} {k:Nat} (hl:∀a,(cells a).length=k):∀(l:List α) (i:Nat) (h:i<l.length) (q:Nat),q<k→(l.flatMap cells)[i*k+q]?=(cells l[i])[q]?:=by
 intro l
 induction l with
 | nil=>intro i h;simp at h
 | cons a l ih =>
  intro i h q hq
  rw [List.flatMap_cons]
  cases i with
  | zero=>rw [Nat.zero_mul,Nat.zero_add,List.getElem?_append_left (by rw [hl];exact hq)];rfl
  | succ i =>
   rw [List.getElem?_append_right (by rw [hl,Nat.succ_mul];omega),hl,show (i+1)*k+q-k=i*k+q by rw [Nat.succ_mul];omega,ih i (by simpa using h) q hq]
   rfl
structure Rf where
 a:Int
 b:Int
 x:Int
 y:Int
 z:Int
instance:Inhabited Rf:=⟨⟨0,0,0,0,0⟩⟩
def Rf.cells (r:Rf):List Value:=[.int .i64 r.a,.int .i64 r.b,.int .i64 r.x,.int .i64 r.y,.int .i64 r.z]
structure Rf.ok (r:Rf):Prop where
 a:I64 r.a
 b:I64 r.b
structure Ans where
 err:Int
 id:Int
 k:Int
 n:Int
 d:Int
 word:ByteArray
 text:ByteArray
 has:Bool
 rv:Value
 rules:List Rf
 count:Int
abbrev Ans.v (a:Ans):Value:=.agg #[.int .i64 a.err,.int .i64 a.id,.int .i64 a.k,.int .i64 a.n,.int .i64 a.d,.string a.word,.string a.text,.bool a.has,a.rv,.int .i64 a.count]
set_option maxHeartbeats 2000000 in
set_option maxRecDepth 100000 in
theorem uG (w:World) (T:TypeId) (tail:List Value) (b:Nat) (own:Option Nat) (l:List UInt8) (h:Bld w T tail b own l) (h0:l≠[]) :
  Calls Tryz.prog 42 #[.pointer (some ⟨b,0,none⟩)] w fun e w'=>e=.returned (.string ⟨l.toArray⟩)∧Fr w w' b own∧w'.heap[b]?=w.heap[b]?:=by
 obtain ⟨p,sl,hbk,hown,ho,hnl⟩:∃p,EJ w T tail b p own l:=h.elim (fun h=>⟨_,h⟩) (fun h=>⟨_,h⟩)
 have hl0:l.length≠0:=by simpa using h0
 obtain ⟨g,cap,cur,rfl,hbg,hg,hnc,hcm,hcs,htake⟩:∃g cap cur,sl=.slice (some ⟨g,0,none⟩) l.length cap∧b+1≤g∧w.heap[g]?=some (.cells cur 5 (0,0))∧l.length≤cap∧cap≤maxLen∧cur.size=cap*1∧cur.toList.take (l.length*1)=Lib.byteCells l:=by
  rcases hown.2 with ⟨_,hz⟩ | ⟨g,cap,cur,hv,r⟩
  ·exact absurd hz hl0
  ·exact ⟨g,cap,cur,hv,r⟩
 have hbd:w.drew.heap[b]?=some (.cells (p :: .slice (some ⟨g,0,none⟩) l.length cap :: tail).toArray T (0,0)):=hbk
 have c1:w.drew.cell? ⟨b,1,none⟩=some (.slice (some ⟨g,0,none⟩) l.length cap):=by rw [Lib.cell_of_heap hbd];rfl
 have hSD:(Builtin.unsafeSliceData_ #[22] 128 #[.slice (some ⟨g,0,none⟩) l.length cap]).run Tryz.prog w.drew=.ok (.pointer (some ⟨g,0,none⟩)) w.drew :=
  Lib.run_unsafeSliceData_row _ _ _ _ _ _ (by omega)
 have hUS:(Builtin.unsafeString_ #[128,3] 9 #[.pointer (some ⟨g,0,none⟩),.int .i64 l.length]).run Tryz.prog w.drew=.ok (.string ⟨l.toArray⟩) (w.drew.freeze ⟨g,0,none⟩ l.length):=by
  refine Lib.run_unsafeString_row w.drew 128 3 9 5 Xc cells5 g cur.size (by have hg':w.drew.heap[g]?=some (.cells cur 5 (0,0)):=hg;simp [World.shape?,hg']) l h0 (by omega) (by unfold maxLen at hcm;omega) ?_
  intro j x hx
  have:=hown.cells (g:=g) rfl j (.int .u8 x.toNat) (by simp [Lib.byteCells,hx])
  exact this
 have hfz:Fr w (w.drew.freeze ⟨g,0,none⟩ l.length) b own:=by
  have hb:Below g w (w.drew.freeze ⟨g,0,none⟩ l.length):=Lib.below_freeze (Below.drew (Below.refl g w)) (p:=⟨g,0,none⟩) (Nat.le_refl _) _
  refine ⟨hb.os,hb.tape,hb.output,hb.size,fun k hk _ hne => ?_⟩
  have hkg:k≠g:=fun e=>hne (by rw [←ho,e];rfl)
  unfold World.freeze
  split
  ·rfl
  ·simp only [Array.getElem?_modify]
   rw [if_neg (fun e=>hkg e.symm)]
   rfl
 have HF:=Lib.hid hfz
 have HK:Hid ((w.drew.freeze ⟨g,0,none⟩ l.length).heap[b]?=w.heap[b]?):=Lib.hid (by
  unfold World.freeze
  split
  ·rfl
  ·simp only [Array.getElem?_modify]
   rw [if_neg (by omega)]
   rfl)
 clear hbk hown ho hnl hg htake hbd hfz h
 go_enter Tryz.func42,Tryz.ntmps42
 go_wp2
 go_region
 all_goals (go_wp2;go_ret;exact ⟨rfl,HF.out,HK.out⟩)
set_option maxHeartbeats 2000000 in
set_option maxRecDepth 100000 in
theorem uH (w:World) (T:TypeId) (tail:List Value) (b:Nat) (own:Option Nat) (h:Bld w T tail b own []) :
  Calls Tryz.prog 42 #[.pointer (some ⟨b,0,none⟩)] w fun e w'=>e=.returned (.string ⟨#[]⟩)∧Fr w w' b own∧w'.heap[b]?=w.heap[b]?:=by
 obtain ⟨p,sl,hbk,hown,ho,hnl⟩:∃p,EJ w T tail b p own []:=h.elim (fun h=>⟨_,h⟩) (fun h=>⟨_,h⟩)
 obtain rfl:=hnl rfl
 have hbd:w.drew.heap[b]?=some (.cells (p :: .slice none 0 0 :: tail).toArray T (0,0)):=hbk
 have c1:w.drew.cell? ⟨b,1,none⟩=some (.slice none 0 0):=by rw [Lib.cell_of_heap hbd];rfl
 have hSD:(Builtin.unsafeSliceData_ #[22] 128 #[.slice none 0 0]).run Tryz.prog w.drew=.ok (.pointer none) w.drew:=rfl
 have hUS:∀(W:World) (q:Option Addr),(Builtin.unsafeString_ #[128,3] 9 #[.pointer q,.int .i64 0]).run Tryz.prog W=.ok (.string .empty) W:=fun W q=>Lib.run_unsafeString_none W _ _ _ q
 clear hbk hown ho hnl hbd h
 go_enter Tryz.func42,Tryz.ntmps42
 go_wp2
 go_region
 all_goals (go_wp2;go_ret;exact ⟨rfl,(Fr.refl w b own).drew,rfl⟩)
theorem uI (w:World) (T:TypeId) (tail:List Value) (b:Nat) (own:Option Nat) (l:List UInt8) (h:Bld w T tail b own l) :
  Calls Tryz.prog 42 #[.pointer (some ⟨b,0,none⟩)] w fun e w'=>e=.returned (.string ⟨l.toArray⟩)∧Fr w w' b own∧w'.heap[b]?=w.heap[b]?:=by
 cases l with
 | nil=>exact uH w T tail b own h
 | cons x r=>exact uG w T tail b own (x :: r) h (by simp)
theorem Um {w:World} {B:Nat} {cs:Array Value} {t:TypeId} (h:w.heap[B]?=some (.cells cs t (0,0))) (k:Nat) (v:Value) (hk:cs[k]?=some v):w.cell? ⟨B,k,none⟩=some v:=by rw [Lib.cell_of_heap h];exact hk
theorem IW (w:World) (cs:Array Value) :
  ((w.alloc (.cells cs 28)).alloc (.cells #[.pointer none,.slice none 0 0,.bool true] 123)).heap[w.heap.size]?=some (.cells cs 28 (0,0)) ∧
  Wrote ((w.alloc (.cells cs 28)).alloc (.cells #[.pointer none,.slice none 0 0,.bool true] 123)) (w.heap.size+1) none [] true ((w.alloc (.cells cs 28)).alloc (.cells #[.pointer none,.slice none 0 0,.bool true] 123)) ∧
  Below w.heap.size w ((w.alloc (.cells cs 28)).alloc (.cells #[.pointer none,.slice none 0 0,.bool true] 123)):=by
 have h1:=AX w (.cells cs 28)
 have hs:(w.alloc (.cells cs 28)).heap.size=w.heap.size+1:=by simp
 have b1:=AZ w (.cells cs 28)
 generalize w.alloc (.cells cs 28)=w1 at *
 have b2:=AZ w1 (.cells #[.pointer none,.slice none 0 0,.bool true] 123)
 refine ⟨(b2.block _ (by omega)).trans h1,Wrote.refl (QH 123 [.bool true] _ ?_),b1.trans (b2.mono (by omega))⟩
 rw [←hs]
 exact AX _ _
theorem IX {w W1 w':World} {b:Nat} (h:Fr W1 w' b none) (hb:Below w.heap.size w W1) (hw:w.heap.size≤b):Below w.heap.size w w':=hb.trans (Fr.below h hw (fun g hg=>by cases hg) hb.size)
theorem uJ {W1 w:World} {b:Nat} (h:Wrote W1 b none [] true w) (X:List UInt8) (hX:X.length≤1000):Calls Tryz.prog 40 #[.pointer (some ⟨b,0,none⟩),.string (AA X)] w fun e w'=>e=.returned (.tuple #[.int .i64 (AA X).size,.nilIface])∧Wrote W1 b none X true w':=by
 obtain ⟨own,hb,hf,ho⟩:=h
 refine (QI _ 123 [.bool true] b own [] _ UB hb (by rw [Aa];simp;omega)).mono ?_
 rintro e w3 ⟨rfl,Iy,h3,hf3,ho3⟩
 refine ⟨rfl,Wrote.then hf ho (Or.inr ?_) hf3 ho3⟩
 simpa [AA] using h3
theorem ML {W1 w:World} {b:Nat} {l:List UInt8} {ok:Bool} (h:Wrote W1 b none l ok w):Calls Tryz.prog 42 #[.pointer (some ⟨b,0,none⟩)] w fun e w'=>e=.returned (.string (AA l))∧Fr W1 w' b none∧w'.cell? ⟨b,2,none⟩=some (.bool ok):=by
 obtain ⟨own,hb,hf,ho⟩:=h
 have hc:=(GL hb).1
 refine (uI _ 123 _ b own l hb).mono ?_
 rintro e w9 ⟨rfl,hf9,hk9⟩
 refine ⟨rfl,hf.trans hf9 ho,?_⟩
 rw [World.cell?_of_block (w:=w) hk9]
 exact hc
set_option maxRecDepth 100000 in
theorem Oe {B:Nat} {w:World} {v:Value} {l:List UInt8} (h:BK B w v l.length (Lib.byteCells l)):(convert 22 9 v).run Tryz.prog w=.ok (.string (AA l)) w:=by
 obtain ⟨a,cap,rfl,h1,h2,h3⟩:=h
 rcases h3 with ⟨h0,_,h4⟩ | ⟨h0,b,off,rfl,hb,hr⟩
 ·have:l = []:=List.eq_nil_of_length_eq_zero h0
  subst this
  cases a with
  | none =>
   rw [h4 rfl]
   exact Go.run_convert_bytes_back (P:=Tryz.prog) w 22 9 5 ⟨0,0,none⟩ 0 [] Tryz.underlying22 Tryz.underlying5 Tryz.underlying9 (fun j hj=>by cases hj)
  | some a=>exact Go.run_convert_bytes_back (P:=Tryz.prog) w 22 9 5 a cap [] Tryz.underlying22 Tryz.underlying5 Tryz.underlying9 (fun j hj=>by cases hj)
 ·refine Go.run_convert_bytes_back (P:=Tryz.prog) w 22 9 5 ⟨b,off,none⟩ cap l Tryz.underlying22 Tryz.underlying5 Tryz.underlying9 (fun j hj => ?_)
  have:=hr j (.int .u8 l[j].toNat) (by simp [Lib.byteCells,hj])
  rw [Addr.add_mid]
  exact this
theorem uK (c:UInt8):(sp.Bj c).length≤4:=by
 unfold sp.Bj
 repeat' split
 all_goals simp
theorem Oa (l:List UInt8):(sp.DJ l).length≤4*l.length+2:=by
 have h:∀l:List UInt8,(l.flatMap sp.Bj).length≤4*l.length:=by
  intro l
  induction l with
  | nil=>simp
  | cons a l ih =>
   have:=uK a
   rw [List.flatMap_cons,List.length_append,List.length_cons]
   omega
 have:=h l
 unfold sp.DJ
 simp only [List.length_cons,List.length_append,List.length_nil]
 omega
theorem BU:(Tryz.prog.info? 28).map (·.size)=some 18:=by kernel_rfl
def AQ (o:sp.Op) (tv:Value):Array Value:=#[.int .i64 o.kind,.int .i64 o.node,.int .i64 o.at_,.int .i64 o.origin,.string (AA o.name),.string (AA o.word),tv,.int .i64 o.w.1,.int .i64 o.w.2,.int .i64 o.h.1,.int .i64 o.h.2,.int .i64 o.bt,.string (AA o.bn),.int .i64 o.bw.1,.int .i64 o.bw.2,.int .i64 o.bh.1,.int .i64 o.bh.2,.bool o.on]
structure CQ (B:Nat) (w:World) (o:sp.Op) (tv:Value):Prop where
 node:I64 o.node
 at_:I64 o.at_
 origin:I64 o.origin
 name:o.name.length≤1048576
 word:o.word.length≤1048576
 text:o.text.length≤1048576
 row:BK B w tv o.text.length (Lib.byteCells o.text)
 fw:I64 o.w.1∧I64 o.w.2
 fh:I64 o.h.1∧I64 o.h.2
 bn:o.bn.length≤1048576
 bw:I64 o.bw.1∧I64 o.bw.2
 bh:I64 o.bh.1∧I64 o.bh.2
theorem Cm (n:Int):CB n=true↔sp.BN n:=by unfold CB sp.BN;simp
theorem Fh (l:List UInt8):CZ (AA l)=sp.BP l:=by simp [CZ,AA]
theorem Og (l:List UInt8):(AA l).data.toList=l:=by simp [AA]
def Un (o:sp.Op) (s:List UInt8) (ok:Bool):Prop:=(ok=true→sp.AU o=some s)∧(ok=false→sp.AU o=none)
theorem DN {o:sp.Op} {P:Prop} [Decidable P] {S:List UInt8} {ok:Bool} (h:sp.AU o=if P then some S else none) (hb:ok=true↔P):Un o S ok:=by
 constructor
 ·intro e;rw [h,if_pos (hb.1 e)]
 ·intro e;rw [h,if_neg (fun hp=>by rw [hb.2 hp] at e;cases e)]
theorem DZ (r:Int×Int):CP r=true↔sp.BM r.1 r.2:=by
 unfold CP Cj sp.BM
 rw [Bool.or_eq_true]
 exact or_congr (by simp [G9]) (by simp [Gu];exact Iff.rfl)
structure A8 (w:World) (o:sp.Op) (tv:Value) (n:Nat) (l:List UInt8) (ok:Bool) (W:World):Prop where
 op:CQ w.heap.size w o tv
 pw:Pow w
 wr:Wrote ((w.alloc (.cells (AQ o tv) 28)).alloc (.cells #[.pointer none,.slice none 0 0,.bool true] 123)) (w.heap.size+1) none l ok W
 len:l.length≤n
theorem MM (s:List UInt8):(AA s).data.toList=s:=by simp [AA]
section
variable {w W W':World} {o:sp.Op} {tv:Value} {n:Nat} {l:List UInt8} {ok:Bool}
theorem A8.start (h:CQ w.heap.size w o tv) (hp:Pow w):A8 w o tv 0 [] true ((w.alloc (.cells (AQ o tv) 28)).alloc (.cells #[.pointer none,.slice none 0 0,.bool true] 123)):=⟨h,hp,(IW w _).2.1,Nat.le_refl _⟩
theorem A8.blk (h:A8 w o tv n l ok W):W.heap[w.heap.size]?=some (.cells (AQ o tv) 28 (0,0)):=h.wr.keep (IW w _).1 (by omega) (by simp)
theorem A8.cell (h:A8 w o tv n l ok W) (k:Nat) (v:Value) (hk:(AQ o tv)[k]?=some v):W.cell? ⟨w.heap.size,k,none⟩=some v:=Um h.blk k v hk
theorem A8.bel (h:A8 w o tv n l ok W):Below w.heap.size w W:=IX h.wr.choose_spec.2.1 (IW w (AQ o tv)).2.2 (Nat.le_succ _)
theorem A8.pow (h:A8 w o tv n l ok W):∀w',Fr ((w.alloc (.cells (AQ o tv) 28)).alloc (.cells #[.pointer none,.slice none 0 0,.bool true] 123)) w' (w.heap.size+1) none→Pow w':=fun w' f=>h.pw.on (IX f (IW w (AQ o tv)).2.2 (Nat.le_succ _))
theorem A8.on (h:A8 w o tv n l ok W) (hb:Below W.heap.size W W'):A8 w o tv n l ok W':={ h with wr:=h.wr.below hb }
theorem A8.flag (h:A8 w o tv n l ok W):W.cell? ⟨w.heap.size+1,2,none⟩=some (.bool ok):=(GL h.wr.choose_spec.1).1
theorem A8.conv (h:A8 w o tv n l ok W):(convert 22 9 tv).run Tryz.prog W=.ok (.string (AA o.text)) W:=Oe (h.op.row.keep h.bel)
theorem A8.first (h:A8 w o tv 0 [] true W) (X:List UInt8) (hX:X.length≤10):Calls Tryz.prog 40 #[.pointer (some ⟨w.heap.size+1,0,none⟩),.string (AA X)] W fun e w'=>e=.returned (.tuple #[.int .i64 (AA X).size,.nilIface])∧A8 w o tv 10 X true w' :=
 (uJ h.wr X (by omega)).mono fun e w' q=>⟨q.1,h.op,h.pw,q.2,hX⟩
theorem A8.put (h:A8 w o tv n l ok W) (s:List UInt8) (m:Nat) (hs:s.length≤m) (hm:n+m≤100000000):Calls Tryz.prog 77 #[.pointer (some ⟨w.heap.size+1,0,none⟩),.slice (some ⟨W.heap.size,0,none⟩) 1 1] (W.alloc (.cells #[.string (AA s)] 9)) fun e w'=>e=.returned (.tuple #[])∧A8 w o tv (n+1+m) (l++32 :: s) ok w' :=
 (QV _ rfl h.wr (AA s) (by have:=h.len;omega) (by rw [Aa];omega)).mono fun e w' q=>⟨q.1,h.op,h.pw,by have:=q.2;rwa [MM] at this,by have:=h.len;simp;omega⟩
theorem A8.plain (h:A8 w o tv n l ok W) (s:List UInt8) (hs:s.length≤1048576) (hm:n≤100000000):Calls Tryz.prog 79 #[.pointer (some ⟨w.heap.size+1,0,none⟩),.slice (some ⟨W.heap.size,0,none⟩) 1 1] (W.alloc (.cells #[.string (AA s)] 9)) fun e w'=>e=.returned (.tuple #[])∧A8 w o tv (n+1048577) (l++32 :: s) (ok&&sp.BP s) w' :=
 (QW _ rfl h.wr (AA s) (by have:=h.len;omega) (by rw [Aa];omega)).mono fun e w' q=>⟨q.1,h.op,h.pw,by have:=q.2;unfold CZ at this;rwa [MM] at this,by have:=h.len;simp;omega⟩
theorem A8.L8 (h:A8 w o tv n l ok W) (s t:List UInt8) (hs:s.length≤1048576) (ht:t.length≤1048576) (hm:n≤100000000):Calls Tryz.prog 79 #[.pointer (some ⟨w.heap.size+1,0,none⟩),.slice (some ⟨W.heap.size,0,none⟩) 2 2] (W.alloc (.cells #[.string (AA s),.string (AA t)] 9)) fun e w'=>e=.returned (.tuple #[])∧A8 w o tv (n+2097154) (l++32 :: s++32 :: t) (ok&&sp.BP s&&sp.BP t) w' :=
 (rF _ rfl h.wr (AA s) (AA t) (by have:=h.len;omega) (by rw [Aa];omega) (by rw [Aa];omega)).mono fun e w' q=>⟨q.1,h.op,h.pw,by have:=q.2;unfold CZ at this;rwa [MM,MM] at this,by have:=h.len;simp;omega⟩
theorem GM {x:Int} (hx:I64 x):(Lib.itoa x).length≤21:=by have:=IL hx;rwa [Aa] at this
theorem A8.num (h:A8 w o tv n l ok W) (x:Int) (hx:I64 x) (hm:n≤100000000):Calls Tryz.prog 76 #[.pointer (some ⟨w.heap.size+1,0,none⟩),.slice (some ⟨W.heap.size,0,none⟩) 1 1] (W.alloc (.cells #[.int .i64 x] 3)) fun e w'=>e=.returned (.tuple #[])∧A8 w o tv (n+22) (l++32 :: Lib.itoa x) (ok&&CB x) w' :=
 (KP _ rfl h.wr x hx (by have:=h.len;omega) h.pow).mono fun e w' q=>⟨q.1,h.op,h.pw,q.2,by have:=h.len;have:=GM hx;simp;omega⟩
theorem A8.uM (h:A8 w o tv n l ok W) (x y:Int) (hx:I64 x) (hy:I64 y) (hm:n≤100000000):Calls Tryz.prog 76 #[.pointer (some ⟨w.heap.size+1,0,none⟩),.slice (some ⟨W.heap.size,0,none⟩) 2 2] (W.alloc (.cells #[.int .i64 x,.int .i64 y] 3)) fun e w'=>e=.returned (.tuple #[])∧A8 w o tv (n+44) (l++32 :: Lib.itoa x++32 :: Lib.itoa y) (ok&&CB x&&CB y) w' :=
 (rG _ rfl h.wr x y hx hy (by have:=h.len;omega) h.pow).mono fun e w' q=>⟨q.1,h.op,h.pw,q.2,by have:=h.len;have:=GM hx;have:=GM hy;simp;omega⟩
theorem A8.rat (h:A8 w o tv n l ok W) (r:Int×Int) (hr:I64 r.1∧I64 r.2) (hm:n≤100000000):Calls Tryz.prog 78 #[.pointer (some ⟨w.heap.size+1,0,none⟩),.slice (some ⟨W.heap.size,0,none⟩) 1 1] (W.alloc (.cells #[.int .i64 r.1,.int .i64 r.2] 24)) fun e w'=>e=.returned (.tuple #[])∧A8 w o tv (n+44) (l++32 :: sp.AP r.1 r.2) (ok&&CP r) w' :=
 (rH _ rfl h.wr r hr (by have:=h.len;omega)).mono fun e w' q=>⟨q.1,h.op,h.pw,q.2,by have:=h.len;have:=ET hr;simp;omega⟩
theorem A8.uN (h:A8 w o tv n l ok W) (r q:Int×Int) (hr:I64 r.1∧I64 r.2) (hq:I64 q.1∧I64 q.2) (hm:n≤100000000):Calls Tryz.prog 78 #[.pointer (some ⟨w.heap.size+1,0,none⟩),.slice (some ⟨W.heap.size,0,none⟩) 2 2] (W.alloc (.cells #[.int .i64 r.1,.int .i64 r.2,.int .i64 q.1,.int .i64 q.2] 24)) fun e w'=>e=.returned (.tuple #[])∧A8 w o tv (n+88) (l++32 :: sp.AP r.1 r.2++32 :: sp.AP q.1 q.2) (ok&&CP r&&CP q) w' :=
 (QX _ rfl h.wr r q hr hq (by have:=h.len;omega)).mono fun e w' x=>⟨x.1,h.op,h.pw,x.2,by have:=h.len;have:=ET hr;have:=ET hq;simp;omega⟩
theorem Yd (s:List UInt8) (hs:s.length≤1048576) (w:World):Calls Tryz.prog 36 #[.string (AA s)] w fun e w'=>e=.returned (.string (AA (sp.DJ s)))∧Below w.heap.size w w' :=
 (pK (AA s) w (by rw [Aa];omega)).mono fun e w' q=>⟨by have:=q.1;rwa [MM] at this,q.2⟩
theorem MN {s:List UInt8} (hs:s.length≤1048576):(sp.DJ s).length≤4194306:=by have:=Oa s;omega
def FO (w:World) (o:sp.Op) (e:Ending) (w':World):Prop:=∃s ok,e=.returned (.tuple #[.string (AA s),.bool ok])∧Un o s ok∧s.length≤20000000∧Below w.heap.size w w'
end
section
variable {P:Program} {md:Region.Mode} {ops:Array Oper} {Q:Exit→Act→World→Prop} {S:World→Prop}
theorem tk {oi:Oper} {fuel:Nat} {listed:Array Bool} {a:Act} {w:World} (i:Nat) (v:Value) (hi:ops[i]?=some oi) (hS:S w) (hy:∀s,S s→(execOp a.eval oi).run P s=.ok (.value v) s)
  (h:wpAnyH P md ops Q S fuel (listed.setIfInBounds i true) (a.put oi.dst v) w) (h1:Region.noSelect ops=true:=by kernel_rfl) (h2:Region.free md ops listed i=true:=by kernel_rfl) (h3:(Region.ready md ops listed).contains i=true:=by kernel_rfl)
  (h4:Region.wanted oi (yielded ops a.tmps)=true:=by kernel_rfl) (hQ:∀c a w,Q (.panic c) (a.put oi.dst v) w→Q (.panic c) a w:=by exact fun _ _ _ h=>h):wpAnyH P md ops Q S (fuel+1) listed a w :=
 wpAnyH_take hi h1 h2 h3 hQ (Or.inl ⟨h4,hy⟩) hS h
theorem tp {oi:Oper} {fuel:Nat} {listed:Array Bool} {a:Act} {w:World} (i:Nat) (v:Value) (hS:S w)
  (h:wpAnyH P md ops Q S fuel (listed.setIfInBounds i true) (a.put oi.dst v) w) (hi:ops[i]?=some oi:=by rfl) (hy:∀s,S s→(execOp a.eval oi).run P s=.ok (.value v) s:=by (intro s hs;go_simp)) (h1:Region.noSelect ops=true:=by kernel_rfl) (h2:Region.free md ops listed i=true:=by kernel_rfl) (h3:(Region.ready md ops listed).contains i=true:=by kernel_rfl)
  (h4:Region.wanted oi (yielded ops a.tmps)=true:=by kernel_rfl) (hQ:∀c a w,Q (.panic c) (a.put oi.dst v) w→Q (.panic c) a w:=by exact fun _ _ _ h=>h):wpAnyH P md ops Q S (fuel+1) listed a w :=
 wpAnyH_take hi h1 h2 h3 hQ (Or.inl ⟨h4,hy⟩) hS h
theorem AY {o:Oper} {fuel:Nat} {listed:Array Bool} {a:Act} {w:World} (i:Nat) (ho:ops[i]?=some o)
  (h:∀K':Act→World→Prop,Shut (∀a w,S w→(S w→wpAnyH P md ops Q S fuel (listed.setIfInBounds i true) a w)→K' a w)→Oper.wp P o a w K' Q)
  (hr:Region.ready md ops listed = [i]:=by kernel_rfl) (hw:Region.wanted o (yielded ops a.tmps)=true:=by kernel_rfl):wpAnyH P md ops Q S (fuel+1) listed a w :=
 wpAnyH_ready hr (by simp) (AllReadyH.cons ho (fun K hK=>by rw [if_pos hw];exact h K hK) AllReadyH.nil)
end
section
variable {o:sp.Op} {tv:Value} {w:World}
theorem kd {k:Int} (h:o.kind=k):(AQ o tv)[0]?=some (.int .i64 k):=by rw [←h];rfl
theorem Oh (k:Int):(Gg k).length≤10:=by
 unfold Gg
 split
 ·rename_i p h
  exact (by decide:∀p∈Ce,p.1.length≤10) p (List.mem_of_find?_eq_some h)
 ·exact Nat.zero_le _
theorem A8.cs {W:World} {n:Nat} {l:List UInt8} {ok:Bool} (h:A8 w o tv n l ok W):W.cell? ⟨w.heap.size,1,none⟩=some (.int .i64 o.node)∧W.cell? ⟨w.heap.size,2,none⟩=some (.int .i64 o.at_)∧W.cell? ⟨w.heap.size,3,none⟩=some (.int .i64 o.origin)∧W.cell? ⟨w.heap.size,4,none⟩=some (.string (AA o.name))∧W.cell? ⟨w.heap.size,5,none⟩=some (.string (AA o.word))∧W.cell? ⟨w.heap.size,6,none⟩=some tv∧W.cell? ⟨w.heap.size,7,none⟩=some (.int .i64 o.w.1)∧W.cell? ⟨w.heap.size,8,none⟩=some (.int .i64 o.w.2)∧W.cell? ⟨w.heap.size,9,none⟩=some (.int .i64 o.h.1)∧W.cell? ⟨w.heap.size,10,none⟩=some (.int .i64 o.h.2)∧W.cell? ⟨w.heap.size,17,none⟩=some (.bool o.on)∧(convert 22 9 tv).run Tryz.prog W=.ok (.string (AA o.text)) W :=
 ⟨h.cell 1 _ rfl,h.cell 2 _ rfl,h.cell 3 _ rfl,h.cell 4 _ rfl,h.cell 5 _ rfl,h.cell 6 _ rfl,h.cell 7 _ rfl,h.cell 8 _ rfl,h.cell 9 _ rfl,h.cell 10 _ rfl,h.cell 17 _ rfl,h.conv⟩
theorem A8.gen {W:World} {n:Nat} {l:List UInt8} {ok:Bool} (h:A8 w o tv n l ok W):∃l' ok' m,l'=l∧ok'=ok∧m≤20000000∧(n≤20000000→A8 w o tv m l' ok' W) :=
 if e:n≤20000000 then ⟨_,_,_,rfl,rfl,e,fun _=>h⟩ else ⟨_,_,_,rfl,rfl,Nat.zero_le _,fun x=>absurd x e⟩
set_option maxRecDepth 100000 in
set_option maxHeartbeats 16000000 in
theorem q0 (h:CQ w.heap.size w o tv) (hp:Pow w) (hk:o.kind=1∧Hid True∨o.kind=2∧Hid True∨o.kind=3∧Hid True):Calls Tryz.prog 39 #[.agg (AQ o tv)] w (FO w o):=by
 rcases hk with ⟨hk,mq⟩ | ⟨hk,mR⟩ | ⟨hk,mr⟩
 all_goals
  have H0:=Lib.hid (A8.start h hp)
  have c0:=H0.out.cell 0 _ (kd hk)
  have HK:=Lib.hid hk;have HO:=Lib.hid h
  clear h hp hk
  go_enter Tryz.func39,Tryz.ntmps39
  go_wp2
  generalize ((w.alloc (.cells (AQ o tv) 28)).alloc (.cells #[.pointer none,.slice none 0 0,.bool true] 123))=W1 at H0 c0 ⊢
  refine wp_region_held_drew (S:=fun s=>s.cell? ⟨w.heap.size,0,none⟩=some (.int .i64 _)) (by kernel_rfl) c0 (fun hHeld => ?_)
  refine tp 0 (.pointer (some ⟨w.heap.size+1,0,none⟩)) hHeld ?_
  refine tp 1 (.pointer (some ⟨w.heap.size+1,0,none⟩)) hHeld ?_
  refine tp 2 (.pointer (some ⟨w.heap.size+1,0,none⟩)) hHeld ?_
  refine tp 3 (.pointer (some ⟨w.heap.size,0,none⟩)) hHeld ?_
  refine tk 4 _ rfl hHeld (fun s hs=>by have e:=hs;go_simp;rfl) ?_
  refine AY 5 rfl fun K hK => ?_
  clear c0
  go_simp
  refine (first_any _ _).mono ?_
  rintro e w2 ⟨rfl,hb2⟩
  have H1:=Lib.hid ((H0.out.on (Below.refl _ _).drew).on hb2)
  refine hK.out _ _ (H1.out.cell 0 _ (kd HK.out)) (fun hHeld => ?_)
  clear hK hb2
  refine AY 6 rfl fun K hK => ?_
  go_simp
  refine (H1.out.first _ (Oh _)).mono ?_
  rintro e w3 ⟨rfl,h3⟩
  have H:=Lib.hid h3
  have c0:=H.out.cell 0 _ (kd HK.out)
  refine hK.out _ _ c0 (fun hHeld => ?_)
  clear hK hHeld h3
  refine wpAnyH_done (by kernel_rfl) ?_ _
  go_simp
  obtain ⟨c1,c2,c3,c4,c5,c6,c7,c8,c9,c10,c17,cv⟩:=H.out.cs
  go_wp2_with (first
   | (have gd:=mq;clear gd;go_at_call 76;refine Calls.mono (H.out.num _ (by first | exact HO.out.node | exact HO.out.origin) (by decide)) ?_;rintro e v ⟨rfl,h⟩;have N:=Lib.hid h;clear c1 c2 c3 c4 c5 c6 c7 c8 c9 c10 c17 cv;clear H h;have H:=N;clear N;obtain ⟨c1,c2,c3,c4,c5,c6,c7,c8,c9,c10,c17,cv⟩:=H.out.cs)
   | (have gd:=mr;clear gd;go_at_call 78;refine Calls.mono (H.out.rat o.w HO.out.fw (by decide)) ?_;rintro e v ⟨rfl,h⟩;have N:=Lib.hid h;clear c1 c2 c3 c4 c5 c6 c7 c8 c9 c10 c17 cv;clear H h;have H:=N;clear N;obtain ⟨c1,c2,c3,c4,c5,c6,c7,c8,c9,c10,c17,cv⟩:=H.out.cs)
   | (have gd:=mR;clear gd;go_at_call 78;refine Calls.mono (H.out.uN o.w o.h HO.out.fw HO.out.fh (by decide)) ?_;rintro e v ⟨rfl,h⟩;have N:=Lib.hid h;clear c1 c2 c3 c4 c5 c6 c7 c8 c9 c10 c17 cv;clear H h;have H:=N;clear N;obtain ⟨c1,c2,c3,c4,c5,c6,c7,c8,c9,c10,c17,cv⟩:=H.out.cs)
   | (have gd:=mq;clear gd;go_at_call 79;refine Calls.mono (H.out.plain _ HO.out.name (by decide)) ?_;rintro e v ⟨rfl,h⟩;have N:=Lib.hid h;clear c1 c2 c3 c4 c5 c6 c7 c8 c9 c10 c17 cv;clear H h;have H:=N;clear N;obtain ⟨c1,c2,c3,c4,c5,c6,c7,c8,c9,c10,c17,cv⟩:=H.out.cs)
   | (have gd:=mq;clear gd;go_at_call 36;refine Calls.mono (Yd _ (by first | exact HO.out.text | exact HO.out.word) _) ?_;rintro e v ⟨rfl,h⟩;have N:=Lib.hid (H.out.on h);clear c1 c2 c3 c4 c5 c6 c7 c8 c9 c10 c17 cv;clear H h;have H:=N;clear N;obtain ⟨c1,c2,c3,c4,c5,c6,c7,c8,c9,c10,c17,cv⟩:=H.out.cs)
   | (have gd:=mq;clear gd;go_at_call 77;refine Calls.mono (H.out.put (sp.DJ _) 4194306 (MN (by first | exact HO.out.text | exact HO.out.word)) (by decide)) ?_;rintro e v ⟨rfl,h⟩;have N:=Lib.hid h;clear c1 c2 c3 c4 c5 c6 c7 c8 c9 c10 c17 cv;clear H h;have H:=N;clear N;obtain ⟨c1,c2,c3,c4,c5,c6,c7,c8,c9,c10,c17,cv⟩:=H.out.cs))
  obtain ⟨S,OK,m,eS,eO,hm,h⟩:=H.out.gen
  have G:=Lib.hid (h (by decide))
  have ES:=Lib.hid eS;have EO:=Lib.hid eO;have HM:=Lib.hid hm
  clear c1 c2 c3 c4 c5 c6 c7 c8 c9 c10 c17 cv
  clear h eS eO hm H
  have c2:=G.out.flag
  refine wp_region_held_drew (S:=fun s=>s.cell? ⟨w.heap.size+1,2,none⟩=some (.bool OK)) (by kernel_rfl) c2 (fun hHeld => ?_)
  refine tp 0 (.pointer (some ⟨w.heap.size+1,0,none⟩)) hHeld ?_
  refine tp 1 (.pointer (some ⟨w.heap.size+1,0,none⟩)) hHeld ?_
  refine tp 2 (.pointer (some ⟨w.heap.size+1,0,none⟩)) hHeld ?_
  refine tp 4 (.pointer (some ⟨w.heap.size+1,0,none⟩)) hHeld ?_
  refine tp 5 (.pointer (some ⟨w.heap.size+1,0,none⟩)) hHeld ?_
  refine tp 6 (.pointer (some ⟨w.heap.size+1,2,none⟩)) hHeld ?_
  refine tk 7 (.bool OK) rfl hHeld (fun s hs=>by have e:=hs;go_simp) ?_
  refine AY 3 rfl fun K hK => ?_
  clear c2
  go_simp
  refine (ML (G.out.wr.below (Below.refl _ _).drew)).mono ?_
  rintro e w9 ⟨rfl,hf9,c2⟩
  have HB:=Lib.hid (IX hf9 (IW w (AQ o tv)).2.2 (Nat.le_succ _))
  refine hK.out _ _ c2 (fun hHeld => ?_)
  clear hK hf9
  refine tp 8 (.string (AA S)) hHeld ?_
  refine tp 9 (.bool OK) hHeld ?_
  refine wpAnyH_done (by kernel_rfl) ?_ _
  clear hHeld
  go_wp2
  go_ret2
  refine ⟨S,OK,rfl,?_,Nat.le_trans G.out.len HM.out,HB.out⟩
  rw [ES.out,EO.out]
  clear ES EO G HB HM
 ·exact DN (P:=sp.BN o.origin) (by unfold sp.AU;rw [HK.out];rfl) (by simp [Cm,DZ,and_assoc])
 ·exact DN (P:=sp.BM o.w.1 o.w.2∧sp.BM o.h.1 o.h.2) (by unfold sp.AU;rw [HK.out];rfl) (by simp [Cm,DZ,and_assoc])
 ·exact DN (P:=sp.BM o.w.1 o.w.2) (by unfold sp.AU;rw [HK.out];rfl) (by simp [Cm,DZ,and_assoc])
set_option maxRecDepth 100000 in
set_option maxHeartbeats 16000000 in
theorem q1 (h:CQ w.heap.size w o tv) (hp:Pow w) (hk:o.kind=13∧Hid True∨o.kind=4∧Hid True∨o.kind=5∧Hid True):Calls Tryz.prog 39 #[.agg (AQ o tv)] w (FO w o):=by
 rcases hk with ⟨hk,mr⟩ | ⟨hk,m4⟩ | ⟨hk,m5⟩
 all_goals
  have H0:=Lib.hid (A8.start h hp)
  have c0:=H0.out.cell 0 _ (kd hk)
  have HK:=Lib.hid hk;have HO:=Lib.hid h
  clear h hp hk
  go_enter Tryz.func39,Tryz.ntmps39
  go_wp2
  generalize ((w.alloc (.cells (AQ o tv) 28)).alloc (.cells #[.pointer none,.slice none 0 0,.bool true] 123))=W1 at H0 c0 ⊢
  refine wp_region_held_drew (S:=fun s=>s.cell? ⟨w.heap.size,0,none⟩=some (.int .i64 _)) (by kernel_rfl) c0 (fun hHeld => ?_)
  refine tp 0 (.pointer (some ⟨w.heap.size+1,0,none⟩)) hHeld ?_
  refine tp 1 (.pointer (some ⟨w.heap.size+1,0,none⟩)) hHeld ?_
  refine tp 2 (.pointer (some ⟨w.heap.size+1,0,none⟩)) hHeld ?_
  refine tp 3 (.pointer (some ⟨w.heap.size,0,none⟩)) hHeld ?_
  refine tk 4 _ rfl hHeld (fun s hs=>by have e:=hs;go_simp;rfl) ?_
  refine AY 5 rfl fun K hK => ?_
  clear c0
  go_simp
  refine (first_any _ _).mono ?_
  rintro e w2 ⟨rfl,hb2⟩
  have H1:=Lib.hid ((H0.out.on (Below.refl _ _).drew).on hb2)
  refine hK.out _ _ (H1.out.cell 0 _ (kd HK.out)) (fun hHeld => ?_)
  clear hK hb2
  refine AY 6 rfl fun K hK => ?_
  go_simp
  refine (H1.out.first _ (Oh _)).mono ?_
  rintro e w3 ⟨rfl,h3⟩
  have H:=Lib.hid h3
  have c0:=H.out.cell 0 _ (kd HK.out)
  refine hK.out _ _ c0 (fun hHeld => ?_)
  clear hK hHeld h3
  refine wpAnyH_done (by kernel_rfl) ?_ _
  go_simp
  obtain ⟨c1,c2,c3,c4,c5,c6,c7,c8,c9,c10,c17,cv⟩:=H.out.cs
  go_wp2_with (first
   | (have gd:=m5;clear gd;go_at_call 76;refine Calls.mono (H.out.uM _ _ HO.out.node HO.out.at_ (by decide)) ?_;rintro e v ⟨rfl,h⟩;have N:=Lib.hid h;clear c1 c2 c3 c4 c5 c6 c7 c8 c9 c10 c17 cv;clear H h;have H:=N;clear N;obtain ⟨c1,c2,c3,c4,c5,c6,c7,c8,c9,c10,c17,cv⟩:=H.out.cs)
   | (have gd:=mr;clear gd;go_at_call 78;refine Calls.mono (H.out.rat o.w HO.out.fw (by decide)) ?_;rintro e v ⟨rfl,h⟩;have N:=Lib.hid h;clear c1 c2 c3 c4 c5 c6 c7 c8 c9 c10 c17 cv;clear H h;have H:=N;clear N;obtain ⟨c1,c2,c3,c4,c5,c6,c7,c8,c9,c10,c17,cv⟩:=H.out.cs)
   | (have gd:=m5;clear gd;go_at_call 79;refine Calls.mono (H.out.plain _ HO.out.name (by decide)) ?_;rintro e v ⟨rfl,h⟩;have N:=Lib.hid h;clear c1 c2 c3 c4 c5 c6 c7 c8 c9 c10 c17 cv;clear H h;have H:=N;clear N;obtain ⟨c1,c2,c3,c4,c5,c6,c7,c8,c9,c10,c17,cv⟩:=H.out.cs)
   | (have gd:=m4;clear gd;go_at_call 79;refine Calls.mono (H.out.L8 _ _ HO.out.name HO.out.word (by decide)) ?_;rintro e v ⟨rfl,h⟩;have N:=Lib.hid h;clear c1 c2 c3 c4 c5 c6 c7 c8 c9 c10 c17 cv;clear H h;have H:=N;clear N;obtain ⟨c1,c2,c3,c4,c5,c6,c7,c8,c9,c10,c17,cv⟩:=H.out.cs))
  obtain ⟨S,OK,m,eS,eO,hm,h⟩:=H.out.gen
  have G:=Lib.hid (h (by decide))
  have ES:=Lib.hid eS;have EO:=Lib.hid eO;have HM:=Lib.hid hm
  clear c1 c2 c3 c4 c5 c6 c7 c8 c9 c10 c17 cv
  clear h eS eO hm H
  have c2:=G.out.flag
  refine wp_region_held_drew (S:=fun s=>s.cell? ⟨w.heap.size+1,2,none⟩=some (.bool OK)) (by kernel_rfl) c2 (fun hHeld => ?_)
  refine tp 0 (.pointer (some ⟨w.heap.size+1,0,none⟩)) hHeld ?_
  refine tp 1 (.pointer (some ⟨w.heap.size+1,0,none⟩)) hHeld ?_
  refine tp 2 (.pointer (some ⟨w.heap.size+1,0,none⟩)) hHeld ?_
  refine tp 4 (.pointer (some ⟨w.heap.size+1,0,none⟩)) hHeld ?_
  refine tp 5 (.pointer (some ⟨w.heap.size+1,0,none⟩)) hHeld ?_
  refine tp 6 (.pointer (some ⟨w.heap.size+1,2,none⟩)) hHeld ?_
  refine tk 7 (.bool OK) rfl hHeld (fun s hs=>by have e:=hs;go_simp) ?_
  refine AY 3 rfl fun K hK => ?_
  clear c2
  go_simp
  refine (ML (G.out.wr.below (Below.refl _ _).drew)).mono ?_
  rintro e w9 ⟨rfl,hf9,c2⟩
  have HB:=Lib.hid (IX hf9 (IW w (AQ o tv)).2.2 (Nat.le_succ _))
  refine hK.out _ _ c2 (fun hHeld => ?_)
  clear hK hf9
  refine tp 8 (.string (AA S)) hHeld ?_
  refine tp 9 (.bool OK) hHeld ?_
  refine wpAnyH_done (by kernel_rfl) ?_ _
  clear hHeld
  go_wp2
  go_ret2
  refine ⟨S,OK,rfl,?_,Nat.le_trans G.out.len HM.out,HB.out⟩
  rw [ES.out,EO.out]
  clear ES EO G HB HM
 ·exact DN (P:=sp.BM o.w.1 o.w.2) (by unfold sp.AU;rw [HK.out];rfl) (by simp [Cm,DZ,and_assoc])
 ·exact DN (P:=sp.BP o.name∧sp.BP o.word) (by unfold sp.AU;rw [HK.out];rfl) (by simp [Cm,DZ,and_assoc])
 ·exact DN (P:=sp.BN o.node∧sp.BN o.at_∧sp.BP o.name) (by unfold sp.AU;rw [HK.out];rfl) (by simp [Cm,DZ,and_assoc])
set_option maxRecDepth 100000 in
set_option maxHeartbeats 16000000 in
theorem q2 (h:CQ w.heap.size w o tv) (hp:Pow w) (hk:o.kind=6∧Hid True∨o.kind=12∧Hid True∨o.kind=8∧Hid True):Calls Tryz.prog 39 #[.agg (AQ o tv)] w (FO w o):=by
 rcases hk with ⟨hk,mn⟩ | ⟨hk,mn⟩ | ⟨hk,mn⟩
 all_goals
  have H0:=Lib.hid (A8.start h hp)
  have c0:=H0.out.cell 0 _ (kd hk)
  have HK:=Lib.hid hk;have HO:=Lib.hid h
  clear h hp hk
  go_enter Tryz.func39,Tryz.ntmps39
  go_wp2
  generalize ((w.alloc (.cells (AQ o tv) 28)).alloc (.cells #[.pointer none,.slice none 0 0,.bool true] 123))=W1 at H0 c0 ⊢
  refine wp_region_held_drew (S:=fun s=>s.cell? ⟨w.heap.size,0,none⟩=some (.int .i64 _)) (by kernel_rfl) c0 (fun hHeld => ?_)
  refine tp 0 (.pointer (some ⟨w.heap.size+1,0,none⟩)) hHeld ?_
  refine tp 1 (.pointer (some ⟨w.heap.size+1,0,none⟩)) hHeld ?_
  refine tp 2 (.pointer (some ⟨w.heap.size+1,0,none⟩)) hHeld ?_
  refine tp 3 (.pointer (some ⟨w.heap.size,0,none⟩)) hHeld ?_
  refine tk 4 _ rfl hHeld (fun s hs=>by have e:=hs;go_simp;rfl) ?_
  refine AY 5 rfl fun K hK => ?_
  clear c0
  go_simp
  refine (first_any _ _).mono ?_
  rintro e w2 ⟨rfl,hb2⟩
  have H1:=Lib.hid ((H0.out.on (Below.refl _ _).drew).on hb2)
  refine hK.out _ _ (H1.out.cell 0 _ (kd HK.out)) (fun hHeld => ?_)
  clear hK hb2
  refine AY 6 rfl fun K hK => ?_
  go_simp
  refine (H1.out.first _ (Oh _)).mono ?_
  rintro e w3 ⟨rfl,h3⟩
  have H:=Lib.hid h3
  have c0:=H.out.cell 0 _ (kd HK.out)
  refine hK.out _ _ c0 (fun hHeld => ?_)
  clear hK hHeld h3
  refine wpAnyH_done (by kernel_rfl) ?_ _
  go_simp
  obtain ⟨c1,c2,c3,c4,c5,c6,c7,c8,c9,c10,c17,cv⟩:=H.out.cs
  go_wp2_with (first
   | (have gd:=mn;clear gd;go_at_call 76;refine Calls.mono (H.out.num _ (by first | exact HO.out.node | exact HO.out.origin) (by decide)) ?_;rintro e v ⟨rfl,h⟩;have N:=Lib.hid h;clear c1 c2 c3 c4 c5 c6 c7 c8 c9 c10 c17 cv;clear H h;have H:=N;clear N;obtain ⟨c1,c2,c3,c4,c5,c6,c7,c8,c9,c10,c17,cv⟩:=H.out.cs)
   | (have gd:=mn;clear gd;go_at_call 79;refine Calls.mono (H.out.plain _ HO.out.name (by decide)) ?_;rintro e v ⟨rfl,h⟩;have N:=Lib.hid h;clear c1 c2 c3 c4 c5 c6 c7 c8 c9 c10 c17 cv;clear H h;have H:=N;clear N;obtain ⟨c1,c2,c3,c4,c5,c6,c7,c8,c9,c10,c17,cv⟩:=H.out.cs))
  obtain ⟨S,OK,m,eS,eO,hm,h⟩:=H.out.gen
  have G:=Lib.hid (h (by decide))
  have ES:=Lib.hid eS;have EO:=Lib.hid eO;have HM:=Lib.hid hm
  clear c1 c2 c3 c4 c5 c6 c7 c8 c9 c10 c17 cv
  clear h eS eO hm H
  have c2:=G.out.flag
  refine wp_region_held_drew (S:=fun s=>s.cell? ⟨w.heap.size+1,2,none⟩=some (.bool OK)) (by kernel_rfl) c2 (fun hHeld => ?_)
  refine tp 0 (.pointer (some ⟨w.heap.size+1,0,none⟩)) hHeld ?_
  refine tp 1 (.pointer (some ⟨w.heap.size+1,0,none⟩)) hHeld ?_
  refine tp 2 (.pointer (some ⟨w.heap.size+1,0,none⟩)) hHeld ?_
  refine tp 4 (.pointer (some ⟨w.heap.size+1,0,none⟩)) hHeld ?_
  refine tp 5 (.pointer (some ⟨w.heap.size+1,0,none⟩)) hHeld ?_
  refine tp 6 (.pointer (some ⟨w.heap.size+1,2,none⟩)) hHeld ?_
  refine tk 7 (.bool OK) rfl hHeld (fun s hs=>by have e:=hs;go_simp) ?_
  refine AY 3 rfl fun K hK => ?_
  clear c2
  go_simp
  refine (ML (G.out.wr.below (Below.refl _ _).drew)).mono ?_
  rintro e w9 ⟨rfl,hf9,c2⟩
  have HB:=Lib.hid (IX hf9 (IW w (AQ o tv)).2.2 (Nat.le_succ _))
  refine hK.out _ _ c2 (fun hHeld => ?_)
  clear hK hf9
  refine tp 8 (.string (AA S)) hHeld ?_
  refine tp 9 (.bool OK) hHeld ?_
  refine wpAnyH_done (by kernel_rfl) ?_ _
  clear hHeld
  go_wp2
  go_ret2
  refine ⟨S,OK,rfl,?_,Nat.le_trans G.out.len HM.out,HB.out⟩
  rw [ES.out,EO.out]
  clear ES EO G HB HM
 ·exact DN (P:=sp.BN o.node) (by unfold sp.AU;rw [HK.out];rfl) (by simp [Cm,DZ,and_assoc])
 ·exact DN (P:=sp.BN o.node) (by unfold sp.AU;rw [HK.out];rfl) (by simp [Cm,DZ,and_assoc])
 ·exact DN (P:=sp.BN o.node∧sp.BP o.name) (by unfold sp.AU;rw [HK.out];rfl) (by simp [Cm,DZ,and_assoc])
set_option maxRecDepth 100000 in
set_option maxHeartbeats 16000000 in
theorem q3 (h:CQ w.heap.size w o tv) (hp:Pow w) (hk:o.kind=10∧Hid True∨o.kind=11∧Hid True∨o.kind=15∧Hid True):Calls Tryz.prog 39 #[.agg (AQ o tv)] w (FO w o):=by
 rcases hk with ⟨hk,mn⟩ | ⟨hk,mn⟩ | ⟨hk,mn⟩
 all_goals
  have H0:=Lib.hid (A8.start h hp)
  have c0:=H0.out.cell 0 _ (kd hk)
  have HK:=Lib.hid hk;have HO:=Lib.hid h
  clear h hp hk
  go_enter Tryz.func39,Tryz.ntmps39
  go_wp2
  generalize ((w.alloc (.cells (AQ o tv) 28)).alloc (.cells #[.pointer none,.slice none 0 0,.bool true] 123))=W1 at H0 c0 ⊢
  refine wp_region_held_drew (S:=fun s=>s.cell? ⟨w.heap.size,0,none⟩=some (.int .i64 _)) (by kernel_rfl) c0 (fun hHeld => ?_)
  refine tp 0 (.pointer (some ⟨w.heap.size+1,0,none⟩)) hHeld ?_
  refine tp 1 (.pointer (some ⟨w.heap.size+1,0,none⟩)) hHeld ?_
  refine tp 2 (.pointer (some ⟨w.heap.size+1,0,none⟩)) hHeld ?_
  refine tp 3 (.pointer (some ⟨w.heap.size,0,none⟩)) hHeld ?_
  refine tk 4 _ rfl hHeld (fun s hs=>by have e:=hs;go_simp;rfl) ?_
  refine AY 5 rfl fun K hK => ?_
  clear c0
  go_simp
  refine (first_any _ _).mono ?_
  rintro e w2 ⟨rfl,hb2⟩
  have H1:=Lib.hid ((H0.out.on (Below.refl _ _).drew).on hb2)
  refine hK.out _ _ (H1.out.cell 0 _ (kd HK.out)) (fun hHeld => ?_)
  clear hK hb2
  refine AY 6 rfl fun K hK => ?_
  go_simp
  refine (H1.out.first _ (Oh _)).mono ?_
  rintro e w3 ⟨rfl,h3⟩
  have H:=Lib.hid h3
  have c0:=H.out.cell 0 _ (kd HK.out)
  refine hK.out _ _ c0 (fun hHeld => ?_)
  clear hK hHeld h3
  refine wpAnyH_done (by kernel_rfl) ?_ _
  go_simp
  obtain ⟨c1,c2,c3,c4,c5,c6,c7,c8,c9,c10,c17,cv⟩:=H.out.cs
  go_wp2_with (first
   | (have gd:=mn;clear gd;go_at_call 76;refine Calls.mono (H.out.num _ (by first | exact HO.out.node | exact HO.out.origin) (by decide)) ?_;rintro e v ⟨rfl,h⟩;have N:=Lib.hid h;clear c1 c2 c3 c4 c5 c6 c7 c8 c9 c10 c17 cv;clear H h;have H:=N;clear N;obtain ⟨c1,c2,c3,c4,c5,c6,c7,c8,c9,c10,c17,cv⟩:=H.out.cs)
   | (have gd:=mn;clear gd;go_at_call 79;refine Calls.mono (H.out.plain _ HO.out.name (by decide)) ?_;rintro e v ⟨rfl,h⟩;have N:=Lib.hid h;clear c1 c2 c3 c4 c5 c6 c7 c8 c9 c10 c17 cv;clear H h;have H:=N;clear N;obtain ⟨c1,c2,c3,c4,c5,c6,c7,c8,c9,c10,c17,cv⟩:=H.out.cs))
  obtain ⟨S,OK,m,eS,eO,hm,h⟩:=H.out.gen
  have G:=Lib.hid (h (by decide))
  have ES:=Lib.hid eS;have EO:=Lib.hid eO;have HM:=Lib.hid hm
  clear c1 c2 c3 c4 c5 c6 c7 c8 c9 c10 c17 cv
  clear h eS eO hm H
  have c2:=G.out.flag
  refine wp_region_held_drew (S:=fun s=>s.cell? ⟨w.heap.size+1,2,none⟩=some (.bool OK)) (by kernel_rfl) c2 (fun hHeld => ?_)
  refine tp 0 (.pointer (some ⟨w.heap.size+1,0,none⟩)) hHeld ?_
  refine tp 1 (.pointer (some ⟨w.heap.size+1,0,none⟩)) hHeld ?_
  refine tp 2 (.pointer (some ⟨w.heap.size+1,0,none⟩)) hHeld ?_
  refine tp 4 (.pointer (some ⟨w.heap.size+1,0,none⟩)) hHeld ?_
  refine tp 5 (.pointer (some ⟨w.heap.size+1,0,none⟩)) hHeld ?_
  refine tp 6 (.pointer (some ⟨w.heap.size+1,2,none⟩)) hHeld ?_
  refine tk 7 (.bool OK) rfl hHeld (fun s hs=>by have e:=hs;go_simp) ?_
  refine AY 3 rfl fun K hK => ?_
  clear c2
  go_simp
  refine (ML (G.out.wr.below (Below.refl _ _).drew)).mono ?_
  rintro e w9 ⟨rfl,hf9,c2⟩
  have HB:=Lib.hid (IX hf9 (IW w (AQ o tv)).2.2 (Nat.le_succ _))
  refine hK.out _ _ c2 (fun hHeld => ?_)
  clear hK hf9
  refine tp 8 (.string (AA S)) hHeld ?_
  refine tp 9 (.bool OK) hHeld ?_
  refine wpAnyH_done (by kernel_rfl) ?_ _
  clear hHeld
  go_wp2
  go_ret2
  refine ⟨S,OK,rfl,?_,Nat.le_trans G.out.len HM.out,HB.out⟩
  rw [ES.out,EO.out]
  clear ES EO G HB HM
 ·exact DN (P:=sp.BN o.node∧sp.BP o.name) (by unfold sp.AU;rw [HK.out];rfl) (by simp [Cm,DZ,and_assoc])
 ·exact DN (P:=sp.BN o.node∧sp.BP o.name) (by unfold sp.AU;rw [HK.out];rfl) (by simp [Cm,DZ,and_assoc])
 ·exact DN (P:=True) (by unfold sp.AU;rw [HK.out];rfl) (by simp [Cm,DZ,and_assoc])
set_option maxRecDepth 100000 in
set_option maxHeartbeats 16000000 in
theorem q4 (h:CQ w.heap.size w o tv) (hp:Pow w) (hk:o.kind=7∧Hid True∨o.kind=14∧Hid (o.on=true)∨o.kind=14∧Hid (o.on=false)):Calls Tryz.prog 39 #[.agg (AQ o tv)] w (FO w o):=by
 rcases hk with ⟨hk,mq⟩ | ⟨hk,mt⟩ | ⟨hk,mf⟩
 all_goals
  have H0:=Lib.hid (A8.start h hp)
  have c0:=H0.out.cell 0 _ (kd hk)
  have HK:=Lib.hid hk;have HO:=Lib.hid h
  clear h hp hk
  go_enter Tryz.func39,Tryz.ntmps39
  go_wp2
  generalize ((w.alloc (.cells (AQ o tv) 28)).alloc (.cells #[.pointer none,.slice none 0 0,.bool true] 123))=W1 at H0 c0 ⊢
  refine wp_region_held_drew (S:=fun s=>s.cell? ⟨w.heap.size,0,none⟩=some (.int .i64 _)) (by kernel_rfl) c0 (fun hHeld => ?_)
  refine tp 0 (.pointer (some ⟨w.heap.size+1,0,none⟩)) hHeld ?_
  refine tp 1 (.pointer (some ⟨w.heap.size+1,0,none⟩)) hHeld ?_
  refine tp 2 (.pointer (some ⟨w.heap.size+1,0,none⟩)) hHeld ?_
  refine tp 3 (.pointer (some ⟨w.heap.size,0,none⟩)) hHeld ?_
  refine tk 4 _ rfl hHeld (fun s hs=>by have e:=hs;go_simp;rfl) ?_
  refine AY 5 rfl fun K hK => ?_
  clear c0
  go_simp
  refine (first_any _ _).mono ?_
  rintro e w2 ⟨rfl,hb2⟩
  have H1:=Lib.hid ((H0.out.on (Below.refl _ _).drew).on hb2)
  refine hK.out _ _ (H1.out.cell 0 _ (kd HK.out)) (fun hHeld => ?_)
  clear hK hb2
  refine AY 6 rfl fun K hK => ?_
  go_simp
  refine (H1.out.first _ (Oh _)).mono ?_
  rintro e w3 ⟨rfl,h3⟩
  have H:=Lib.hid h3
  have c0:=H.out.cell 0 _ (kd HK.out)
  refine hK.out _ _ c0 (fun hHeld => ?_)
  clear hK hHeld h3
  refine wpAnyH_done (by kernel_rfl) ?_ _
  go_simp
  obtain ⟨c1,c2,c3,c4,c5,c6,c7,c8,c9,c10,c17,cv⟩:=H.out.cs
  try rw [mt.out] at c17
  try rw [mf.out] at c17
  go_wp2_with (first
   | (have gd:=mq;clear gd;go_at_call 76;refine Calls.mono (H.out.num _ (by first | exact HO.out.node | exact HO.out.origin) (by decide)) ?_;rintro e v ⟨rfl,h⟩;have N:=Lib.hid h;clear c1 c2 c3 c4 c5 c6 c7 c8 c9 c10 c17 cv;clear H h;have H:=N;clear N;obtain ⟨c1,c2,c3,c4,c5,c6,c7,c8,c9,c10,c17,cv⟩:=H.out.cs)
   | (have gd:=mq;clear gd;go_at_call 79;refine Calls.mono (H.out.plain _ HO.out.name (by decide)) ?_;rintro e v ⟨rfl,h⟩;have N:=Lib.hid h;clear c1 c2 c3 c4 c5 c6 c7 c8 c9 c10 c17 cv;clear H h;have H:=N;clear N;obtain ⟨c1,c2,c3,c4,c5,c6,c7,c8,c9,c10,c17,cv⟩:=H.out.cs)
   | (have gd:=mq;clear gd;go_at_call 36;refine Calls.mono (Yd _ (by first | exact HO.out.text | exact HO.out.word) _) ?_;rintro e v ⟨rfl,h⟩;have N:=Lib.hid (H.out.on h);clear c1 c2 c3 c4 c5 c6 c7 c8 c9 c10 c17 cv;clear H h;have H:=N;clear N;obtain ⟨c1,c2,c3,c4,c5,c6,c7,c8,c9,c10,c17,cv⟩:=H.out.cs)
   | (have gd:=mq;clear gd;go_at_call 77;refine Calls.mono (H.out.put (sp.DJ _) 4194306 (MN (by first | exact HO.out.text | exact HO.out.word)) (by decide)) ?_;rintro e v ⟨rfl,h⟩;have N:=Lib.hid h;clear c1 c2 c3 c4 c5 c6 c7 c8 c9 c10 c17 cv;clear H h;have H:=N;clear N;obtain ⟨c1,c2,c3,c4,c5,c6,c7,c8,c9,c10,c17,cv⟩:=H.out.cs)
   | (have gd:=mt;clear gd;go_at_call 77;refine Calls.mono (H.out.put [111,110] 3 (by decide) (by decide)) ?_;rintro e v ⟨rfl,h⟩;have N:=Lib.hid h;clear c1 c2 c3 c4 c5 c6 c7 c8 c9 c10 c17 cv;clear H h;have H:=N;clear N;obtain ⟨c1,c2,c3,c4,c5,c6,c7,c8,c9,c10,c17,cv⟩:=H.out.cs;try rw [mt.out] at c17)
   | (have gd:=mf;clear gd;go_at_call 77;refine Calls.mono (H.out.put [111,102,102] 3 (by decide) (by decide)) ?_;rintro e v ⟨rfl,h⟩;have N:=Lib.hid h;clear c1 c2 c3 c4 c5 c6 c7 c8 c9 c10 c17 cv;clear H h;have H:=N;clear N;obtain ⟨c1,c2,c3,c4,c5,c6,c7,c8,c9,c10,c17,cv⟩:=H.out.cs;try rw [mf.out] at c17))
  obtain ⟨S,OK,m,eS,eO,hm,h⟩:=H.out.gen
  have G:=Lib.hid (h (by decide))
  have ES:=Lib.hid eS;have EO:=Lib.hid eO;have HM:=Lib.hid hm
  clear c1 c2 c3 c4 c5 c6 c7 c8 c9 c10 c17 cv
  clear h eS eO hm H
  have c2:=G.out.flag
  refine wp_region_held_drew (S:=fun s=>s.cell? ⟨w.heap.size+1,2,none⟩=some (.bool OK)) (by kernel_rfl) c2 (fun hHeld => ?_)
  refine tp 0 (.pointer (some ⟨w.heap.size+1,0,none⟩)) hHeld ?_
  refine tp 1 (.pointer (some ⟨w.heap.size+1,0,none⟩)) hHeld ?_
  refine tp 2 (.pointer (some ⟨w.heap.size+1,0,none⟩)) hHeld ?_
  refine tp 4 (.pointer (some ⟨w.heap.size+1,0,none⟩)) hHeld ?_
  refine tp 5 (.pointer (some ⟨w.heap.size+1,0,none⟩)) hHeld ?_
  refine tp 6 (.pointer (some ⟨w.heap.size+1,2,none⟩)) hHeld ?_
  refine tk 7 (.bool OK) rfl hHeld (fun s hs=>by have e:=hs;go_simp) ?_
  refine AY 3 rfl fun K hK => ?_
  clear c2
  go_simp
  refine (ML (G.out.wr.below (Below.refl _ _).drew)).mono ?_
  rintro e w9 ⟨rfl,hf9,c2⟩
  have HB:=Lib.hid (IX hf9 (IW w (AQ o tv)).2.2 (Nat.le_succ _))
  refine hK.out _ _ c2 (fun hHeld => ?_)
  clear hK hf9
  refine tp 8 (.string (AA S)) hHeld ?_
  refine tp 9 (.bool OK) hHeld ?_
  refine wpAnyH_done (by kernel_rfl) ?_ _
  clear hHeld
  go_wp2
  go_ret2
  refine ⟨S,OK,rfl,?_,Nat.le_trans G.out.len HM.out,HB.out⟩
  rw [ES.out,EO.out]
  clear ES EO G HB HM
 ·exact DN (P:=sp.BN o.node∧sp.BP o.name) (by unfold sp.AU;rw [HK.out];rfl) (by simp [Cm,DZ,and_assoc])
 ·exact DN (P:=True) (by unfold sp.AU;rw [HK.out,mt.out];rfl) (by simp [Cm,DZ,and_assoc])
 ·exact DN (P:=True) (by unfold sp.AU;rw [HK.out,mf.out];rfl) (by simp [Cm,DZ,and_assoc])
theorem Ye (o:sp.Op):Ep o.node o.bt (AA o.bn) o.bw o.bh=true↔sp.BN o.node∧(0≤o.bt∧o.bt≤2)∧o.bn≠[45]∧(o.bn = []∨sp.BP o.bn)∧sp.BM o.bw.1 o.bw.2∧sp.BM o.bh.1 o.bh.2:=by
 have e:(AA o.bn).toList=o.bn:=by rw [Lib.toList_data,Og]
 unfold Ep
 rw [e]
 simp [Cm,Fh,DZ,and_assoc]
set_option maxRecDepth 100000 in
set_option maxHeartbeats 8000000 in
theorem uO (h:CQ w.heap.size w o tv) (hp:Pow w) (hk:o.kind=9):Calls Tryz.prog 39 #[.agg (AQ o tv)] w (FO w o):=by
 have H0:=Lib.hid (A8.start h hp)
 have c0:=H0.out.cell 0 (.int .i64 9) (by rw [←hk];rfl)
 have HK:=Lib.hid hk;have HO:=Lib.hid h
 clear h hp hk
 go_enter Tryz.func39,Tryz.ntmps39
 go_wp2
 generalize ((w.alloc (.cells (AQ o tv) 28)).alloc (.cells #[.pointer none,.slice none 0 0,.bool true] 123))=W1 at H0 c0 ⊢
 refine wp_region_held_drew (S:=fun s=>s.cell? ⟨w.heap.size,0,none⟩=some (.int .i64 9)) (by kernel_rfl) c0 (fun hHeld => ?_)
 refine tp 0 (.pointer (some ⟨w.heap.size+1,0,none⟩)) hHeld ?_
 refine tp 1 (.pointer (some ⟨w.heap.size+1,0,none⟩)) hHeld ?_
 refine tp 2 (.pointer (some ⟨w.heap.size+1,0,none⟩)) hHeld ?_
 refine tp 3 (.pointer (some ⟨w.heap.size,0,none⟩)) hHeld ?_
 refine tk 4 (.int .i64 9) rfl hHeld (fun s hs=>by have e:=hs;go_simp) ?_
 refine AY 5 rfl fun K hK => ?_
 clear c0
 go_simp
 refine (first_any _ _).mono ?_
 rintro e w2 ⟨rfl,hb2⟩
 have H1:=Lib.hid ((H0.out.on (Below.refl _ _).drew).on hb2)
 refine hK.out _ _ (H1.out.cell 0 (.int .i64 9) (by rw [←HK.out];rfl)) (fun hHeld => ?_)
 clear hK hb2
 refine AY 6 rfl fun K hK => ?_
 go_simp
 refine (H1.out.first (Gg 9) (by decide)).mono ?_
 rintro e w3 ⟨rfl,h3⟩
 have H2:Hid (A8 w o tv 10 sp.kBox true w3):=Lib.hid h3
 have c0:=H2.out.cell 0 (.int .i64 9) (by rw [←HK.out];rfl)
 refine hK.out _ _ c0 (fun hHeld => ?_)
 clear hK hHeld h3
 refine wpAnyH_done (by kernel_rfl) ?_ _
 go_simp
 go_wp2_with (first
  | (have hgd:=H2;clear hgd;refine wpList_load_row rfl 28 _ rfl w.heap.size rfl 28 (AQ o tv) (0,0) _ H2.out.blk Tryz.underlying28 rfl BU ?_)
  | (have hgd:=H2;clear hgd;go_at_call 80;refine (rJ o.kind o.node o.at_ o.origin (AA o.name) (AA o.word) tv o.w.1 o.w.2 o.h.1 o.h.2 o.bt (AA o.bn) o.bw.1 o.bw.2 o.bh.1 o.bh.2 o.on _ _ _ _ _ _ H2.out.wr HO.out.node (by have:=H2.out.len;omega) (by rw [Aa];exact HO.out.bn) HO.out.bw HO.out.bh H2.out.pow).mono ?_;rintro e v2 ⟨rfl,t,ok',h4,e4,e5,e6⟩;have H3:Hid (A8 w o tv 10000010 (sp.kBox++t) ok' v2):=Lib.hid ⟨H2.out.op,H2.out.pw,h4,by have:List.length sp.kBox=3:=rfl;rw [List.length_append];omega⟩;have E4:=Lib.hid e4;have E5:=Lib.hid e5;clear h4 e4 e5 e6 H2))
 have c2:=H3.out.flag
 refine wp_region_held_drew (S:=fun s=>s.cell? ⟨w.heap.size+1,2,none⟩=some (.bool ok')) (by kernel_rfl) c2 (fun hHeld => ?_)
 refine tp 0 (.pointer (some ⟨w.heap.size+1,0,none⟩)) hHeld ?_
 refine tp 1 (.pointer (some ⟨w.heap.size+1,0,none⟩)) hHeld ?_
 refine tp 2 (.pointer (some ⟨w.heap.size+1,0,none⟩)) hHeld ?_
 refine tp 4 (.pointer (some ⟨w.heap.size+1,0,none⟩)) hHeld ?_
 refine tp 5 (.pointer (some ⟨w.heap.size+1,0,none⟩)) hHeld ?_
 refine tp 6 (.pointer (some ⟨w.heap.size+1,2,none⟩)) hHeld ?_
 refine tk 7 (.bool ok') rfl hHeld (fun s hs=>by have e:=hs;go_simp) ?_
 refine AY 3 rfl fun K hK => ?_
 clear c2
 go_simp
 refine (ML (H3.out.wr.below (Below.refl _ _).drew)).mono ?_
 rintro e w9 ⟨rfl,hf9,c2⟩
 have HB:=Lib.hid (IX hf9 (IW w (AQ o tv)).2.2 (Nat.le_succ _))
 refine hK.out _ _ c2 (fun hHeld => ?_)
 clear hK hf9
 refine tp 8 (.string (AA (sp.kBox++t))) hHeld ?_
 refine tp 9 (.bool ok') hHeld ?_
 refine wpAnyH_done (by kernel_rfl) ?_ _
 clear hHeld
 go_wp2
 go_ret2
 refine ⟨_,_,rfl,?_,Nat.le_trans H3.out.len (by decide),HB.out⟩
 have hq:=Ye o
 have e4:ok'=Ep o.node o.bt (AA o.bn) o.bw o.bh:=by have:=E4.out;simpa using this
 constructor
 ·intro e
  have hB:Ep o.node o.bt (AA o.bn) o.bw o.bh=true:=e4.symm.trans e
  unfold sp.AU
  rw [HK.out]
  refine (if_pos (hq.1 hB)).trans ?_
  rw [E5.out hB]
  unfold boxS
  rw [Og]
  simp
 ·intro e
  have hB:¬Ep o.node o.bt (AA o.bn) o.bw o.bh=true:=fun hb=>by rw [←e4,e] at hb;cases hb
  unfold sp.AU
  rw [HK.out]
  exact if_neg (fun hP=>hB (hq.2 hP))
set_option maxRecDepth 100000 in
set_option maxHeartbeats 8000000 in
theorem uP (h:CQ w.heap.size w o tv) (hp:Pow w) (k1:o.kind≠1) (k2:o.kind≠2) (k3:o.kind≠3) (k13:o.kind≠13) (k14:o.kind≠14) (k4:o.kind≠4) (k5:o.kind≠5) (k6:o.kind≠6) (k12:o.kind≠12) (k7:o.kind≠7) (k8:o.kind≠8) (k10:o.kind≠10) (k11:o.kind≠11) (k9:o.kind≠9) (k15:o.kind≠15):Calls Tryz.prog 39 #[.agg (AQ o tv)] w (FO w o):=by
 have HF:Hid (Gg o.kind = []):=Lib.hid (Ya (by
  intro p hp
  simp only [Ce,List.mem_cons,List.not_mem_nil,or_false] at hp
  rcases hp with rfl | rfl | rfl | rfl | rfl | rfl | rfl | rfl | rfl | rfl | rfl | rfl | rfl | rfl | rfl
  all_goals (intro e;simp only at e;omega)))
 have HN:Hid (sp.AU o=none):=Lib.hid (by unfold sp.AU;rw [if_neg k1,if_neg k2,if_neg k3,if_neg k13,if_neg k14,if_neg k4,if_neg k5,if_neg k6,if_neg k7,if_neg k8,if_neg k9,if_neg k10,if_neg k11,if_neg k12,if_neg k15])
 have H0:=Lib.hid (A8.start h hp)
 have c0:=H0.out.cell 0 (.int .i64 o.kind) rfl
 clear h hp
 go_enter Tryz.func39,Tryz.ntmps39
 go_wp2
 generalize ((w.alloc (.cells (AQ o tv) 28)).alloc (.cells #[.pointer none,.slice none 0 0,.bool true] 123))=W1 at H0 c0 ⊢
 refine wp_region_held_drew (S:=fun s=>s.cell? ⟨w.heap.size,0,none⟩=some (.int .i64 o.kind)) (by kernel_rfl) c0 (fun hHeld => ?_)
 refine tp 0 (.pointer (some ⟨w.heap.size+1,0,none⟩)) hHeld ?_
 refine tp 1 (.pointer (some ⟨w.heap.size+1,0,none⟩)) hHeld ?_
 refine tp 2 (.pointer (some ⟨w.heap.size+1,0,none⟩)) hHeld ?_
 refine tp 3 (.pointer (some ⟨w.heap.size,0,none⟩)) hHeld ?_
 refine tk 4 (.int .i64 o.kind) rfl hHeld (fun s hs=>by have e:=hs;go_simp) ?_
 refine AY 5 rfl fun K hK => ?_
 clear c0
 go_simp
 refine (first_any _ _).mono ?_
 rintro e w2 ⟨rfl,hb2⟩
 have H1:=Lib.hid ((H0.out.on (Below.refl _ _).drew).on hb2)
 refine hK.out _ _ (H1.out.cell 0 (.int .i64 o.kind) rfl) (fun hHeld => ?_)
 clear hK hb2
 refine AY 6 rfl fun K hK => ?_
 go_simp
 refine (H1.out.first (Gg o.kind) (by rw [HF.out];decide)).mono ?_
 rintro e w3 ⟨rfl,h3⟩
 have H2:Hid (A8 w o tv 10 (Gg o.kind) true w3):=Lib.hid h3
 have c0:=H2.out.cell 0 (.int .i64 o.kind) rfl
 refine hK.out _ _ c0 (fun hHeld => ?_)
 clear hK hHeld h3
 refine wpAnyH_done (by kernel_rfl) ?_ _
 go_simp
 have e1:(o.kind==1)=false:=by simpa using k1
 have e2:(o.kind==2)=false:=by simpa using k2
 have e3:(o.kind==3)=false:=by simpa using k3
 have e13:(o.kind==13)=false:=by simpa using k13
 have e14:(o.kind==14)=false:=by simpa using k14
 have e4:(o.kind==4)=false:=by simpa using k4
 have e5:(o.kind==5)=false:=by simpa using k5
 have e6:(o.kind==6)=false:=by simpa using k6
 have e12:(o.kind==12)=false:=by simpa using k12
 have e7:(o.kind==7)=false:=by simpa using k7
 have e8:(o.kind==8)=false:=by simpa using k8
 have e10:(o.kind==10)=false:=by simpa using k10
 have e11:(o.kind==11)=false:=by simpa using k11
 have e9:(o.kind==9)=false:=by simpa using k9
 have e15:(o.kind==15)=false:=by simpa using k15
 go_wp2
 go_ret2
 exact ⟨[],false,rfl,⟨fun e=>(by cases e),fun _=>HN.out⟩,Nat.zero_le _,H2.out.bel⟩
theorem one_any (h:CQ w.heap.size w o tv) (hp:Pow w):Calls Tryz.prog 39 #[.agg (AQ o tv)] w fun e w'=>∃s ok,e=.returned (.tuple #[.string (AA s),.bool ok])∧Un o s ok∧s.length≤20000000∧Below w.heap.size w w':=by
 by_cases k1:o.kind=1
 ·exact q0 h hp (.inl ⟨k1,Lib.hid trivial⟩)
 by_cases k2:o.kind=2
 ·exact q0 h hp (.inr (.inl ⟨k2,Lib.hid trivial⟩))
 by_cases k3:o.kind=3
 ·exact q0 h hp (.inr (.inr (⟨k3,Lib.hid trivial⟩)))
 by_cases k13:o.kind=13
 ·exact q1 h hp (.inl ⟨k13,Lib.hid trivial⟩)
 by_cases k4:o.kind=4
 ·exact q1 h hp (.inr (.inl ⟨k4,Lib.hid trivial⟩))
 by_cases k5:o.kind=5
 ·exact q1 h hp (.inr (.inr (⟨k5,Lib.hid trivial⟩)))
 by_cases k6:o.kind=6
 ·exact q2 h hp (.inl ⟨k6,Lib.hid trivial⟩)
 by_cases k12:o.kind=12
 ·exact q2 h hp (.inr (.inl ⟨k12,Lib.hid trivial⟩))
 by_cases k8:o.kind=8
 ·exact q2 h hp (.inr (.inr (⟨k8,Lib.hid trivial⟩)))
 by_cases k10:o.kind=10
 ·exact q3 h hp (.inl ⟨k10,Lib.hid trivial⟩)
 by_cases k11:o.kind=11
 ·exact q3 h hp (.inr (.inl ⟨k11,Lib.hid trivial⟩))
 by_cases k15:o.kind=15
 ·exact q3 h hp (.inr (.inr (⟨k15,Lib.hid trivial⟩)))
 by_cases k7:o.kind=7
 ·exact q4 h hp (.inl ⟨k7,Lib.hid trivial⟩)
 by_cases k9:o.kind=9
 ·exact uO h hp k9
 by_cases k14:o.kind=14
 ·cases ho:o.on with
  | true=>exact q4 h hp (.inr (.inl ⟨k14,Lib.hid ho⟩))
  | false=>exact q4 h hp (.inr (.inr ⟨k14,Lib.hid ho⟩))
 exact uP h hp k1 k2 k3 k13 k14 k4 k5 k6 k12 k7 k8 k10 k11 k9 k15
end
def Gh (w:World) (b:Nat) (l:List UInt8) (w':World):Prop:=∃own',Bld w' 92 [] b own' l∧Fr w w' b none∧Own w none own'
theorem Gh.below {w0 w w1:World} {b:Nat} {l:List UInt8} (h:Gh w0 b l w) (hb:Below w.heap.size w w1):Gh w0 b l w1:=by
 obtain ⟨Az,h1,hf,ho⟩:=h
 exact ⟨Az,h1.below hb,hf.trans (Fr.of_below hb) ho,ho⟩
theorem Gh.str {w0 w:World} {b:Nat} {l:List UInt8} (h:Gh w0 b l w) (s:List UInt8) (hn:l.length+s.length≤140737488355328):Calls Tryz.prog 40 #[.pointer (some ⟨b,0,none⟩),.string (AA s)] w fun e w'=>e=.returned (.tuple #[.int .i64 (AA s).size,.nilIface])∧Gh w0 b (l++s) w':=by
 obtain ⟨own,hb,hf,ho⟩:=h
 refine (QI _ 92 [] b own l _ JU hb (by rw [Aa];exact hn)).mono ?_
 rintro e w3 ⟨rfl,Iy,h3,hf3,ho3⟩
 rw [Og] at h3
 exact ⟨rfl,Iy,Or.inr h3,hf.trans hf3 ho,ho.trans hf.size ho3⟩
theorem Gh.byte {w0 w:World} {b:Nat} {l:List UInt8} (h:Gh w0 b l w) (hn:l.length+1≤140737488355328):Calls Tryz.prog 41 #[.pointer (some ⟨b,0,none⟩),.int .u8 10] w fun e w'=>e=.returned .nilIface∧Gh w0 b (l++[10]) w':=by
 obtain ⟨own,hb,hf,ho⟩:=h
 refine (KI _ 92 [] b own l 10 JU hb hn).mono ?_
 rintro e w3 ⟨rfl,Iy,h3,hf3,ho3⟩
 exact ⟨rfl,Iy,Or.inr h3,hf.trans hf3 ho,ho.trans hf.size ho3⟩
theorem Gh.string {w0 w:World} {b:Nat} {l:List UInt8} (h:Gh w0 b l w):Calls Tryz.prog 42 #[.pointer (some ⟨b,0,none⟩)] w fun e w'=>e=.returned (.string (AA l))∧Fr w0 w' b none:=by
 obtain ⟨own,hb,hf,ho⟩:=h
 refine (UD _ 92 [] b own l hb).mono ?_
 rintro e w3 ⟨rfl,hf3⟩
 exact ⟨rfl,hf.trans hf3 ho⟩
def Yf (p:sp.Op×Value):List Value:=(AQ p.1 p.2).toList
theorem YT (p:sp.Op×Value):(Yf p).length=18:=rfl
def IV (B:Nat) (w:World) (v:Value) (L:List (sp.Op×Value)):Prop:=BK B w v L.length (L.flatMap Yf)∧(∀p∈L,CQ B w p.1 p.2)∧L.length≤1048576
theorem CQ.keep {B:Nat} {w w':World} {o:sp.Op} {tv:Value} (h:CQ B w o tv) (hb:Below B w w'):CQ B w' o tv:={ h with row:=h.row.keep hb }
theorem CQ.wider {B B':Nat} {w:World} {o:sp.Op} {tv:Value} (h:CQ B w o tv) (hb:B≤B'):CQ B' w o tv:={ h with row:=h.row.mono hb }
theorem uQ {B:Nat} {w:World} {o:sp.Op} {tv:Value} (h:CQ B w o tv):(AQ o tv).all (·.oneCell')=true:=by
 obtain ⟨_,_,rfl,_⟩:=h.row
 simp [AQ,Value.oneCell']
theorem uS (l:List sp.Op) (k:Nat) (h:k<l.length):sp.textS (l.take (k+1))=(sp.textS (l.take k)).bind fun t=>(sp.AU l[k]).map fun s=>t++s++[10]:=by
 induction l generalizing k with
 | nil=>simp at h
 | cons a l ih =>
  cases k with
  | zero =>
   simp only [List.take_succ_cons,List.take_zero,List.getElem_cons_zero,sp.textS]
   cases sp.AU a<;>simp
  | succ k =>
   have e:=ih k (by simpa using h)
   simp only [List.take_succ_cons,List.getElem_cons_succ,sp.textS]
   rw [e]
   cases sp.AU a with
   | none=>simp
   | some x =>
    cases sp.textS (l.take k) with
    | none=>simp
    | some t =>
     have hk:k<l.length:=by simpa using h
     cases sp.AU (l[k]'hk)<;>simp
theorem uT (l:List sp.Op) (k:Nat) (h:sp.textS (l.take k)=none):sp.textS l=none:=by
 induction l generalizing k with
 | nil=>cases k<;>simp [sp.textS] at h
 | cons a l ih =>
  cases k with
  | zero=>simp [sp.textS] at h
  | succ k =>
   simp only [List.take_succ_cons,sp.textS] at h ⊢
   cases ha:sp.AU a with
   | none=>simp
   | some x =>
    rw [ha] at h
    have h2:sp.textS (l.take k)=none:=by
     cases hq:sp.textS (l.take k) with
     | none=>rfl
     | some t=>rw [hq] at h;simp at h
    rw [ih k h2]
    simp
def Ja (L:List (sp.Op×Value)) (e:Ending):Prop:=match sp.textS (L.map (·.1)) with
 | some t=>e=.returned (.tuple #[.string (AA t),.int .i64 0])
 | none=>e=.returned (.tuple #[.string ⟨#[]⟩,.int .i64 1])
set_option maxRecDepth 100000 in
set_option maxHeartbeats 8000000 in
theorem Ob (w:World) (a:Option Addr) (n c:Nat) (L:List (sp.Op×Value)) (h:IV w.heap.size w (.slice a n c) L) (hp:Pow w) :
  Calls Tryz.prog 18 #[.slice a n c] w fun e w'=>Ja L e∧Below w.heap.size w w':=by
 obtain ⟨hr,ho,hl⟩:=h
 have HR:=Lib.hid hr;have HO:=Lib.hid ho;have HL:=Lib.hid hl;have HP:=Lib.hid hp
 have hA:Gh (w.alloc (.cells #[.pointer none,.slice none 0 0] 92)) w.heap.size [] (w.alloc (.cells #[.pointer none,.slice none 0 0] 92)):=⟨none,QH 92 [] _ (AX _ _),Fr.refl _ _ _,Own.refl _ _⟩
 have hB:=AZ w (.cells #[.pointer none,.slice none 0 0] 92)
 have HA:=Lib.hid hA;have HB:=Lib.hid hB
 obtain rfl:n=L.length:=by obtain ⟨_,_,e,_⟩:=hr;cases e;rfl
 clear hr ho hl hp hA hB
 go_enter Tryz.func18,Tryz.ntmps18
 go_wp2
 go_loopw [11] (fun i wr=>∃k:Nat,k≤L.length∧i=.int .i64 k∧∃t,sp.textS ((L.map (·.1)).take k)=some t∧Gh (w.alloc (.cells #[.pointer none,.slice none 0 0] 92)) w.heap.size t wr∧t.length≤k*20000001) (fun i _=>L.length-(intOf i).toNat)
 case atStart=>exact ⟨0,Nat.zero_le _,rfl,[],rfl,HA.out,by simp⟩
 case round =>
  obtain ⟨k,hk,rfl,t,ht,hw,hlen⟩:=hrel
  have hkb:(k:Int)≤1048576:=by have:=HL.out;omega
  have HW:=Lib.hid hw;have HT:=Lib.hid ht;have HLN:=Lib.hid hlen
  have HBW:Hid (Below w.heap.size w wr):=Lib.hid (IX hw.choose_spec.2.1 HB.out (Nat.le_refl _))
  clear hw ht hlen
  by_cases hlt:k<L.length
  ·obtain ⟨bx,off,rfl,hbx,hrg⟩:=HR.out.place (by omega)
   have HEL:=Lib.hid (fun j u (hj:(AQ L[k].1 L[k].2).toList[j]?=some u)=>(by
    have OZ:j<18:=by
     have:=(List.getElem?_eq_some_iff.1 hj).1
     exact this
    have:=KU HBW.out hbx hrg (k*18+j) u (by rw [Uh YT L k hlt j OZ];exact hj)
    rw [←Nat.add_assoc] at this
    exact this:wr.cell? ⟨bx,off+k*18+j,none⟩=some u))
   have HO1:=Lib.hid (HO.out L[k] (List.getElem_mem hlt))
   have HTK:=Lib.hid (uS (L.map (·.1)) k (by simpa using hlt))
   clear hrg
   generalize hp:L[k]=p at HEL HO1
   obtain ⟨o,tv⟩:=p
   have hsc:(storeCells ⟨wr.heap.size,0,none⟩ (AQ o tv).toList).run Tryz.prog (wr.alloc (.cells #[.int .i64 0,.int .i64 0,.int .i64 0,.int .i64 0,.string ⟨#[]⟩,.string ⟨#[]⟩,.slice none 0 0,.int .i64 0,.int .i64 0,.int .i64 0,.int .i64 0,.int .i64 0,.string ⟨#[]⟩,.int .i64 0,.int .i64 0,.int .i64 0,.int .i64 0,.bool false] 28))=.ok () (wr.alloc (.cells (AQ o tv) 28)):=by
    have:=run_storeCells_new (P:=Tryz.prog) wr 28 #[.int .i64 0,.int .i64 0,.int .i64 0,.int .i64 0,.string ⟨#[]⟩,.string ⟨#[]⟩,.slice none 0 0,.int .i64 0,.int .i64 0,.int .i64 0,.int .i64 0,.int .i64 0,.string ⟨#[]⟩,.int .i64 0,.int .i64 0,.int .i64 0,.int .i64 0,.bool false] (AQ o tv) BU rfl (uQ HO1.out)
    simpa using this
   have uU:=Lib.hid (fun j u (hj:(AQ o tv).toList[j]?=some u)=>(by rw [Nat.zero_add];exact Um (AX wr (.cells (AQ o tv) 28)) j u (by simpa using hj):(wr.alloc (.cells (AQ o tv) 28)).cell? ⟨wr.heap.size,0+j,none⟩=some u))
   have hnb:=AZ wr (.cells (AQ o tv) 28)
   have HW1:=Lib.hid (HW.out.below hnb)
   have HB1:=Lib.hid (HBW.out.trans (hnb.mono HBW.out.size))
   clear hnb
   go_wp2_with (first
    | (refine Qd rfl 28 _ rfl wr.heap.size 0 rfl (AQ o tv) _ uU.out Tryz.underlying28 rfl BU ?_)
    | (go_at_call 39;refine (one_any ((HO1.out.keep HB1.out).wider (by have:=HB1.out.size;omega)) (HP.out.on HB1.out)).mono ?_;rintro e w3 ⟨s,ok,rfl,hone,hsl,hb3⟩;have HW2:=Lib.hid (HW1.out.below hb3);have HON:=Lib.hid hone;have HSL:=Lib.hid hsl;have HB3:=Lib.hid (HB1.out.trans (hb3.mono HB1.out.size));clear hone hsl hb3 hsc)
    | (go_at_call 40;refine (HW2.out.str s (by have:=HLN.out;have:=HSL.out;omega)).mono ?_;rintro e w4 ⟨rfl,h4⟩;have HW4:=Lib.hid h4;clear h4)
    | (go_at_call 41;refine (HW4.out.byte (by have:=HLN.out;have:=HSL.out;rw [List.length_append];omega)).mono ?_;rintro e w5 ⟨rfl,h5⟩;have HW5:=Lib.hid h5;clear h5)
    | (refine Qd rfl 28 _ rfl bx (off+k*18) rfl (AQ o tv) _ HEL.out Tryz.underlying28 rfl BU ?_))
   ·have hok:ok=false:=by simp_all
    go_ret2
    refine ⟨?_,HB3.out⟩
    have e1:sp.AU o=none:=HON.out.2 hok
    have e2:=HTK.out
    rw [HT.out] at e2
    simp only [List.getElem_map,hp,e1,Option.map_none,Option.bind_some] at e2
    unfold Ja
    rw [uT _ _ e2]
    rfl
   ·have hok:ok=true:=by simp_all
    refine ⟨⟨k+1,by omega,by go_num,t++s++[10],?_,HW5.out,?_⟩,by simp [intOf];omega⟩
    ·have e2:=HTK.out
     rw [HT.out] at e2
     simp only [List.getElem_map,hp,HON.out.1 hok,Option.map_some,Option.bind_some] at e2
     exact e2
    ·have:=HLN.out;have:=HSL.out
     simp only [List.length_append,List.length_cons,List.length_nil]
     omega
  ·obtain rfl:k=L.length:=by omega
   have HE:Hid (sp.textS (L.map (·.1))=some t):=Lib.hid (by have:=HT.out;rwa [List.take_of_length_le (by simp)] at this)
   go_wp2_with (go_at_call 42;refine HW.out.string.mono ?_;rintro e w3 ⟨rfl,hf3⟩;have HB3:=Lib.hid (IX hf3 HB.out (Nat.le_refl _));clear hf3)
   go_ret2
   refine ⟨?_,HB3.out⟩
   unfold Ja
   rw [HE.out]
   rfl
end Go.Proofs.YtihlneenajlhoaaGreatDoor
