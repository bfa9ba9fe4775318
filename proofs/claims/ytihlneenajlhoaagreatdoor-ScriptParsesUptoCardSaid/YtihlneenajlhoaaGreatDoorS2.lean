/-
 Rows of structs in memory: as they came; one element loaded. Operations, answers and their rules as values. No condition of its own.
-/
import Derived.Test.YtihlneenajlhoaaGreatDoorS0
import Derived.Deep.MidRow
import Derived.Test.YtihlneenajlhoaaGreatDoorS1
import Derived.Deep.RegionHeld
import Derived.OrdersHeld
set_option linter.unusedSimpArgs false
set_option linter.unusedVariables false
namespace Go.Proofs.YtihlneenajlhoaaGreatDoor
open Go Go.RowKit
def RowAt (B:Nat) (w:World) (v:Value) (n:Nat) (cs:List Value):Prop :=
 ∃a cap,v=.slice a n cap∧n≤cap∧cap≤maxLen∧((n=0∧cs = []∧(a=none→cap=0))∨(0<n∧∃b off,a=some ⟨b,off,none⟩∧b<B∧w.rangeAt b off cs))
theorem RowAt.mono {B B':Nat} {w:World} {v:Value} {n:Nat} {cs:List Value} (h:RowAt B w v n cs) (hB:B≤B'):RowAt B' w v n cs:=by
 obtain ⟨a,cap,h1,h2,h3,h4⟩:=h
 exact ⟨a,cap,h1,h2,h3,h4.imp id fun ⟨x,b,off,y1,y2,y3⟩=>⟨x,b,off,y1,by omega,y3⟩⟩
theorem rangeAt_below {B:Nat} {w w':World} (hb:Below B w w') {b off:Nat} {cs:List Value} (h:b<B) (hr:w.rangeAt b off cs):w'.rangeAt b off cs:=fun j v hv=>by
 rw [(bcell hb).1 b (off+j) h];exact hr j v hv
theorem RowAt.keep {B:Nat} {w w':World} {v:Value} {n:Nat} {cs:List Value} (h:RowAt B w v n cs) (hb:Below B w w'):RowAt B w' v n cs:=by
 obtain ⟨a,cap,h1,h2,h3,h4⟩:=h
 exact ⟨a,cap,h1,h2,h3,h4.imp id fun ⟨x,b,off,y1,y2,y3⟩=>⟨x,b,off,y1,y2,rangeAt_below hb y2 y3⟩⟩
theorem RowAt.slice {B:Nat} {w:World} {v:Value} {n:Nat} {cs:List Value} (h:RowAt B w v n cs):∃a cap,v=.slice a n cap:=by
 obtain ⟨a,cap,h1,_⟩:=h;exact ⟨a,cap,h1⟩
theorem RowAt.place {B:Nat} {w:World} {a:Option Addr} {n cap:Nat} {cs:List Value} (h:RowAt B w (.slice a n cap) n cs) (hn:0<n):∃b off,a=some ⟨b,off,none⟩∧b<B∧w.rangeAt b off cs:=by
 obtain ⟨a',cap',e,_,_,h | ⟨_,b,off,h1,h2,h3⟩⟩:=h
 ·omega
 ·cases e;exact ⟨b,off,h1,h2,h3⟩
theorem run_loadVar_range {P:Program} (w:World) (b off:Nat) (ty:TypeId) (cs:Array Value) (d:TypeDesc) (hg:∀j u,cs.toList[j]?=some u→w.cell? ⟨b,off+j,none⟩=some u)
  (hu:P.underlying ty=some d) (hd:(match d with | .struct _ | .array _ _=>true | _=>false)=true) (hi:(P.info? ty).map (·.size)=some cs.size):(loadVar ty ⟨b,off,none⟩).run P w=.ok (.agg cs) w:=by
 have hl:(loadCells ⟨b,off,none⟩ cs.toList.length).run P w=.ok cs.toList.toArray w :=
  run_loadCells_list (P:=P) w ⟨b,off,none⟩ cs.toList (fun j v hv=>by
   have hadd:(⟨b,off,none⟩:Addr).add j=⟨b,off+j,none⟩:=Addr.add_mid b off j
   rw [hadd]
   exact hg j v hv)
 cases hq:P.info? ty with
 | none=>simp [hq] at hi
 | some i =>
  have hs:i.size=cs.size:=by simpa [hq] using hi
  have hagg:(isAgg ty).run P w=.ok true w:=by
   unfold isAgg
   rw [Sem.run_bind,run_underlying hu w]
   cases d<;>simp_all
  simp only [Array.length_toList,Array.toArray_toList] at hl
  simp [loadVar,Sem.run_bind,hagg,sizeOf,typeInfo,hq,hs,hl]
theorem wpList_load_range {P:Program} {ops:Array Oper} {rest:List Oper} {o:Oper} {a:Act} {w:World} {Q:Exit→Act→World→Prop} (hgd:o.guard=none) (ty:TypeId) (x:Operand) (ho:o.op=.load ty x)
  (b off:Nat) (hx:a.eval x=.pointer (some ⟨b,off,none⟩)) (cs:Array Value) (d:TypeDesc) (hg:∀j u,cs.toList[j]?=some u→w.cell? ⟨b,off+j,none⟩=some u)
  (hu:P.underlying ty=some d) (hd:(match d with | .struct _ | .array _ _=>true | _=>false)=true) (hi:(P.info? ty).map (·.size)=some cs.size) (h:wpList P ops Q rest (a.put o.dst (.agg cs)) w):wpList P ops Q (o :: rest) a w :=
 wpList_plain hgd fun _ hK=>by
  unfold Oper.wp execOp
  simp only [ho,hx,Instr.loadAt,Instr.sureAddr,Sem.run_bind,Sem.run_pure,Result.andThen_ok,run_loadVar_range w b off ty cs d hg hu hd hi]
  exact hK _ _ h
theorem flat_at {α:Type} {cells:α→List Value} {k:Nat} (hl:∀a,(cells a).length=k):∀(l:List α) (i:Nat) (h:i<l.length) (q:Nat),q<k→(l.flatMap cells)[i*k+q]?=(cells l[i])[q]?:=by
 intro l
 induction l with
 | nil=>intro i h;simp at h
 | cons a l ih =>
  intro i h q hq
  rw [List.flatMap_cons]
  cases i with
  | zero=>rw [Nat.zero_mul,Nat.zero_add,List.getElem?_append_left (by rw [hl];exact hq)];rfl
  | succ i =>
   rw [List.getElem?_append_right (by rw [hl,Nat.succ_mul];omega),hl,show (i+1)*k+q-k=i*k+q by rw [Nat.succ_mul];omega,ih i (by simpa using h) q hq]
   rfl
structure Rf where
 a:Int
 b:Int
 x:Int
 y:Int
 z:Int
instance:Inhabited Rf:=⟨⟨0,0,0,0,0⟩⟩
def Rf.cells (r:Rf):List Value:=[.int .i64 r.a,.int .i64 r.b,.int .i64 r.x,.int .i64 r.y,.int .i64 r.z]
structure Rf.ok (r:Rf):Prop where
 a:I64 r.a
 b:I64 r.b
structure Ans where
 err:Int
 id:Int
 k:Int
 n:Int
 d:Int
 word:ByteArray
 text:ByteArray
 has:Bool
 rv:Value
 rules:List Rf
 count:Int
abbrev Ans.v (a:Ans):Value:=.agg #[.int .i64 a.err,.int .i64 a.id,.int .i64 a.k,.int .i64 a.n,.int .i64 a.d,.string a.word,.string a.text,.bool a.has,a.rv,.int .i64 a.count]
set_option maxRecDepth 100000 in
theorem conv_row {B:Nat} {w:World} {v:Value} {l:List UInt8} (h:RowAt B w v l.length (Lib.byteCells l)):(convert 22 9 v).run Tryz.prog w=.ok (.string (bstr l)) w:=by
 obtain ⟨a,cap,rfl,h1,h2,h3⟩:=h
 rcases h3 with ⟨h0,_,h4⟩ | ⟨h0,b,off,rfl,hb,hr⟩
 ·have:l = []:=List.eq_nil_of_length_eq_zero h0
  subst this
  cases a with
  | none =>
   rw [h4 rfl]
   exact Go.run_convert_bytes_back (P:=Tryz.prog) w 22 9 5 ⟨0,0,none⟩ 0 [] Tryz.underlying22 Tryz.underlying5 Tryz.underlying9 (fun j hj=>by cases hj)
  | some a=>exact Go.run_convert_bytes_back (P:=Tryz.prog) w 22 9 5 a cap [] Tryz.underlying22 Tryz.underlying5 Tryz.underlying9 (fun j hj=>by cases hj)
 ·refine Go.run_convert_bytes_back (P:=Tryz.prog) w 22 9 5 ⟨b,off,none⟩ cap l Tryz.underlying22 Tryz.underlying5 Tryz.underlying9 (fun j hj => ?_)
  have:=hr j (.int .u8 l[j].toNat) (by simp [Lib.byteCells,hj])
  rw [Addr.add_mid]
  exact this
theorem size28':(Tryz.prog.info? 28).map (·.size)=some 18:=by kernel_rfl
def opCells (o:sp.Op) (tv:Value):Array Value:=#[.int .i64 o.kind,.int .i64 o.node,.int .i64 o.at_,.int .i64 o.origin,.string (bstr o.name),.string (bstr o.word),tv,.int .i64 o.w.1,.int .i64 o.w.2,.int .i64 o.h.1,.int .i64 o.h.2,.int .i64 o.bt,.string (bstr o.bn),.int .i64 o.bw.1,.int .i64 o.bw.2,.int .i64 o.bh.1,.int .i64 o.bh.2,.bool o.on]
section
variable {o:sp.Op} {tv:Value} {w:World}
end
structure RowS (w:World) (B g:Nat) (ws:List (List UInt8×Bool)) (cs:Array Value) (W:World):Prop where
 op:W.heap[B]?=some (.cells cs 28 (0,0))
 size:cs.size=18
 words:W.rangeAt g 2 (wdCells ws)
 glt:g<W.heap.size
 ne:g≠B
 fr:Fr w W B none
section
variable {w W W':World} {B g:Nat} {ws:List (List UInt8×Bool)} {cs:Array Value}
theorem RowS.on (h:RowS w B g ws cs W) (hb:Below W.heap.size W W'):RowS w B g ws cs W' :=
 ⟨(hb.block _ (lt_of_block h.op)).trans h.op,h.size,rangeAt_below hb h.glt h.words,by have:=hb.size;have:=h.glt;omega,h.ne,h.fr.trans (Fr.of_below hb) (Own.refl _ _)⟩
theorem range_other {g B off:Nat} {xs:List Value} (h:W.rangeAt g off xs) (hne:g≠B) (k:Nat) (v:Value):(W.setCell ⟨B,k,none⟩ v).rangeAt g off xs:=fun j u hu=>by
 have:=h j u hu
 rw [World.cell?_setCell_far W _ _ v (by simpa using Ne.symm hne)]
 exact this
theorem RowS.set (h:RowS w B g ws cs W) (k:Nat) (v:Value):RowS w B g ws (cs.setIfInBounds k v) (W.setCell ⟨B,k,none⟩ v) :=
 ⟨blk_set h.op k v,by rw [Array.size_setIfInBounds];exact h.size,range_other h.words h.ne k v,by simpa using h.glt,h.ne,h.fr.trans (Fr.set k v) (Own.refl _ _)⟩
theorem RowS.cell (h:RowS w B g ws cs W) (k:Nat) (v:Value) (hk:cs[k]?=some v):W.cell? ⟨B,k,none⟩=some v:=blk_cell h.op k v hk
theorem RowS.free (h:RowS w B g ws cs W) (k:Nat):W.frozen? ⟨B,k,none⟩=false:=blk_free h.op k
theorem RowS.w0 {x:List UInt8×Bool} {r:List (List UInt8×Bool)} (h:RowS w B g (x :: r) cs W):W.cell? ⟨g,2,none⟩=some (.string (bstr x.1))∧W.cell? ⟨g,3,none⟩=some (.bool x.2):=⟨h.words 0 _ rfl,h.words 1 _ rfl⟩
theorem RowS.w1 {x y:List UInt8×Bool} {r:List (List UInt8×Bool)} (h:RowS w B g (x :: y :: r) cs W):W.cell? ⟨g,4,none⟩=some (.string (bstr y.1))∧W.cell? ⟨g,5,none⟩=some (.bool y.2):=⟨h.words 2 _ rfl,h.words 3 _ rfl⟩
theorem RowS.w2 {x y z:List UInt8×Bool} {r:List (List UInt8×Bool)} (h:RowS w B g (x :: y :: z :: r) cs W):W.cell? ⟨g,6,none⟩=some (.string (bstr z.1))∧W.cell? ⟨g,7,none⟩=some (.bool z.2):=⟨h.words 4 _ rfl,h.words 5 _ rfl⟩
theorem RowS.w3 {x y z u:List UInt8×Bool} {r:List (List UInt8×Bool)} (h:RowS w B g (x :: y :: z :: u :: r) cs W):W.cell? ⟨g,8,none⟩=some (.string (bstr u.1))∧W.cell? ⟨g,9,none⟩=some (.bool u.2):=⟨h.words 6 _ rfl,h.words 7 _ rfl⟩
theorem RowS.w4 {x y z u v:List UInt8×Bool} {r:List (List UInt8×Bool)} (h:RowS w B g (x :: y :: z :: u :: v :: r) cs W):W.cell? ⟨g,10,none⟩=some (.string (bstr v.1))∧W.cell? ⟨g,11,none⟩=some (.bool v.2):=⟨h.words 8 _ rfl,h.words 9 _ rfl⟩
end
def RowIs (w:World) (B:Nat) (res:Option sp.Op) (e:Ending) (w':World):Prop:=match res with
 | some o=>e=.returned (.tuple #[])∧Fr w w' B none∧∃tv,w'.heap[B]?=some (.cells (opCells o tv) 28 (0,0))∧RowAt w'.heap.size w' tv o.text.length (Lib.byteCells o.text)∧(∀g,tv.ownBlock=some g→w.heap.size≤g)
 | none=>e=.panicked bar∧Fr w w' B none∧∃cs,w'.heap[B]?=some (.cells cs 28 (0,0))∧cs.size=18
theorem RowS.bad {w W:World} {B g:Nat} {ws:List (List UInt8×Bool)} {cs:Array Value} (h:RowS w B g ws cs W):RowIs w B none (.panicked bar) W:=⟨rfl,h.fr,_,h.op,h.size⟩
theorem rowAt_nil (B:Nat) (w:World):RowAt B w (.slice none 0 0) ([]:List UInt8).length (Lib.byteCells []):=⟨none,0,rfl,Nat.le_refl _,by unfold maxLen;omega,.inl ⟨rfl,rfl,fun _=>rfl⟩⟩
theorem RowS.good {w W:World} {B g:Nat} {ws:List (List UInt8×Bool)} {cs:Array Value} (h:RowS w B g ws cs W) (o:sp.Op) (ho:o.text = []) (hc:cs=opCells o (.slice none 0 0)):RowIs w B (some o) (.returned (.tuple #[])) W :=
 ⟨rfl,h.fr,_,hc ▸ h.op,by rw [ho];exact rowAt_nil _ _,fun g hg=>by cases hg⟩
theorem conv_bytes2 (w:World) (t:List UInt8):∃W2 cp,(convert 9 22 (.string (bstr t))).run Tryz.prog w=.ok (.slice (some ⟨w.heap.size,0,none⟩) t.length cp) W2∧Below w.heap.size w W2∧W2.heap.size=w.heap.size+1∧W2.rangeAt w.heap.size 0 (Lib.byteCells t)∧t.length≤cp∧(t.length≤maxLen→cp≤maxLen):=by
 have h:=Lib.run_convert_string_bytes (P:=Tryz.prog) w 9 22 5 (bstr t) Tryz.underlying9 Tryz.underlying22 Tryz.underlying5
 refine ⟨_,_,by rw [←bstr_size t];exact h,below_bytes w _,Lib.bytesWorld_size _ _ _,fun j u hu => ?_,by rw [bstr_size];exact grownCap_ge _ _ _ _,fun hm=>by rw [bstr_size];exact grownCap_le_maxLen _ _ _ _ hm⟩
 obtain ⟨b,hb,rfl⟩:=byteCells_get hu
 have hj:j<t.length:=(List.getElem?_eq_some_iff.1 hb).1
 have:=Lib.bytesWorld_cell w 5 (bstr t) j (by rw [bstr_size];exact hj)
 rw [bstr_toList] at this
 rw [Nat.zero_add,this]
 simp [List.getD,hb]
theorem rowAt_of {W:World} {q n cp:Nat} {t:List UInt8} (hr:W.rangeAt q 0 (Lib.byteCells t)) (hn:n=t.length) (h1:t.length≤cp) (h2:cp≤maxLen) (hq:q<W.heap.size):RowAt W.heap.size W (.slice (some ⟨q,0,none⟩) n cp) t.length (Lib.byteCells t):=by
 subst hn
 refine ⟨_,_,rfl,h1,h2,?_⟩
 by_cases h0:t.length=0
 ·left
  have:=List.length_eq_zero_iff.1 h0
  subst this
  exact ⟨rfl,rfl,fun e=>by cases e⟩
 ·right
  exact ⟨by omega,q,0,rfl,hq,hr⟩
theorem RowS.goodT {w W:World} {B g q n cp:Nat} {ws:List (List UInt8×Bool)} {cs:Array Value} (h:RowS w B g ws cs W) (o:sp.Op) (hr:W.rangeAt q 0 (Lib.byteCells o.text)) (hn:n=o.text.length) (h1:o.text.length≤cp) (h2:cp≤maxLen) (hq:q<W.heap.size) (hB:w.heap.size≤q) (hc:cs=opCells o (.slice (some ⟨q,0,none⟩) n cp)):RowIs w B (some o) (.returned (.tuple #[])) W :=
 ⟨rfl,h.fr,_,hc ▸ h.op,rowAt_of hr hn h1 h2 hq,fun g hg=>by cases hg;exact hB⟩
def zeroC (k:Int):Array Value:=opCells { kind:=k } (.slice none 0 0)
set_option maxRecDepth 100000 in
set_option maxHeartbeats 2000000 in
theorem row_node (k:Int) (w0 w:World) (B g c:Nat) (x:List UInt8×Bool) (h:RowS w0 B g [x] (zeroC k) w):Calls Tryz.prog 49 #[.pointer (some ⟨B,0,none⟩),.slice (some ⟨g,2,none⟩) 1 c] w fun e w'=>RowIs w0 B ((sp.wNum x).map fun n=>{ kind:=k,node:=n }) e w':=by
 have HN:=Lib.hid (fun W=>wnum_any x W)
 obtain ⟨a0,a1⟩:=h.w0
 have HH:=Lib.hid h
 clear h
 cases hx:sp.wNum x with
 | none =>
  have HX:=Lib.hid hx
  clear hx
  go_enter Tryz.func49,Tryz.ntmps49
  go_wp2_with (go_at_call 50;refine (HN.out _).mono ?_;rintro e w1 ⟨he,hb⟩;unfold NumIs at he;rw [HX.out] at he;subst he)
  exact ⟨rfl,(HH.out.on hb).bad⟩
 | some n =>
  have HX:=Lib.hid hx
  clear hx
  go_enter Tryz.func49,Tryz.ntmps49
  go_wp2_with (go_at_call 50;refine (HN.out _).mono ?_;rintro e w1 ⟨he,hb⟩;unfold NumIs at he;rw [HX.out] at he;subst he;have H1:=Lib.hid (HH.out.on hb);have f1:=H1.out.free 1;have c1:=H1.out.cell 1 (.int .i64 0) rfl;clear hb)
  go_end0
  exact (H1.out.set 1 _).good _ rfl rfl
section
variable {P:Program} {md:Region.Mode} {ops:Array Oper} {Q:Exit→Act→World→Prop} {S:World→Prop}
theorem tk {oi:Oper} {fuel:Nat} {listed:Array Bool} {a:Act} {w:World} (i:Nat) (v:Value) (hi:ops[i]?=some oi) (hS:S w) (hy:∀s,S s→(execOp a.eval oi).run P s=.ok (.value v) s)
  (h:wpAnyH P md ops Q S fuel (listed.setIfInBounds i true) (a.put oi.dst v) w) (h1:Region.noSelect ops=true:=by kernel_rfl) (h2:Region.free md ops listed i=true:=by kernel_rfl) (h3:(Region.ready md ops listed).contains i=true:=by kernel_rfl)
  (h4:Region.wanted oi (yielded ops a.tmps)=true:=by kernel_rfl) (hQ:∀c a w,Q (.panic c) (a.put oi.dst v) w→Q (.panic c) a w:=by exact fun _ _ _ h=>h):wpAnyH P md ops Q S (fuel+1) listed a w :=
 wpAnyH_take hi h1 h2 h3 hQ (Or.inl ⟨h4,hy⟩) hS h
theorem rd1 {o:Oper} {fuel:Nat} {listed:Array Bool} {a:Act} {w:World} (i:Nat) (ho:ops[i]?=some o)
  (h:∀K':Act→World→Prop,Shut (∀a w,S w→(S w→wpAnyH P md ops Q S fuel (listed.setIfInBounds i true) a w)→K' a w)→Oper.wp P o a w K' Q)
  (hr:Region.ready md ops listed = [i]:=by kernel_rfl) (hw:Region.wanted o (yielded ops a.tmps)=true:=by kernel_rfl):wpAnyH P md ops Q S (fuel+1) listed a w :=
 wpAnyH_ready hr (by simp) (AllReadyH.cons ho (fun K hK=>by rw [if_pos hw];exact h K hK) AllReadyH.nil)
end
section
variable {w:World} {B g:Nat} {x y z u v:List UInt8×Bool} {r:List (List UInt8×Bool)} {s:World}
theorem rc2 (h:∃cs,RowS w B g (x :: y :: r) cs s):s.cell? ⟨g,2,none⟩=some (.string (bstr x.1))∧s.cell? ⟨g,3,none⟩=some (.bool x.2)∧s.cell? ⟨g,4,none⟩=some (.string (bstr y.1))∧s.cell? ⟨g,5,none⟩=some (.bool y.2):=by
 obtain ⟨cs,h⟩:=h
 exact ⟨h.w0.1,h.w0.2,h.w1.1,h.w1.2⟩
theorem rc3 (h:∃cs,RowS w B g (x :: y :: z :: r) cs s):s.cell? ⟨g,2,none⟩=some (.string (bstr x.1))∧s.cell? ⟨g,3,none⟩=some (.bool x.2)∧s.cell? ⟨g,4,none⟩=some (.string (bstr y.1))∧s.cell? ⟨g,5,none⟩=some (.bool y.2)∧s.cell? ⟨g,6,none⟩=some (.string (bstr z.1))∧s.cell? ⟨g,7,none⟩=some (.bool z.2):=by
 obtain ⟨cs,h⟩:=h
 exact ⟨h.w0.1,h.w0.2,h.w1.1,h.w1.2,h.w2.1,h.w2.2⟩
theorem rc5 (h:∃cs,RowS w B g (x :: y :: z :: u :: v :: r) cs s):s.cell? ⟨g,2,none⟩=some (.string (bstr x.1))∧s.cell? ⟨g,3,none⟩=some (.bool x.2)∧s.cell? ⟨g,4,none⟩=some (.string (bstr y.1))∧s.cell? ⟨g,5,none⟩=some (.bool y.2)∧s.cell? ⟨g,6,none⟩=some (.string (bstr z.1))∧s.cell? ⟨g,7,none⟩=some (.bool z.2)∧s.cell? ⟨g,8,none⟩=some (.string (bstr u.1))∧s.cell? ⟨g,9,none⟩=some (.bool u.2)∧s.cell? ⟨g,10,none⟩=some (.string (bstr v.1))∧s.cell? ⟨g,11,none⟩=some (.bool v.2):=by
 obtain ⟨cs,h⟩:=h
 exact ⟨h.w0.1,h.w0.2,h.w1.1,h.w1.2,h.w2.1,h.w2.2,h.w3.1,h.w3.2,h.w4.1,h.w4.2⟩
end
def bxN:Nat→List UInt8
 | 0=>sp.kNone
 | 1=>sp.kInline
 | _=>sp.kSize
def bxF (s:List UInt8):Nat→Bool
 | 0=>false
 | k+1=>if bxN k=s then true else bxF s k
def bxT (s:List UInt8):Nat→Int
 | 0=>0
 | k+1=>if bxN k=s then k else bxT s k
theorem box_is (s:List UInt8):sp.boxOf s=if bxF s 3 then some (bxT s 3) else none:=by
 unfold sp.boxOf
 by_cases h0:s=sp.kNone
 ·subst h0;rfl
 by_cases h1:s=sp.kInline
 ·subst h1;rfl
 by_cases h2:s=sp.kSize
 ·subst h2;rfl
 rw [if_neg h0,if_neg h1,if_neg h2]
 simp only [bxF,bxN,Ne.symm h0,Ne.symm h1,Ne.symm h2,if_false]
 rfl
def BxAt (q:Nat) (w:World):Prop:=w.heap[q]?=some (.cells boxRow 9 (0,0))
theorem BxAt.new {w w':World} (h:w'=w.alloc (.cells boxRow 9)):BxAt w.heap.size w':=by rw [h];exact heap_alloc_at _ _
theorem BxAt.cell {w:World} {q:Nat} (h:BxAt q w) (j:Nat) (hj:j<3):w.cell? ⟨q,j,none⟩=some (.string (bstr (bxN j))):=by
 rw [cell_of_row w q j _ 9 (0,0) h]
 match j,hj with
 | 0,_=>rfl
 | 1,_=>rfl
 | 2,_=>rfl
theorem BxAt.set {w:World} {q B:Nat} (h:BxAt q w) (hne:q≠B) (o:Nat) (v:Value):BxAt q (w.setCell ⟨B,o,none⟩ v):=by
 unfold BxAt
 show (w.heap.modify B _)[q]?=_
 rw [Array.getElem?_modify]
 simp [Ne.symm hne,h]
 exact h
set_option maxRecDepth 100000 in
set_option maxHeartbeats 16000000 in
theorem row_box (k:Int) (w0 w:World) (B g c:Nat) (x y z u v:List UInt8×Bool) (hlu:u.1.length≤1099511627776) (hlv:v.1.length≤1099511627776) (h:RowS w0 B g [x,y,z,u,v] (zeroC k) w):Calls Tryz.prog 61 #[.pointer (some ⟨B,0,none⟩),.slice (some ⟨g,2,none⟩) 5 c] w fun e w'=>RowIs w0 B ((sp.wNum x).bind fun n=>(sp.wPlain y).bind fun s=>(sp.boxOf s).bind fun b=>(sp.wPlain z).bind fun t=>(sp.wFrac u).bind fun p=>(sp.wFrac v).bind fun q=>some { kind:=k,node:=n,bt:=b,bn:=sp.boxName t,bw:=p,bh:=q }) e w':=by
 have HCx:=Lib.hid (fun W=>wnum_any x W)
 have HCy:=Lib.hid (fun W=>wplain_any y W)
 have HCz:=Lib.hid (fun W=>wplain_any z W)
 have HCu:=Lib.hid (fun W=>wfrac_any u W hlu)
 have HCv:=Lib.hid (fun W=>wfrac_any v W hlv)
 have H0:=Lib.hid h
 obtain ⟨a0,a1⟩:=h.w0
 clear h hlu hlv
 cases hx:sp.wNum x with
 | none =>
  have HXx:=Lib.hid hx
  clear hx
  go_enter Tryz.func61,Tryz.ntmps61
  go_wp2_with (first
   | (go_at_call 50;refine (HCx.out _).mono ?_;rintro e w1 ⟨he,hb⟩;unfold NumIs at he;rw [HXx.out] at he;subst he;have H1:=Lib.hid (H0.out.on hb);clear hb))
  exact ⟨rfl,H1.out.bad⟩
 | some nx =>
  have HXx:=Lib.hid hx
  clear hx
  cases hy:sp.wPlain y with
  | none =>
   have HXy:=Lib.hid hy
   clear hy
   go_enter Tryz.func61,Tryz.ntmps61
   go_wp2_with (first
    | (go_at_call 50;refine (HCx.out _).mono ?_;rintro e w1 ⟨he,hb⟩;unfold NumIs at he;rw [HXx.out] at he;subst he;have H1:=Lib.hid (H0.out.on hb);have f1:=H1.out.free 1;have c1:=H1.out.cell 1 (.int .i64 0) rfl;have H2:=Lib.hid (H1.out.set 1 (.int .i64 nx));obtain ⟨b0,b1⟩:=H2.out.w1;clear hb)
    | (go_at_call 28;refine (HCy.out _).mono ?_;rintro e w2 ⟨he,hb⟩;unfold PlainIs at he;rw [HXy.out] at he;subst he;have H3:=Lib.hid (H2.out.on hb);clear hb))
   exact ⟨rfl,H3.out.bad⟩
  | some ty =>
   have HXy:=Lib.hid hy
   clear hy
   cases hb:sp.boxOf ty with
   | none =>
    have HXb:=Lib.hid hb
    simp only [Option.bind_some,hb]
    clear hb
    go_enter Tryz.func61,Tryz.ntmps61
    go_wp2_with (first
     | (go_at_call 50;refine (HCx.out _).mono ?_;rintro e w1 ⟨he,hb⟩;unfold NumIs at he;rw [HXx.out] at he;subst he;have H1:=Lib.hid (H0.out.on hb);have f1:=H1.out.free 1;have c1:=H1.out.cell 1 (.int .i64 0) rfl;have H2:=Lib.hid (H1.out.set 1 (.int .i64 nx));obtain ⟨b0,b1⟩:=H2.out.w1;clear hb)
     | (go_at_call 28;refine (HCy.out _).mono ?_;rintro e w2 ⟨he,hb⟩;unfold PlainIs at he;rw [HXy.out] at he;subst he;have H3:=Lib.hid (H2.out.on hb);clear hb;clear HCy)
     | (go_at_call 94;refine (boxes_any _).mono ?_;rintro e w3 ⟨rfl,hw3⟩;have H4:=Lib.hid (H3.out.on (hw3 ▸ below_new _ _));have HBX:=Lib.hid (BxAt.new hw3);clear hw3))
    have HBE:Hid (w2.heap.size≠B):=Lib.hid (by have:=lt_of_block H3.out.op;omega)
    go_loopw [5,21] (fun fnd i wr=>∃j:Nat,j≤3∧i=.int .i64 j∧fnd=.bool (bxF ty j)∧RowS w0 B g [x,y,z,u,v] (((zeroC k).setIfInBounds 1 (.int .i64 nx)).setIfInBounds 11 (.int .i64 (bxT ty j))) wr∧BxAt w2.heap.size wr) (fun _ i _=>3-(intOf i).toNat)
    case atStart=>exact ⟨0,by omega,rfl,rfl,H4.out,HBX.out⟩
    case round =>
     obtain ⟨j,hj,rfl,rfl,hr,hbx⟩:=hrel
     have H5:=Lib.hid hr;have HBY:=Lib.hid hbx
     clear hr hbx H4 HBX H0 a0 a1 b0 b1 f1 c1
     by_cases hlt:j<3
     ·have hc:=HBY.out.cell j hlt
      have HF:=Lib.hid (show bxF ty (j+1)=if bxN j=ty then true else bxF ty j from rfl)
      have HT:=Lib.hid (show bxT ty (j+1)=if bxN j=ty then (j:Int) else bxT ty j from rfl)
      have hj2:(j:Int)≤3:=by omega
      have f11:=H5.out.free 11
      have c11:=H5.out.cell 11 (.int .i64 (bxT ty j)) rfl
      generalize bxF ty j=F at HF
      generalize bxT ty j=T at HT H5 c11
      by_cases ht:bxN j=ty
      ·have q1:((bstr (bxN j)).toList==(bstr ty).toList)=true:=by rw [ht];exact beq_self_eq_true _
       rw [if_pos ht] at HF HT
       clear ht
       go_wp2
       refine ⟨⟨j+1,by omega,by go_num,by rw [HF.out],?_,HBY.out.set HBE.out _ _⟩,by simp [intOf];omega⟩
       rw [HT.out]
       have:=H5.out.set 11 (.int .i64 j)
       simpa using this
      ·have q1:((bstr (bxN j)).toList==(bstr ty).toList)=false:=by rw [Lib.toList_data (bstr ty),bstr_toList];exact str_ne ht
       rw [if_neg ht] at HF HT
       clear ht
       go_wp2
       refine ⟨⟨j+1,by omega,by go_num,by rw [HF.out],?_,HBY.out⟩,by simp [intOf];omega⟩
       rw [HT.out]
       exact H5.out
     ·have hje:j=3:=by omega
      subst hje
      have HB3:=Lib.hid (box_is ty)
      obtain ⟨d0,d1⟩:=H5.out.w2
      have hf3:bxF ty 3=false:=by
       have:=HB3.out
       rw [HXb.out] at this
       cases hq:bxF ty 3 with
       | false=>rfl
       | true=>rw [hq] at this;cases this
      rw [hf3]
      go_wp2_with (go_at_call 23;refine (must_no _).mono ?_;rintro e w4 ⟨rfl,rfl⟩)
      exact ⟨rfl,H5.out.bad⟩
   | some bb =>
    have HXb:=Lib.hid hb
    simp only [Option.bind_some,hb]
    clear hb
    cases hz:sp.wPlain z with
    | none =>
     have HXz:=Lib.hid hz
     clear hz
     go_enter Tryz.func61,Tryz.ntmps61
     go_wp2_with (first
      | (go_at_call 50;refine (HCx.out _).mono ?_;rintro e w1 ⟨he,hb⟩;unfold NumIs at he;rw [HXx.out] at he;subst he;have H1:=Lib.hid (H0.out.on hb);have f1:=H1.out.free 1;have c1:=H1.out.cell 1 (.int .i64 0) rfl;have H2:=Lib.hid (H1.out.set 1 (.int .i64 nx));obtain ⟨b0,b1⟩:=H2.out.w1;clear hb)
      | (go_at_call 28;refine (HCy.out _).mono ?_;rintro e w2 ⟨he,hb⟩;unfold PlainIs at he;rw [HXy.out] at he;subst he;have H3:=Lib.hid (H2.out.on hb);clear hb;clear HCy)
      | (go_at_call 94;refine (boxes_any _).mono ?_;rintro e w3 ⟨rfl,hw3⟩;have H4:=Lib.hid (H3.out.on (hw3 ▸ below_new _ _));have HBX:=Lib.hid (BxAt.new hw3);clear hw3))
     have HBE:Hid (w2.heap.size≠B):=Lib.hid (by have:=lt_of_block H3.out.op;omega)
     go_loopw [5,21] (fun fnd i wr=>∃j:Nat,j≤3∧i=.int .i64 j∧fnd=.bool (bxF ty j)∧RowS w0 B g [x,y,z,u,v] (((zeroC k).setIfInBounds 1 (.int .i64 nx)).setIfInBounds 11 (.int .i64 (bxT ty j))) wr∧BxAt w2.heap.size wr) (fun _ i _=>3-(intOf i).toNat)
     case atStart=>exact ⟨0,by omega,rfl,rfl,H4.out,HBX.out⟩
     case round =>
      obtain ⟨j,hj,rfl,rfl,hr,hbx⟩:=hrel
      have H5:=Lib.hid hr;have HBY:=Lib.hid hbx
      clear hr hbx H4 HBX H0 a0 a1 b0 b1 f1 c1
      by_cases hlt:j<3
      ·have hc:=HBY.out.cell j hlt
       have HF:=Lib.hid (show bxF ty (j+1)=if bxN j=ty then true else bxF ty j from rfl)
       have HT:=Lib.hid (show bxT ty (j+1)=if bxN j=ty then (j:Int) else bxT ty j from rfl)
       have hj2:(j:Int)≤3:=by omega
       have f11:=H5.out.free 11
       have c11:=H5.out.cell 11 (.int .i64 (bxT ty j)) rfl
       generalize bxF ty j=F at HF
       generalize bxT ty j=T at HT H5 c11
       by_cases ht:bxN j=ty
       ·have q1:((bstr (bxN j)).toList==(bstr ty).toList)=true:=by rw [ht];exact beq_self_eq_true _
        rw [if_pos ht] at HF HT
        clear ht
        go_wp2
        refine ⟨⟨j+1,by omega,by go_num,by rw [HF.out],?_,HBY.out.set HBE.out _ _⟩,by simp [intOf];omega⟩
        rw [HT.out]
        have:=H5.out.set 11 (.int .i64 j)
        simpa using this
       ·have q1:((bstr (bxN j)).toList==(bstr ty).toList)=false:=by rw [Lib.toList_data (bstr ty),bstr_toList];exact str_ne ht
        rw [if_neg ht] at HF HT
        clear ht
        go_wp2
        refine ⟨⟨j+1,by omega,by go_num,by rw [HF.out],?_,HBY.out⟩,by simp [intOf];omega⟩
        rw [HT.out]
        exact H5.out
      ·have hje:j=3:=by omega
       subst hje
       have HB3:=Lib.hid (box_is ty)
       obtain ⟨d0,d1⟩:=H5.out.w2
       have hf3:bxF ty 3=true∧bxT ty 3=bb:=by
        have:=HB3.out
        rw [HXb.out] at this
        cases hq:bxF ty 3 with
        | false=>rw [hq] at this;cases this
        | true=>rw [hq] at this;exact ⟨rfl,(Option.some.inj this).symm⟩
       rw [hf3.1]
       rw [hf3.2] at H5
       clear hf3 HBY HBE
       go_wp2_with (first
        | (go_at_call 23;refine (must_yes _).mono ?_;rintro e w4 ⟨rfl,rfl⟩)
        | (go_at_call 28;refine (HCz.out _).mono ?_;rintro e w5 ⟨he,hb⟩;unfold PlainIs at he;rw [HXz.out] at he;subst he;have H6:=Lib.hid (H5.out.on hb);clear hb))
       exact ⟨rfl,H6.out.bad⟩
    | some tz =>
     have HXz:=Lib.hid hz
     clear hz
     cases hu:sp.wFrac u with
     | none =>
      have HXu:=Lib.hid hu
      clear hu
      go_enter Tryz.func61,Tryz.ntmps61
      go_wp2_with (first
       | (go_at_call 50;refine (HCx.out _).mono ?_;rintro e w1 ⟨he,hb⟩;unfold NumIs at he;rw [HXx.out] at he;subst he;have H1:=Lib.hid (H0.out.on hb);have f1:=H1.out.free 1;have c1:=H1.out.cell 1 (.int .i64 0) rfl;have H2:=Lib.hid (H1.out.set 1 (.int .i64 nx));obtain ⟨b0,b1⟩:=H2.out.w1;clear hb)
       | (go_at_call 28;refine (HCy.out _).mono ?_;rintro e w2 ⟨he,hb⟩;unfold PlainIs at he;rw [HXy.out] at he;subst he;have H3:=Lib.hid (H2.out.on hb);clear hb;clear HCy)
       | (go_at_call 94;refine (boxes_any _).mono ?_;rintro e w3 ⟨rfl,hw3⟩;have H4:=Lib.hid (H3.out.on (hw3 ▸ below_new _ _));have HBX:=Lib.hid (BxAt.new hw3);clear hw3))
      have HBE:Hid (w2.heap.size≠B):=Lib.hid (by have:=lt_of_block H3.out.op;omega)
      go_loopw [5,21] (fun fnd i wr=>∃j:Nat,j≤3∧i=.int .i64 j∧fnd=.bool (bxF ty j)∧RowS w0 B g [x,y,z,u,v] (((zeroC k).setIfInBounds 1 (.int .i64 nx)).setIfInBounds 11 (.int .i64 (bxT ty j))) wr∧BxAt w2.heap.size wr) (fun _ i _=>3-(intOf i).toNat)
      case atStart=>exact ⟨0,by omega,rfl,rfl,H4.out,HBX.out⟩
      case round =>
       obtain ⟨j,hj,rfl,rfl,hr,hbx⟩:=hrel
       have H5:=Lib.hid hr;have HBY:=Lib.hid hbx
       clear hr hbx H4 HBX H0 a0 a1 b0 b1 f1 c1
       by_cases hlt:j<3
       ·have hc:=HBY.out.cell j hlt
        have HF:=Lib.hid (show bxF ty (j+1)=if bxN j=ty then true else bxF ty j from rfl)
        have HT:=Lib.hid (show bxT ty (j+1)=if bxN j=ty then (j:Int) else bxT ty j from rfl)
        have hj2:(j:Int)≤3:=by omega
        have f11:=H5.out.free 11
        have c11:=H5.out.cell 11 (.int .i64 (bxT ty j)) rfl
        generalize bxF ty j=F at HF
        generalize bxT ty j=T at HT H5 c11
        by_cases ht:bxN j=ty
        ·have q1:((bstr (bxN j)).toList==(bstr ty).toList)=true:=by rw [ht];exact beq_self_eq_true _
         rw [if_pos ht] at HF HT
         clear ht
         go_wp2
         refine ⟨⟨j+1,by omega,by go_num,by rw [HF.out],?_,HBY.out.set HBE.out _ _⟩,by simp [intOf];omega⟩
         rw [HT.out]
         have:=H5.out.set 11 (.int .i64 j)
         simpa using this
        ·have q1:((bstr (bxN j)).toList==(bstr ty).toList)=false:=by rw [Lib.toList_data (bstr ty),bstr_toList];exact str_ne ht
         rw [if_neg ht] at HF HT
         clear ht
         go_wp2
         refine ⟨⟨j+1,by omega,by go_num,by rw [HF.out],?_,HBY.out⟩,by simp [intOf];omega⟩
         rw [HT.out]
         exact H5.out
       ·have hje:j=3:=by omega
        subst hje
        have HB3:=Lib.hid (box_is ty)
        obtain ⟨d0,d1⟩:=H5.out.w2
        have hf3:bxF ty 3=true∧bxT ty 3=bb:=by
         have:=HB3.out
         rw [HXb.out] at this
         cases hq:bxF ty 3 with
         | false=>rw [hq] at this;cases this
         | true=>rw [hq] at this;exact ⟨rfl,(Option.some.inj this).symm⟩
        rw [hf3.1]
        rw [hf3.2] at H5
        clear hf3 HBY HBE
        by_cases hz:tz = [45]
        ·have q3:((bstr tz).toList==[45])=true:=str_eq hz
         clear d0 d1
         obtain ⟨d0,d1⟩:=H5.out.w2
         have HZ:=Lib.hid hz
         clear hz
         go_wp2_with (first
          | (go_at_call 23;refine (must_yes _).mono ?_;rintro e w4 ⟨rfl,rfl⟩)
          | (go_at_call 28;refine (HCz.out _).mono ?_;rintro e w5 ⟨he,hb⟩;unfold PlainIs at he;rw [HXz.out] at he;subst he;have H6:=Lib.hid (H5.out.on hb);have f12:=H6.out.free 12;have c12:=H6.out.cell 12 (.string ⟨#[]⟩) rfl;have H7:=Lib.hid (H6.out.set 12 (.string (bstr tz)));have f12b:=H7.out.free 12;have c12b:=H7.out.cell 12 (.string (bstr tz)) rfl;clear hb))
         have H8:=Lib.hid (by have:=H7.out.set 12 (.string ⟨#[]⟩);simpa using this)
         have H9:=Lib.hid (H8.out.on (Below.refl _ _).drew)
         refine wp_region_held_drew (S:=fun s=>∃cs,RowS w0 B g [x,y,z,u,v] cs s) (by kernel_rfl) ⟨_,H9.out⟩ (fun hHeld => ?_)
         refine tk 0 (.pointer (some ⟨B,0,none⟩)) rfl hHeld (fun s hs=>by obtain ⟨_,_,_,_,_,_,d0,d1,e0,e1⟩:=rc5 hs;go_simp) ?_
         refine tk 1 (.pointer (some ⟨B,0,none⟩)) rfl hHeld (fun s hs=>by obtain ⟨_,_,_,_,_,_,d0,d1,e0,e1⟩:=rc5 hs;go_simp) ?_
         refine tk 2 (.slice (some ⟨g,2,none⟩) 5 c) rfl hHeld (fun s hs=>by obtain ⟨_,_,_,_,_,_,d0,d1,e0,e1⟩:=rc5 hs;go_simp) ?_
         refine tk 3 (.pointer (some ⟨g,8,none⟩)) rfl hHeld (fun s hs=>by obtain ⟨_,_,_,_,_,_,d0,d1,e0,e1⟩:=rc5 hs;go_simp) ?_
         refine tk 4 (.agg #[.string (bstr u.1),.bool u.2]) rfl hHeld (fun s hs=>by obtain ⟨_,_,_,_,_,_,d0,d1,e0,e1⟩:=rc5 hs;go_simp) ?_
         refine tk 6 (.slice (some ⟨g,2,none⟩) 5 c) rfl hHeld (fun s hs=>by obtain ⟨_,_,_,_,_,_,d0,d1,e0,e1⟩:=rc5 hs;go_simp) ?_
         refine tk 7 (.pointer (some ⟨g,10,none⟩)) rfl hHeld (fun s hs=>by obtain ⟨_,_,_,_,_,_,d0,d1,e0,e1⟩:=rc5 hs;go_simp) ?_
         refine tk 8 (.agg #[.string (bstr v.1),.bool v.2]) rfl hHeld (fun s hs=>by obtain ⟨_,_,_,_,_,_,d0,d1,e0,e1⟩:=rc5 hs;go_simp) ?_
         refine rd1 5 rfl fun K hK => ?_
         go_simp
         refine (HCu.out _).mono ?_
         rintro e w6 ⟨he,hb⟩
         unfold FracWIs at he
         rw [HXu.out] at he
         subst he
         have Ha:=Lib.hid (H9.out.on hb)
         clear hb
         exact ⟨rfl,Ha.out.bad⟩
        ·have q3:((bstr tz).toList==[45])=false:=str_ne hz
         have HZ:=Lib.hid hz
         clear hz
         go_wp2_with (first
          | (go_at_call 23;refine (must_yes _).mono ?_;rintro e w4 ⟨rfl,rfl⟩)
          | (go_at_call 28;refine (HCz.out _).mono ?_;rintro e w5 ⟨he,hb⟩;unfold PlainIs at he;rw [HXz.out] at he;subst he;have H6:=Lib.hid (H5.out.on hb);have f12:=H6.out.free 12;have c12:=H6.out.cell 12 (.string ⟨#[]⟩) rfl;have H7:=Lib.hid (H6.out.set 12 (.string (bstr tz)));clear hb))
         have H8:=Lib.hid (H7.out)
         have H9:=Lib.hid (H8.out.on (Below.refl _ _).drew)
         refine wp_region_held_drew (S:=fun s=>∃cs,RowS w0 B g [x,y,z,u,v] cs s) (by kernel_rfl) ⟨_,H9.out⟩ (fun hHeld => ?_)
         refine tk 0 (.pointer (some ⟨B,0,none⟩)) rfl hHeld (fun s hs=>by obtain ⟨_,_,_,_,_,_,d0,d1,e0,e1⟩:=rc5 hs;go_simp) ?_
         refine tk 1 (.pointer (some ⟨B,0,none⟩)) rfl hHeld (fun s hs=>by obtain ⟨_,_,_,_,_,_,d0,d1,e0,e1⟩:=rc5 hs;go_simp) ?_
         refine tk 2 (.slice (some ⟨g,2,none⟩) 5 c) rfl hHeld (fun s hs=>by obtain ⟨_,_,_,_,_,_,d0,d1,e0,e1⟩:=rc5 hs;go_simp) ?_
         refine tk 3 (.pointer (some ⟨g,8,none⟩)) rfl hHeld (fun s hs=>by obtain ⟨_,_,_,_,_,_,d0,d1,e0,e1⟩:=rc5 hs;go_simp) ?_
         refine tk 4 (.agg #[.string (bstr u.1),.bool u.2]) rfl hHeld (fun s hs=>by obtain ⟨_,_,_,_,_,_,d0,d1,e0,e1⟩:=rc5 hs;go_simp) ?_
         refine tk 6 (.slice (some ⟨g,2,none⟩) 5 c) rfl hHeld (fun s hs=>by obtain ⟨_,_,_,_,_,_,d0,d1,e0,e1⟩:=rc5 hs;go_simp) ?_
         refine tk 7 (.pointer (some ⟨g,10,none⟩)) rfl hHeld (fun s hs=>by obtain ⟨_,_,_,_,_,_,d0,d1,e0,e1⟩:=rc5 hs;go_simp) ?_
         refine tk 8 (.agg #[.string (bstr v.1),.bool v.2]) rfl hHeld (fun s hs=>by obtain ⟨_,_,_,_,_,_,d0,d1,e0,e1⟩:=rc5 hs;go_simp) ?_
         refine rd1 5 rfl fun K hK => ?_
         go_simp
         refine (HCu.out _).mono ?_
         rintro e w6 ⟨he,hb⟩
         unfold FracWIs at he
         rw [HXu.out] at he
         subst he
         have Ha:=Lib.hid (H9.out.on hb)
         clear hb
         exact ⟨rfl,Ha.out.bad⟩
     | some qu =>
      have HXu:=Lib.hid hu
      clear hu
      cases hv:sp.wFrac v with
      | none =>
       have HXv:=Lib.hid hv
       clear hv
       go_enter Tryz.func61,Tryz.ntmps61
       go_wp2_with (first
        | (go_at_call 50;refine (HCx.out _).mono ?_;rintro e w1 ⟨he,hb⟩;unfold NumIs at he;rw [HXx.out] at he;subst he;have H1:=Lib.hid (H0.out.on hb);have f1:=H1.out.free 1;have c1:=H1.out.cell 1 (.int .i64 0) rfl;have H2:=Lib.hid (H1.out.set 1 (.int .i64 nx));obtain ⟨b0,b1⟩:=H2.out.w1;clear hb)
        | (go_at_call 28;refine (HCy.out _).mono ?_;rintro e w2 ⟨he,hb⟩;unfold PlainIs at he;rw [HXy.out] at he;subst he;have H3:=Lib.hid (H2.out.on hb);clear hb;clear HCy)
        | (go_at_call 94;refine (boxes_any _).mono ?_;rintro e w3 ⟨rfl,hw3⟩;have H4:=Lib.hid (H3.out.on (hw3 ▸ below_new _ _));have HBX:=Lib.hid (BxAt.new hw3);clear hw3))
       have HBE:Hid (w2.heap.size≠B):=Lib.hid (by have:=lt_of_block H3.out.op;omega)
       go_loopw [5,21] (fun fnd i wr=>∃j:Nat,j≤3∧i=.int .i64 j∧fnd=.bool (bxF ty j)∧RowS w0 B g [x,y,z,u,v] (((zeroC k).setIfInBounds 1 (.int .i64 nx)).setIfInBounds 11 (.int .i64 (bxT ty j))) wr∧BxAt w2.heap.size wr) (fun _ i _=>3-(intOf i).toNat)
       case atStart=>exact ⟨0,by omega,rfl,rfl,H4.out,HBX.out⟩
       case round =>
        obtain ⟨j,hj,rfl,rfl,hr,hbx⟩:=hrel
        have H5:=Lib.hid hr;have HBY:=Lib.hid hbx
        clear hr hbx H4 HBX H0 a0 a1 b0 b1 f1 c1
        by_cases hlt:j<3
        ·have hc:=HBY.out.cell j hlt
         have HF:=Lib.hid (show bxF ty (j+1)=if bxN j=ty then true else bxF ty j from rfl)
         have HT:=Lib.hid (show bxT ty (j+1)=if bxN j=ty then (j:Int) else bxT ty j from rfl)
         have hj2:(j:Int)≤3:=by omega
         have f11:=H5.out.free 11
         have c11:=H5.out.cell 11 (.int .i64 (bxT ty j)) rfl
         generalize bxF ty j=F at HF
         generalize bxT ty j=T at HT H5 c11
         by_cases ht:bxN j=ty
         ·have q1:((bstr (bxN j)).toList==(bstr ty).toList)=true:=by rw [ht];exact beq_self_eq_true _
          rw [if_pos ht] at HF HT
          clear ht
          go_wp2
          refine ⟨⟨j+1,by omega,by go_num,by rw [HF.out],?_,HBY.out.set HBE.out _ _⟩,by simp [intOf];omega⟩
          rw [HT.out]
          have:=H5.out.set 11 (.int .i64 j)
          simpa using this
         ·have q1:((bstr (bxN j)).toList==(bstr ty).toList)=false:=by rw [Lib.toList_data (bstr ty),bstr_toList];exact str_ne ht
          rw [if_neg ht] at HF HT
          clear ht
          go_wp2
          refine ⟨⟨j+1,by omega,by go_num,by rw [HF.out],?_,HBY.out⟩,by simp [intOf];omega⟩
          rw [HT.out]
          exact H5.out
        ·have hje:j=3:=by omega
         subst hje
         have HB3:=Lib.hid (box_is ty)
         obtain ⟨d0,d1⟩:=H5.out.w2
         have hf3:bxF ty 3=true∧bxT ty 3=bb:=by
          have:=HB3.out
          rw [HXb.out] at this
          cases hq:bxF ty 3 with
          | false=>rw [hq] at this;cases this
          | true=>rw [hq] at this;exact ⟨rfl,(Option.some.inj this).symm⟩
         rw [hf3.1]
         rw [hf3.2] at H5
         clear hf3 HBY HBE
         by_cases hz:tz = [45]
         ·have q3:((bstr tz).toList==[45])=true:=str_eq hz
          clear d0 d1
          obtain ⟨d0,d1⟩:=H5.out.w2
          have HZ:=Lib.hid hz
          clear hz
          go_wp2_with (first
           | (go_at_call 23;refine (must_yes _).mono ?_;rintro e w4 ⟨rfl,rfl⟩)
           | (go_at_call 28;refine (HCz.out _).mono ?_;rintro e w5 ⟨he,hb⟩;unfold PlainIs at he;rw [HXz.out] at he;subst he;have H6:=Lib.hid (H5.out.on hb);have f12:=H6.out.free 12;have c12:=H6.out.cell 12 (.string ⟨#[]⟩) rfl;have H7:=Lib.hid (H6.out.set 12 (.string (bstr tz)));have f12b:=H7.out.free 12;have c12b:=H7.out.cell 12 (.string (bstr tz)) rfl;clear hb))
          have H8:=Lib.hid (by have:=H7.out.set 12 (.string ⟨#[]⟩);simpa using this)
          have H9:=Lib.hid (H8.out.on (Below.refl _ _).drew)
          refine wp_region_held_drew (S:=fun s=>∃cs,RowS w0 B g [x,y,z,u,v] cs s) (by kernel_rfl) ⟨_,H9.out⟩ (fun hHeld => ?_)
          refine tk 0 (.pointer (some ⟨B,0,none⟩)) rfl hHeld (fun s hs=>by obtain ⟨_,_,_,_,_,_,d0,d1,e0,e1⟩:=rc5 hs;go_simp) ?_
          refine tk 1 (.pointer (some ⟨B,0,none⟩)) rfl hHeld (fun s hs=>by obtain ⟨_,_,_,_,_,_,d0,d1,e0,e1⟩:=rc5 hs;go_simp) ?_
          refine tk 2 (.slice (some ⟨g,2,none⟩) 5 c) rfl hHeld (fun s hs=>by obtain ⟨_,_,_,_,_,_,d0,d1,e0,e1⟩:=rc5 hs;go_simp) ?_
          refine tk 3 (.pointer (some ⟨g,8,none⟩)) rfl hHeld (fun s hs=>by obtain ⟨_,_,_,_,_,_,d0,d1,e0,e1⟩:=rc5 hs;go_simp) ?_
          refine tk 4 (.agg #[.string (bstr u.1),.bool u.2]) rfl hHeld (fun s hs=>by obtain ⟨_,_,_,_,_,_,d0,d1,e0,e1⟩:=rc5 hs;go_simp) ?_
          refine tk 6 (.slice (some ⟨g,2,none⟩) 5 c) rfl hHeld (fun s hs=>by obtain ⟨_,_,_,_,_,_,d0,d1,e0,e1⟩:=rc5 hs;go_simp) ?_
          refine tk 7 (.pointer (some ⟨g,10,none⟩)) rfl hHeld (fun s hs=>by obtain ⟨_,_,_,_,_,_,d0,d1,e0,e1⟩:=rc5 hs;go_simp) ?_
          refine tk 8 (.agg #[.string (bstr v.1),.bool v.2]) rfl hHeld (fun s hs=>by obtain ⟨_,_,_,_,_,_,d0,d1,e0,e1⟩:=rc5 hs;go_simp) ?_
          refine rd1 5 rfl fun K hK => ?_
          go_simp
          refine (HCu.out _).mono ?_
          rintro e w6 ⟨he,hb⟩
          unfold FracWIs at he
          rw [HXu.out] at he
          subst he
          have Ha:=Lib.hid (H9.out.on hb)
          clear hb
          refine hK.out _ _ ⟨_,Ha.out⟩ (fun hHeld => ?_)
          clear hK
          refine rd1 9 rfl fun K hK => ?_
          go_simp
          refine (HCv.out _).mono ?_
          rintro e w7 ⟨he,hb⟩
          unfold FracWIs at he
          rw [HXv.out] at he
          subst he
          have Hb:=Lib.hid (Ha.out.on hb)
          clear hb
          exact ⟨rfl,Hb.out.bad⟩
         ·have q3:((bstr tz).toList==[45])=false:=str_ne hz
          have HZ:=Lib.hid hz
          clear hz
          go_wp2_with (first
           | (go_at_call 23;refine (must_yes _).mono ?_;rintro e w4 ⟨rfl,rfl⟩)
           | (go_at_call 28;refine (HCz.out _).mono ?_;rintro e w5 ⟨he,hb⟩;unfold PlainIs at he;rw [HXz.out] at he;subst he;have H6:=Lib.hid (H5.out.on hb);have f12:=H6.out.free 12;have c12:=H6.out.cell 12 (.string ⟨#[]⟩) rfl;have H7:=Lib.hid (H6.out.set 12 (.string (bstr tz)));clear hb))
          have H8:=Lib.hid (H7.out)
          have H9:=Lib.hid (H8.out.on (Below.refl _ _).drew)
          refine wp_region_held_drew (S:=fun s=>∃cs,RowS w0 B g [x,y,z,u,v] cs s) (by kernel_rfl) ⟨_,H9.out⟩ (fun hHeld => ?_)
          refine tk 0 (.pointer (some ⟨B,0,none⟩)) rfl hHeld (fun s hs=>by obtain ⟨_,_,_,_,_,_,d0,d1,e0,e1⟩:=rc5 hs;go_simp) ?_
          refine tk 1 (.pointer (some ⟨B,0,none⟩)) rfl hHeld (fun s hs=>by obtain ⟨_,_,_,_,_,_,d0,d1,e0,e1⟩:=rc5 hs;go_simp) ?_
          refine tk 2 (.slice (some ⟨g,2,none⟩) 5 c) rfl hHeld (fun s hs=>by obtain ⟨_,_,_,_,_,_,d0,d1,e0,e1⟩:=rc5 hs;go_simp) ?_
          refine tk 3 (.pointer (some ⟨g,8,none⟩)) rfl hHeld (fun s hs=>by obtain ⟨_,_,_,_,_,_,d0,d1,e0,e1⟩:=rc5 hs;go_simp) ?_
          refine tk 4 (.agg #[.string (bstr u.1),.bool u.2]) rfl hHeld (fun s hs=>by obtain ⟨_,_,_,_,_,_,d0,d1,e0,e1⟩:=rc5 hs;go_simp) ?_
          refine tk 6 (.slice (some ⟨g,2,none⟩) 5 c) rfl hHeld (fun s hs=>by obtain ⟨_,_,_,_,_,_,d0,d1,e0,e1⟩:=rc5 hs;go_simp) ?_
          refine tk 7 (.pointer (some ⟨g,10,none⟩)) rfl hHeld (fun s hs=>by obtain ⟨_,_,_,_,_,_,d0,d1,e0,e1⟩:=rc5 hs;go_simp) ?_
          refine tk 8 (.agg #[.string (bstr v.1),.bool v.2]) rfl hHeld (fun s hs=>by obtain ⟨_,_,_,_,_,_,d0,d1,e0,e1⟩:=rc5 hs;go_simp) ?_
          refine rd1 5 rfl fun K hK => ?_
          go_simp
          refine (HCu.out _).mono ?_
          rintro e w6 ⟨he,hb⟩
          unfold FracWIs at he
          rw [HXu.out] at he
          subst he
          have Ha:=Lib.hid (H9.out.on hb)
          clear hb
          refine hK.out _ _ ⟨_,Ha.out⟩ (fun hHeld => ?_)
          clear hK
          refine rd1 9 rfl fun K hK => ?_
          go_simp
          refine (HCv.out _).mono ?_
          rintro e w7 ⟨he,hb⟩
          unfold FracWIs at he
          rw [HXv.out] at he
          subst he
          have Hb:=Lib.hid (Ha.out.on hb)
          clear hb
          exact ⟨rfl,Hb.out.bad⟩
      | some qv =>
       have HXv:=Lib.hid hv
       clear hv
       go_enter Tryz.func61,Tryz.ntmps61
       go_wp2_with (first
        | (go_at_call 50;refine (HCx.out _).mono ?_;rintro e w1 ⟨he,hb⟩;unfold NumIs at he;rw [HXx.out] at he;subst he;have H1:=Lib.hid (H0.out.on hb);have f1:=H1.out.free 1;have c1:=H1.out.cell 1 (.int .i64 0) rfl;have H2:=Lib.hid (H1.out.set 1 (.int .i64 nx));obtain ⟨b0,b1⟩:=H2.out.w1;clear hb)
        | (go_at_call 28;refine (HCy.out _).mono ?_;rintro e w2 ⟨he,hb⟩;unfold PlainIs at he;rw [HXy.out] at he;subst he;have H3:=Lib.hid (H2.out.on hb);clear hb;clear HCy)
        | (go_at_call 94;refine (boxes_any _).mono ?_;rintro e w3 ⟨rfl,hw3⟩;have H4:=Lib.hid (H3.out.on (hw3 ▸ below_new _ _));have HBX:=Lib.hid (BxAt.new hw3);clear hw3))
       have HBE:Hid (w2.heap.size≠B):=Lib.hid (by have:=lt_of_block H3.out.op;omega)
       go_loopw [5,21] (fun fnd i wr=>∃j:Nat,j≤3∧i=.int .i64 j∧fnd=.bool (bxF ty j)∧RowS w0 B g [x,y,z,u,v] (((zeroC k).setIfInBounds 1 (.int .i64 nx)).setIfInBounds 11 (.int .i64 (bxT ty j))) wr∧BxAt w2.heap.size wr) (fun _ i _=>3-(intOf i).toNat)
       case atStart=>exact ⟨0,by omega,rfl,rfl,H4.out,HBX.out⟩
       case round =>
        obtain ⟨j,hj,rfl,rfl,hr,hbx⟩:=hrel
        have H5:=Lib.hid hr;have HBY:=Lib.hid hbx
        clear hr hbx H4 HBX H0 a0 a1 b0 b1 f1 c1
        by_cases hlt:j<3
        ·have hc:=HBY.out.cell j hlt
         have HF:=Lib.hid (show bxF ty (j+1)=if bxN j=ty then true else bxF ty j from rfl)
         have HT:=Lib.hid (show bxT ty (j+1)=if bxN j=ty then (j:Int) else bxT ty j from rfl)
         have hj2:(j:Int)≤3:=by omega
         have f11:=H5.out.free 11
         have c11:=H5.out.cell 11 (.int .i64 (bxT ty j)) rfl
         generalize bxF ty j=F at HF
         generalize bxT ty j=T at HT H5 c11
         by_cases ht:bxN j=ty
         ·have q1:((bstr (bxN j)).toList==(bstr ty).toList)=true:=by rw [ht];exact beq_self_eq_true _
          rw [if_pos ht] at HF HT
          clear ht
          go_wp2
          refine ⟨⟨j+1,by omega,by go_num,by rw [HF.out],?_,HBY.out.set HBE.out _ _⟩,by simp [intOf];omega⟩
          rw [HT.out]
          have:=H5.out.set 11 (.int .i64 j)
          simpa using this
         ·have q1:((bstr (bxN j)).toList==(bstr ty).toList)=false:=by rw [Lib.toList_data (bstr ty),bstr_toList];exact str_ne ht
          rw [if_neg ht] at HF HT
          clear ht
          go_wp2
          refine ⟨⟨j+1,by omega,by go_num,by rw [HF.out],?_,HBY.out⟩,by simp [intOf];omega⟩
          rw [HT.out]
          exact H5.out
        ·have hje:j=3:=by omega
         subst hje
         have HB3:=Lib.hid (box_is ty)
         obtain ⟨d0,d1⟩:=H5.out.w2
         have hf3:bxF ty 3=true∧bxT ty 3=bb:=by
          have:=HB3.out
          rw [HXb.out] at this
          cases hq:bxF ty 3 with
          | false=>rw [hq] at this;cases this
          | true=>rw [hq] at this;exact ⟨rfl,(Option.some.inj this).symm⟩
         rw [hf3.1]
         rw [hf3.2] at H5
         clear hf3 HBY HBE
         by_cases hz:tz = [45]
         ·have q3:((bstr tz).toList==[45])=true:=str_eq hz
          clear d0 d1
          obtain ⟨d0,d1⟩:=H5.out.w2
          have HZ:=Lib.hid hz
          clear hz
          go_wp2_with (first
           | (go_at_call 23;refine (must_yes _).mono ?_;rintro e w4 ⟨rfl,rfl⟩)
           | (go_at_call 28;refine (HCz.out _).mono ?_;rintro e w5 ⟨he,hb⟩;unfold PlainIs at he;rw [HXz.out] at he;subst he;have H6:=Lib.hid (H5.out.on hb);have f12:=H6.out.free 12;have c12:=H6.out.cell 12 (.string ⟨#[]⟩) rfl;have H7:=Lib.hid (H6.out.set 12 (.string (bstr tz)));have f12b:=H7.out.free 12;have c12b:=H7.out.cell 12 (.string (bstr tz)) rfl;clear hb))
          have H8:=Lib.hid (by have:=H7.out.set 12 (.string ⟨#[]⟩);simpa using this)
          have H9:=Lib.hid (H8.out.on (Below.refl _ _).drew)
          refine wp_region_held_drew (S:=fun s=>∃cs,RowS w0 B g [x,y,z,u,v] cs s) (by kernel_rfl) ⟨_,H9.out⟩ (fun hHeld => ?_)
          refine tk 0 (.pointer (some ⟨B,0,none⟩)) rfl hHeld (fun s hs=>by obtain ⟨_,_,_,_,_,_,d0,d1,e0,e1⟩:=rc5 hs;go_simp) ?_
          refine tk 1 (.pointer (some ⟨B,0,none⟩)) rfl hHeld (fun s hs=>by obtain ⟨_,_,_,_,_,_,d0,d1,e0,e1⟩:=rc5 hs;go_simp) ?_
          refine tk 2 (.slice (some ⟨g,2,none⟩) 5 c) rfl hHeld (fun s hs=>by obtain ⟨_,_,_,_,_,_,d0,d1,e0,e1⟩:=rc5 hs;go_simp) ?_
          refine tk 3 (.pointer (some ⟨g,8,none⟩)) rfl hHeld (fun s hs=>by obtain ⟨_,_,_,_,_,_,d0,d1,e0,e1⟩:=rc5 hs;go_simp) ?_
          refine tk 4 (.agg #[.string (bstr u.1),.bool u.2]) rfl hHeld (fun s hs=>by obtain ⟨_,_,_,_,_,_,d0,d1,e0,e1⟩:=rc5 hs;go_simp) ?_
          refine tk 6 (.slice (some ⟨g,2,none⟩) 5 c) rfl hHeld (fun s hs=>by obtain ⟨_,_,_,_,_,_,d0,d1,e0,e1⟩:=rc5 hs;go_simp) ?_
          refine tk 7 (.pointer (some ⟨g,10,none⟩)) rfl hHeld (fun s hs=>by obtain ⟨_,_,_,_,_,_,d0,d1,e0,e1⟩:=rc5 hs;go_simp) ?_
          refine tk 8 (.agg #[.string (bstr v.1),.bool v.2]) rfl hHeld (fun s hs=>by obtain ⟨_,_,_,_,_,_,d0,d1,e0,e1⟩:=rc5 hs;go_simp) ?_
          refine rd1 5 rfl fun K hK => ?_
          go_simp
          refine (HCu.out _).mono ?_
          rintro e w6 ⟨he,hb⟩
          unfold FracWIs at he
          rw [HXu.out] at he
          subst he
          have Ha:=Lib.hid (H9.out.on hb)
          clear hb
          refine hK.out _ _ ⟨_,Ha.out⟩ (fun hHeld => ?_)
          clear hK
          refine rd1 9 rfl fun K hK => ?_
          go_simp
          refine (HCv.out _).mono ?_
          rintro e w7 ⟨he,hb⟩
          unfold FracWIs at he
          rw [HXv.out] at he
          subst he
          have Hb:=Lib.hid (Ha.out.on hb)
          clear hb
          refine hK.out _ _ ⟨_,Hb.out⟩ (fun hHeld => ?_)
          clear hK
          refine tk 10 (.pointer (some ⟨B,0,none⟩)) rfl hHeld (fun s hs=>by obtain ⟨_,_,_,_,_,_,d0,d1,e0,e1⟩:=rc5 hs;go_simp) ?_
          refine tk 11 (.pointer (some ⟨B,11,none⟩)) rfl hHeld (fun s hs=>by obtain ⟨_,_,_,_,_,_,d0,d1,e0,e1⟩:=rc5 hs;go_simp) ?_
          refine tk 12 (.pointer (some ⟨B,13,none⟩)) rfl hHeld (fun s hs=>by obtain ⟨_,_,_,_,_,_,d0,d1,e0,e1⟩:=rc5 hs;go_simp) ?_
          have f13:=Hb.out.free 13
          have c13:=Hb.out.cell 13 (.int .i64 0) rfl
          have f14:=Hb.out.free 14
          have c14:=Hb.out.cell 14 (.int .i64 0) rfl
          refine rd1 13 rfl fun K hK => ?_
          go_simp
          have Hc:=Lib.hid (Hb.out.set 13 (.int .i64 qu.1))
          have Hd:=Lib.hid (Hc.out.set 14 (.int .i64 qu.2))
          clear f13 c13 f14 c14
          refine hK.out _ _ ⟨_,Hd.out⟩ (fun hHeld => ?_)
          clear hK
          refine tk 14 (.pointer (some ⟨B,0,none⟩)) rfl hHeld (fun s hs=>by obtain ⟨_,_,_,_,_,_,d0,d1,e0,e1⟩:=rc5 hs;go_simp) ?_
          refine tk 15 (.pointer (some ⟨B,11,none⟩)) rfl hHeld (fun s hs=>by obtain ⟨_,_,_,_,_,_,d0,d1,e0,e1⟩:=rc5 hs;go_simp) ?_
          refine tk 16 (.pointer (some ⟨B,15,none⟩)) rfl hHeld (fun s hs=>by obtain ⟨_,_,_,_,_,_,d0,d1,e0,e1⟩:=rc5 hs;go_simp) ?_
          have f15:=Hd.out.free 15
          have c15:=Hd.out.cell 15 (.int .i64 0) rfl
          have f16:=Hd.out.free 16
          have c16:=Hd.out.cell 16 (.int .i64 0) rfl
          refine rd1 17 rfl fun K hK => ?_
          go_simp
          have He:=Lib.hid (Hd.out.set 15 (.int .i64 qv.1))
          have Hf:=Lib.hid (He.out.set 16 (.int .i64 qv.2))
          clear f15 c15 f16 c16
          refine hK.out _ _ ⟨_,Hf.out⟩ (fun hHeld => ?_)
          clear hK
          refine wpAnyH_done (by kernel_rfl) ?_ _
          clear hHeld
          go_simp
          go_end0
          exact Hf.out.good _ rfl (by simp only [sp.boxName,if_pos HZ.out];rfl)
         ·have q3:((bstr tz).toList==[45])=false:=str_ne hz
          have HZ:=Lib.hid hz
          clear hz
          go_wp2_with (first
           | (go_at_call 23;refine (must_yes _).mono ?_;rintro e w4 ⟨rfl,rfl⟩)
           | (go_at_call 28;refine (HCz.out _).mono ?_;rintro e w5 ⟨he,hb⟩;unfold PlainIs at he;rw [HXz.out] at he;subst he;have H6:=Lib.hid (H5.out.on hb);have f12:=H6.out.free 12;have c12:=H6.out.cell 12 (.string ⟨#[]⟩) rfl;have H7:=Lib.hid (H6.out.set 12 (.string (bstr tz)));clear hb))
          have H8:=Lib.hid (H7.out)
          have H9:=Lib.hid (H8.out.on (Below.refl _ _).drew)
          refine wp_region_held_drew (S:=fun s=>∃cs,RowS w0 B g [x,y,z,u,v] cs s) (by kernel_rfl) ⟨_,H9.out⟩ (fun hHeld => ?_)
          refine tk 0 (.pointer (some ⟨B,0,none⟩)) rfl hHeld (fun s hs=>by obtain ⟨_,_,_,_,_,_,d0,d1,e0,e1⟩:=rc5 hs;go_simp) ?_
          refine tk 1 (.pointer (some ⟨B,0,none⟩)) rfl hHeld (fun s hs=>by obtain ⟨_,_,_,_,_,_,d0,d1,e0,e1⟩:=rc5 hs;go_simp) ?_
          refine tk 2 (.slice (some ⟨g,2,none⟩) 5 c) rfl hHeld (fun s hs=>by obtain ⟨_,_,_,_,_,_,d0,d1,e0,e1⟩:=rc5 hs;go_simp) ?_
          refine tk 3 (.pointer (some ⟨g,8,none⟩)) rfl hHeld (fun s hs=>by obtain ⟨_,_,_,_,_,_,d0,d1,e0,e1⟩:=rc5 hs;go_simp) ?_
          refine tk 4 (.agg #[.string (bstr u.1),.bool u.2]) rfl hHeld (fun s hs=>by obtain ⟨_,_,_,_,_,_,d0,d1,e0,e1⟩:=rc5 hs;go_simp) ?_
          refine tk 6 (.slice (some ⟨g,2,none⟩) 5 c) rfl hHeld (fun s hs=>by obtain ⟨_,_,_,_,_,_,d0,d1,e0,e1⟩:=rc5 hs;go_simp) ?_
          refine tk 7 (.pointer (some ⟨g,10,none⟩)) rfl hHeld (fun s hs=>by obtain ⟨_,_,_,_,_,_,d0,d1,e0,e1⟩:=rc5 hs;go_simp) ?_
          refine tk 8 (.agg #[.string (bstr v.1),.bool v.2]) rfl hHeld (fun s hs=>by obtain ⟨_,_,_,_,_,_,d0,d1,e0,e1⟩:=rc5 hs;go_simp) ?_
          refine rd1 5 rfl fun K hK => ?_
          go_simp
          refine (HCu.out _).mono ?_
          rintro e w6 ⟨he,hb⟩
          unfold FracWIs at he
          rw [HXu.out] at he
          subst he
          have Ha:=Lib.hid (H9.out.on hb)
          clear hb
          refine hK.out _ _ ⟨_,Ha.out⟩ (fun hHeld => ?_)
          clear hK
          refine rd1 9 rfl fun K hK => ?_
          go_simp
          refine (HCv.out _).mono ?_
          rintro e w7 ⟨he,hb⟩
          unfold FracWIs at he
          rw [HXv.out] at he
          subst he
          have Hb:=Lib.hid (Ha.out.on hb)
          clear hb
          refine hK.out _ _ ⟨_,Hb.out⟩ (fun hHeld => ?_)
          clear hK
          refine tk 10 (.pointer (some ⟨B,0,none⟩)) rfl hHeld (fun s hs=>by obtain ⟨_,_,_,_,_,_,d0,d1,e0,e1⟩:=rc5 hs;go_simp) ?_
          refine tk 11 (.pointer (some ⟨B,11,none⟩)) rfl hHeld (fun s hs=>by obtain ⟨_,_,_,_,_,_,d0,d1,e0,e1⟩:=rc5 hs;go_simp) ?_
          refine tk 12 (.pointer (some ⟨B,13,none⟩)) rfl hHeld (fun s hs=>by obtain ⟨_,_,_,_,_,_,d0,d1,e0,e1⟩:=rc5 hs;go_simp) ?_
          have f13:=Hb.out.free 13
          have c13:=Hb.out.cell 13 (.int .i64 0) rfl
          have f14:=Hb.out.free 14
          have c14:=Hb.out.cell 14 (.int .i64 0) rfl
          refine rd1 13 rfl fun K hK => ?_
          go_simp
          have Hc:=Lib.hid (Hb.out.set 13 (.int .i64 qu.1))
          have Hd:=Lib.hid (Hc.out.set 14 (.int .i64 qu.2))
          clear f13 c13 f14 c14
          refine hK.out _ _ ⟨_,Hd.out⟩ (fun hHeld => ?_)
          clear hK
          refine tk 14 (.pointer (some ⟨B,0,none⟩)) rfl hHeld (fun s hs=>by obtain ⟨_,_,_,_,_,_,d0,d1,e0,e1⟩:=rc5 hs;go_simp) ?_
          refine tk 15 (.pointer (some ⟨B,11,none⟩)) rfl hHeld (fun s hs=>by obtain ⟨_,_,_,_,_,_,d0,d1,e0,e1⟩:=rc5 hs;go_simp) ?_
          refine tk 16 (.pointer (some ⟨B,15,none⟩)) rfl hHeld (fun s hs=>by obtain ⟨_,_,_,_,_,_,d0,d1,e0,e1⟩:=rc5 hs;go_simp) ?_
          have f15:=Hd.out.free 15
          have c15:=Hd.out.cell 15 (.int .i64 0) rfl
          have f16:=Hd.out.free 16
          have c16:=Hd.out.cell 16 (.int .i64 0) rfl
          refine rd1 17 rfl fun K hK => ?_
          go_simp
          have He:=Lib.hid (Hd.out.set 15 (.int .i64 qv.1))
          have Hf:=Lib.hid (He.out.set 16 (.int .i64 qv.2))
          clear f15 c15 f16 c16
          refine hK.out _ _ ⟨_,Hf.out⟩ (fun hHeld => ?_)
          clear hK
          refine wpAnyH_done (by kernel_rfl) ?_ _
          clear hHeld
          go_simp
          go_end0
          exact Hf.out.good _ rfl (by simp only [sp.boxName,if_neg HZ.out];rfl)
end Go.Proofs.YtihlneenajlhoaaGreatDoor
