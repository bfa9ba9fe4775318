/-
 What the readings of the arguments tell: operations and answers in memory, rows of them, their sizes within the bound. No condition of its own.
-/
import Derived.Test.YtihlneenajlhoaaGreatDoorRows
import Derived.Test.YtihlneenajlhoaaGreatDoorS1
import Derived.Test.YtihlneenajlhoaaGreatDoorS2
import Derived.Deep.Slices
import Derived.SizedLaws
import Derived.Handed
import Derived.OpenShut
import Derived.KernelRfl
import Derived.Test.YtihlneenajlhoaaGreatDoorS0
import Derived.Maps.AppendAt
import Derived.Test.YtihlneenajlhoaaGreatDoorProg
import Derived.Shelf.Lay
import Derived.Shelf.Lays
import Derived.Shelf.LaysM
import Derived.Shelf.Small.Wraps
import Derived.Shelf.Strings.Search3
import Derived.Shelf.Strings.Trim
import Derived.Shelf.Strings.SplitShaped
import Derived.Ground.NamesProg
set_option linter.unusedSimpArgs false
set_option linter.unusedVariables false
namespace Go.Proofs.YtihlneenajlhoaaGreatDoor
open Go Go.RowKit Go.ChangeShapes Go.WideShapes
theorem uV {cs:List Value} (h:cs.length=2):∃a0 a1,cs = [a0,a1]:=by
 match cs,h with
 | [a0,a1],_=>exact ⟨a0,a1,rfl⟩
theorem uX {cs:List Value} (h:cs.length=6):∃a0 a1 a2 a3 a4 a5,cs = [a0,a1,a2,a3,a4,a5]:=by
 match cs,h with
 | [a0,a1,a2,a3,a4,a5],_=>exact ⟨a0,a1,a2,a3,a4,a5,rfl⟩
theorem uY {cs:List Value} (h:cs.length=18):∃a0 a1 a2 a3 a4 a5 a6 a7 a8 a9 a10 a11 a12 a13 a14 a15 a16 a17,cs = [a0,a1,a2,a3,a4,a5,a6,a7,a8,a9,a10,a11,a12,a13,a14,a15,a16,a17]:=by
 match cs,h with
 | [a0,a1,a2,a3,a4,a5,a6,a7,a8,a9,a10,a11,a12,a13,a14,a15,a16,a17],_=>exact ⟨a0,a1,a2,a3,a4,a5,a6,a7,a8,a9,a10,a11,a12,a13,a14,a15,a16,a17,rfl⟩
section
variable {H:Type} {enc:TypeId×Value→H} {w:World} {held:Bool}
def Bk (N:Nat) (d:DataW H):Prop:=Rows.uptoBulk d≤N
theorem Uo:∀ {l:List (DataW H)} {d:DataW H},d∈l→Rows.uptoBulk d≤Rows.uptoBulkAll l
 | [],_,h=>by cases h
 | a :: l,d,h=>by
  rw [Rows.uptoBulkAll]
  rcases List.mem_cons.1 h with rfl | h
  ·omega
  ·have:=Uo h;omega
theorem uZ (d:DataW H):1≤Rows.uptoBulk d:=by
 unfold Rows.uptoBulk
 split<;>omega
theorem Ur:∀(l:List (DataW H)),l.length≤Rows.uptoBulkAll l
 | []=>Nat.zero_le _
 | a :: l=>by
  rw [Rows.uptoBulkAll,List.length_cons]
  have:=Ur l
  have:=uZ a
  omega
theorem Bk.elem {N:Nat} {l s:List (DataW H)} (h:Bk N (.slice l s)) {d:DataW H} (hd:d∈l):Bk N d:=by
 unfold Bk at *
 rw [Rows.uptoBulk] at h
 have:=Uo hd
 omega
theorem Bk.len {N:Nat} {l s:List (DataW H)} (h:Bk N (.slice l s)):l.length+s.length≤N:=by
 unfold Bk at h
 rw [Rows.uptoBulk] at h
 have:=Ur l
 have:=Ur s
 omega
theorem Bk.field {N:Nat} {l:List (DataW H)} (h:Bk N (.agg l)) {i:Nat} {d:DataW H} (hd:l[i]?=some d):Bk N d:=by
 unfold Bk at *
 rw [Rows.uptoBulk] at h
 have:=Uo (List.mem_of_getElem? hd)
 omega
theorem Bk.str {N:Nat} {s:List UInt8} (h:Bk N (.lit (.string s):DataW H)):s.length≤N:=by
 unfold Bk at h
 rw [Rows.uptoBulk] at h
 omega
theorem flat_get {α:Type} {cells:α→List Value} {k:Nat} (hk:0<k) (hl:∀a,(cells a).length=k):∀ {l:List α} {j:Nat} {u:Value},(l.flatMap cells)[j]?=some u→∃i q a,j=i*k+q∧q<k∧l[i]?=some a∧(cells a)[q]?=some u
 | [],j,u,h=>by simp at h
 | b :: l,j,u,h=>by
  rw [List.flatMap_cons] at h
  by_cases hj:j<k
  ·rw [List.getElem?_append_left (by rw [hl];exact hj)] at h
   exact ⟨0,j,b,by omega,hj,rfl,h⟩
  ·rw [List.getElem?_append_right (by rw [hl];omega),hl] at h
   obtain ⟨i,q,a,h1,h2,h3,h4⟩:=flat_get hk hl h
   exact ⟨i+1,q,a,by rw [Nat.succ_mul];omega,h2,h3,h4⟩
theorem add_plain (a:Addr) (n:Nat) (h:a.spot=none):a.add n=⟨a.block,a.off+n,none⟩:=by
 unfold Addr.add
 split
 ·subst_vars
  cases a
  simp at h ⊢
  exact h
 ·rfl
theorem vC {w:World} {a:Addr} {v:Value} (h:w.cell? a=some v):a.spot=none∧a.block<w.heap.size:=by
 unfold World.cell? at h
 split at h
 ·rename_i hb
  refine ⟨?_,(Array.getElem?_eq_some_iff.1 hb).1⟩
  split at h
  ·cases h
  ·rename_i hs
   cases hq:a.spot with
   | none=>rfl
   | some _=>simp [hq] at hs
 ·cases h
theorem open_row {P:Program} {N:Nat} {α:Type} [Inhabited α] (cells:α→List Value) (ok:α→Prop) {k:Nat} (hk:0<k) {t e:TypeId} {fuel:Nat} {cs:List Value} {x:DataW H×List MemPlace} (ht:P.underlying t=some (.slice e)) (hc:P.cellsOf e=k)
  (hl:∀a,(cells a).length=k) (one:∀n cs' y,DataW.trod enc P w 0 (fun _=>true) held n e cs'=some y→Bk N y.1→∃a,cs'=cells a∧ok a)
  (h:DataW.trod enc P w 0 (fun _=>true) held fuel t cs=some x) (hb:Bk N x.1):∃(v:Value) (l:List α),cs = [v]∧BK w.heap.size w v l.length (l.flatMap cells)∧(∀a∈l,ok a)∧l.length≤N:=by
 rcases Deep.open_slice ht h with ⟨rfl,rfl⟩ | ⟨a,len,cap,m,n,D,Pl,rfl,_,hle,hcap,hm,rfl,hx⟩
 ·exact ⟨_,[],rfl,⟨none,0,rfl,Nat.le_refl _,Nat.zero_le _,Or.inl ⟨rfl,rfl,fun _=>rfl⟩⟩,(fun _ h=>by cases h),by simp⟩
 ·have hlm:len≤m:=by rw [hm];split<;>omega
  have each:∀i,i<len→∃y:α,w.cells? 0 (a.add (i*k)) k=some (cells y)∧ok y:=fun i hi=>by
   obtain ⟨cs',h1,h2⟩:=hx i (by omega)
   obtain ⟨y,rfl,h3⟩:=one _ _ _ h2 (hb.elem (List.mem_map.2 ⟨i,List.mem_range.2 hi,rfl⟩))
   rw [hc] at h1
   exact ⟨y,h1,h3⟩
  obtain ⟨A,hA⟩:=Deep.choose_lt each
  have hlen:((List.range len).map A).length=len:=by simp
  refine ⟨_,(List.range len).map A,rfl,⟨some a,cap,by rw [hlen],by omega,hcap,?_⟩,fun y hy => ?_,?_⟩
  ·rw [hlen]
   by_cases h0:len=0
   ·subst h0
    exact Or.inl ⟨rfl,rfl,fun h=>by cases h⟩
   ·refine Or.inr ⟨by omega,?_⟩
    have c0:=(World.cells?_some (hA 0 (by omega)).1).2.2 0 hk
    have cA:(cells (A 0))[0]?=some ((cells (A 0))[0]'(by rw [hl];exact hk)):=List.getElem?_eq_getElem _
    rw [Nat.zero_mul] at c0
    rw [cA] at c0
    have ha:(a.add 0).add 0=a:=rfl
    rw [ha] at c0
    obtain ⟨hs,hbl⟩:=vC c0
    refine ⟨a.block,a.off,by cases a;simp at hs ⊢; exact hs,hbl,fun j u hj => ?_⟩
    obtain ⟨i,q,y,rfl,hq,hi,hy⟩:=flat_get hk hl hj
    have hil:i<len:=by
     have:=(List.getElem?_eq_some_iff.1 hi).1
     simpa using this
    have:=(World.cells?_some (hA i hil).1).2.2 q hq
    rw [Deep.add_add,add_plain _ _ hs] at this
    rw [List.getElem?_map,List.getElem?_range hil] at hi
    obtain rfl:A i=y:=by simpa using hi
    rw [this]
    exact hy
  ·obtain ⟨i,hi,rfl⟩:=List.mem_map.1 hy
   exact (hA i (List.mem_range.1 hi)).2
  ·have:=hb.len
   rw [hlen]
   simp only [List.length_map,List.length_range] at this
   omega
variable {n N:Nat} {cs:List Value} {y:DataW H×List MemPlace}
theorem Us {P:Program} {t:TypeId} {fs:Array Field} {k:Nat} (ht:P.underlying t=some (.struct fs)) (hc:P.cellsOf t=k) (h:DataW.trod enc P w 0 (fun _=>true) held n t cs=some y) :
  ∃(xs:List (DataW H×List MemPlace)) (m:Nat),y.1=.agg (xs.map (·.1))∧cs.length=k∧xs.length=fs.size ∧
   ∀(i:Nat) (f:Field),fs[i]?=some f→DataW.trod enc P w 0 (fun _=>true) held m f.type ((cs.drop f.offset).take (P.cellsOf f.type))=xs[i]?:=by
 obtain ⟨xs,m,_,e,hl,hx,hf⟩:=DataW.trod_struct ht h
 exact ⟨xs,m,by rw [e],by rw [hl,hc],hx,hf⟩
theorem KY {t:TypeId} (ht:Tryz.prog.underlying t=some (.int .i64)) (h:DataW.trod enc Tryz.prog w 0 (fun _=>true) held n t cs=some y):∃i:Int,cs = [.int .i64 i]∧I64 i:=by
 obtain ⟨i,rfl,_,hw⟩:=DataW.trod_int ht h
 refine ⟨i,rfl,?_⟩
 simp only [Lit.wf,Bool.and_eq_true,decide_eq_true_eq] at hw
 exact hw
theorem Ut (h:DataW.trod enc Tryz.prog w 0 (fun _=>true) held n 9 cs=some y) (hb:Bk N y.1):∃s:ByteArray,cs = [.string s]∧s.size≤N:=by
 obtain ⟨s,rfl,hy,hw⟩:=DataW.trod_string Tryz.underlying9 h
 refine ⟨s,rfl,?_⟩
 rw [hy] at hb
 have:=hb.str
 rw [Array.length_toList] at this
 exact this
theorem vG (h:DataW.trod enc Tryz.prog w 0 (fun _=>true) held n 4 cs=some y):∃b:Bool,cs = [.bool b]:=by
 obtain ⟨b,rfl,_⟩:=DataW.trod_bool Tryz.underlying4 h
 exact ⟨b,rfl⟩
theorem vH (h:DataW.trod enc Tryz.prog w 0 (fun _=>true) held n 5 cs=some y):∃b:UInt8,cs = [.int .u8 b.toNat]:=by
 obtain ⟨i,rfl,_,hw⟩:=DataW.trod_int Tryz.underlying5 h
 simp only [Lit.wf,Bool.and_eq_true,decide_eq_true_eq] at hw
 obtain ⟨h0,h1⟩:=hw
 have e0:IntKind.u8.min=0:=rfl
 have e1:IntKind.u8.max=255:=rfl
 obtain ⟨k,hk,_⟩:∃k:UInt8,i=k.toNat∧True:=⟨UInt8.ofNat i.toNat,by
  rw [UInt8.toNat_ofNat']
  have:i.toNat%2 ^ 8=i.toNat:=Nat.mod_eq_of_lt (by omega)
  rw [this];omega,trivial⟩
 exact ⟨k,by rw [hk]⟩
theorem Yg:Tryz.prog.cellsOf 2=1:=by kernel_rfl
theorem Oi:Tryz.prog.cellsOf 3=1:=by kernel_rfl
theorem vI:Tryz.prog.cellsOf 4=1:=by kernel_rfl
theorem vJ:Tryz.prog.cellsOf 5=1:=by kernel_rfl
theorem Uu:Tryz.prog.cellsOf 9=1:=by kernel_rfl
theorem vK:Tryz.prog.cellsOf 22=1:=by kernel_rfl
theorem Oj:Tryz.prog.cellsOf 24=2:=by kernel_rfl
theorem Yh:Tryz.prog.cellsOf 26=6:=by kernel_rfl
theorem Yi:Tryz.prog.cellsOf 28=18:=by kernel_rfl
theorem Qe (h:DataW.trod enc Tryz.prog w 0 (fun _=>true) held n 24 cs=some y):∃a b:Int,cs = [.int .i64 a,.int .i64 b]∧I64 a∧I64 b:=by
 obtain ⟨xs,m,hy,hlen,hx,hf⟩:=Us Tryz.underlying24 Oj h
 obtain ⟨a0,a1,rfl⟩:=uV hlen
 have h0:DataW.trod enc Tryz.prog w 0 (fun _=>true) held m 2 ((([a0,a1]:List Value).drop 0).take (Tryz.prog.cellsOf 2))=xs[0]?:=hf 0 _ rfl
 rw [Yg] at h0
 have h1:DataW.trod enc Tryz.prog w 0 (fun _=>true) held m 2 ((([a0,a1]:List Value).drop 1).take (Tryz.prog.cellsOf 2))=xs[1]?:=hf 1 _ rfl
 rw [Yg] at h1
 have l2:xs.length=2:=hx
 rw [List.getElem?_eq_getElem (by omega)] at h0 h1
 obtain ⟨s0,e0,z0⟩:=KY Tryz.underlying2 h0
 obtain ⟨s1,e1,z1⟩:=KY Tryz.underlying2 h1
 simp at e0 e1
 exact ⟨s0,s1,by rw [e0,e1],z0,z1⟩
theorem vM (h:DataW.trod enc Tryz.prog w 0 (fun _=>true) held n 26 cs=some y) (hb:Bk N y.1):∃(bt:Int) (bn:ByteArray) (n1 d1 n2 d2:Int),cs = [.int .i64 bt,.string bn,.int .i64 n1,.int .i64 d1,.int .i64 n2,.int .i64 d2]∧I64 bt∧bn.size≤N∧I64 n1∧I64 d1∧I64 n2∧I64 d2:=by
 obtain ⟨xs,m,hy,hlen,hx,hf⟩:=Us Tryz.underlying26 Yh h
 obtain ⟨a0,a1,a2,a3,a4,a5,rfl⟩:=uX hlen
 have h0:DataW.trod enc Tryz.prog w 0 (fun _=>true) held m 3 ((([a0,a1,a2,a3,a4,a5]:List Value).drop 0).take (Tryz.prog.cellsOf 3))=xs[0]?:=hf 0 _ rfl
 rw [Oi] at h0
 have h1:DataW.trod enc Tryz.prog w 0 (fun _=>true) held m 9 ((([a0,a1,a2,a3,a4,a5]:List Value).drop 1).take (Tryz.prog.cellsOf 9))=xs[1]?:=hf 1 _ rfl
 rw [Uu] at h1
 have h2:DataW.trod enc Tryz.prog w 0 (fun _=>true) held m 24 ((([a0,a1,a2,a3,a4,a5]:List Value).drop 2).take (Tryz.prog.cellsOf 24))=xs[2]?:=hf 2 _ rfl
 rw [Oj] at h2
 have h3:DataW.trod enc Tryz.prog w 0 (fun _=>true) held m 24 ((([a0,a1,a2,a3,a4,a5]:List Value).drop 4).take (Tryz.prog.cellsOf 24))=xs[3]?:=hf 3 _ rfl
 rw [Oj] at h3
 have l2:xs.length=4:=hx
 have hb':Bk N (.agg (xs.map (·.1))):=by rw [←hy];exact hb
 clear hb
 have b1:Bk N (xs[1]'(by omega)).1:=hb'.field (i:=1) (by rw [List.getElem?_map,List.getElem?_eq_getElem (by omega)];rfl)
 rw [List.getElem?_eq_getElem (by omega)] at h0 h1 h2 h3
 obtain ⟨s0,e0,z0⟩:=KY Tryz.underlying3 h0
 obtain ⟨s1,e1,z1⟩:=Ut h1 b1
 obtain ⟨s2,s3,e2,z2,z3⟩:=Qe h2
 obtain ⟨s4,s5,e4,z4,z5⟩:=Qe h3
 simp at e0 e1 e2 e4
 exact ⟨s0,s1,s2,s3,s4,s5,by rw [e0,e1,e2.1,e2.2,e4.1,e4.2],z0,z1,z2,z3,z4,z5⟩
theorem vO (h:DataW.trod enc Tryz.prog w 0 (fun _=>true) held n 22 cs=some y) (hb:Bk N y.1):∃(v:Value) (l:List UInt8),cs = [v]∧BK w.heap.size w v l.length (Lib.byteCells l)∧l.length≤N:=by
 obtain ⟨v,l,rfl,hr,ho,hl⟩:=open_row (fun b:UInt8=>[Value.int .u8 b.toNat]) (fun _=>True) (by omega) Tryz.underlying22 vJ (fun _=>rfl) (fun n cs' y h _=>by obtain ⟨b,e⟩:=vH h;exact ⟨b,e,trivial⟩) h hb
 refine ⟨v,l,rfl,?_,hl⟩
 have e:l.flatMap (fun b:UInt8=>[Value.int .u8 b.toNat])=Lib.byteCells l:=by
  unfold Lib.byteCells
  clear hr ho hl h
  induction l with
  | nil=>rfl
  | cons a l ih=>rw [List.flatMap_cons,ih];rfl
 rw [e] at hr
 exact hr
structure Opx where
 op:sp.Op
 tv:Value
def Opx.cells (x:Opx):List Value:=[.int .i64 x.op.kind,.int .i64 x.op.node,.int .i64 x.op.at_,.int .i64 x.op.origin,.string (AA x.op.name),.string (AA x.op.word),x.tv,.int .i64 x.op.w.1,.int .i64 x.op.w.2,.int .i64 x.op.h.1,.int .i64 x.op.h.2,.int .i64 x.op.bt,.string (AA x.op.bn),.int .i64 x.op.bw.1,.int .i64 x.op.bw.2,.int .i64 x.op.bh.1,.int .i64 x.op.bh.2,.bool x.op.on]
instance:Inhabited Opx:=⟨⟨{},default⟩⟩
structure Ol (N B:Nat) (w:World) (x:Opx):Prop where
 kind:I64 x.op.kind
 node:I64 x.op.node
 at_:I64 x.op.at_
 origin:I64 x.op.origin
 name:x.op.name.length≤N
 word:x.op.word.length≤N
 text:x.op.text.length≤N
 row:BK B w x.tv x.op.text.length (Lib.byteCells x.op.text)
 ok:x.op.ok
 bt:I64 x.op.bt
 bn:x.op.bn.length≤N
theorem vP (h:DataW.trod enc Tryz.prog w 0 (fun _=>true) held n 28 cs=some y) (hb:Bk N y.1):∃x:Opx,cs=x.cells∧Ol N w.heap.size w x:=by
 obtain ⟨xs,m,hy,hlen,hx,hf⟩:=Us Tryz.underlying28 Yi h
 obtain ⟨a0,a1,a2,a3,a4,a5,a6,a7,a8,a9,a10,a11,a12,a13,a14,a15,a16,a17,rfl⟩:=uY hlen
 have h0:DataW.trod enc Tryz.prog w 0 (fun _=>true) held m 3 ((([a0,a1,a2,a3,a4,a5,a6,a7,a8,a9,a10,a11,a12,a13,a14,a15,a16,a17]:List Value).drop 0).take (Tryz.prog.cellsOf 3))=xs[0]?:=hf 0 _ rfl
 rw [Oi] at h0
 have h1:DataW.trod enc Tryz.prog w 0 (fun _=>true) held m 3 ((([a0,a1,a2,a3,a4,a5,a6,a7,a8,a9,a10,a11,a12,a13,a14,a15,a16,a17]:List Value).drop 1).take (Tryz.prog.cellsOf 3))=xs[1]?:=hf 1 _ rfl
 rw [Oi] at h1
 have h2:DataW.trod enc Tryz.prog w 0 (fun _=>true) held m 3 ((([a0,a1,a2,a3,a4,a5,a6,a7,a8,a9,a10,a11,a12,a13,a14,a15,a16,a17]:List Value).drop 2).take (Tryz.prog.cellsOf 3))=xs[2]?:=hf 2 _ rfl
 rw [Oi] at h2
 have h3:DataW.trod enc Tryz.prog w 0 (fun _=>true) held m 3 ((([a0,a1,a2,a3,a4,a5,a6,a7,a8,a9,a10,a11,a12,a13,a14,a15,a16,a17]:List Value).drop 3).take (Tryz.prog.cellsOf 3))=xs[3]?:=hf 3 _ rfl
 rw [Oi] at h3
 have h4:DataW.trod enc Tryz.prog w 0 (fun _=>true) held m 9 ((([a0,a1,a2,a3,a4,a5,a6,a7,a8,a9,a10,a11,a12,a13,a14,a15,a16,a17]:List Value).drop 4).take (Tryz.prog.cellsOf 9))=xs[4]?:=hf 4 _ rfl
 rw [Uu] at h4
 have h5:DataW.trod enc Tryz.prog w 0 (fun _=>true) held m 9 ((([a0,a1,a2,a3,a4,a5,a6,a7,a8,a9,a10,a11,a12,a13,a14,a15,a16,a17]:List Value).drop 5).take (Tryz.prog.cellsOf 9))=xs[5]?:=hf 5 _ rfl
 rw [Uu] at h5
 have h6:DataW.trod enc Tryz.prog w 0 (fun _=>true) held m 22 ((([a0,a1,a2,a3,a4,a5,a6,a7,a8,a9,a10,a11,a12,a13,a14,a15,a16,a17]:List Value).drop 6).take (Tryz.prog.cellsOf 22))=xs[6]?:=hf 6 _ rfl
 rw [vK] at h6
 have h7:DataW.trod enc Tryz.prog w 0 (fun _=>true) held m 24 ((([a0,a1,a2,a3,a4,a5,a6,a7,a8,a9,a10,a11,a12,a13,a14,a15,a16,a17]:List Value).drop 7).take (Tryz.prog.cellsOf 24))=xs[7]?:=hf 7 _ rfl
 rw [Oj] at h7
 have h8:DataW.trod enc Tryz.prog w 0 (fun _=>true) held m 24 ((([a0,a1,a2,a3,a4,a5,a6,a7,a8,a9,a10,a11,a12,a13,a14,a15,a16,a17]:List Value).drop 9).take (Tryz.prog.cellsOf 24))=xs[8]?:=hf 8 _ rfl
 rw [Oj] at h8
 have h9:DataW.trod enc Tryz.prog w 0 (fun _=>true) held m 26 ((([a0,a1,a2,a3,a4,a5,a6,a7,a8,a9,a10,a11,a12,a13,a14,a15,a16,a17]:List Value).drop 11).take (Tryz.prog.cellsOf 26))=xs[9]?:=hf 9 _ rfl
 rw [Yh] at h9
 have h10:DataW.trod enc Tryz.prog w 0 (fun _=>true) held m 4 ((([a0,a1,a2,a3,a4,a5,a6,a7,a8,a9,a10,a11,a12,a13,a14,a15,a16,a17]:List Value).drop 17).take (Tryz.prog.cellsOf 4))=xs[10]?:=hf 10 _ rfl
 rw [vI] at h10
 have l2:xs.length=11:=hx
 have hb':Bk N (.agg (xs.map (·.1))):=by rw [←hy];exact hb
 clear hb
 have b4:Bk N (xs[4]'(by omega)).1:=hb'.field (i:=4) (by rw [List.getElem?_map,List.getElem?_eq_getElem (by omega)];rfl)
 have b5:Bk N (xs[5]'(by omega)).1:=hb'.field (i:=5) (by rw [List.getElem?_map,List.getElem?_eq_getElem (by omega)];rfl)
 have b6:Bk N (xs[6]'(by omega)).1:=hb'.field (i:=6) (by rw [List.getElem?_map,List.getElem?_eq_getElem (by omega)];rfl)
 have b9:Bk N (xs[9]'(by omega)).1:=hb'.field (i:=9) (by rw [List.getElem?_map,List.getElem?_eq_getElem (by omega)];rfl)
 rw [List.getElem?_eq_getElem (by omega)] at h0 h1 h2 h3 h4 h5 h6 h7 h8 h9 h10
 obtain ⟨s0,e0,z0⟩:=KY Tryz.underlying3 h0
 obtain ⟨s1,e1,z1⟩:=KY Tryz.underlying3 h1
 obtain ⟨s2,e2,z2⟩:=KY Tryz.underlying3 h2
 obtain ⟨s3,e3,z3⟩:=KY Tryz.underlying3 h3
 obtain ⟨s4,e4,z4⟩:=Ut h4 b4
 obtain ⟨s5,e5,z5⟩:=Ut h5 b5
 obtain ⟨tv,tx,e6,z6,y6⟩:=vO h6 b6
 obtain ⟨s7,s8,e7,z7,z8⟩:=Qe h7
 obtain ⟨s9,s10,e9,z9,z10⟩:=Qe h8
 obtain ⟨s11,s12,s13,s14,s15,s16,e11,z11,z12,z13,z14,vS,z16⟩:=vM h9 b9
 obtain ⟨vT,e17⟩:=vG h10
 simp at e0 e1 e2 e3 e4 e5 e6 e7 e9 e11 e17
 obtain ⟨e11,e12,e13,e14,e15,e16⟩:=e11
 refine ⟨⟨{ kind:=s0,node:=s1,at_:=s2,origin:=s3,name:=s4.data.toList,word:=s5.data.toList,text:=tx,w:=(s7,s8),h:=(s9,s10),bt:=s11,bn:=s12.data.toList,bw:=(s13,s14),bh:=(s15,s16),on:=vT },tv⟩,?_,⟨z0,z1,z2,z3,?_,?_,y6,z6,⟨z7,z8,z9,z10,z13,z14,vS,z16⟩,z11,?_⟩⟩
 ·unfold Opx.cells
  rw [UM,UM,UM,e0,e1,e2,e3,e4,e5,e6,e7.1,e7.2,e9.1,e9.2,e11,e12,e13,e14,e15,e16,e17]
 all_goals (rw [Array.length_toList];assumption)
theorem lV (h:DataW.trod enc Tryz.prog w 0 (fun _=>true) held n 35 cs=some y) (hb:Bk N y.1):∃(v:Value) (l:List Opx),cs = [v]∧BK w.heap.size w v l.length (l.flatMap Opx.cells)∧(∀x∈l,Ol N w.heap.size w x)∧l.length≤N :=
 open_row Opx.cells (Ol N w.heap.size w) (by omega) Tryz.underlying35 Yi (fun _=>rfl) (fun n cs' y h hb=>vP h hb) h hb
end
end Go.Proofs.YtihlneenajlhoaaGreatDoor
set_option linter.unusedSimpArgs false
set_option linter.unusedVariables false
namespace Go.Proofs.YtihlneenajlhoaaGreatDoor
open Go Go.RowKit
theorem vU {B:Nat} {w:World} {x:Opx} (h:Ol 1048576 B w x):CQ B w x.op x.tv :=
 ⟨h.node,h.at_,h.origin,h.name,h.word,h.text,h.row,⟨h.ok.w1,h.ok.w2⟩,⟨h.ok.h1,h.ok.h2⟩,h.bn,⟨h.ok.bw1,h.ok.bw2⟩,⟨h.ok.bh1,h.ok.bh2⟩⟩
theorem lW {B:Nat} {w:World} {v:Value} {l:List Opx} (h:BK B w v l.length (l.flatMap Opx.cells)) (hx:∀x∈l,Ol 1048576 B w x) (hl:l.length≤1048576):IV B w v (l.map fun x=>(x.op,x.tv)):=by
 refine ⟨?_,fun p hp => ?_,by simpa using hl⟩
 ·rw [List.length_map,List.flatMap_map]
  exact h
 ·obtain ⟨x,hm,rfl⟩:=List.mem_map.1 hp
  exact vU (hx x hm)
def bar:List PanicEntry:=[{ v:=.iface 54 (.agg #[]),recovered:=false }]
set_option maxRecDepth 100000 in
theorem FP (w:World):Calls Tryz.prog 23 #[.bool true] w fun e w'=>e=.returned (.tuple #[])∧w'=w:=by
 go_enter Tryz.func23,Tryz.ntmps23
 go_wp2
 go_end0
 exact ⟨rfl,rfl⟩
set_option maxRecDepth 100000 in
theorem E8 (w:World):Calls Tryz.prog 23 #[.bool false] w fun e w'=>e=.panicked bar∧w'=w:=by
 go_enter Tryz.func23,Tryz.ntmps23
 go_wp2
 exact ⟨rfl,rfl,rfl⟩
def Bh (w:World) (b:Nat) (s:ByteArray) (u:List UInt8):Prop :=
 ∃pre:List UInt8,s.data.toList=pre++u∧w.heap[b]?=some (.cells #[.string s,.int .i64 pre.length] 61 (0,0))
theorem Bh.lt {w:World} {b:Nat} {s:ByteArray} {u:List UInt8} (h:Bh w b s u):b<w.heap.size:=by
 obtain ⟨_,_,h⟩:=h
 exact lt_of_block h
theorem Bh.below {w w':World} {b:Nat} {s:ByteArray} {u:List UInt8} (h:Bh w b s u) (hb:Below w.heap.size w w'):Bh w' b s u:=by
 obtain ⟨p,h1,h2⟩:=h
 exact ⟨p,h1,(hb.block b (lt_of_block h2)).trans h2⟩
def GN:List UInt8→Value
 | []=>.tuple #[.int .u8 0,.bool false]
 | c :: _=>.tuple #[.int .u8 c.toNat,.bool true]
theorem KZ {s:ByteArray} {p u:List UInt8} (h:s.data.toList=p++u):s.size=p.length+u.length:=by
 have:=congrArg List.length h
 rw [Array.length_toList,List.length_append] at this
 exact this
theorem Yj {s:ByteArray} {p u:List UInt8} {c:UInt8} (h:s.data.toList=p++c :: u):∀hl:p.length<s.size,s[p.length]'hl=c:=fun hl=>by
 have h1:s.data[p.length]?=some c:=by
  rw [←Array.getElem?_toList,h]
  simp
 have h2:s.data[p.length]?=some (s[p.length]'hl):=Array.getElem?_eq_getElem hl
 exact Option.some.inj (h2.symm.trans h1)
set_option maxRecDepth 100000 in
set_option maxHeartbeats 1000000 in
theorem JB (w:World) (b:Nat) (s:ByteArray) (u:List UInt8) (h:Bh w b s u):Calls Tryz.prog 46 #[.pointer (some ⟨b,0,none⟩)] w fun e w'=>e=.returned (GN u)∧Below w.heap.size w w':=by
 obtain ⟨p,h1,h2⟩:=h
 have hsz:=KZ h1
 have c0:w.cell? ⟨b,0,none⟩=some (.string s):=by rw [Lib.cell_of_heap h2];rfl
 have c1:w.cell? ⟨b,1,none⟩=some (.int .i64 p.length):=by rw [Lib.cell_of_heap h2];rfl
 cases u with
 | nil =>
  have hge:((p.length:Int)≥(s.size:Int)):=by simp at hsz;omega
  clear h1 h2
  go_enter Tryz.func46,Tryz.ntmps46
  go_wp2
  go_quiet (fail)
  go_wp2
  go_ret2
  exact ⟨rfl,below_drewN (Below.refl _ _) _⟩
 | cons c r =>
  have hlt:¬((p.length:Int)≥(s.size:Int)):=by simp at hsz;omega
  have hc:=Yj h1
  clear h1 h2
  go_enter Tryz.func46,Tryz.ntmps46
  go_wp2
  go_quiet (fail)
  go_wp2
  go_quiet (fail)
  go_wp2
  go_ret2
  exact ⟨rfl,below_drewN (below_drewN (Below.refl _ _) _) _⟩
set_option maxRecDepth 100000 in
set_option maxHeartbeats 1000000 in
theorem Qg (w:World) (b:Nat) (s:ByteArray) (h:Bh w b s []):Calls Tryz.prog 90 #[.pointer (some ⟨b,0,none⟩)] w fun e w'=>e=.panicked bar∧Fr w w' b none:=by
 have HP:=Lib.hid (JB w b s [] h)
 clear h
 go_enter Tryz.func90,Tryz.ntmps90
 go_wp2_with (go_at_call 46;refine HP.out.mono ?_;rintro e w1 ⟨rfl,hb1⟩;simp only [GN])
 exact ⟨rfl,rfl,Fr.of_below hb1⟩
set_option maxRecDepth 100000 in
set_option maxHeartbeats 1000000 in
theorem JC (w:World) (b:Nat) (s:ByteArray) (c:UInt8) (r:List UInt8) (h:Bh w b s (c :: r)) (hs:s.size≤1099511627776):Calls Tryz.prog 90 #[.pointer (some ⟨b,0,none⟩)] w fun e w'=>e=.returned (.int .u8 c.toNat)∧Bh w' b s r∧Fr w w' b none:=by
 have HP:=Lib.hid (JB w b s _ h)
 obtain ⟨p,h1,h2⟩:=h
 have hsz:=KZ h1
 have hlt:=lt_of_block h2
 have HE:Hid (s.data.toList=(p++[c])++r):=Lib.hid (by rw [h1];simp)
 have hp:(p.length:Int)≤1099511627776:=by simp at hsz;omega
 have H2:=Lib.hid h2
 clear h1 h2 hsz
 go_enter Tryz.func90,Tryz.ntmps90
 go_wp2_with (go_at_call 46;refine HP.out.mono ?_;rintro e w1 ⟨rfl,hb1⟩;have HB1:=Lib.hid hb1;have h3:=Lib.hid ((hb1.block b hlt).trans H2.out);have c1:w1.cell? ⟨b,1,none⟩=some (.int .i64 p.length):=(by rw [Lib.cell_of_heap h3.out];rfl);have z1:w1.frozen? ⟨b,1,none⟩=false:=Ag h3.out 1;clear hb1;simp only [GN])
 go_ret
 refine ⟨rfl,⟨p++[c],HE.out,?_⟩,(Fr.of_below HB1.out).trans (Fr.set 1 _) (Own.refl _ _)⟩
 have:=D9 h3.out 1 (.int .i64 ((p.length:Int)+1))
 simpa using this
theorem Yk {c:UInt8} (h:48≤c.toNat∧c.toNat≤57):sp.Bz c=some (c.toNat-48):=by unfold sp.Bz;rw [if_pos h]
theorem Yl {c:UInt8} (h0:¬(48≤c.toNat∧c.toNat≤57)) (h:97≤c.toNat∧c.toNat≤102):sp.Bz c=some (c.toNat-87):=by unfold sp.Bz;rw [if_neg h0,if_pos h]
theorem Ym {c:UInt8} (h0:¬(48≤c.toNat∧c.toNat≤57)) (h:¬(97≤c.toNat∧c.toNat≤102)):sp.Bz c=none:=by unfold sp.Bz;rw [if_neg h0,if_neg h]
def Ko (c:UInt8) (e:Ending):Prop:=match sp.Bz c with
 | some k=>e=.returned (.int .u8 k)
 | none=>e=.panicked bar
set_option maxRecDepth 100000 in
set_option maxHeartbeats 1000000 in
theorem Yn (c:UInt8) (w:World):Calls Tryz.prog 122 #[.int .u8 c.toNat] w fun e w'=>Ko c e∧w'=w:=by
 have hc:=c.toNat_lt
 by_cases h1:48≤c.toNat∧c.toNat≤57
 ·have t1:decide ((c.toNat:Int)≥48)=true:=by simp;omega
  have t2:decide ((c.toNat:Int)≤57)=true:=by simp;omega
  have HX:=Lib.hid (Yk h1)
  have hv:((c.toNat:Int)-48)=((c.toNat-48:Nat):Int):=by omega
  have H1:=Lib.hid h1
  clear h1
  go_enter Tryz.func122,Tryz.ntmps122
  go_wp2
  go_ret
  exact ⟨by unfold Ko;rw [HX.out];rfl,rfl⟩
 ·have HX1:=Lib.hid h1
  by_cases h2:97≤c.toNat∧c.toNat≤102
  ·have t1:decide ((c.toNat:Int)≥48)=true:=by simp;omega
   have t2:decide ((c.toNat:Int)≤57)=false:=by simp;omega
   have t3:decide ((c.toNat:Int)≥97)=true:=by simp;omega
   have t4:decide ((c.toNat:Int)≤102)=true:=by simp;omega
   have HX:=Lib.hid (Yl h1 h2)
   have hv:((c.toNat:Int)-97)=((c.toNat-97:Nat):Int):=by omega
   have hv2:(((c.toNat-97:Nat):Int)+10)=((c.toNat-87:Nat):Int):=by omega
   clear h1 h2
   go_enter Tryz.func122,Tryz.ntmps122
   go_wp2
   go_ret
   exact ⟨by unfold Ko;rw [HX.out];rfl,rfl⟩
  ·have HX:=Lib.hid (Ym h1 h2)
   have fin:Ko c (.panicked bar):=by unfold Ko;rw [HX.out]
   have FIN:=Lib.hid fin
   clear fin
   by_cases q1:48≤c.toNat
   ·have t1:decide ((c.toNat:Int)≥48)=true:=by simp;omega
    have t2:decide ((c.toNat:Int)≤57)=false:=by simp;omega
    by_cases q2:97≤c.toNat
    ·have t3:decide ((c.toNat:Int)≥97)=true:=by simp;omega
     have t4:decide ((c.toNat:Int)≤102)=false:=by simp;omega
     clear h1 h2 q1 q2
     go_enter Tryz.func122,Tryz.ntmps122
     go_wp2
     exact ⟨rfl,FIN.out,rfl⟩
    ·have t3:decide ((c.toNat:Int)≥97)=false:=by simp;omega
     clear h1 h2 q1 q2
     go_enter Tryz.func122,Tryz.ntmps122
     go_wp2
     exact ⟨rfl,FIN.out,rfl⟩
   ·have t1:decide ((c.toNat:Int)≥48)=false:=by simp;omega
    have t3:decide ((c.toNat:Int)≥97)=false:=by simp;omega
    clear h1 h2 q1
    go_enter Tryz.func122,Tryz.ntmps122
    go_wp2
    exact ⟨rfl,FIN.out,rfl⟩
theorem Qh {c:UInt8} {k:Nat} (h:sp.Bz c=some k) (w:World):Calls Tryz.prog 122 #[.int .u8 c.toNat] w fun e w'=>e=.returned (.int .u8 k)∧w'=w :=
 (Yn c w).mono fun e w' ⟨h1,h2⟩=>⟨by unfold Ko at h1;rw [h] at h1;exact h1,h2⟩
theorem Uw {c:UInt8} (h:sp.Bz c=none) (w:World):Calls Tryz.prog 122 #[.int .u8 c.toNat] w fun e w'=>e=.panicked bar∧w'=w :=
 (Yn c w).mono fun e w' ⟨h1,h2⟩=>⟨by unfold Ko at h1;rw [h] at h1;exact h1,h2⟩
def MO:List UInt8→Option (UInt8×List UInt8)
 | a :: b :: r'=>(sp.Bz a).bind fun x=>(sp.Bz b).map fun y=>(UInt8.ofNat (16*x+y),r')
 | _=>none
def CS:List UInt8→Option (UInt8×List UInt8)
 | []=>none
 | c :: r =>
  if c=92∨c=34 then some (c,r) else if c=110 then some (10,r) else if c=120 then MO r else none
theorem Gi (r:List UInt8):sp.Aj (92 :: r)=(CS r).bind fun p=>(sp.Aj p.2).map fun q=>(p.1 :: q.1,q.2):=by
 cases r with
 | nil=>rw [sp.oD];rfl
 | cons c r =>
  simp only [CS]
  by_cases h1:c=92∨c=34
  ·rw [if_pos h1,sp.Xi h1];rfl
  ·rw [if_neg h1]
   by_cases h2:c=110
   ·rw [if_pos h2,h2,sp.Xj];rfl
   ·rw [if_neg h2]
    by_cases h3:c=120
    ·rw [if_pos h3];subst h3
     match r with
     | []=>rw [sp.oH];rfl
     | [a]=>rw [sp.oI];rfl
     | a :: b :: r' =>
      simp only [MO]
      cases hx:sp.Bz a with
      | none=>rw [sp.oJ hx];rfl
      | some x =>
       cases hy:sp.Bz b with
       | none=>rw [sp.oK hy];rfl
       | some y=>rw [sp.Xk hx hy];rfl
    ·rw [if_neg h3,sp.oG h1 h2 h3];rfl
def Gj (w':World) (b:Nat) (s:ByteArray) (r:List UInt8) (e:Ending):Prop:=match CS r with
 | some (d,u)=>e=.returned (.int .u8 d.toNat)∧Bh w' b s u
 | none=>e=.panicked bar
theorem Bo (c d:UInt8) (h:c≠d):((c.toNat:Int)==(d.toNat:Int))=false:=by
 simp only [beq_eq_false_iff_ne,ne_eq]
 intro e
 exact h (UInt8.toNat.inj (by omega))
theorem vV:∀k q:Fin 16,bits BinOp.or IntKind.u8 ((k.val:Int)*16%256) (q.val:Int)=((16*k.val+q.val:Nat):Int):=by decide +kernel
theorem Yo {x y:UInt8} {k q:Nat} (hx:sp.Bz x=some k) (hy:sp.Bz y=some q):bits BinOp.or IntKind.u8 ((k:Int)*16%256) (q:Int)=((UInt8.ofNat (16*k+q)).toNat:Int):=by
 have h1:=sp.Xg hx
 have h2:=sp.Xg hy
 have e:=vV ⟨k,h1⟩ ⟨q,h2⟩
 simp only at e
 rw [e]
 have:(UInt8.ofNat (16*k+q)).toNat=16*k+q:=by
  rw [UInt8.toNat_ofNat']
  omega
 rw [this]
set_option maxRecDepth 100000 in
set_option maxHeartbeats 2000000 in
theorem Yp (w:World) (b:Nat) (s:ByteArray) (r:List UInt8) (h:Bh w b s r) (hs:s.size≤1099511627776):Calls Tryz.prog 91 #[.pointer (some ⟨b,0,none⟩)] w fun e w'=>Gj w' b s r e∧Fr w w' b none:=by
 have H:=Lib.hid h;have HS:=Lib.hid hs
 clear h hs
 cases r with
 | nil =>
  go_enter Tryz.func91,Tryz.ntmps91
  go_wp2_with (go_at_call 90;refine (Qg w b s H.out).mono ?_;rintro e w1 ⟨rfl,hf1⟩)
  exact ⟨rfl,rfl,hf1⟩
 | cons c r =>
  have HT:=Lib.hid (JC w b s c r H.out HS.out)
  by_cases h1:c=92∨c=34
  ·have hE:CS (c :: r)=some (c,r):=by simp only [CS,if_pos h1]
   have HE:=Lib.hid hE
   rcases h1 with rfl | rfl
   ·clear hE
    go_enter Tryz.func91,Tryz.ntmps91
    go_wp2_with (go_at_call 90;refine HT.out.mono ?_;rintro e w1 ⟨rfl,hl1,hf1⟩)
    go_ret
    exact ⟨by unfold Gj;rw [HE.out];exact ⟨rfl,hl1⟩,hf1⟩
   ·clear hE
    go_enter Tryz.func91,Tryz.ntmps91
    go_wp2_with (go_at_call 90;refine HT.out.mono ?_;rintro e w1 ⟨rfl,hl1,hf1⟩)
    go_ret
    exact ⟨by unfold Gj;rw [HE.out];exact ⟨rfl,hl1⟩,hf1⟩
  ·have t1:((c.toNat:Int)==92)=false:=Bo c 92 (fun e=>h1 (Or.inl e))
   have t2:((c.toNat:Int)==34)=false:=Bo c 34 (fun e=>h1 (Or.inr e))
   by_cases h2:c=110
   ·have HE:Hid (CS (c :: r)=some (10,r)):=Lib.hid (by simp only [CS,if_neg h1,if_pos h2])
    subst h2
    clear h1
    go_enter Tryz.func91,Tryz.ntmps91
    go_wp2_with (go_at_call 90;refine HT.out.mono ?_;rintro e w1 ⟨rfl,hl1,hf1⟩)
    go_ret
    exact ⟨by unfold Gj;rw [HE.out];exact ⟨rfl,hl1⟩,hf1⟩
   ·have t3:((c.toNat:Int)==110)=false:=Bo c 110 h2
    by_cases h3:c=120
    ·have HE:=Lib.hid (show CS (c :: r)=MO r by simp only [CS,if_neg h1,if_neg h2,if_pos h3])
     subst h3
     clear h1 h2
     match r with
     | [] =>
      go_enter Tryz.func91,Tryz.ntmps91
      go_wp2_with (first
       | (go_at_call 90;refine HT.out.mono ?_;rintro e w1 ⟨rfl,hl1,hf1⟩;have HL1:=Lib.hid hl1;have HF1:=Lib.hid hf1;clear hl1 hf1;clear HT)
       | (go_at_call 90;refine (Qg _ b s HL1.out).mono ?_;rintro e w2 ⟨rfl,hf2⟩))
      exact ⟨rfl,by unfold Gj;rw [HE.out];exact rfl,HF1.out.trans hf2 (Own.refl _ _)⟩
     | [x] =>
      have HE2:Hid (CS [120,x]=none):=HE
      clear HE
      cases hx:sp.Bz x with
      | none =>
       have HX:=Lib.hid hx
       clear hx
       go_enter Tryz.func91,Tryz.ntmps91
       go_wp2_with (first
        | (go_at_call 90;refine HT.out.mono ?_;rintro e w1 ⟨rfl,hl1,hf1⟩;have HL1:=Lib.hid hl1;have HF1:=Lib.hid hf1;clear hl1 hf1;clear HT;have HT2:=Lib.hid (JC _ b s x [] HL1.out HS.out))
        | (go_at_call 90;refine HT2.out.mono ?_;rintro e w2 ⟨rfl,hl2,hf2⟩;have HL2:=Lib.hid hl2;have HF2:=Lib.hid (HF1.out.trans hf2 (Own.refl _ _));clear hl2 hf2;clear HT2)
        | (go_at_call 122;refine (Uw HX.out _).mono ?_;rintro e w3 ⟨rfl,rfl⟩;clear HX))
       exact ⟨rfl,by unfold Gj;rw [HE2.out],HF2.out⟩
      | some k =>
       have HX:=Lib.hid hx
       clear hx
       go_enter Tryz.func91,Tryz.ntmps91
       go_wp2_with (first
        | (go_at_call 90;refine HT.out.mono ?_;rintro e w1 ⟨rfl,hl1,hf1⟩;have HL1:=Lib.hid hl1;have HF1:=Lib.hid hf1;clear hl1 hf1;clear HT;have HT2:=Lib.hid (JC _ b s x [] HL1.out HS.out))
        | (go_at_call 90;refine HT2.out.mono ?_;rintro e w2 ⟨rfl,hl2,hf2⟩;have HL2:=Lib.hid hl2;have HF2:=Lib.hid (HF1.out.trans hf2 (Own.refl _ _));clear hl2 hf2;clear HT2)
        | (go_at_call 122;refine (Qh HX.out _).mono ?_;rintro e w3 ⟨rfl,rfl⟩;clear HX)
        | (go_at_call 90;refine (Qg _ b s HL2.out).mono ?_;rintro e w4 ⟨rfl,hf4⟩))
       exact ⟨rfl,by unfold Gj;rw [HE2.out],HF2.out.trans hf4 (Own.refl _ _)⟩
     | x :: y :: r' =>
      have HE2:Hid (CS (120 :: x :: y :: r')=(sp.Bz x).bind fun k=>(sp.Bz y).map fun q=>(UInt8.ofNat (16*k+q),r')):=HE
      clear HE
      cases hx:sp.Bz x with
      | none =>
       have HX:=Lib.hid hx
       have HE3:Hid (CS (120 :: x :: y :: r')=none):=Lib.hid (by rw [HE2.out,hx];rfl)
       clear hx HE2
       go_enter Tryz.func91,Tryz.ntmps91
       go_wp2_with (first
        | (go_at_call 90;refine HT.out.mono ?_;rintro e w1 ⟨rfl,hl1,hf1⟩;have HL1:=Lib.hid hl1;have HF1:=Lib.hid hf1;clear hl1 hf1;clear HT;have HT2:=Lib.hid (JC _ b s x (y :: r') HL1.out HS.out))
        | (go_at_call 90;refine HT2.out.mono ?_;rintro e w2 ⟨rfl,hl2,hf2⟩;have HL2:=Lib.hid hl2;have HF2:=Lib.hid (HF1.out.trans hf2 (Own.refl _ _));clear hl2 hf2;clear HT2)
        | (go_at_call 122;refine (Uw HX.out _).mono ?_;rintro e w3 ⟨rfl,rfl⟩;clear HX))
       exact ⟨rfl,by unfold Gj;rw [HE3.out],HF2.out⟩
      | some k =>
       have HX:=Lib.hid hx
       cases hy:sp.Bz y with
       | none =>
        have HY:=Lib.hid hy
        have HE3:Hid (CS (120 :: x :: y :: r')=none):=Lib.hid (by rw [HE2.out,hx,hy];rfl)
        clear hx hy HE2
        go_enter Tryz.func91,Tryz.ntmps91
        go_wp2_with (first
         | (go_at_call 90;refine HT.out.mono ?_;rintro e w1 ⟨rfl,hl1,hf1⟩;have HL1:=Lib.hid hl1;have HF1:=Lib.hid hf1;clear hl1 hf1;clear HT;have HT2:=Lib.hid (JC _ b s x (y :: r') HL1.out HS.out))
         | (go_at_call 90;refine HT2.out.mono ?_;rintro e w2 ⟨rfl,hl2,hf2⟩;have HL2:=Lib.hid hl2;have HF2:=Lib.hid (HF1.out.trans hf2 (Own.refl _ _));clear hl2 hf2;clear HT2;have HT3:=Lib.hid (JC _ b s y r' HL2.out HS.out))
         | (go_at_call 122;refine (Qh HX.out _).mono ?_;rintro e w3 ⟨rfl,rfl⟩;clear HX)
         | (go_at_call 90;refine HT3.out.mono ?_;rintro e w4 ⟨rfl,hl4,hf4⟩;have HL4:=Lib.hid hl4;have HF4:=Lib.hid (HF2.out.trans hf4 (Own.refl _ _));clear hl4 hf4;clear HT3)
         | (go_at_call 122;refine (Uw HY.out _).mono ?_;rintro e w5 ⟨rfl,rfl⟩))
        exact ⟨rfl,by unfold Gj;rw [HE3.out],HF4.out⟩
       | some q =>
        have HY:=Lib.hid hy
        have HE3:Hid (CS (120 :: x :: y :: r')=some (UInt8.ofNat (16*k+q),r')):=Lib.hid (by rw [HE2.out,hx,hy];rfl)
        have HO:=Lib.hid (Yo hx hy)
        clear hx hy HE2
        go_enter Tryz.func91,Tryz.ntmps91
        go_wp2_with (first
         | (go_at_call 90;refine HT.out.mono ?_;rintro e w1 ⟨rfl,hl1,hf1⟩;have HL1:=Lib.hid hl1;have HF1:=Lib.hid hf1;clear hl1 hf1;clear HT;have HT2:=Lib.hid (JC _ b s x (y :: r') HL1.out HS.out))
         | (go_at_call 90;refine HT2.out.mono ?_;rintro e w2 ⟨rfl,hl2,hf2⟩;have HL2:=Lib.hid hl2;have HF2:=Lib.hid (HF1.out.trans hf2 (Own.refl _ _));clear hl2 hf2;clear HT2;have HT3:=Lib.hid (JC _ b s y r' HL2.out HS.out))
         | (go_at_call 122;refine (Qh HX.out _).mono ?_;rintro e w3 ⟨rfl,rfl⟩;clear HX)
         | (go_at_call 90;refine HT3.out.mono ?_;rintro e w4 ⟨rfl,hl4,hf4⟩;have HL4:=Lib.hid hl4;have HF4:=Lib.hid (HF2.out.trans hf4 (Own.refl _ _));clear hl4 hf4;clear HT3)
         | (go_at_call 122;refine (Qh HY.out _).mono ?_;rintro e w5 ⟨rfl,rfl⟩))
        go_ret
        refine ⟨?_,HF4.out⟩
        unfold Gj
        rw [HE3.out]
        exact ⟨by rw [←HO.out];rfl,HL4.out⟩
    ·have t4:((c.toNat:Int)==120)=false:=Bo c 120 h3
     have HE:Hid (CS (c :: r)=none):=Lib.hid (by simp only [CS,if_neg h1,if_neg h2,if_neg h3])
     clear h1 h2 h3
     go_enter Tryz.func91,Tryz.ntmps91
     go_wp2_with (go_at_call 90;refine HT.out.mono ?_;rintro e w1 ⟨rfl,hl1,hf1⟩)
     exact ⟨rfl,by unfold Gj;rw [HE.out];exact rfl,hf1⟩
def leftOf (w:World) (b:Nat) (s:ByteArray):Nat:=s.size-(match w.cell? ⟨b,1,none⟩ with | some (.int _ n)=>n.toNat | _=>0)
theorem Bh.left {w:World} {b:Nat} {s:ByteArray} {u:List UInt8} (h:Bh w b s u):leftOf w b s=u.length:=by
 obtain ⟨p,h1,h2⟩:=h
 have hsz:=KZ h1
 unfold leftOf
 have c1:w.cell? ⟨b,1,none⟩=some (.int .i64 p.length):=by rw [Lib.cell_of_heap h2];rfl
 rw [c1]
 simp only [Int.toNat_natCast]
 omega
theorem Bh.len {w:World} {b:Nat} {s:ByteArray} {u:List UInt8} (h:Bh w b s u):u.length≤s.size:=by
 obtain ⟨p,h1,_⟩:=h
 have:=KZ h1
 omega
theorem Bh.keep {w w':World} {b:Nat} {s:ByteArray} {u:List UInt8} (h:Bh w b s u) (hb:w'.heap[b]?=w.heap[b]?):Bh w' b s u:=by
 obtain ⟨p,h1,h2⟩:=h
 exact ⟨p,h1,hb.trans h2⟩
structure IY (w:World) (b:Nat) (s:ByteArray) (r t:List UInt8) (wr:World):Prop where
 line:Bh wr b s r
 bld:∃own,Bld wr 92 [] w.heap.size own t
 fr:Fr w wr b none
 hb:b<w.heap.size
 len:t.length+r.length≤s.size
section
variable {w wr w':World} {b:Nat} {s:ByteArray} {r r' t:List UInt8}
theorem IY.move (h:IY w b s r t wr) (hl:Bh w' b s r') (hf:Fr wr w' b none) (hn:r'.length≤r.length):IY w b s r' t w':=by
 obtain ⟨own,hB⟩:=h.bld
 have hb:=h.hb
 refine ⟨hl,⟨own,hB.keep (hf.block _ hB.lt (by omega) (fun e=>by cases e)) fun g hg => ?_⟩,h.fr.trans hf (Own.refl _ _),h.hb,by have:=h.len;omega⟩
 have h2:=hB.FN g hg
 exact hf.block g h2.2 (by omega) (fun e=>by cases e)
theorem IY.put {own:Option Nat} {c:UInt8} (h:IY w b s r t wr) (hB:Bld wr 92 [] w.heap.size own t) (hw:UC wr 92 [] w.heap.size own (t++[c]) w') (hn:t.length+1+r.length≤s.size):IY w b s r (t++[c]) w':=by
 obtain ⟨own',h1,hf,ho⟩:=hw
 have hsz:=h.fr.size
 have old:∀k,k<w.heap.size→w'.heap[k]?=wr.heap[k]?:=fun k hk=>hf.block k (by omega) (by omega) fun e=>by
  have:=hB.FN k e.symm
  omega
 refine ⟨h.line.keep (old b h.hb),⟨own',Or.inr h1⟩,⟨hf.os.trans h.fr.os,hf.tape.trans h.fr.tape,hf.output.trans h.fr.output,Nat.le_trans hsz hf.size,fun k hk hb hn=>(old k hk).trans (h.fr.block k hk hb hn)⟩,h.hb,by rw [List.length_append];simp;omega⟩
theorem IY.str {own:Option Nat} (h:IY w b s r t wr) (hB:Bld wr 92 [] w.heap.size own t) (hf:Fr wr w' w.heap.size own):Bh w' b s r∧Fr w w' b none:=by
 have hsz:=h.fr.size
 have old:∀k,k<w.heap.size→w'.heap[k]?=wr.heap[k]?:=fun k hk=>hf.block k (by omega) (by omega) fun e=>by
  have:=hB.FN k e.symm
  omega
 exact ⟨h.line.keep (old b h.hb),⟨hf.os.trans h.fr.os,hf.tape.trans h.fr.tape,hf.output.trans h.fr.output,Nat.le_trans hsz hf.size,fun k hk hb hn=>(old k hk).trans (h.fr.block k hk hb hn)⟩⟩
end
theorem Ux {r u:List UInt8} {d:UInt8} (h:CS r=some (d,u)):u.length<r.length:=by
 cases r with
 | nil=>cases h
 | cons c r =>
  simp only [CS] at h
  split at h
  ·cases h;simp
  ·split at h
   ·cases h;simp
   ·split at h
    ·unfold MO at h
     split at h
     ·rename_i a b r'
      cases ha:sp.Bz a with
      | none=>rw [ha] at h;cases h
      | some x =>
       cases hb:sp.Bz b with
       | none=>rw [ha,hb] at h;cases h
       | some y=>rw [ha,hb] at h;cases h;simp;omega
     ·cases h
    ·cases h
def QIs (w':World) (b:Nat) (s:ByteArray) (r:List UInt8) (e:Ending):Prop:=match sp.Aj r with
 | some (t,u)=>e=.returned (.string (AA t))∧Bh w' b s u
 | none=>e=.panicked bar
set_option maxRecDepth 100000 in
set_option maxHeartbeats 4000000 in
theorem Yq (w:World) (b:Nat) (s:ByteArray) (c0:UInt8) (r:List UInt8) (h:Bh w b s (c0 :: r)) (hs:s.size≤1099511627776):Calls Tryz.prog 47 #[.pointer (some ⟨b,0,none⟩)] w fun e w'=>QIs w' b s r e∧Fr w w' b none:=by
 have HS:=Lib.hid hs
 obtain ⟨p,h1,h2⟩:=h
 have hsz:=KZ h1
 have hlt:=lt_of_block h2
 have hp:(p.length:Int)≤1099511627776:=by simp at hsz;omega
 have c1:(w.alloc (.cells #[.pointer none,.slice none 0 0] 92)).cell? ⟨b,1,none⟩=some (.int .i64 p.length):=by rw [Lib.cell_of_heap (Dt w _ _ h2)];rfl
 have z1:(w.alloc (.cells #[.pointer none,.slice none 0 0] 92)).frozen? ⟨b,1,none⟩=false:=Ag (Dt w _ _ h2) 1
 have h4:=D9 h2 1 (.int .i64 ((p.length:Int)+1))
 have h5:=Dt _ (.cells #[.pointer none,.slice none 0 0] 92) _ h4
 have h6:=AX (w.setCell ⟨b,1,none⟩ (.int .i64 ((p.length:Int)+1))) (.cells #[.pointer none,.slice none 0 0] 92)
 have hz:(w.setCell ⟨b,1,none⟩ (.int .i64 ((p.length:Int)+1))).heap.size=w.heap.size:=by simp
 rw [hz] at h6
 have HR:Hid (IY w b s r [] ((w.setCell ⟨b,1,none⟩ (.int .i64 ((p.length:Int)+1))).alloc (.cells #[.pointer none,.slice none 0 0] 92))):=Lib.hid (
  ⟨⟨p++[c0],by rw [h1];simp,by simpa using h5⟩,⟨none,QH 92 [] _ h6⟩,(Fr.set 1 _).trans (Fr.of_below (AZ _ _)) (Own.refl _ _),hlt,by simp at hsz ⊢; omega⟩)
 have H1:=Lib.hid h1
 clear h1 h2 h4 h5 h6 hz hsz
 go_enter Tryz.func47,Tryz.ntmps47
 go_wp2
 go_loopw [4] (fun _ wr=>∃r1 t1,IY w b s r1 t1 wr∧sp.Aj r=(sp.Aj r1).map fun q=>(t1++q.1,q.2)) (fun _ wr=>leftOf wr b s)
 case atStart=>exact ⟨r,[],HR.out,by cases sp.Aj r<;>simp⟩
 case round =>
  obtain ⟨r1,t1,hr,hq⟩:=hrel
  have HR1:=Lib.hid hr;have HQ:=Lib.hid hq
  clear hr hq HR H1 c1 z1
  cases r1 with
  | nil =>
   go_wp2_with (go_at_call 90;refine (Qg _ b s HR1.out.line).mono ?_;rintro e w1 ⟨rfl,hf1⟩)
   exact ⟨rfl,by unfold QIs;rw [HQ.out,sp.MB];exact rfl,HR1.out.fr.trans hf1 (Own.refl _ _)⟩
  | cons c r2 =>
   have HT:=Lib.hid (JC _ b s c r2 HR1.out.line HS.out)
   have hlen:=HR1.out.len
   by_cases e34:c=34
   ·subst e34
    obtain ⟨own,hB⟩:=HR1.out.bld
    go_wp2_with (first
     | (go_at_call 90;refine HT.out.mono ?_;rintro e w1 ⟨rfl,hl1,hf1⟩;have HR2:=Lib.hid (HR1.out.move hl1 hf1 (by simp));clear hl1 hf1)
     | (go_at_call 42;obtain ⟨own2,hB2⟩:=HR2.out.bld;refine (UD _ 92 [] _ own2 _ hB2).mono ?_;rintro e w2 ⟨rfl,hf2⟩))
    go_ret
    have HF:=HR2.out.str hB2 hf2
    refine ⟨?_,HF.2⟩
    unfold QIs
    rw [HQ.out,sp.OJ]
    exact ⟨by simp [AA],HF.1⟩
   ·by_cases e92:c=92
    ·subst e92
     cases hE:CS r2 with
     | none =>
      have HQ2:Hid (sp.Aj r=none):=Lib.hid (by rw [HQ.out,Gi,hE];rfl)
      have HE:=Lib.hid hE
      clear HQ hE
      go_wp2_with (first
       | (go_at_call 90;refine HT.out.mono ?_;rintro e w1 ⟨rfl,hl1,hf1⟩;have HR2:=Lib.hid (HR1.out.move hl1 hf1 (by simp));clear hl1 hf1)
       | (go_at_call 91;refine (Yp _ b s r2 HR2.out.line HS.out).mono ?_;rintro e w2 ⟨he,hf2⟩;unfold Gj at he;rw [HE.out] at he;subst he))
      exact ⟨rfl,by unfold QIs;rw [HQ2.out],HR2.out.fr.trans hf2 (Own.refl _ _)⟩
     | some q =>
      obtain ⟨d,u⟩:=q
      have HQ2:Hid (sp.Aj r=(sp.Aj u).map fun q=>((t1++[d])++q.1,q.2)):=Lib.hid (by
       rw [HQ.out,Gi,hE]
       show Option.map _ (Option.map _ (sp.Aj u))=_
       rw [Option.map_map]
       congr 1
       funext q
       simp)
      have HE:=Lib.hid hE
      have hul:=Lib.hid (Ux hE)
      clear HQ hE
      go_wp2_with (first
       | (go_at_call 90;refine HT.out.mono ?_;rintro e w1 ⟨rfl,hl1,hf1⟩;have HR2:=Lib.hid (HR1.out.move hl1 hf1 (by simp));clear hl1 hf1)
       | (go_at_call 91;refine (Yp _ b s r2 HR2.out.line HS.out).mono ?_;rintro e w2 ⟨he,hf2⟩;unfold Gj at he;rw [HE.out] at he;obtain ⟨rfl,hl2⟩:=he;have HR3:=Lib.hid (HR2.out.move hl2 hf2 (by have:=hul.out;omega));obtain ⟨Iy,hB3⟩:=HR3.out.bld;have HB3:=Lib.hid hB3;clear hl2 hf2 hB3)
       | (go_at_call 41;refine (KI _ 92 [] _ Iy t1 d JU HB3.out (by have:=HR1.out.len;have:=HS.out;omega)).mono ?_;rintro e w3 ⟨rfl,hw⟩;have HR4:=Lib.hid (HR3.out.put HB3.out hw (by have q1:=HR1.out.len;have q2:=hul.out;simp only [List.length_cons] at q1;omega));clear hw))
      refine ⟨⟨u,t1++[d],HR4.out,HQ2.out⟩,?_⟩
      rw [HR4.out.line.left,HR1.out.line.left]
      have:=hul.out
      simp only [List.length_cons]
      omega
    ·have t1':((c.toNat:Int)==34)=false:=Bo c 34 e34
     have t2':((c.toNat:Int)==92)=false:=Bo c 92 e92
     have HQ2:Hid (sp.Aj r=(sp.Aj r2).map fun q=>((t1++[c])++q.1,q.2)):=Lib.hid (by
      rw [HQ.out,sp.OL e34 e92,Option.map_map]
      congr 1
      funext q
      simp)
     clear HQ e34 e92
     go_wp2_with (first
      | (go_at_call 90;refine HT.out.mono ?_;rintro e w1 ⟨rfl,hl1,hf1⟩;have HR2:=Lib.hid (HR1.out.move hl1 hf1 (by simp));obtain ⟨Iy,hB3⟩:=HR2.out.bld;have HB3:=Lib.hid hB3;clear hl1 hf1 hB3)
      | (go_at_call 41;refine (KI _ 92 [] _ Iy t1 c JU HB3.out (by have:=HR1.out.len;have:=HS.out;omega)).mono ?_;rintro e w3 ⟨rfl,hw⟩;have HR4:=Lib.hid (HR2.out.put HB3.out hw (by have:=HR1.out.len;simp only [List.length_cons] at this;omega));clear hw))
     refine ⟨⟨r2,t1++[c],HR4.out,HQ2.out⟩,?_⟩
     rw [HR4.out.line.left,HR1.out.line.left]
     simp
def Kq:List UInt8→Int
 | []=>0
 | c :: _=>c.toNat
def Kr:List UInt8→Bool
 | []=>false
 | _=>true
theorem Qi (u:List UInt8):∃(c:Int) (o:Bool),GN u=.tuple #[.int .u8 c,.bool o]∧c=Kq u∧o=Kr u:=by cases u<;>exact ⟨_,_,rfl,rfl,rfl⟩
theorem Om {s:ByteArray} {p t r:List UInt8} (h:s.data.toList=p++(t++r)):s.extract p.length (p.length+t.length)=AA t:=by
 apply ByteArray.ext
 apply Array.ext'
 rw [ByteArray.data_extract,Array.toList_extract,h]
 simp [AA,List.extract_eq_take_drop]
theorem MP {f:UInt8→Bool} {t r:List UInt8} (ht:∀x∈t,f x=true) (hr:∀c,r.head?=some c→f c=false):(t++r).takeWhile f=t∧(t++r).dropWhile f=r:=by
 induction t with
 | nil =>
  cases r with
  | nil=>exact ⟨rfl,rfl⟩
  | cons c r=>simp [List.takeWhile_cons,List.dropWhile_cons,hr c rfl]
 | cons x t ih =>
  have hx:=ht x List.mem_cons_self
  obtain ⟨h1,h2⟩:=ih fun y hy=>ht y (List.mem_cons_of_mem _ hy)
  simp [List.takeWhile_cons,List.dropWhile_cons,hx,h1,h2]
theorem vX {a:ByteArray} {l:List UInt8} (h:a=AA l):Ending.returned (.string a)=Ending.returned (.string (AA l)):=by rw [h]
theorem Uy {w wr:World} {b n:Nat} {s:ByteArray} {p u t1 r1:List UInt8} (H1:s.data.toList=p++u) (hu:u=t1++r1) (ha:∀x∈t1,sp.Aw x=true) (hr:∀c,r1.head?=some c→sp.Aw c=false) (hl:Bh wr b s r1) (hf:Fr w wr b none) :
  Ending.returned (.string (s.extract p.length (p.length+t1.length)))=Ending.returned (.string (AA (u.takeWhile sp.Aw)))∧Bh (wr.drewN n) b s (u.dropWhile sp.Aw)∧Fr w (wr.drewN n) b none:=by
 subst hu
 obtain ⟨h1,h2⟩:=MP ha hr
 have hb:=below_drewN (Below.refl wr.heap.size wr) n
 rw [h1,h2]
 exact ⟨vX (Om H1),hl.below hb,hf.trans (Fr.of_below hb) (Own.refl _ _)⟩
set_option maxRecDepth 100000 in
set_option maxHeartbeats 4000000 in
theorem vY (w:World) (b:Nat) (s:ByteArray) (u:List UInt8) (h:Bh w b s u) (hs:s.size≤1099511627776):Calls Tryz.prog 48 #[.pointer (some ⟨b,0,none⟩)] w fun e w'=>e=.returned (.string (AA (u.takeWhile sp.Aw)))∧Bh w' b s (u.dropWhile sp.Aw)∧Fr w w' b none:=by
 have HS:=Lib.hid hs
 have HP:=Lib.hid (JB w b s u h)
 have HH:=Lib.hid h
 obtain ⟨p,h1,h2⟩:=h
 have hsz:=KZ h1
 have hlt:=lt_of_block h2
 have c1:w.cell? ⟨b,1,none⟩=some (.int .i64 p.length):=by rw [Lib.cell_of_heap h2];rfl
 have H1:=Lib.hid h1;have HZ:=Lib.hid hsz
 clear h1 h2 hsz
 obtain ⟨c0,o0,hpv,hc0,ho0⟩:=Qi u
 have HPV:=Lib.hid hpv;have HC0:=Lib.hid hc0;have HO0:=Lib.hid ho0
 clear hpv hc0 ho0
 go_enter Tryz.func48,Tryz.ntmps48
 go_wp2_with (go_at_call 46;refine HP.out.mono ?_;rintro e w1 ⟨rfl,hb1⟩;rw [HPV.out])
 have HR:Hid (Bh w1 b s u∧Fr w w1 b none):=Lib.hid ⟨HH.out.below hb1,Fr.of_below hb1⟩
 go_loopw [4,5] (fun c ok wr=>∃t1 r1,u=t1++r1∧(∀x∈t1,sp.Aw x=true)∧Bh wr b s r1∧Fr w wr b none∧c=.int .u8 (Kq r1)∧ok=.bool (Kr r1)) (fun _ _ wr=>leftOf wr b s)
 case atStart=>exact ⟨[],u,rfl,fun _ hx=>(by cases hx),HR.out.1,HR.out.2,by rw [HC0.out],by rw [HO0.out]⟩
 case round =>
  obtain ⟨t1,r1,hu,hall,hl,hf,rfl,rfl⟩:=hrel
  have HL:=Lib.hid hl;have HF:=Lib.hid hf
  clear hl hf HR HP hb1 HC0 HO0 HPV
  obtain ⟨q,hq1,hq2⟩:=HL.out
  have hqp:q=p++t1:=by
   have:=hq1.symm.trans (H1.out.trans (by rw [hu]))
   rw [←List.append_assoc] at this
   exact List.append_cancel_right this
  have d1:wr.cell? ⟨b,1,none⟩=some (.int .i64 (p.length+t1.length:Nat)):=by rw [Lib.cell_of_heap hq2,hqp,List.length_append];rfl
  have d0:wr.cell? ⟨b,0,none⟩=some (.string s):=by rw [Lib.cell_of_heap hq2];rfl
  have z1:wr.frozen? ⟨b,1,none⟩=false:=Ag hq2 1
  have hle:p.length+t1.length≤s.size:=by have:=HZ.out;rw [hu,List.length_append] at this;omega
  have hh:=D9 hq2 1 (.int .i64 ((p.length+t1.length:Nat)+1:Int))
  have HH2:=Lib.hid hh;have HU:=Lib.hid hu;have HA:=Lib.hid hall;have HQ:=Lib.hid hqp;have HQ1:=Lib.hid hq1
  have ACI:((p.length+t1.length:Nat):Int)≤1099511627776:=by have:=HS.out;omega
  clear hh hu hall hqp hq1 hq2
  match r1 with
  | [] =>
   simp only [Kq,Kr]
   go_wp2
   go_quiet (fail)
   go_wp2
   go_ret
   exact Uy H1.out HU.out HA.out (fun _ h=>by cases h) HL.out HF.out
  | c :: r2 =>
   simp only [Kq,Kr]
   by_cases e32:c=32
   ·subst e32
    go_wp2
    go_quiet (fail)
    go_wp2
    go_ret
    exact Uy H1.out HU.out HA.out (fun _ h=>by cases h;rfl) HL.out HF.out
   ·have t1':((c.toNat:Int)==32)=false:=Bo c 32 e32
    have t1n:((c.toNat:Int) != 32)=true:=by rw [bne,t1'];rfl
    by_cases e34:c=34
    ·subst e34
     go_wp2
     go_quiet (fail)
     go_wp2
     go_ret
     exact Uy H1.out HU.out HA.out (fun _ h=>by cases h;rfl) HL.out HF.out
    ·have t2':((c.toNat:Int)==34)=false:=Bo c 34 e34
     have t2n:((c.toNat:Int) != 34)=true:=by rw [bne,t2'];rfl
     have hcw:sp.Aw c=true:=by simp [sp.Aw,e32,e34]
     have HL2:Hid (Bh (wr.setCell ⟨b,1,none⟩ (.int .i64 ((p.length+t1.length:Nat)+1:Int))) b s r2):=Lib.hid ⟨q++[c],by rw [HQ1.out];simp,by
      have:=HH2.out
      rw [this,HQ.out]
      simp
      omega⟩
     have HA2:Hid (∀x∈t1++[c],sp.Aw x=true):=Lib.hid fun x hx=>by
      rcases List.mem_append.1 hx with h | h
      ·exact HA.out x h
      ·rw [List.mem_singleton] at h;rw [h];exact hcw
     have HU2:Hid (u=(t1++[c])++r2):=Lib.hid (by rw [HU.out];simp)
     have HP2:=Lib.hid (JB _ b s _ HL2.out)
     obtain ⟨c1',o1,hpv,hc1,ho1⟩:=Qi r2
     have HPV:=Lib.hid hpv;have HC0:=Lib.hid hc1;have HO0:=Lib.hid ho1
     clear hpv hc1 ho1 hcw e32 e34
     go_wp2_with (go_at_call 46;refine HP2.out.mono ?_;rintro e w2 ⟨rfl,hb2⟩;rw [HPV.out])
     refine ⟨⟨t1++[c],r2,HU2.out,HA2.out,HL2.out.below hb2,((HF.out.trans (Fr.set 1 _) (Own.refl _ _))).trans (Fr.of_below hb2) (Own.refl _ _),by rw [HC0.out];rfl,by rw [HO0.out];rfl⟩,?_⟩
     rw [(HL2.out.below hb2).left,HL.out.left]
     simp
def Jb (p:List UInt8×Bool):List Value:=[.string (AA p.1),.bool p.2]
def Dc (l:List (List UInt8×Bool)):List Value:=l.flatMap Jb
theorem vZ (l m:List (List UInt8×Bool)):Dc (l++m)=Dc l++Dc m:=by unfold Dc;rw [List.flatMap_append]
theorem wB (p:List UInt8×Bool):Dc [p]=Jb p:=by simp [Dc]
theorem wC:(Tryz.prog.info? 71).map (fun i=>(i.zero,i.size,i.bytes))=some (some (.agg #[.string ⟨#[]⟩,.bool false]),2,24):=by kernel_rfl
theorem wE:(Tryz.prog.info? 110).map (fun i=>(i.zero,i.size,i.bytes))=some (some (.agg #[.string ⟨#[]⟩,.bool false]),2,24):=by kernel_rfl
structure WT (T E:TypeId):Prop where
 slice:Tryz.prog.underlying T=some (.slice E)
 info:(Tryz.prog.info? E).map (fun i=>(i.zero,i.size,i.bytes))=some (some (.agg #[.string ⟨#[]⟩,.bool false]),2,24)
theorem Yr:WT 58 71:=⟨Tryz.underlying58,wC⟩
theorem Qj:WT 73 110:=⟨Tryz.underlying73,wE⟩
section
variable {ops:Array Oper} {rest:List Oper} {o:Oper} {a:Act} {Q:Exit→Act→World→Prop} {w:World} {T E:TypeId}
theorem MQ (hT:WT T E) (hgd:o.guard=none) (s x:Operand) (ho:o.op=.call { callee:=.builtin .append,args:=#[s,x],argTypes:=#[T,T] }) (base:Nat) (xs:List (List UInt8×Bool)) (d:Value) (hs:a.eval s=d) (hown:w.ownsRow base E 2 d xs.length (Dc xs))
  (b:Nat) (y:List UInt8×Bool) (fz:Nat×Nat) (hx:a.eval x=.slice (some ⟨b,0,none⟩) 1 1) (hb:w.heap[b]?=some (.cells #[.string (AA y.1),.bool y.2] E fz)) (hn:xs.length≤1099511627776) (hbase:base≤w.heap.size)
  (h:∀v' w',w'.ownsRow base E 2 v' (xs++[y]).length (Dc (xs++[y]))→w.grownBy w' d.ownBlock→(v'.ownBlock=d.ownBlock∨v'.ownBlock=some w.heap.size)→wpList Tryz.prog ops Q rest (a.put o.dst v') w'):wpList Tryz.prog ops Q (o :: rest) a w:=by
 obtain ⟨i,hi,hz,hsz,hby⟩:=info_parts hT.info
 refine Go.wpList_append_own_at w hgd s x T ho base E i _ 2 24 hT.slice hi hz hsz hby rfl (by decide) d xs.length (Dc xs) hs hown ⟨b,0,none⟩ 1 1 (Jb y) hx rfl (fun j u hu => ?_) (fun u hu => ?_) (by unfold maxLen;omega) (by omega) hbase (fun v' w' k1 k2 _ k3=>h v' w' ?_ k2 k3)
 ·rw [Addr.add_mid,Nat.zero_add,cell_of_row w b j _ E fz hb]
  simpa [Jb] using hu
 ·simp only [Jb,List.mem_cons,List.not_mem_nil,or_false] at hu
  rcases hu with rfl | rfl<;>rfl
 ·rw [List.length_append,vZ,wB]
  exact k1
end
theorem Uz {w w':World} {base b:Nat} {e:TypeId} {k n:Nat} {v:Value} {xs:List Value} (h:w.ownsRow base e k v n xs) (hf:Fr w w' b none) (hb:b<base):w'.ownsRow base e k v n xs:=by
 obtain ⟨hl,h5⟩:=h
 refine ⟨hl,h5.imp id fun ⟨g,cap,cur,y1,y2,y3,y4⟩=>⟨g,cap,cur,y1,y2,(hf.block g (lt_of_block y3) (by omega) (fun e=>by cases e)).trans y3,y4⟩⟩
/-! ### The words of a line, word by word -/
open sp in
theorem U0 {r:List UInt8} (h:Aj r=none):words (34 :: r)=none:=by
 rw [words.eq_def]
 have e:(34 :: r).dropWhile (· == (32:UInt8))=34 :: r:=by rw [List.dropWhile_cons,if_neg (by decide)]
 split
 ·rename_i h1;rw [e] at h1;cases h1
 ·rename_i c r1 h1
  rw [e] at h1
  cases h1
  rw [if_pos rfl]
  split
  ·rfl
  ·rename_i h2;rw [h] at h2;cases h2
open sp in
theorem U1 {r t u:List UInt8} (h:Aj r=some (t,u)):words (34 :: r)=if u.head?=none∨u.head?=some 32 then (words u).map fun l=>(t,true) :: l else none:=by
 rw [words.eq_def]
 have e:(34 :: r).dropWhile (· == (32:UInt8))=34 :: r:=by rw [List.dropWhile_cons,if_neg (by decide)]
 split
 ·rename_i h1;rw [e] at h1;cases h1
 ·rename_i c r1 h1
  rw [e] at h1
  cases h1
  rw [if_pos rfl]
  split
  ·rename_i h2;rw [h] at h2;cases h2
  ·rename_i h2;rw [h] at h2;cases h2;rfl
open sp in
theorem U2 {c:UInt8} {r:List UInt8} (h1:c≠32) (h2:c≠34):words (c :: r)=if ((c :: r).dropWhile Aw).head?=some 34 then none else (words ((c :: r).dropWhile Aw)).map fun l=>((c :: r).takeWhile Aw,false) :: l:=by
 rw [words.eq_def]
 have e:(c :: r).dropWhile (· == (32:UInt8))=c :: r:=by rw [List.dropWhile_cons,if_neg (by simpa using h1)]
 split
 ·rename_i h3;rw [e] at h3;cases h3
 ·rename_i c1 r1 h3
  rw [e] at h3
  cases h3
  rw [if_neg h2]
end Go.Proofs.YtihlneenajlhoaaGreatDoor
namespace Go.Proofs.YtihlneenajlhoaaGreatDoor
open Go Go.RowKit Go.Shelf
def Tryz.wF:Go.Shelf.Ren:=⟨fun | 103=>92 | 210=>123 | 206=>155 | n=>n,fun | 9=>9 | 4=>4 | 24=>93 | 3=>3 | n=>n,fun | n=>n⟩
theorem Tryz.laysCut:Go.Proofs.Lays.n103 Tryz.prog Tryz.wF:={
 mixed:=by kernel_rfl,
 f103:=Tryz.func92.trans (congrArg some (by kernel_rfl)),
 f206:=Tryz.func155.trans (congrArg some (by kernel_rfl)),
 f210:=Tryz.func123.trans (congrArg some (by kernel_rfl)),
 t3:=Tryz.underlying3,
 a3:=Tryz.isAgg3,
 z3:=Tryz.sizeOf3,
 v3:=Tryz.zeroValue3,
 t4:=Tryz.underlying4,
 a4:=Tryz.isAgg4,
 z4:=Tryz.sizeOf4,
 v4:=Tryz.zeroValue4,
 t9:=Tryz.underlying9,
 a9:=Tryz.isAgg9,
 z9:=Tryz.sizeOf9,
 v9:=Tryz.zeroValue9,
 t24:=Tryz.underlying93,
 a24:=Tryz.isAgg93,
 z24:=Tryz.sizeOf93,
 v24:=Tryz.zeroValue93 }
def Tryz.laysContains_ren:Go.Shelf.Ren:=⟨fun | 144=>24 | 143=>44 | 219=>85 | 217=>115 | 225=>116 | 224=>117 | 267=>118 | 266=>151 | 314=>152 | n=>n,fun | 9=>9 | 4=>4 | 3=>3 | 5=>5 | 46=>120 | 146=>237 | 51=>236 | n=>n,fun | 1=>0 | n=>n⟩
theorem Tryz.laysContains:Go.Proofs.Lays.n144 Tryz.prog Tryz.laysContains_ren:={
 mixed:=by kernel_rfl,
 f143:=Tryz.func44.trans (congrArg some (by kernel_rfl)),
 f144:=Tryz.func24.trans (congrArg some (by kernel_rfl)),
 f217:=Tryz.func115.trans (congrArg some (by kernel_rfl)),
 f219:=Tryz.func85.trans (congrArg some (by kernel_rfl)),
 f224:=Tryz.func117.trans (congrArg some (by kernel_rfl)),
 f225:=Tryz.func116.trans (congrArg some (by kernel_rfl)),
 f266:=Tryz.func151.trans (congrArg some (by kernel_rfl)),
 f267:=Tryz.func118.trans (congrArg some (by kernel_rfl)),
 f314:=Tryz.func152.trans (congrArg some (by kernel_rfl)),
 t3:=Tryz.underlying3,
 a3:=Tryz.isAgg3,
 z3:=Tryz.sizeOf3,
 v3:=Tryz.zeroValue3,
 t4:=Tryz.underlying4,
 a4:=Tryz.isAgg4,
 z4:=Tryz.sizeOf4,
 v4:=Tryz.zeroValue4,
 t5:=Tryz.underlying5,
 a5:=Tryz.isAgg5,
 z5:=Tryz.sizeOf5,
 v5:=Tryz.zeroValue5,
 t9:=Tryz.underlying9,
 a9:=Tryz.isAgg9,
 z9:=Tryz.sizeOf9,
 v9:=Tryz.zeroValue9,
 t46:=Tryz.underlying120,
 a46:=Tryz.isAgg120,
 z46:=Tryz.sizeOf120,
 v46:=Tryz.zeroValue120,
 t51:=Tryz.underlying236,
 a51:=Tryz.isAgg236,
 z51:=Tryz.sizeOf236,
 v51:=Tryz.zeroValue236,
 t146:=Tryz.underlying237,
 a146:=Tryz.isAgg237,
 z146:=Tryz.sizeOf237,
 v146:=Tryz.zeroValue237,
 g1:=by kernel_rfl }
def Tryz.laysTrim_ren:Go.Shelf.Ren:=⟨fun | 161=>45 | 231=>86 | 227=>87 | 233=>88 | 235=>89 | 228=>119 | 197=>120 | 151=>121 | 260=>153 | 152=>154 | 137=>212 | 119=>213 | 224=>117 | 225=>116 | 217=>115 | 266=>151 | n=>n,fun | 9=>9 | 4=>4 | 3=>3 | 5=>5 | 117=>135 | 116=>134 | 0=>0 | 124=>138 | 105=>198 | 21=>21 | 119=>314 | 46=>120 | 139=>317 | 138=>316 | n=>n,fun | 3=>2 | 4=>3 | n=>n⟩
theorem Tryz.laysTrim:Go.Proofs.Lays.n161 Tryz.prog Tryz.laysTrim_ren:={
 mixed:=by kernel_rfl,
 f119:=Tryz.func213.trans (congrArg some (by kernel_rfl)),
 f137:=Tryz.func212.trans (congrArg some (by kernel_rfl)),
 f151:=Tryz.func121.trans (congrArg some (by kernel_rfl)),
 f152:=Tryz.func154.trans (congrArg some (by kernel_rfl)),
 f161:=Tryz.func45.trans (congrArg some (by kernel_rfl)),
 f197:=Tryz.func120.trans (congrArg some (by kernel_rfl)),
 f217:=Tryz.func115.trans (congrArg some (by kernel_rfl)),
 f224:=Tryz.func117.trans (congrArg some (by kernel_rfl)),
 f225:=Tryz.func116.trans (congrArg some (by kernel_rfl)),
 f227:=Tryz.func87.trans (congrArg some (by kernel_rfl)),
 f228:=Tryz.func119.trans (congrArg some (by kernel_rfl)),
 f231:=Tryz.func86.trans (congrArg some (by kernel_rfl)),
 f233:=Tryz.func88.trans (congrArg some (by kernel_rfl)),
 f235:=Tryz.func89.trans (congrArg some (by kernel_rfl)),
 f260:=Tryz.func153.trans (congrArg some (by kernel_rfl)),
 f266:=Tryz.func151.trans (congrArg some (by kernel_rfl)),
 t0:=Tryz.underlying0,
 a0:=Tryz.isAgg0,
 z0:=Tryz.sizeOf0,
 v0:=Tryz.zeroValue0,
 t3:=Tryz.underlying3,
 a3:=Tryz.isAgg3,
 z3:=Tryz.sizeOf3,
 v3:=Tryz.zeroValue3,
 t4:=Tryz.underlying4,
 a4:=Tryz.isAgg4,
 z4:=Tryz.sizeOf4,
 v4:=Tryz.zeroValue4,
 t5:=Tryz.underlying5,
 a5:=Tryz.isAgg5,
 z5:=Tryz.sizeOf5,
 v5:=Tryz.zeroValue5,
 t9:=Tryz.underlying9,
 a9:=Tryz.isAgg9,
 z9:=Tryz.sizeOf9,
 v9:=Tryz.zeroValue9,
 t21:=Tryz.underlying21,
 a21:=Tryz.isAgg21,
 z21:=Tryz.sizeOf21,
 v21:=Tryz.zeroValue21,
 t46:=Tryz.underlying120,
 a46:=Tryz.isAgg120,
 z46:=Tryz.sizeOf120,
 v46:=Tryz.zeroValue120,
 t105:=Tryz.underlying198,
 a105:=Tryz.isAgg198,
 z105:=Tryz.sizeOf198,
 v105:=Tryz.zeroValue198,
 t116:=Tryz.underlying134,
 a116:=Tryz.isAgg134,
 z116:=Tryz.sizeOf134,
 t117:=Tryz.underlying135,
 a117:=Tryz.isAgg135,
 z117:=Tryz.sizeOf135,
 v117:=Tryz.zeroValue135,
 t119:=Tryz.underlying314,
 a119:=Tryz.isAgg314,
 z119:=Tryz.sizeOf314,
 t124:=Tryz.underlying138,
 a124:=Tryz.isAgg138,
 z124:=Tryz.sizeOf138,
 v124:=Tryz.zeroValue138,
 t138:=Tryz.underlying316,
 a138:=Tryz.isAgg316,
 z138:=Tryz.sizeOf316,
 v138:=Tryz.zeroValue316,
 t139:=Tryz.underlying317,
 a139:=Tryz.isAgg317,
 z139:=Tryz.sizeOf317,
 v139:=Tryz.zeroValue317,
 g3:=by kernel_rfl,
 g4:=by kernel_rfl }
def Tryz.U3:Go.Shelf.Ren:=⟨fun | 146=>71 | 221=>104 | 268=>141 | 138=>142 | 143=>44 | 195=>204 | 197=>120 | 218=>205 | 219=>85 | 260=>153 | 217=>115 | 225=>116 | 224=>117 | 267=>118 | 266=>151 | 314=>152 | n=>n,fun | 9=>9 | 31=>81 | 3=>3 | 4=>4 | 0=>0 | 105=>198 | 21=>21 | 5=>5 | 46=>120 | 119=>314 | 139=>317 | 138=>316 | 146=>237 | 51=>236 | n=>n,fun | 1=>0 | 3=>2 | 4=>3 | n=>n⟩
theorem Tryz.laysSplit:Go.Proofs.LaysM.n146 Tryz.prog Tryz.U3:={
 mixed:=by kernel_rfl,
 f138:=Tryz.func142.trans (congrArg some (by kernel_rfl)),
 f143:=Tryz.func44.trans (congrArg some (by kernel_rfl)),
 f146:=Tryz.func71.trans (congrArg some (by kernel_rfl)),
 f195:=Tryz.func204.trans (congrArg some (by kernel_rfl)),
 f197:=Tryz.func120.trans (congrArg some (by kernel_rfl)),
 f217:=Tryz.func115.trans (congrArg some (by kernel_rfl)),
 f218:=Tryz.func205.trans (congrArg some (by kernel_rfl)),
 f219:=Tryz.func85.trans (congrArg some (by kernel_rfl)),
 f221:=Tryz.func104.trans (congrArg some (by kernel_rfl)),
 f224:=Tryz.func117.trans (congrArg some (by kernel_rfl)),
 f225:=Tryz.func116.trans (congrArg some (by kernel_rfl)),
 f260:=Tryz.func153.trans (congrArg some (by kernel_rfl)),
 f266:=Tryz.func151.trans (congrArg some (by kernel_rfl)),
 f267:=Tryz.func118.trans (congrArg some (by kernel_rfl)),
 f268:=Tryz.func141.trans (congrArg some (by kernel_rfl)),
 f314:=Tryz.func152.trans (congrArg some (by kernel_rfl)),
 t0:=Tryz.underlying0,
 a0:=Tryz.isAgg0,
 z0:=Tryz.sizeOf0,
 v0:=Tryz.zeroValue0,
 t3:=Tryz.underlying3,
 a3:=Tryz.isAgg3,
 z3:=Tryz.sizeOf3,
 v3:=Tryz.zeroValue3,
 t4:=Tryz.underlying4,
 a4:=Tryz.isAgg4,
 z4:=Tryz.sizeOf4,
 v4:=Tryz.zeroValue4,
 t5:=Tryz.underlying5,
 a5:=Tryz.isAgg5,
 z5:=Tryz.sizeOf5,
 v5:=Tryz.zeroValue5,
 t9:=Tryz.underlying9,
 a9:=Tryz.isAgg9,
 z9:=Tryz.sizeOf9,
 v9:=Tryz.zeroValue9,
 t21:=Tryz.underlying21,
 a21:=Tryz.isAgg21,
 z21:=Tryz.sizeOf21,
 v21:=Tryz.zeroValue21,
 t31:=Tryz.underlying81,
 a31:=Tryz.isAgg81,
 z31:=Tryz.sizeOf81,
 v31:=Tryz.zeroValue81,
 t46:=Tryz.underlying120,
 a46:=Tryz.isAgg120,
 z46:=Tryz.sizeOf120,
 v46:=Tryz.zeroValue120,
 t51:=Tryz.underlying236,
 a51:=Tryz.isAgg236,
 z51:=Tryz.sizeOf236,
 v51:=Tryz.zeroValue236,
 t105:=Tryz.underlying198,
 a105:=Tryz.isAgg198,
 z105:=Tryz.sizeOf198,
 v105:=Tryz.zeroValue198,
 t119:=Tryz.underlying314,
 a119:=Tryz.isAgg314,
 z119:=Tryz.sizeOf314,
 t138:=Tryz.underlying316,
 a138:=Tryz.isAgg316,
 z138:=Tryz.sizeOf316,
 v138:=Tryz.zeroValue316,
 t139:=Tryz.underlying317,
 a139:=Tryz.isAgg317,
 z139:=Tryz.sizeOf317,
 v139:=Tryz.zeroValue317,
 t146:=Tryz.underlying237,
 a146:=Tryz.isAgg237,
 z146:=Tryz.sizeOf237,
 v146:=Tryz.zeroValue237,
 g1:=by kernel_rfl,
 g3:=by kernel_rfl,
 g4:=by kernel_rfl,
 i0:=by kernel_rfl,
 i3:=by kernel_rfl,
 i4:=by kernel_rfl,
 i5:=by kernel_rfl,
 i9:=by kernel_rfl,
 i21:=by kernel_rfl,
 i31:=by kernel_rfl,
 i46:=by kernel_rfl,
 i51:=by kernel_rfl,
 i105:=by kernel_rfl,
 i138:=by kernel_rfl,
 i139:=by kernel_rfl,
 i146:=by kernel_rfl,
 m1:=by kernel_rfl,
 s1_3:=fun w h=>Go.Proofs.cell_of_shapedOpen_int (zero:=#[.int .i64 0]) (t:=3) h (of_decide_eq_true (by kernel_rfl)) (by kernel_rfl) rfl (by kernel_rfl) (by kernel_rfl) Tryz.underlying3,
 m3:=by kernel_rfl,
 m4:=by kernel_rfl }
end Go.Proofs.YtihlneenajlhoaaGreatDoor
set_option linter.unusedSimpArgs false
set_option linter.unusedVariables false
namespace Go.Proofs.YtihlneenajlhoaaGreatDoor
open Go Go.RowKit
def Ad (t:List UInt8):List UInt8:=if t.head?=some 45 then t.tail else t
theorem wG (t:List UInt8):Lib.trimPrefix t [45]=Ad t∧Lib.hasPrefix t [45]=decide (t.head?=some 45):=by
 cases t with
 | nil=>exact ⟨rfl,rfl⟩
 | cons c r =>
  by_cases h:c=45
  ·subst h
   simp [Lib.trimPrefix,Lib.hasPrefix,Ad]
  ·have h2:(45==c)=false:=by simpa using Ne.symm h
   simp [Lib.trimPrefix,Lib.hasPrefix,Ad,h,List.isPrefixOf,h2]
theorem MR (t:List UInt8) (w:World):Calls Tryz.prog 92 #[.string (AA t),.string ⟨#[45]⟩] w fun e w'=>e=.returned (.tuple #[.string (AA (Ad t)),.bool (decide (t.head?=some 45))])∧w'=w :=
 (Any.strings_CutPrefix Tryz.laysCut (AA t) ⟨#[45]⟩ w).mono fun e w' ⟨h1,h2⟩=>⟨by
  rw [h1]
  have:=wG (AA t).data.toList
  rw [show (⟨#[45]⟩:ByteArray).data.toList = [45] from rfl,this.1,this.2,CY]
  rfl,h2⟩
theorem AL {l m:List UInt8} (h:l≠m):((AA l).toList==m)=false:=by
 rw [Lib.toList_data,CY]
 simpa using h
theorem str_eq {l m:List UInt8} (h:l=m):((AA l).toList==m)=true:=by
 rw [Lib.toList_data,CY]
 simpa using h
def Gy (p:List UInt8×Bool) (e:Ending):Prop:=match sp.Bf p with
 | some n=>e=.returned (.int .i64 n)
 | none=>e=.panicked bar
set_option maxRecDepth 100000 in
set_option maxHeartbeats 4000000 in
theorem wH (t:List UInt8) (w:World):Calls Tryz.prog 50 #[.agg #[.string (AA t),.bool true]] w fun e w'=>e=.panicked bar∧Below w.heap.size w w':=by
 have HB:=Lib.hid (AZ w (.cells #[.string (AA t),.bool true] 71))
 go_enter Tryz.func50,Tryz.ntmps50
 go_wp2_with (first
  | (go_at_call 92;refine (MR t _).mono ?_;rintro e w1 ⟨rfl,rfl⟩)
  | (go_at_call 23;refine (E8 _).mono ?_;rintro e w1 ⟨rfl,rfl⟩))
 exact ⟨rfl,rfl,HB.out⟩
set_option maxRecDepth 100000 in
set_option maxHeartbeats 4000000 in
theorem wI (t:List UInt8) (w:World) (h:Ad t = []):Calls Tryz.prog 50 #[.agg #[.string (AA t),.bool false]] w fun e w'=>e=.panicked bar∧Below w.heap.size w w':=by
 have HB:=Lib.hid (AZ w (.cells #[.string (AA t),.bool false] 71))
 have hsz:(AA []).size=0:=rfl
 have HC:=Lib.hid (fun W=>by have:=MR t W;rw [h] at this;exact this)
 clear h
 generalize decide (t.head?=some 45)=bl at HC
 go_enter Tryz.func50,Tryz.ntmps50
 go_wp2_with (first
  | (go_at_call 92;refine (HC.out _).mono ?_;rintro e w1 ⟨rfl,rfl⟩)
  | (go_at_call 23;refine (E8 _).mono ?_;rintro e w1 ⟨rfl,rfl⟩))
 exact ⟨rfl,rfl,HB.out⟩
set_option maxRecDepth 100000 in
set_option maxHeartbeats 4000000 in
theorem wJ (t:List UInt8) (w:World) (h:9<(Ad t).length):Calls Tryz.prog 50 #[.agg #[.string (AA t),.bool false]] w fun e w'=>e=.panicked bar∧Below w.heap.size w w':=by
 have HB:=Lib.hid (AZ w (.cells #[.string (AA t),.bool false] 71))
 have h1:decide (((AA (Ad t)).size:Int)≥1)=true:=by rw [Aa];simp;omega
 have h2:decide (((AA (Ad t)).size:Int)≤9)=false:=by rw [Aa];simp;omega
 have HC:=Lib.hid (MR t)
 clear h
 generalize AA (Ad t)=S at HC h1 h2
 generalize decide (t.head?=some 45)=bl at HC
 go_enter Tryz.func50,Tryz.ntmps50
 go_wp2_with (first
  | (go_at_call 92;refine (HC.out _).mono ?_;rintro e w1 ⟨rfl,rfl⟩)
  | (go_at_call 23;refine (E8 _).mono ?_;rintro e w1 ⟨rfl,rfl⟩))
 exact ⟨rfl,rfl,HB.out⟩
set_option maxRecDepth 100000 in
set_option maxHeartbeats 4000000 in
theorem wK (t:List UInt8) (w:World) (r:List UInt8) (h:Ad t=48 :: r) (hn:r.length≤8) (hz:t≠[48]):Calls Tryz.prog 50 #[.agg #[.string (AA t),.bool false]] w fun e w'=>e=.panicked bar∧Below w.heap.size w w':=by
 have HB:=Lib.hid (AZ w (.cells #[.string (AA t),.bool false] 71))
 have h1:decide (((AA (Ad t)).size:Int)≥1)=true:=by rw [Aa,h];simp;omega
 have h2:decide (((AA (Ad t)).size:Int)≤9)=true:=by rw [Aa,h];simp;omega
 have h3:∀q,(AA (Ad t))[0]'q=48:=by rw [h];intro q;rfl
 have HC:=Lib.hid (MR t)
 have h0:0<(AA (Ad t)).size:=by rw [Aa,h];simp
 generalize hS:AA (Ad t)=S at HC h0 h1 h2 h3
 generalize hbl:decide (t.head?=some 45)=bl at HC
 by_cases hr:r = []
 ·have hb:bl=true:=by
   rw [←hbl]
   by_cases q:t.head?=some 45
   ·simp [q]
   ·exfalso
    apply hz
    unfold Ad at h
    rw [if_neg q,hr] at h
    exact h
  subst hb
  have hS1:S=⟨#[48]⟩:=by rw [←hS,h,hr];rfl
  subst hS1
  clear hS h hz hbl h3
  go_enter Tryz.func50,Tryz.ntmps50
  go_wp2_with (first
   | (go_at_call 92;refine (HC.out _).mono ?_;rintro e w1 ⟨rfl,rfl⟩)
   | (go_at_call 23;refine (E8 _).mono ?_;rintro e w1 ⟨rfl,rfl⟩))
  exact ⟨rfl,rfl,HB.out⟩
 ·have h4:(S.toList==[48])=false:=by
   rw [←hS,h]
   exact AL (fun e=>hr (by cases e;rfl))
  clear hS h hz hbl hr
  go_enter Tryz.func50,Tryz.ntmps50
  go_wp2_with (first
   | (go_at_call 92;refine (HC.out _).mono ?_;rintro e w1 ⟨rfl,rfl⟩)
   | (go_at_call 23;refine (E8 _).mono ?_;rintro e w1 ⟨rfl,rfl⟩))
  exact ⟨rfl,rfl,HB.out⟩
def wL (w:World) (q:Nat) (xs:List UInt8):Prop:=∀j,j<xs.length→w.cell? ⟨q,j,none⟩=some (.int .u8 (xs.getD j 0).toNat)
theorem MS (w:World) (xs:List UInt8):∃W2 cp q,(convert 9 22 (.string (AA xs))).run Tryz.prog w=.ok (.slice (some ⟨q,0,none⟩) xs.length cp) W2∧Below w.heap.size w W2∧wL W2 q xs:=by
 have h:=Lib.run_convert_string_bytes (P:=Tryz.prog) w 9 22 5 (AA xs) Tryz.underlying9 Tryz.underlying22 Tryz.underlying5
 refine ⟨_,_,_,by rw [←Aa xs];exact h,Lt w _,fun j hj => ?_⟩
 have:=Lib.bytesWorld_cell w 5 (AA xs) j (by rw [Aa];exact hj)
 rw [CY] at this
 exact this
theorem Ef {l:List UInt8} {k:Nat} (h:k<l.length):l.getD k 0=l[k]:=by simp [List.getD,h]
theorem Jc {l:List UInt8} {k:Nat} (h:k<l.length):sp.val 0 (l.take (k+1))=sp.val 0 (l.take k)*10+((l.getD k 0).toNat-48):=by
 rw [List.take_add_one,List.getElem?_eq_getElem h,Option.toList_some,sp.val_append,sp.Iu,sp.KJ,Ef h]
theorem IZ {l:List UInt8} (h:∀c∈l,sp.Ac c=true) (hn:l.length≤9):sp.val 0 l<1000000000:=by
 have h1:=sp.UG l h 0
 have h2:10 ^ l.length≤10 ^ 9:=Nat.pow_le_pow_right (by decide) hn
 omega
def Hr (X:List UInt8) (bl:Bool) (e:Ending):Prop:=if X.all sp.Ac then e=.returned (.int .i64 (if bl then -(sp.val 0 X:Int) else (sp.val 0 X:Int))) else e=.panicked bar
set_option maxRecDepth 100000 in
set_option maxHeartbeats 4000000 in
theorem wM (t:List UInt8) (w:World) (X:List UInt8) (hX:Ad t=X) (bl:Bool) (hbl:decide (t.head?=some 45)=bl) (hn:1≤X.length) (hn9:X.length≤9) (hz:X.head?=some 48→X = [48]∧bl=false):Calls Tryz.prog 50 #[.agg #[.string (AA t),.bool false]] w fun e w'=>Hr X bl e∧Below w.heap.size w w':=by
 have h0:0<(AA X).size:=by rw [Aa];exact hn
 have h1:decide (((AA X).size:Int)≥1)=true:=by simp;omega
 have h2:decide (((AA X).size:Int)≤9)=true:=by rw [Aa];simp;omega
 have HC:=Lib.hid (MR t)
 rw [hX,hbl] at HC
 obtain ⟨W2,cp,q,hcv,hbw,hrow⟩:=MS (w.alloc (.cells #[.string (AA t),.bool false] 71)) X
 have HB:=Lib.hid ((AZ w (.cells #[.string (AA t),.bool false] 71)).trans (hbw.mono (by simp)))
 have Et:=Lib.hid hrow
 have HN:=Lib.hid hn9
 obtain ⟨c,r,hcr⟩:=List.exists_cons_of_ne_nil (List.ne_nil_of_length_pos hn)
 have h3:∀p,(AA X)[0]'p=c:=by rw [hcr];intro p;rfl
 have h4:c=48→((AA X).toList==[48])=true∧bl=false:=fun e=>by
  have:=hz (by rw [hcr,e];rfl)
  exact ⟨str_eq this.1,this.2⟩
 have HX:=Lib.hid (rfl:AA X=AA X)
 clear hX hbl hbw hrow hn hn9 hz hcr
 generalize hS:AA X=S at HC h0 h1 h2 h3 h4 hcv
 have HSX:=Lib.hid hS
 clear hS HX
 have key:Calls Tryz.prog 50 #[.agg #[.string (AA t),.bool false]] w fun e w'=>Hr X bl e∧Below w.heap.size w w':=by
  by_cases hc:c=48
  ·obtain ⟨h5,rfl⟩:=h4 hc
   subst hc
   go_enter Tryz.func50,Tryz.ntmps50
   go_wp2_with (first
    | (go_at_call 92;refine (HC.out _).mono ?_;rintro e w1 ⟨rfl,rfl⟩)
    | (go_at_call 23;refine (FP _).mono ?_;rintro e w1 ⟨rfl,rfl⟩))
   go_loopw [5,44] (fun n i wr=>∃k:Nat,k≤X.length∧i=.int .i64 k∧n=.int .i64 (sp.val 0 (X.take k):Nat)∧(∀x∈X.take k,sp.Ac x=true)∧wr=W2) (fun _ i _=>X.length-(intOf i).toNat)
   case atStart=>exact ⟨0,Nat.zero_le _,rfl,rfl,fun _ h=>(by cases h),rfl⟩
   case round =>
    obtain ⟨k,hk,rfl,rfl,hd,rfl⟩:=hrel
    have HD:=Lib.hid hd
    clear hd
    by_cases hlt:k<X.length
    ·have hcell:=Et.out k hlt
     have hv:=Jc hlt
     have hs:sp.val 0 (X.take k)<1000000000:=IZ HD.out (by rw [List.length_take];have:=HN.out;omega)
     have hmem:X.getD k 0∈X:=by rw [Ef hlt];exact List.getElem_mem _
     have hset:∀x∈X.take (k+1),x∈X.take k∨x=X.getD k 0:=fun x hx=>by
      rw [List.take_add_one,List.getElem?_eq_getElem hlt,Option.toList_some] at hx
      rcases List.mem_append.1 hx with h | h
      ·exact .inl h
      ·rw [List.mem_singleton] at h
       exact .inr (by rw [h,Ef hlt])
     have hX9:(X.length:Int)≤9:=by have:=HN.out;omega
     have HV:=Lib.hid hv;have HM:=Lib.hid hmem;have EK:=Lib.hid hset
     clear hv hmem hset
     generalize X.getD k 0=K at hcell HV HM EK
     have hK:=K.toNat_lt
     by_cases hdg:48≤K.toNat∧K.toNat≤57
     ·have t1:decide ((K.toNat:Int)≥48)=true:=by simp;omega
      have t2:decide ((K.toNat:Int)≤57)=true:=by simp;omega
      have hKd:sp.Ac K=true:=by unfold sp.Ac;simp;omega
      have hsub:((K.toNat:Int)-48)=((K.toNat-48:Nat):Int):=by omega
      have hb1:((K.toNat-48:Nat):Int)≤9:=by omega
      have HKD:=Lib.hid hKd
      generalize K.toNat-48=D at hsub hb1 HV
      generalize sp.val 0 (X.take k)=V at hs HV
      clear hdg hKd
      go_wp2_with (first
       | (go_at_call 23;refine (FP _).mono ?_;rintro e w1 ⟨rfl,rfl⟩))
      refine ⟨⟨k+1,by omega,by go_num,?_,fun x hx => ?_,trivial⟩,by simp [intOf];omega⟩
      ·rw [HV.out];simp
      ·rcases EK.out x hx with h | h
       ·exact HD.out x h
       ·rw [h];exact HKD.out
     ·have hKd:sp.Ac K=false:=by unfold sp.Ac;simp;omega
      have HF:Hid (Hr X false (.panicked bar)):=Lib.hid (by
       unfold Hr
       rw [if_neg]
       intro hall
       have:=List.all_eq_true.1 hall K HM.out
       rw [hKd] at this
       cases this)
      by_cases q1:48≤K.toNat
      ·have t1:decide ((K.toNat:Int)≥48)=true:=by simp;omega
       have t2:decide ((K.toNat:Int)≤57)=false:=by simp;omega
       clear hdg hKd q1
       go_wp2_with (first
        | (go_at_call 23;refine (E8 _).mono ?_;rintro e w1 ⟨rfl,rfl⟩))
       exact ⟨rfl,HF.out,HB.out⟩
      ·have t1:decide ((K.toNat:Int)≥48)=false:=by simp;omega
       clear hdg hKd q1
       go_wp2_with (first
        | (go_at_call 23;refine (E8 _).mono ?_;rintro e w1 ⟨rfl,rfl⟩))
       exact ⟨rfl,HF.out,HB.out⟩
    ·have hke:k=X.length:=by omega
     subst hke
     have HF:Hid (Hr X false (.returned (.int .i64 (if false then -(sp.val 0 X:Int) else (sp.val 0 X:Int))))):=Lib.hid (by
      unfold Hr
      rw [if_pos]
      exact List.all_eq_true.2 fun x hx=>HD.out x (by rw [List.take_length];exact hx))
     have hs:sp.val 0 (X.take X.length)<1000000000:=IZ HD.out (by rw [List.take_length];exact HN.out)
     rw [List.take_length] at hs ⊢
     generalize sp.val 0 X=V at hs HF
     have hX9:(X.length:Int)≤9:=by have:=HN.out;omega
     go_wp2
     go_ret
     exact ⟨HF.out,HB.out⟩
  ·have t5:((c.toNat:Int)==48)=false:=Bo c 48 hc
   have t5n:((c.toNat:Int) != 48)=true:=by rw [bne,t5];rfl
   clear h4
   go_enter Tryz.func50,Tryz.ntmps50
   go_wp2_with (first
    | (go_at_call 92;refine (HC.out _).mono ?_;rintro e w1 ⟨rfl,rfl⟩)
    | (go_at_call 23;refine (FP _).mono ?_;rintro e w1 ⟨rfl,rfl⟩))
   go_loopw [5,44] (fun n i wr=>∃k:Nat,k≤X.length∧i=.int .i64 k∧n=.int .i64 (sp.val 0 (X.take k):Nat)∧(∀x∈X.take k,sp.Ac x=true)∧wr=W2) (fun _ i _=>X.length-(intOf i).toNat)
   case atStart=>exact ⟨0,Nat.zero_le _,rfl,rfl,fun _ h=>(by cases h),rfl⟩
   case round =>
    obtain ⟨k,hk,rfl,rfl,hd,rfl⟩:=hrel
    have HD:=Lib.hid hd
    clear hd
    by_cases hlt:k<X.length
    ·have hcell:=Et.out k hlt
     have hv:=Jc hlt
     have hs:sp.val 0 (X.take k)<1000000000:=IZ HD.out (by rw [List.length_take];have:=HN.out;omega)
     have hmem:X.getD k 0∈X:=by rw [Ef hlt];exact List.getElem_mem _
     have hset:∀x∈X.take (k+1),x∈X.take k∨x=X.getD k 0:=fun x hx=>by
      rw [List.take_add_one,List.getElem?_eq_getElem hlt,Option.toList_some] at hx
      rcases List.mem_append.1 hx with h | h
      ·exact .inl h
      ·rw [List.mem_singleton] at h
       exact .inr (by rw [h,Ef hlt])
     have hX9:(X.length:Int)≤9:=by have:=HN.out;omega
     have HV:=Lib.hid hv;have HM:=Lib.hid hmem;have EK:=Lib.hid hset
     clear hv hmem hset
     generalize X.getD k 0=K at hcell HV HM EK
     have hK:=K.toNat_lt
     by_cases hdg:48≤K.toNat∧K.toNat≤57
     ·have t1:decide ((K.toNat:Int)≥48)=true:=by simp;omega
      have t2:decide ((K.toNat:Int)≤57)=true:=by simp;omega
      have hKd:sp.Ac K=true:=by unfold sp.Ac;simp;omega
      have hsub:((K.toNat:Int)-48)=((K.toNat-48:Nat):Int):=by omega
      have hb1:((K.toNat-48:Nat):Int)≤9:=by omega
      have HKD:=Lib.hid hKd
      generalize K.toNat-48=D at hsub hb1 HV
      generalize sp.val 0 (X.take k)=V at hs HV
      clear hdg hKd
      go_wp2_with (first
       | (go_at_call 23;refine (FP _).mono ?_;rintro e w1 ⟨rfl,rfl⟩))
      refine ⟨⟨k+1,by omega,by go_num,?_,fun x hx => ?_,trivial⟩,by simp [intOf];omega⟩
      ·rw [HV.out];simp
      ·rcases EK.out x hx with h | h
       ·exact HD.out x h
       ·rw [h];exact HKD.out
     ·have hKd:sp.Ac K=false:=by unfold sp.Ac;simp;omega
      have HF:Hid (Hr X bl (.panicked bar)):=Lib.hid (by
       unfold Hr
       rw [if_neg]
       intro hall
       have:=List.all_eq_true.1 hall K HM.out
       rw [hKd] at this
       cases this)
      by_cases q1:48≤K.toNat
      ·have t1:decide ((K.toNat:Int)≥48)=true:=by simp;omega
       have t2:decide ((K.toNat:Int)≤57)=false:=by simp;omega
       clear hdg hKd q1
       go_wp2_with (first
        | (go_at_call 23;refine (E8 _).mono ?_;rintro e w1 ⟨rfl,rfl⟩))
       exact ⟨rfl,HF.out,HB.out⟩
      ·have t1:decide ((K.toNat:Int)≥48)=false:=by simp;omega
       clear hdg hKd q1
       go_wp2_with (first
        | (go_at_call 23;refine (E8 _).mono ?_;rintro e w1 ⟨rfl,rfl⟩))
       exact ⟨rfl,HF.out,HB.out⟩
    ·have hke:k=X.length:=by omega
     subst hke
     have HF:Hid (Hr X bl (.returned (.int .i64 (if bl then -(sp.val 0 X:Int) else (sp.val 0 X:Int))))):=Lib.hid (by
      unfold Hr
      rw [if_pos]
      exact List.all_eq_true.2 fun x hx=>HD.out x (by rw [List.take_length];exact hx))
     have hs:sp.val 0 (X.take X.length)<1000000000:=IZ HD.out (by rw [List.take_length];exact HN.out)
     rw [List.take_length] at hs ⊢
     generalize sp.val 0 X=V at hs HF
     have hX9:(X.length:Int)≤9:=by have:=HN.out;omega
     cases bl
     ·go_wp2
      go_ret
      exact ⟨HF.out,HB.out⟩
     ·go_wp2
      go_ret
      exact ⟨HF.out,HB.out⟩
 exact key
theorem Oo (t:List UInt8):sp.num t=if Ad t = []∨9<(Ad t).length∨((Ad t).head?=some 48∧t≠[48]) then none else if (Ad t).all sp.Ac then some (if t.head?=some 45 then -(sp.val 0 (Ad t):Int) else (sp.val 0 (Ad t):Int)) else none:=rfl
theorem Kt (p:List UInt8×Bool) (w:World):Calls Tryz.prog 50 #[.agg #[.string (AA p.1),.bool p.2]] w fun e w'=>Gy p e∧Below w.heap.size w w':=by
 obtain ⟨t,q⟩:=p
 cases q with
 | true=>exact (wH t w).mono fun e w' ⟨h1,h2⟩=>⟨h1,h2⟩
 | false =>
  have e0:sp.Bf (t,false)=sp.num t:=rfl
  have hm:Ad t = []∨9<(Ad t).length∨((Ad t).head?=some 48∧t≠[48])→∀e,e=.panicked bar→Gy (t,false) e:=fun h e he=>by
   unfold Gy
   rw [e0,Oo,if_pos h]
   exact he
  by_cases h1:Ad t = []
  ·exact (wI t w h1).mono fun e w' ⟨k1,k2⟩=>⟨hm (.inl h1) e k1,k2⟩
  by_cases h2:9<(Ad t).length
  ·exact (wJ t w h2).mono fun e w' ⟨k1,k2⟩=>⟨hm (.inr (.inl h2)) e k1,k2⟩
  by_cases h3:(Ad t).head?=some 48∧t≠[48]
  ·obtain ⟨r,hr⟩:∃r,Ad t=48 :: r:=by
    cases hb:Ad t with
    | nil=>exact absurd hb h1
    | cons c r=>rw [hb] at h3;obtain ⟨h3,_⟩:=h3;cases h3;exact ⟨r,rfl⟩
   exact (wK t w r hr (by rw [hr] at h2;simp at h2;omega) h3.2).mono fun e w' ⟨k1,k2⟩=>⟨hm (.inr (.inr h3)) e k1,k2⟩
  refine (wM t w (Ad t) rfl _ rfl (List.length_pos_iff.2 h1) (by omega) fun h => ?_).mono fun e w' ⟨k1,k2⟩=>⟨?_,k2⟩
  ·have ht:t = [48]:=Classical.byContradiction fun hne=>h3 ⟨h,hne⟩
   subst ht
   exact ⟨rfl,rfl⟩
  ·unfold Gy
   rw [e0,Oo,if_neg (fun h=>h.elim h1 fun h=>h.elim h2 h3)]
   unfold Hr at k1
   by_cases ha:(Ad t).all sp.Ac=true
   ·rw [if_pos ha] at k1 ⊢
    rw [k1]
    simp only [decide_eq_true_eq]
   ·rw [if_neg ha] at k1 ⊢
    exact k1
theorem Jd {l:List UInt8} {k:Nat} (h:k<l.length):∀p,(AA l)[k]'p=l.getD k 0:=fun p=>by
 rw [Ef h]
 rfl
theorem Gm (c:UInt8):sp.Ac c=true↔48≤c.toNat∧c.toNat≤57:=by unfold sp.Ac;simp
theorem Yt {f:UInt8→Bool} {l:List UInt8} {k:Nat} (h:∀x∈l.take k,f x=true) (hk:k≤l.length) (hn:k<l.length→f (l.getD k 0)=false):l.takeWhile f=l.take k∧l.dropWhile f=l.drop k:=by
 have:=MP (f:=f) (t:=l.take k) (r:=l.drop k) h (fun c hc=>by
  by_cases hlt:k<l.length
  ·have e:=hn hlt
   rw [List.head?_drop,List.getElem?_eq_getElem hlt] at hc
   cases hc
   rw [Ef hlt] at e
   exact e
  ·rw [List.drop_eq_nil_of_le (by omega)] at hc
   cases hc)
 rw [List.take_append_drop] at this
 exact this
theorem MV {l:List UInt8} {k:Nat} (hlt:k<l.length):∀x∈l.take (k+1),x∈l.take k∨x=l.getD k 0:=fun x hx=>by
 rw [List.take_add_one,List.getElem?_eq_getElem hlt,Option.toList_some] at hx
 rcases List.mem_append.1 hx with h | h
 ·exact .inl h
 ·rw [List.mem_singleton] at h
  exact .inr (by rw [h,Ef hlt])
set_option maxRecDepth 100000 in
set_option maxHeartbeats 4000000 in
theorem wO (X:List UInt8) (w:World) (hn:X.length≤1099511627776):Calls Tryz.prog 156 #[.string (AA X)] w fun e w'=>e=.returned (.int .i64 ((X.takeWhile sp.Ac).length:Nat))∧w'=w:=by
 have HN:=Lib.hid hn
 have hsz:=Aa X
 clear hn
 go_enter Tryz.func156,Tryz.ntmps156
 go_wp2
 go_loopw [3] (fun i wr=>∃k:Nat,k≤X.length∧i=.int .i64 k∧(∀x∈X.take k,sp.Ac x=true)∧wr=w) (fun i _=>X.length-(intOf i).toNat)
 case atStart=>exact ⟨0,Nat.zero_le _,rfl,fun _ h=>(by cases h),rfl⟩
 case round =>
  obtain ⟨k,hk,rfl,hd,rfl⟩:=hrel
  have HD:=Lib.hid hd
  have hkb:(k:Int)≤1099511627776:=by have:=HN.out;omega
  clear hd
  by_cases hlt:k<X.length
  ·have hat:=Jd hlt
   have EK:=Lib.hid (MV hlt)
   have HTW:=Lib.hid (fun h=>Yt (f:=sp.Ac) HD.out hk (fun _=>h))
   have t0:decide ((k:Int)<(X.length:Int))=true:=by simp;omega
   generalize X.getD k 0=K at hat EK HTW
   have hK:=K.toNat_lt
   by_cases hdg:48≤K.toNat∧K.toNat≤57
   ·have t1:decide ((K.toNat:Int)≥48)=true:=by simp;omega
    have t2:decide ((K.toNat:Int)≤57)=true:=by simp;omega
    have HKD:=Lib.hid ((Gm K).2 hdg)
    clear hdg
    go_wp2
    refine ⟨⟨k+1,by omega,by go_num,fun x hx => ?_,trivial⟩,by simp [intOf];omega⟩
    rcases EK.out x hx with h | h
    ·exact HD.out x h
    ·rw [h];exact HKD.out
   ·have HF:Hid ((X.takeWhile sp.Ac).length=k):=Lib.hid (by
     have hf:sp.Ac K=false:=by
      cases hb:sp.Ac K with
      | false=>rfl
      | true=>exact absurd ((Gm K).1 hb) hdg
     rw [(HTW.out hf).1,List.length_take];omega)
    by_cases q1:48≤K.toNat
    ·have t1:decide ((K.toNat:Int)≥48)=true:=by simp;omega
     have t2:decide ((K.toNat:Int)≤57)=false:=by simp;omega
     clear hdg q1
     go_wp2
     go_ret
     exact ⟨by rw [HF.out];rfl,rfl⟩
    ·have t1:decide ((K.toNat:Int)≥48)=false:=by simp;omega
     clear hdg q1
     go_wp2
     go_ret
     exact ⟨by rw [HF.out];rfl,rfl⟩
  ·have HF:Hid ((X.takeWhile sp.Ac).length=k):=Lib.hid (by
    rw [(Yt (f:=sp.Ac) HD.out hk (fun h=>absurd h hlt)).1,List.length_take];omega)
   have t0:decide ((k:Int)<(X.length:Int))=false:=by simp;omega
   go_wp2
   go_ret
   exact ⟨by rw [HF.out];rfl,rfl⟩
def FB (X:List UInt8) (v:Int) (u:List UInt8) (ok:Bool):Prop:=sp.I64 v∧(if ok then X.takeWhile sp.Ac≠[]∧(X.takeWhile sp.Ac).length≤19∧v=sp.val 0 (X.takeWhile sp.Ac)∧sp.val 0 (X.takeWhile sp.Ac)≤9223372036854775807∧u=X.dropWhile sp.Ac
 else X.takeWhile sp.Ac = []∨19<(X.takeWhile sp.Ac).length∨9223372036854775807<sp.val 0 (X.takeWhile sp.Ac))
theorem wP (X:List UInt8):∀x∈X.takeWhile sp.Ac,sp.Ac x=true:=fun x hx=>by
 have:=List.all_takeWhile (l:=X) (p:=sp.Ac)
 exact List.all_eq_true.1 this x hx
theorem wQ (X:List UInt8):X.take (X.takeWhile sp.Ac).length=X.takeWhile sp.Ac∧X.drop (X.takeWhile sp.Ac).length=X.dropWhile sp.Ac:=by
 have h:=List.takeWhile_append_dropWhile (p:=sp.Ac) (l:=X)
 generalize X.takeWhile sp.Ac=a at h
 generalize X.dropWhile sp.Ac=b at h
 subst h
 exact ⟨List.take_left,List.drop_left⟩
theorem Qk (X:List UInt8) (k:Nat) (h:k≤X.length):(AA X).extract 0 k=AA (X.take k):=by
 have:=Om (s:=AA X) (p:=[]) (t:=X.take k) (r:=X.drop k) (by rw [CY];simp)
 rw [List.length_take,Nat.min_eq_left h] at this
 simpa using this
theorem Je (X:List UInt8) (k n:Nat) (h:k≤X.length) (hn:n=X.length):(AA X).extract k n=AA (X.drop k):=by
 subst hn
 have:=Om (s:=AA X) (p:=X.take k) (t:=X.drop k) (r:=[]) (by rw [CY];simp)
 rw [List.length_take,Nat.min_eq_left h,List.length_drop] at this
 rw [show k+(X.length-k)=X.length by omega] at this
 exact this
theorem U4 (x:Int):sp.I64 (wrap64 x):=by
 unfold sp.I64 wrap64
 constructor<;>omega
theorem U5 {l:List UInt8} (h:∀c∈l,sp.Ac c=true) (hn:l.length≤19):sp.val 0 l<10000000000000000000:=by
 have h1:=sp.UG l h 0
 have h2:10 ^ l.length≤10 ^ 19:=Nat.pow_le_pow_right (by decide) hn
 omega
theorem U6 {l:List UInt8} {k:Nat} (h:∀c∈l.take k,sp.Ac c=true) (hk:k<l.length) (hn:l.length≤19):sp.val 0 (l.take k)<1000000000000000000:=by
 have h1:=sp.UG (l.take k) h 0
 have h2:10 ^ (l.take k).length≤10 ^ 18:=Nat.pow_le_pow_right (by decide) (by rw [List.length_take];omega)
 omega
set_option maxRecDepth 100000 in
set_option maxHeartbeats 4000000 in
theorem Yu (X:List UInt8) (w:World) (hn:X.length≤1099511627776):Calls Tryz.prog 124 #[.string (AA X)] w fun e w'=>(∃v u ok,e=.returned (.tuple #[.int .i64 v,.string (AA u),.bool ok])∧FB X v u ok)∧Below w.heap.size w w':=by
 have HD:=Lib.hid (wO X w hn)
 obtain ⟨n,hN⟩:∃n,n=(X.takeWhile sp.Ac).length:=⟨_,rfl⟩
 have hle:n≤X.length:=by rw [hN];exact (List.takeWhile_sublist sp.Ac).length_le
 have hnb:(n:Int)≤1099511627776:=by omega
 rw [←hN] at HD
 have hsz:=Aa X
 by_cases h0:n=0
 ·have HF:Hid (FB X 0 [] false):=Lib.hid ⟨by constructor<;>decide,.inl (List.length_eq_zero_iff.1 (by omega))⟩
  subst h0
  clear hN hn
  go_enter Tryz.func124,Tryz.ntmps124
  go_wp2_with (go_at_call 156;refine HD.out.mono ?_;rintro e w1 ⟨rfl,rfl⟩)
  go_ret3
  exact ⟨⟨0,[],false,rfl,HF.out⟩,Below.refl _ _⟩
 ·by_cases h19:n≤19
  ·obtain ⟨W2,cp,q,hcv,hbw,hrow⟩:=MS w (X.take n)
   have HB:=Lib.hid hbw;have Et:=Lib.hid hrow
   rw [←Qk X n hle] at hcv
   have hlen:(X.take n).length=n:=by rw [List.length_take];omega
   rw [hlen] at hcv
   have htw:=wQ X
   rw [←hN] at htw
   have GR:Hid (∀x∈X.take n,sp.Ac x=true):=Lib.hid (fun x hx=>by rw [htw.1] at hx;exact wP X x hx)
   have hed:(AA X).extract n X.length=AA (X.drop n):=Je X n _ hle rfl
   have HTW:=Lib.hid htw;have HED:=Lib.hid hed
   have t0:decide ((n:Int)>19)=false:=by simp;omega
   have t1:((n:Int)==0)=false:=by simp;omega
   have HLEN:=Lib.hid hlen;have H0:=Lib.hid h0
   clear hbw hrow hN hn h0 htw hed hlen
   go_enter Tryz.func124,Tryz.ntmps124
   go_wp2_with (go_at_call 156;refine HD.out.mono ?_;rintro e w1 ⟨rfl,rfl⟩)
   go_loopw [6,22] (fun v i wr=>∃k:Nat,k≤n∧i=.int .i64 k∧v=.int .u64 (sp.val 0 ((X.take n).take k):Nat)∧wr=W2) (fun _ i _=>n-(intOf i).toNat)
   case atStart=>exact ⟨0,Nat.zero_le _,rfl,rfl,rfl⟩
   case round =>
    obtain ⟨k,hk,rfl,rfl,rfl⟩:=hrel
    by_cases hlt:k<n
    ·have hlt':k<(X.take n).length:=by rw [HLEN.out];exact hlt
     have hcell:=Et.out k hlt'
     have hv:=Jc hlt'
     have hs:sp.val 0 ((X.take n).take k)<1000000000000000000:=U6 (fun x hx=>GR.out x (List.mem_of_mem_take hx)) hlt' (by rw [HLEN.out];omega)
     have hd:=(Gm _).1 (GR.out ((X.take n).getD k 0) (by rw [Ef hlt'];exact List.getElem_mem _))
     have hkb:(k:Int)≤19:=by omega
     have HV:=Lib.hid hv
     clear hv
     generalize (X.take n).getD k 0=K at hcell HV hd
     have hsub:((K.toNat:Int)-48)=((K.toNat-48:Nat):Int):=by omega
     have hb1:((K.toNat-48:Nat):Int)≤9:=by omega
     generalize K.toNat-48=D at hsub hb1 HV
     generalize sp.val 0 ((X.take n).take k)=V at hs HV
     clear hd
     go_wp2
     refine ⟨⟨k+1,by omega,by go_num,?_,trivial⟩,by simp [intOf];omega⟩
     rw [HV.out];simp
    ·have hke:k=n:=by omega
     subst hke
     have hs:sp.val 0 ((X.take k).take k)<10000000000000000000:=U5 (fun x hx=>GR.out x (List.mem_of_mem_take hx)) (by rw [List.length_take,HLEN.out];omega)
     have HE:Hid ((X.take k).take k=X.takeWhile sp.Ac):=Lib.hid (by rw [List.take_take,Nat.min_self];exact HTW.out.1)
     rw [HE.out] at hs ⊢
     have HNE:Hid (X.takeWhile sp.Ac≠[]∧(X.takeWhile sp.Ac).length≤19):=Lib.hid (by
      rw [←HTW.out.1]
      refine ⟨fun e => ?_,by rw [HLEN.out];omega⟩
      have:=HLEN.out
      rw [e] at this
      simp at this
      exact H0.out this.symm)
     by_cases hm:sp.val 0 (X.takeWhile sp.Ac)≤9223372036854775807
     ·have HF:Hid (FB X (sp.val 0 (X.takeWhile sp.Ac):Nat) (X.drop k) true):=Lib.hid ⟨by constructor<;>omega,HNE.out.1,HNE.out.2,rfl,hm,HTW.out.2⟩
      generalize sp.val 0 (X.takeWhile sp.Ac)=V at hs hm HF
      go_wp2
      have hdv:decide ((V:Int)≤9223372036854775807)=true:=by simp;omega
      go_region
      all_goals
       go_wp2
       go_ret3
       exact ⟨⟨(V:Int),X.drop k,true,by rw [HED.out];rfl,HF.out⟩,HB.out.drew⟩
     ·have HF:Hid (∀v u,sp.I64 v→FB X v u false):=Lib.hid (fun v u hv=>⟨hv,.inr (.inr (by omega))⟩)
      have hdv:decide (((sp.val 0 (X.takeWhile sp.Ac):Nat):Int)≤9223372036854775807)=false:=by simp;omega
      generalize sp.val 0 (X.takeWhile sp.Ac)=V at hs hm HF hdv
      go_wp2
      go_region
      all_goals
       go_wp2
       go_ret3
       exact ⟨⟨wrap64 (V:Int),_,false,rfl,HF.out _ _ (U4 _)⟩,HB.out.drew⟩
  ·have t0:decide ((n:Int)>19)=true:=by simp;omega
   have t1:((n:Int)==0)=false:=by simp;omega
   have HF:Hid (FB X 0 [] false):=Lib.hid ⟨by constructor<;>decide,.inr (.inl (by omega))⟩
   clear hN hn h0 h19
   go_enter Tryz.func124,Tryz.ntmps124
   go_wp2_with (go_at_call 156;refine HD.out.mono ?_;rintro e w1 ⟨rfl,rfl⟩)
   go_ret3
   exact ⟨⟨0,[],false,rfl,HF.out⟩,Below.refl _ _⟩
def Cb (X:List UInt8) (e:Ending):Prop:=match sp.Cc X with
 | some p=>e=.returned (.tuple #[.agg #[.int .i64 p.1,.int .i64 p.2],.int .i64 0])
 | none=>e=.returned (.tuple #[.agg #[.int .i64 0,.int .i64 0],.int .i64 3])
theorem U7:sp.BM 0 0∧sp.AP 0 0=sp.over:=by
 refine ⟨.inl ⟨rfl,rfl⟩,?_⟩
 unfold sp.AP
 rw [if_neg]
 rintro ⟨h,_⟩
 omega
theorem Yv:sp.Cc sp.over=some (0,0):=by
 have:=sp.UL (n:=0) (d:=0) (by constructor<;>decide) (by constructor<;>decide) U7.1
 rwa [U7.2] at this
theorem wR {n d:Int} {X:List UInt8} (h:sp.BM n d) (he:sp.AP n d=X) (hX:X≠sp.over):sp.CJ n d:=by
 rcases h with ⟨rfl,rfl⟩ | h
 ·exact absurd (he.symm.trans U7.2) hX
 ·exact h
theorem U8 (m:Nat) (r:List UInt8) (hr:∀c,r.head?=some c→sp.Ac c=false):(Lib.decDigits m++r).takeWhile sp.Ac=Lib.decDigits m∧(Lib.decDigits m++r).dropWhile sp.Ac=r:=MP (sp.KN m) hr
theorem Ql {n d:Int} {X:List UInt8} (h:sp.CJ n d) (he:sp.AP n d=X):(X.head?=some 45↔n<0)∧(Ad X).takeWhile sp.Ac=Lib.decDigits n.natAbs∧(Ad X).dropWhile sp.Ac=(if 1<d then 47 :: Lib.decDigits d.toNat else []):=by
 have hd:(if 1<d then 47 :: Lib.itoa d else [])=(if 1<d then 47 :: Lib.decDigits d.toNat else []:List UInt8):=by
  split
  ·obtain ⟨k,rfl⟩:∃k:Nat,d=k:=⟨d.toNat,by omega⟩
   rw [sp.KO];rfl
  ·rfl
 have htail:∀c,(if 1<d then 47 :: Lib.decDigits d.toNat else []:List UInt8).head?=some c→sp.Ac c=false:=by
  intro c hc
  split at hc
  ·cases hc;rfl
  ·cases hc
 unfold sp.AP at he
 rw [if_pos h,hd] at he
 generalize (if 1<d then 47 :: Lib.decDigits d.toNat else []:List UInt8)=T at he htail
 by_cases hn:n<0
 ·have e1:Lib.itoa n=45 :: Lib.decDigits n.natAbs:=by
   rw [show n = -((n.natAbs:Nat):Int) by omega,sp.QJ _ (by omega)];simp
  rw [e1] at he
  subst he
  have:=U8 n.natAbs T htail
  refine ⟨by simp [hn],?_⟩
  unfold Ad
  rw [List.cons_append,List.head?_cons,if_pos rfl,List.tail_cons]
  exact this
 ·have e1:Lib.itoa n=Lib.decDigits n.natAbs:=by
   rw [show n=((n.natAbs:Nat):Int) by omega,sp.KO];simp
  rw [e1] at he
  subst he
  have hh:(Lib.decDigits n.natAbs++T).head?≠some 45:=by
   rw [sp.head_append (sp.JW _)]
   exact sp.UH _
  have:=U8 n.natAbs T htail
  refine ⟨⟨fun h=>absurd h hh,fun h=>absurd h hn⟩,?_⟩
  unfold Ad
  rw [if_neg hh]
  exact this
theorem Yw {u:Nat} (h:u≤9223372036854775807):Lib.nDigits u≤19:=by
 by_cases h0:u=0
 ·subst h0;rw [Lib.nDigits_small (by omega)];omega
 ·obtain ⟨c,r,e,hc⟩:=sp.UE u
  have hv:=sp.JV u
  have hh:=sp.OI u h0
  have hl:=Lib.decDigits_length u
  rw [e] at hv hh hl
  have hc:=(Gm c).1 hc
  have hne:c.toNat≠48:=fun h=>hh (by simp only [List.head?_cons,Option.some.injEq];exact UInt8.toNat_inj.1 h)
  rw [sp.Iu] at hv
  have h2:=sp.UF r (0*10+(c.toNat-48))
  rw [hv] at h2
  simp only [List.length_cons] at hl
  by_cases hr:r.length≤18
  ·omega
  ·have h3:(10:Nat) ^ 19≤10 ^ r.length:=Nat.pow_le_pow_right (by decide) (by omega)
   have h4:1*10 ^ r.length≤(0*10+(c.toNat-48))*10 ^ r.length:=Nat.mul_le_mul_right _ (by omega)
   have h5:(10:Nat) ^ 19=10000000000000000000:=by decide
   omega
theorem Yx {Y:List UInt8} {v:Int} {u:List UInt8} {ok:Bool} {m:Nat} (h:FB Y v u ok) (hY:Y.takeWhile sp.Ac=Lib.decDigits m) (hm:m≤9223372036854775807):ok=true∧v=m∧u=Y.dropWhile sp.Ac:=by
 have hv:sp.val 0 (Y.takeWhile sp.Ac)=m:=by rw [hY,sp.JV]
 obtain ⟨_,h⟩:=h
 cases ok with
 | true =>
  rw [if_pos rfl] at h
  obtain ⟨_,_,h3,_,h5⟩:=h
  exact ⟨rfl,by rw [h3,hv],h5⟩
 | false =>
  exfalso
  rw [if_neg (by decide),hv,hY] at h
  rcases h with h | h | h
  ·exact sp.JW m h
  ·have h1:=Lib.decDigits_length m
   have h2:=Yw hm
   omega
  ·omega
theorem Ku {X:List UInt8} (hX:X≠sp.over) (h:∀n d,sp.I64 n→sp.I64 d→sp.CJ n d→sp.AP n d=X→False):Cb X (.returned (.tuple #[.agg #[.int .i64 0,.int .i64 0],.int .i64 3])):=by
 unfold Cb
 rw [sp.oP fun n d h1 h2 h3 h4=>h n d h1 h2 (wR h3 h4 hX) h4]
theorem Oq {X:List UInt8} {n d:Int} (h1:sp.I64 n) (h2:sp.I64 d) (h3:sp.CJ n d) (h4:sp.AP n d=X):Cb X (.returned (.tuple #[.agg #[.int .i64 n,.int .i64 d],.int .i64 0])):=by
 unfold Cb
 rw [←h4,sp.UL h1 h2 (.inr h3)]
section
variable {X:List UInt8} {v v2:Int} {u u2 u3:List UInt8} {ok ok2:Bool}
theorem Yy {n d:Int} (h1:sp.I64 n) (h:sp.CJ n d):n.natAbs≤9223372036854775807:=by
 obtain ⟨_,h3,_⟩:=h
 obtain ⟨a,b⟩:=h1
 omega
def CV (X:List UInt8) (v:Int):Int:=if X.head?=some 45 then -v else v
theorem U9 {n d:Int} (h:sp.CJ n d) (he:sp.AP n d=X):CV X n.natAbs=n:=by
 have:=(Ql h he).1
 unfold CV
 split
 ·rename_i q;have:=this.1 q;omega
 ·rename_i q;have:¬n<0:=fun h=>q (this.2 h);omega
theorem Qm (hX:X≠sp.over) (h:FB (Ad X) v u ok) {n d:Int} (h1:sp.I64 n) (h3:sp.CJ n d) (h4:sp.AP n d=X):ok=true∧v=n.natAbs∧u=if 1<d then 47 :: Lib.decDigits d.toNat else []:=by
 obtain ⟨_,k2,k3⟩:=Ql h3 h4
 have:=Yx h k2 (Yy h1 h3)
 exact ⟨this.1,this.2.1,this.2.2.trans k3⟩
theorem wS (hX:X≠sp.over) (h:FB (Ad X) v u false):Cb X (.returned (.tuple #[.agg #[.int .i64 0,.int .i64 0],.int .i64 3])) :=
 Ku hX fun n d h1 _ h3 h4=>by
  have:=(Qm hX h h1 h3 h4).1
  cases this
theorem wU {c:UInt8} (hX:X≠sp.over) (h:FB (Ad X) v (c :: u) ok) (hc:c≠47):Cb X (.returned (.tuple #[.agg #[.int .i64 0,.int .i64 0],.int .i64 3])) :=
 Ku hX fun n d h1 _ h3 h4=>by
  have:=(Qm hX h h1 h3 h4).2.2
  split at this
  ·cases this;exact hc rfl
  ·cases this
theorem Qn (hX:X≠sp.over) (h:FB (Ad X) v [] ok) (hno:¬(sp.CJ (CV X v) 1∧sp.AP (CV X v) 1=X)):Cb X (.returned (.tuple #[.agg #[.int .i64 0,.int .i64 0],.int .i64 3])) :=
 Ku hX fun n d h1 _ h3 h4=>by
  obtain ⟨_,e2,e3⟩:=Qm hX h h1 h3 h4
  have hd:d=1:=by
   have:=h3.1
   by_cases q:1<d
   ·rw [if_pos q] at e3;cases e3
   ·omega
  subst hd
  rw [e2,U9 h3 h4] at hno
  exact hno ⟨h3,h4⟩
theorem VA (hX:X≠sp.over) (h:FB (Ad X) v (47 :: u2) ok) (h2:FB u2 v2 u3 ok2) {n d:Int} (h1:sp.I64 n) (hd:sp.I64 d) (h3:sp.CJ n d) (h4:sp.AP n d=X):ok2=true∧v=n.natAbs∧v2=d∧u3 = []:=by
 obtain ⟨_,e2,e3⟩:=Qm hX h h1 h3 h4
 have q:1<d:=Classical.byContradiction fun q=>by rw [if_neg q] at e3;cases e3
 rw [if_pos q] at e3
 cases e3
 have hw:=U8 d.toNat [] (fun _ h=>by cases h)
 rw [List.append_nil] at hw
 have:=Yx h2 hw.1 (by have:=hd.2;omega)
 exact ⟨this.1,e2,by rw [this.2.1];omega,this.2.2.trans hw.2⟩
theorem wV (hX:X≠sp.over) (h:FB (Ad X) v (47 :: u2) ok) (h2:FB u2 v2 u3 false):Cb X (.returned (.tuple #[.agg #[.int .i64 0,.int .i64 0],.int .i64 3])) :=
 Ku hX fun n d h1 hd h3 h4=>by
  have:=(VA hX h h2 h1 hd h3 h4).1
  cases this
theorem wW (hX:X≠sp.over) (h:FB (Ad X) v (47 :: u2) ok) (h2:FB u2 v2 u3 ok2) (h0:u3≠[]):Cb X (.returned (.tuple #[.agg #[.int .i64 0,.int .i64 0],.int .i64 3])) :=
 Ku hX fun n d h1 hd h3 h4=>h0 (VA hX h h2 h1 hd h3 h4).2.2.2
theorem Qo (hX:X≠sp.over) (h:FB (Ad X) v (47 :: u2) ok) (h2:FB u2 v2 u3 ok2) (hno:¬(sp.CJ (CV X v) v2∧sp.AP (CV X v) v2=X)):Cb X (.returned (.tuple #[.agg #[.int .i64 0,.int .i64 0],.int .i64 3])) :=
 Ku hX fun n d h1 hd h3 h4=>by
  obtain ⟨_,e2,e3,_⟩:=VA hX h h2 h1 hd h3 h4
  rw [e2,e3,U9 h3 h4] at hno
  exact hno ⟨h3,h4⟩
end
end Go.Proofs.YtihlneenajlhoaaGreatDoor
