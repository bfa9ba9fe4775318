/-
 Plain law: an operation, written as a line, is read as it was, but for fields that its kind does not name; what is read is written the same. No condition beside the numbers' kinds.
-/
import Derived.Test.YtihlneenajlhoaaGreatDoorS1
import Derived.Test.YtihlneenajlhoaaGreatDoorS0
import Derived.Maps.AppendAt
import Derived.Test.YtihlneenajlhoaaGreatDoorProg
import Derived.Shelf.Lay
import Derived.Shelf.Lays
import Derived.Shelf.LaysM
import Derived.Shelf.Small.Wraps
import Derived.Shelf.Strings.Search3
import Derived.Shelf.Strings.Trim
import Derived.Shelf.Strings.SplitShaped
import Derived.Ground.NamesProg
set_option linter.unusedVariables false
set_option linter.unusedSimpArgs false
namespace Go.Proofs.YtihlneenajlhoaaGreatDoor.sp
open Go
theorem kw_ok:∀k∈[kSheet,kView,kFont,kColor,kPrint,kWord,kInsert,kRemove,kSet,kUnset,kBox,kAsk,kCustom,kRules,kCount],k≠[]∧∀c∈k,(c != 32&&c != 34&&c != 10&&c != 35)=true:=by decide
theorem boxText_of (b:Int):boxText b=kNone∨boxText b=kInline∨boxText b=kSize:=by
 unfold boxText
 split
 ·exact Or.inl rfl
 ·split
  ·exact Or.inr (Or.inl rfl)
  ·exact Or.inr (Or.inr rfl)
theorem piece_boxText (b:Int):Piece (boxText b,(boxText b,false)):=by
 rcases boxText_of b with h | h | h<;>rw [h]<;>exact piece_word (by decide) (by decide)
theorem boxOf_text {b:Int} (h0:0≤b) (h2:b≤2):boxOf (boxText b)=some b:=by
 have:b=0∨b=1∨b=2:=by omega
 rcases this with rfl | rfl | rfl<;>decide
theorem piece_boxWord {s:Bs} (h:s = []∨plainB s=true):Piece (boxWord s,(boxWord s,false)):=by
 unfold boxWord
 split
 ·exact piece_word (by decide) (by decide)
 ·rename_i h0
  exact piece_plain (h.resolve_left h0)
theorem boxName_word {s:Bs} (h:s≠[45]):boxName (boxWord s)=s:=by
 unfold boxWord
 split
 ·rename_i h0;rw [h0];rfl
 ·unfold boxName;rw [if_neg h]
theorem piece_on (b:Bool):Piece ((if b then kOn else kOff),((if b then kOn else kOff),false)):=by
 cases b<;>exact piece_word (by decide) (by decide)
theorem op_kSheet (o:Op) (ho:o.ok) (h_origin:SmallP o.origin):opS kSheet (([(Lib.itoa o.origin,(Lib.itoa o.origin,false)),(quoteS o.text,(o.text,true))]:List (Bs×Wd)).map (·.2))=some { kind:=1,origin:=o.origin,text:=o.text }:=by
 unfold opS
 rw [if_pos rfl]
 simp only [List.map_cons,List.map_nil,wNum_itoa h_origin,wText_of,Option.bind_some]
theorem op_kView (o:Op) (ho:o.ok) (h_w:MayP o.w.1 o.w.2) (h_h:MayP o.h.1 o.h.2):opS kView (([(ratS o.w.1 o.w.2,(ratS o.w.1 o.w.2,false)),(ratS o.h.1 o.h.2,(ratS o.h.1 o.h.2,false))]:List (Bs×Wd)).map (·.2))=some { kind:=2,w:=o.w,h:=o.h }:=by
 unfold opS
 rw [if_neg (by decide)]
 rw [if_pos rfl]
 simp only [List.map_cons,List.map_nil,wFrac_ratS ho.w1 ho.w2 h_w,wFrac_ratS ho.h1 ho.h2 h_h,Option.bind_some]
theorem op_kFont (o:Op) (ho:o.ok) (h_w:MayP o.w.1 o.w.2):opS kFont (([(ratS o.w.1 o.w.2,(ratS o.w.1 o.w.2,false))]:List (Bs×Wd)).map (·.2))=some { kind:=3,w:=o.w }:=by
 unfold opS
 rw [if_neg (by decide)]
 rw [if_neg (by decide)]
 rw [if_pos rfl]
 simp only [List.map_cons,List.map_nil,wFrac_ratS ho.w1 ho.w2 h_w,Option.bind_some]
theorem op_kColor (o:Op) (ho:o.ok) (h_w:MayP o.w.1 o.w.2):opS kColor (([(ratS o.w.1 o.w.2,(ratS o.w.1 o.w.2,false))]:List (Bs×Wd)).map (·.2))=some { kind:=13,w:=o.w }:=by
 unfold opS
 rw [if_neg (by decide)]
 rw [if_neg (by decide)]
 rw [if_neg (by decide)]
 rw [if_pos rfl]
 simp only [List.map_cons,List.map_nil,wFrac_ratS ho.w1 ho.w2 h_w,Option.bind_some]
theorem op_kPrint (o:Op) (ho:o.ok):opS kPrint (([((if o.on then kOn else kOff),((if o.on then kOn else kOff),false))]:List (Bs×Wd)).map (·.2))=some { kind:=14,on:=o.on }:=by
 unfold opS
 rw [if_neg (by decide)]
 rw [if_neg (by decide)]
 rw [if_neg (by decide)]
 rw [if_neg (by decide)]
 rw [if_pos rfl]
 cases h:o.on<;>simp [wPlain]
theorem op_kWord (o:Op) (ho:o.ok) (h_name:plainB o.name=true) (h_word:plainB o.word=true):opS kWord (([(o.name,(o.name,false)),(o.word,(o.word,false))]:List (Bs×Wd)).map (·.2))=some { kind:=4,name:=o.name,word:=o.word }:=by
 unfold opS
 rw [if_neg (by decide)]
 rw [if_neg (by decide)]
 rw [if_neg (by decide)]
 rw [if_neg (by decide)]
 rw [if_neg (by decide)]
 rw [if_pos rfl]
 simp only [List.map_cons,List.map_nil,wPlain_of,wPlain_of,Option.bind_some]
theorem op_kInsert (o:Op) (ho:o.ok) (h_node:SmallP o.node) (h_at_:SmallP o.at_) (h_name:plainB o.name=true):opS kInsert (([(Lib.itoa o.node,(Lib.itoa o.node,false)),(Lib.itoa o.at_,(Lib.itoa o.at_,false)),(o.name,(o.name,false))]:List (Bs×Wd)).map (·.2))=some { kind:=5,node:=o.node,at_:=o.at_,name:=o.name }:=by
 unfold opS
 rw [if_neg (by decide)]
 rw [if_neg (by decide)]
 rw [if_neg (by decide)]
 rw [if_neg (by decide)]
 rw [if_neg (by decide)]
 rw [if_neg (by decide)]
 rw [if_pos rfl]
 simp only [List.map_cons,List.map_nil,wNum_itoa h_node,wNum_itoa h_at_,wPlain_of,Option.bind_some]
theorem op_kRemove (o:Op) (ho:o.ok) (h_node:SmallP o.node):opS kRemove (([(Lib.itoa o.node,(Lib.itoa o.node,false))]:List (Bs×Wd)).map (·.2))=some { kind:=6,node:=o.node }:=by
 unfold opS
 rw [if_neg (by decide)]
 rw [if_neg (by decide)]
 rw [if_neg (by decide)]
 rw [if_neg (by decide)]
 rw [if_neg (by decide)]
 rw [if_neg (by decide)]
 rw [if_neg (by decide)]
 rw [if_pos rfl]
 simp only [List.map_cons,List.map_nil,wNum_itoa h_node,Option.bind_some]
theorem op_kSet (o:Op) (ho:o.ok) (h_node:SmallP o.node) (h_name:plainB o.name=true):opS kSet (([(Lib.itoa o.node,(Lib.itoa o.node,false)),(o.name,(o.name,false)),(quoteS o.word,(o.word,true))]:List (Bs×Wd)).map (·.2))=some { kind:=7,node:=o.node,name:=o.name,word:=o.word }:=by
 unfold opS
 rw [if_neg (by decide)]
 rw [if_neg (by decide)]
 rw [if_neg (by decide)]
 rw [if_neg (by decide)]
 rw [if_neg (by decide)]
 rw [if_neg (by decide)]
 rw [if_neg (by decide)]
 rw [if_neg (by decide)]
 rw [if_pos rfl]
 simp only [List.map_cons,List.map_nil,wNum_itoa h_node,wPlain_of,wText_of,Option.bind_some]
theorem op_kUnset (o:Op) (ho:o.ok) (h_node:SmallP o.node) (h_name:plainB o.name=true):opS kUnset (([(Lib.itoa o.node,(Lib.itoa o.node,false)),(o.name,(o.name,false))]:List (Bs×Wd)).map (·.2))=some { kind:=8,node:=o.node,name:=o.name }:=by
 unfold opS
 rw [if_neg (by decide)]
 rw [if_neg (by decide)]
 rw [if_neg (by decide)]
 rw [if_neg (by decide)]
 rw [if_neg (by decide)]
 rw [if_neg (by decide)]
 rw [if_neg (by decide)]
 rw [if_neg (by decide)]
 rw [if_neg (by decide)]
 rw [if_pos rfl]
 simp only [List.map_cons,List.map_nil,wNum_itoa h_node,wPlain_of,Option.bind_some]
theorem op_kBox (o:Op) (ho:o.ok) (h_node:SmallP o.node) (h_bt:0≤o.bt∧o.bt≤2) (h_bm:o.bn≠[45]) (h_bn:o.bn = []∨plainB o.bn=true) (h_bw:MayP o.bw.1 o.bw.2) (h_bh:MayP o.bh.1 o.bh.2):opS kBox (([(Lib.itoa o.node,(Lib.itoa o.node,false)),(boxText o.bt,(boxText o.bt,false)),(boxWord o.bn,(boxWord o.bn,false)),(ratS o.bw.1 o.bw.2,(ratS o.bw.1 o.bw.2,false)),(ratS o.bh.1 o.bh.2,(ratS o.bh.1 o.bh.2,false))]:List (Bs×Wd)).map (·.2))=some { kind:=9,node:=o.node,bt:=o.bt,bn:=o.bn,bw:=o.bw,bh:=o.bh }:=by
 unfold opS
 rw [if_neg (by decide)]
 rw [if_neg (by decide)]
 rw [if_neg (by decide)]
 rw [if_neg (by decide)]
 rw [if_neg (by decide)]
 rw [if_neg (by decide)]
 rw [if_neg (by decide)]
 rw [if_neg (by decide)]
 rw [if_neg (by decide)]
 rw [if_neg (by decide)]
 rw [if_pos rfl]
 simp only [List.map_cons,List.map_nil,wNum_itoa h_node,wPlain_of,boxOf_text h_bt.1 h_bt.2,wPlain_of,boxName_word h_bm,wFrac_ratS ho.bw1 ho.bw2 h_bw,wFrac_ratS ho.bh1 ho.bh2 h_bh,Option.bind_some]
theorem op_kAsk (o:Op) (ho:o.ok) (h_node:SmallP o.node) (h_name:plainB o.name=true):opS kAsk (([(Lib.itoa o.node,(Lib.itoa o.node,false)),(o.name,(o.name,false))]:List (Bs×Wd)).map (·.2))=some { kind:=10,node:=o.node,name:=o.name }:=by
 unfold opS
 rw [if_neg (by decide)]
 rw [if_neg (by decide)]
 rw [if_neg (by decide)]
 rw [if_neg (by decide)]
 rw [if_neg (by decide)]
 rw [if_neg (by decide)]
 rw [if_neg (by decide)]
 rw [if_neg (by decide)]
 rw [if_neg (by decide)]
 rw [if_neg (by decide)]
 rw [if_neg (by decide)]
 rw [if_pos rfl]
 simp only [List.map_cons,List.map_nil,wNum_itoa h_node,wPlain_of,Option.bind_some]
theorem op_kCustom (o:Op) (ho:o.ok) (h_node:SmallP o.node) (h_name:plainB o.name=true):opS kCustom (([(Lib.itoa o.node,(Lib.itoa o.node,false)),(o.name,(o.name,false))]:List (Bs×Wd)).map (·.2))=some { kind:=11,node:=o.node,name:=o.name }:=by
 unfold opS
 rw [if_neg (by decide)]
 rw [if_neg (by decide)]
 rw [if_neg (by decide)]
 rw [if_neg (by decide)]
 rw [if_neg (by decide)]
 rw [if_neg (by decide)]
 rw [if_neg (by decide)]
 rw [if_neg (by decide)]
 rw [if_neg (by decide)]
 rw [if_neg (by decide)]
 rw [if_neg (by decide)]
 rw [if_neg (by decide)]
 rw [if_pos rfl]
 simp only [List.map_cons,List.map_nil,wNum_itoa h_node,wPlain_of,Option.bind_some]
theorem op_kRules (o:Op) (ho:o.ok) (h_node:SmallP o.node):opS kRules (([(Lib.itoa o.node,(Lib.itoa o.node,false))]:List (Bs×Wd)).map (·.2))=some { kind:=12,node:=o.node }:=by
 unfold opS
 rw [if_neg (by decide)]
 rw [if_neg (by decide)]
 rw [if_neg (by decide)]
 rw [if_neg (by decide)]
 rw [if_neg (by decide)]
 rw [if_neg (by decide)]
 rw [if_neg (by decide)]
 rw [if_neg (by decide)]
 rw [if_neg (by decide)]
 rw [if_neg (by decide)]
 rw [if_neg (by decide)]
 rw [if_neg (by decide)]
 rw [if_neg (by decide)]
 rw [if_pos rfl]
 simp only [List.map_cons,List.map_nil,wNum_itoa h_node,Option.bind_some]
theorem op_kCount (o:Op) (ho:o.ok):opS kCount (([]:List (Bs×Wd)).map (·.2))=some { kind:=15 }:=by
 unfold opS
 rw [if_neg (by decide)]
 rw [if_neg (by decide)]
 rw [if_neg (by decide)]
 rw [if_neg (by decide)]
 rw [if_neg (by decide)]
 rw [if_neg (by decide)]
 rw [if_neg (by decide)]
 rw [if_neg (by decide)]
 rw [if_neg (by decide)]
 rw [if_neg (by decide)]
 rw [if_neg (by decide)]
 rw [if_neg (by decide)]
 rw [if_neg (by decide)]
 rw [if_neg (by decide)]
 rw [if_pos rfl]
 rfl
/-! ### The lines of a text -/
def linesS (b:Bs):List Bs:=if h:b = [] then [] else b.takeWhile (· != 10) :: linesS ((b.dropWhile (· != 10)).drop 1)
termination_by b.length
decreasing_by
 have h1:=(List.dropWhile_sublist (· != 10) (l:=b)).length_le
 have h2:0<b.length:=List.length_pos_iff.2 h
 cases hd:b.dropWhile (· != 10) with
 | nil=>simpa using h2
 | cons c r=>rw [hd] at h1;simp at h1 ⊢; omega
theorem lines_nil:linesS [] = []:=by rw [linesS];rfl
theorem lines_cut {a:Bs} (h:(10:UInt8)∉a) (r:Bs):linesS (a++10 :: r)=a :: linesS r:=by
 have hp:∀c∈a,(c != 10)=true:=fun c hc=>by
  simp only [bne_iff_ne,ne_eq]
  rintro rfl
  exact h hc
 rw [linesS,dif_neg (by simp),List.takeWhile_append_of_pos hp,List.dropWhile_append_of_pos hp]
 simp
theorem lines_last {a:Bs} (h:(10:UInt8)∉a) (h0:a≠[]):linesS a = [a]:=by
 have hp:∀c∈a,(c != 10)=true:=fun c hc=>by
  simp only [bne_iff_ne,ne_eq]
  rintro rfl
  exact h hc
 have h1:a.takeWhile (· != 10)=a:=by
  have:=List.takeWhile_append_of_pos (l₂:=[]) hp
  simpa using this
 have h2:a.dropWhile (· != 10) = []:=by
  have:=List.dropWhile_append_of_pos (l₂:=[]) hp
  simpa using this
 rw [linesS,dif_neg h0,h1,h2]
 simp [lines_nil]
/-! ### The operations of a text -/
noncomputable def parseL:Nat→List Bs→Nat ⊕ List Op
 | _,[]=>.inr []
 | i,s :: l =>
  match lineS s with
  | none=>.inl (i+1)
  | some none=>parseL (i+1) l
  | some (some o) =>
   match parseL (i+1) l with
   | .inl n=>.inl n
   | .inr r=>.inr (o :: r)
theorem line_nl {s:Bs} {x:Option Op} (h:lineS s=some x):(10:UInt8)∉s:=fun hm=>by
 unfold lineS at h
 rw [if_pos hm] at h
 cases h
theorem parseL_some {s:Bs} {o:Op} (h:lineS s=some (some o)) (i:Nat) (l:List Bs) {r:List Op} (hr:parseL (i+1) l=.inr r):parseL i (s :: l)=.inr (o :: r):=by
 unfold parseL
 rw [h]
 simp only [hr]
def sepS:Bs:=[32,32,10,35,32,120,32,34,10,32,32,32,10]
def wideS (n:Nat):Bool→Bool→Bs→Bs
 | _,_,[]=>[]
 | odd,q,c :: r =>
  if c=34∧odd=false then 34 :: wideS n false (!q) r
  else if c=10 then sepS++wideS n false q r
  else if c=32∧q=false then List.replicate n 32++wideS n false q r
  else c :: wideS n (decide (c=92) && !odd) q r
theorem wide_nil (n:Nat) (odd q:Bool):wideS n odd q [] = []:=by rw [wideS]
theorem wide_quote (n:Nat) (q:Bool) (r:Bs):wideS n false q (34 :: r)=34 :: wideS n false (!q) r:=by rw [wideS,if_pos ⟨rfl,rfl⟩]
theorem wide_nl (n:Nat) (odd q:Bool) (r:Bs):wideS n odd q (10 :: r)=sepS++wideS n false q r:=by rw [wideS,if_neg (by decide +revert),if_pos rfl]
theorem wide_sp (n:Nat) (odd:Bool) (r:Bs):wideS n odd false (32 :: r)=List.replicate n 32++wideS n false false r:=by rw [wideS,if_neg (by decide +revert),if_neg (by decide),if_pos ⟨rfl,rfl⟩]
theorem wide_other {n:Nat} {odd q:Bool} {c:UInt8} {r:Bs} (h1:c=34→odd=true) (h2:c≠10) (h3:c=32→q=true):wideS n odd q (c :: r)=c :: wideS n (decide (c=92) && !odd) q r:=by
 rw [wideS,if_neg,if_neg h2,if_neg]
 ·rintro ⟨a,b⟩;rw [h3 a] at b;cases b
 ·rintro ⟨a,b⟩;rw [h1 a] at b;cases b
theorem wide_plain (n:Nat) {w:Bs} (hw:∀c∈w,(c != 32&&c != 34&&c != 10)=true) (r:Bs):∀odd,∃odd',wideS n odd false (w++r)=w++wideS n odd' false r:=by
 induction w with
 | nil=>intro odd;exact ⟨odd,rfl⟩
 | cons c w ih =>
  intro odd
  have hc:=hw c List.mem_cons_self
  simp only [Bool.and_eq_true,bne_iff_ne,ne_eq] at hc
  obtain ⟨o,h⟩:=ih (fun d hd=>hw d (List.mem_cons_of_mem _ hd)) (decide (c=92) && !odd)
  refine ⟨o,?_⟩
  rw [List.cons_append,wide_other (fun e=>absurd e hc.1.2) hc.2 (fun e=>absurd e hc.1.1),h]
  rfl
theorem wide_quoteB (n:Nat) (c:UInt8) (r:Bs):wideS n false true (quoteB c++r)=quoteB c++wideS n false true r:=by
 have hx:∀k,k<16→hexd k≠10∧hexd k≠34∧hexd k≠92:=by decide
 have hb:∀(x:UInt8) (r:Bs),wideS n false true (92 :: x :: r)=92 :: wideS n true true (x :: r):=fun x r=>by
  rw [wide_other (by decide) (by decide) (by decide)]
  rfl
 unfold quoteB
 split
 ·rename_i h
  have hc:c≠10:=by rcases h with rfl | rfl<;>decide
  simp only [List.cons_append,List.nil_append]
  rw [hb,wide_other (fun _=>rfl) hc (fun _=>rfl)]
  simp
 ·rename_i h
  split
  ·simp only [List.cons_append,List.nil_append]
   rw [hb,wide_other (by decide) (by decide) (by decide)]
   rfl
  ·rename_i h10
   split
   ·have:=c.toNat_lt
    obtain ⟨a1,a2,a3⟩:=hx (c.toNat / 16) (by omega)
    obtain ⟨b1,b2,b3⟩:=hx (c.toNat%16) (by omega)
    simp only [List.cons_append,List.nil_append]
    rw [hb,wide_other (by decide) (by decide) (by decide)]
    have e1:(decide ((120:UInt8)=92) && !true)=false:=by decide
    rw [e1,wide_other (fun e=>absurd e a2) a1 (fun _=>rfl)]
    have e2:(decide (hexd (c.toNat / 16)=92) && !false)=false:=by simp [a3]
    rw [e2,wide_other (fun e=>absurd e b2) b1 (fun _=>rfl)]
    have e3:(decide (hexd (c.toNat%16)=92) && !false)=false:=by simp [b3]
    rw [e3]
   ·simp only [List.cons_append,List.nil_append]
    rw [wide_other (fun e=>absurd (Or.inl e) h) h10 (fun _=>rfl)]
    have e1:(decide (c=92) && !false)=false:=by
     have:c≠92:=fun e=>h (Or.inr e)
     simp [this]
    rw [e1]
theorem wide_flat (n:Nat) (t r:Bs):wideS n false true (t.flatMap quoteB++r)=t.flatMap quoteB++wideS n false true r:=by
 induction t with
 | nil=>rfl
 | cons c t ih =>
  rw [List.flatMap_cons,List.append_assoc,wide_quoteB,ih,List.append_assoc]
theorem wide_quoteS (n:Nat) (t r:Bs):wideS n false false (quoteS t++r)=quoteS t++wideS n false false r:=by
 unfold quoteS
 rw [List.cons_append,wide_quote,List.append_assoc]
 have h:=wide_flat n t ([34]++r)
 rw [show (!false)=true from rfl,h]
 have h2:wideS n false true ([34]++r)=34 :: wideS n false false r:=wide_quote n true r
 rw [h2]
 simp
def Stays (p:Bs):Prop:=∀(n:Nat) (r:Bs),∃odd,wideS n false false (p++r)=p++wideS n odd false r
theorem stays_plain {w:Bs} (hw:∀c∈w,(c != 32&&c != 34&&c != 10)=true):Stays w:=fun n r=>wide_plain n hw r false
theorem stays_quote (t:Bs):Stays (quoteS t):=fun n r=>⟨false,wide_quoteS n t r⟩
def rowN (n:Nat) (ps:List (Bs×Wd)):Bs:=ps.flatMap fun p=>List.replicate n 32++p.1
theorem wide_row (n:Nat) (ps:List (Bs×Wd)) (hs:∀p∈ps,Stays p.1) (r:Bs):∀odd,∃odd',wideS n odd false (row ps++10 :: r)=rowN n ps++wideS n odd' false (10 :: r):=by
 induction ps with
 | nil=>intro odd;exact ⟨odd,rfl⟩
 | cons p ps ih =>
  intro odd
  have e:row (p :: ps)++10 :: r=32 :: (p.1++(row ps++10 :: r)):=by simp [row]
  rw [e,wide_sp]
  obtain ⟨o1,h1⟩:=hs p List.mem_cons_self n (row ps++10 :: r)
  obtain ⟨o2,h2⟩:=ih (fun q hq=>hs q (List.mem_cons_of_mem _ hq)) o1
  refine ⟨o2,?_⟩
  rw [h1,h2]
  simp [rowN]
theorem words_spaces (n:Nat) (s:Bs):words (List.replicate n 32++s)=words s:=by
 induction n with
 | zero=>rfl
 | succ n ih=>rw [List.replicate_succ,List.cons_append,words_space,ih]
theorem spaces_head (n:Nat) (hn:1≤n) (s:Bs):(List.replicate n 32++s).head?=some 32:=by
 obtain ⟨k,rfl⟩:∃k,n=k+1:=⟨n-1,by omega⟩
 rw [List.replicate_succ]
 rfl
theorem words_rowN (n:Nat) (hn:1≤n) (ps:List (Bs×Wd)) (h:∀p∈ps,Piece p):words (rowN n ps++[32,32])=some (ps.map (·.2))∧((rowN n ps++[32,32]).head?=none∨(rowN n ps++[32,32]).head?=some 32):=by
 induction ps with
 | nil=>exact ⟨by show words [32,32]=_;rw [words_space,words_space,words_nil];rfl,Or.inr rfl⟩
 | cons p ps ih =>
  obtain ⟨h1,h2⟩:=ih fun q hq=>h q (List.mem_cons_of_mem _ hq)
  have e:rowN n (p :: ps)++[32,32]=List.replicate n 32++(p.1++(rowN n ps++[32,32])):=by simp [rowN]
  rw [e]
  refine ⟨?_,Or.inr (spaces_head n hn _)⟩
  rw [words_spaces,(h p List.mem_cons_self).1 _ h2,h1]
  rfl
theorem rowN_nl (n:Nat) (ps:List (Bs×Wd)) (h:∀p∈ps,Piece p):(10:UInt8)∉rowN n ps:=by
 intro hm
 obtain ⟨p,hp,hx⟩:=List.mem_flatMap.1 hm
 rcases List.mem_append.1 hx with hx | hx
 ·exact absurd (List.eq_of_mem_replicate hx) (by decide)
 ·exact (h p hp).2 hx
theorem lineS_rowN {k:Bs} (hk0:k≠[]) (hk:∀c∈k,(c != 32&&c != 34&&c != 10&&c != 35)=true) (n:Nat) (hn:1≤n) (ps:List (Bs×Wd)) (h:∀p∈ps,Piece p):lineS (k++(rowN n ps++[32,32]))=(opS k (ps.map (·.2))).map some:=by
 have hw:∀c∈k,wordB c=true:=fun c hc=>by
  have:=hk c hc
  simp only [Bool.and_eq_true] at this
  simp [wordB,this.1.1.1,this.1.1.2]
 have hnl:(10:UInt8)∉k++(rowN n ps++[32,32]):=by
  simp only [List.mem_append,not_or]
  exact ⟨fun hm=>absurd (hk 10 hm) (by decide),rowN_nl n ps h,by decide⟩
 have hs:silentB (k++(rowN n ps++[32,32]))=false:=by
  obtain ⟨c,r,rfl⟩:=List.exists_cons_of_ne_nil hk0
  have hc:=hk c List.mem_cons_self
  simp only [Bool.and_eq_true,bne_iff_ne,ne_eq] at hc
  unfold silentB
  rw [List.cons_append,List.dropWhile_cons,if_neg (by simpa using hc.1.1.1)]
  simp [hc.2]
 obtain ⟨h1,h2⟩:=words_rowN n hn ps h
 unfold lineS
 rw [if_neg hnl,hs,words_plain hk0 hw h2,h1]
 rfl
theorem stays_itoa (n:Int):Stays (Lib.itoa n):=stays_plain fun c hc=>numB_word (itoa_numB n c hc)
theorem stays_ratS (n d:Int):Stays (ratS n d):=by
 refine stays_plain ?_
 unfold ratS
 intro c hc
 split at hc
 ·rcases List.mem_append.1 hc with hc | hc
  ·exact numB_word (itoa_numB n c hc)
  ·split at hc
   ·rcases List.mem_cons.1 hc with rfl | hc
    ·decide
    ·exact numB_word (itoa_numB d c hc)
   ·cases hc
 ·revert c;decide
theorem stays_plainB {w:Bs} (h:plainB w=true):Stays w:=by
 unfold plainB at h
 simp only [Bool.and_eq_true,Bool.not_eq_true',List.isEmpty_eq_false_iff,List.all_eq_true] at h
 refine stays_plain fun c hc => ?_
 have:=h.2 c hc
 simp only [Bool.and_eq_true]
 exact ⟨⟨this.1.1,this.2⟩,this.1.2⟩
theorem stays_boxText (b:Int):Stays (boxText b):=by
 rcases boxText_of b with h | h | h<;>rw [h]<;>exact stays_plain (by decide)
theorem stays_boxWord {s:Bs} (h:s = []∨plainB s=true):Stays (boxWord s):=by
 unfold boxWord
 split
 ·exact stays_plain (by decide)
 ·rename_i h0
  exact stays_plainB (h.resolve_left h0)
theorem stays_on (b:Bool):Stays (if b then kOn else kOff):=by
 cases b<;>exact stays_plain (by decide)
theorem stay_nil:∀p∈([]:List (Bs×Wd)),Stays p.1:=fun _ h=>by cases h
theorem stay_cons {p:Bs×Wd} {l:List (Bs×Wd)} (h:Stays p.1) (hl:∀q∈l,Stays q.1):∀q∈p :: l,Stays q.1:=fun q hq=>by
 rcases List.mem_cons.1 hq with rfl | hq
 ·exact h
 ·exact hl q hq
def Form (s:Bs) (b:Op):Prop:=∃(k:Bs) (ps:List (Bs×Wd)),(k≠[]∧∀c∈k,(c != 32&&c != 34&&c != 10&&c != 35)=true)∧s=k++row ps∧(∀p∈ps,Piece p)∧(∀p∈ps,Stays p.1)∧ps.length≤5∧opS k (ps.map (·.2))=some b
theorem form_kSheet {o:Op} (ho:o.ok) (hk:o.kind=1) {s:Bs} (h:oneS o=some s):Form s (bareS o):=by
 have hb:bareS o={ kind:=1,origin:=o.origin,text:=o.text }:=by
  unfold bareS
  simp [hk]
 rw [hb]
 unfold oneS at h
 rw [if_pos hk] at h
 split at h
 ·rename_i hc
  have h_origin:=hc
  cases h
  exact ⟨kSheet,[(Lib.itoa o.origin,(Lib.itoa o.origin,false)),(quoteS o.text,(o.text,true))],kw_ok _ (by decide),by simp [row],(pieces_cons (piece_itoa _) (pieces_cons (piece_quote _) pieces_nil)),(stay_cons (stays_itoa _) (stay_cons (stays_quote _) stay_nil)),by simp,op_kSheet o ho h_origin⟩
 ·cases h
theorem form_kView {o:Op} (ho:o.ok) (hk:o.kind=2) {s:Bs} (h:oneS o=some s):Form s (bareS o):=by
 have hb:bareS o={ kind:=2,w:=o.w,h:=o.h }:=by
  unfold bareS
  simp [hk]
 rw [hb]
 unfold oneS at h
 rw [if_neg (by omega:¬o.kind=1)] at h
 rw [if_pos hk] at h
 split at h
 ·rename_i hc
  obtain ⟨h_w,h_h⟩:=hc
  cases h
  exact ⟨kView,[(ratS o.w.1 o.w.2,(ratS o.w.1 o.w.2,false)),(ratS o.h.1 o.h.2,(ratS o.h.1 o.h.2,false))],kw_ok _ (by decide),by simp [row],(pieces_cons (piece_ratS _ _) (pieces_cons (piece_ratS _ _) pieces_nil)),(stay_cons (stays_ratS _ _) (stay_cons (stays_ratS _ _) stay_nil)),by simp,op_kView o ho h_w h_h⟩
 ·cases h
theorem form_kFont {o:Op} (ho:o.ok) (hk:o.kind=3) {s:Bs} (h:oneS o=some s):Form s (bareS o):=by
 have hb:bareS o={ kind:=3,w:=o.w }:=by
  unfold bareS
  simp [hk]
 rw [hb]
 unfold oneS at h
 rw [if_neg (by omega:¬o.kind=1)] at h
 rw [if_neg (by omega:¬o.kind=2)] at h
 rw [if_pos hk] at h
 split at h
 ·rename_i hc
  have h_w:=hc
  cases h
  exact ⟨kFont,[(ratS o.w.1 o.w.2,(ratS o.w.1 o.w.2,false))],kw_ok _ (by decide),by simp [row],(pieces_cons (piece_ratS _ _) pieces_nil),(stay_cons (stays_ratS _ _) stay_nil),by simp,op_kFont o ho h_w⟩
 ·cases h
theorem form_kColor {o:Op} (ho:o.ok) (hk:o.kind=13) {s:Bs} (h:oneS o=some s):Form s (bareS o):=by
 have hb:bareS o={ kind:=13,w:=o.w }:=by
  unfold bareS
  simp [hk]
 rw [hb]
 unfold oneS at h
 rw [if_neg (by omega:¬o.kind=1)] at h
 rw [if_neg (by omega:¬o.kind=2)] at h
 rw [if_neg (by omega:¬o.kind=3)] at h
 rw [if_pos hk] at h
 split at h
 ·rename_i hc
  have h_w:=hc
  cases h
  exact ⟨kColor,[(ratS o.w.1 o.w.2,(ratS o.w.1 o.w.2,false))],kw_ok _ (by decide),by simp [row],(pieces_cons (piece_ratS _ _) pieces_nil),(stay_cons (stays_ratS _ _) stay_nil),by simp,op_kColor o ho h_w⟩
 ·cases h
theorem form_kPrint {o:Op} (ho:o.ok) (hk:o.kind=14) {s:Bs} (h:oneS o=some s):Form s (bareS o):=by
 have hb:bareS o={ kind:=14,on:=o.on }:=by
  unfold bareS
  simp [hk]
 rw [hb]
 unfold oneS at h
 rw [if_neg (by omega:¬o.kind=1)] at h
 rw [if_neg (by omega:¬o.kind=2)] at h
 rw [if_neg (by omega:¬o.kind=3)] at h
 rw [if_neg (by omega:¬o.kind=13)] at h
 rw [if_pos hk] at h
 cases h
 exact ⟨kPrint,[((if o.on then kOn else kOff),((if o.on then kOn else kOff),false))],kw_ok _ (by decide),by simp [row],(pieces_cons (piece_on _) pieces_nil),(stay_cons (stays_on _) stay_nil),by simp,op_kPrint o ho⟩
theorem form_kWord {o:Op} (ho:o.ok) (hk:o.kind=4) {s:Bs} (h:oneS o=some s):Form s (bareS o):=by
 have hb:bareS o={ kind:=4,name:=o.name,word:=o.word }:=by
  unfold bareS
  simp [hk]
 rw [hb]
 unfold oneS at h
 rw [if_neg (by omega:¬o.kind=1)] at h
 rw [if_neg (by omega:¬o.kind=2)] at h
 rw [if_neg (by omega:¬o.kind=3)] at h
 rw [if_neg (by omega:¬o.kind=13)] at h
 rw [if_neg (by omega:¬o.kind=14)] at h
 rw [if_pos hk] at h
 split at h
 ·rename_i hc
  obtain ⟨h_name,h_word⟩:=hc
  cases h
  exact ⟨kWord,[(o.name,(o.name,false)),(o.word,(o.word,false))],kw_ok _ (by decide),by simp [row],(pieces_cons (piece_plain h_name) (pieces_cons (piece_plain h_word) pieces_nil)),(stay_cons (stays_plainB h_name) (stay_cons (stays_plainB h_word) stay_nil)),by simp,op_kWord o ho h_name h_word⟩
 ·cases h
theorem form_kInsert {o:Op} (ho:o.ok) (hk:o.kind=5) {s:Bs} (h:oneS o=some s):Form s (bareS o):=by
 have hb:bareS o={ kind:=5,node:=o.node,at_:=o.at_,name:=o.name }:=by
  unfold bareS
  simp [hk]
 rw [hb]
 unfold oneS at h
 rw [if_neg (by omega:¬o.kind=1)] at h
 rw [if_neg (by omega:¬o.kind=2)] at h
 rw [if_neg (by omega:¬o.kind=3)] at h
 rw [if_neg (by omega:¬o.kind=13)] at h
 rw [if_neg (by omega:¬o.kind=14)] at h
 rw [if_neg (by omega:¬o.kind=4)] at h
 rw [if_pos hk] at h
 split at h
 ·rename_i hc
  obtain ⟨h_node,h_at_,h_name⟩:=hc
  cases h
  exact ⟨kInsert,[(Lib.itoa o.node,(Lib.itoa o.node,false)),(Lib.itoa o.at_,(Lib.itoa o.at_,false)),(o.name,(o.name,false))],kw_ok _ (by decide),by simp [row],(pieces_cons (piece_itoa _) (pieces_cons (piece_itoa _) (pieces_cons (piece_plain h_name) pieces_nil))),(stay_cons (stays_itoa _) (stay_cons (stays_itoa _) (stay_cons (stays_plainB h_name) stay_nil))),by simp,op_kInsert o ho h_node h_at_ h_name⟩
 ·cases h
theorem form_kRemove {o:Op} (ho:o.ok) (hk:o.kind=6) {s:Bs} (h:oneS o=some s):Form s (bareS o):=by
 have hb:bareS o={ kind:=6,node:=o.node }:=by
  unfold bareS
  simp [hk]
 rw [hb]
 unfold oneS at h
 rw [if_neg (by omega:¬o.kind=1)] at h
 rw [if_neg (by omega:¬o.kind=2)] at h
 rw [if_neg (by omega:¬o.kind=3)] at h
 rw [if_neg (by omega:¬o.kind=13)] at h
 rw [if_neg (by omega:¬o.kind=14)] at h
 rw [if_neg (by omega:¬o.kind=4)] at h
 rw [if_neg (by omega:¬o.kind=5)] at h
 rw [if_pos hk] at h
 split at h
 ·rename_i hc
  have h_node:=hc
  cases h
  exact ⟨kRemove,[(Lib.itoa o.node,(Lib.itoa o.node,false))],kw_ok _ (by decide),by simp [row],(pieces_cons (piece_itoa _) pieces_nil),(stay_cons (stays_itoa _) stay_nil),by simp,op_kRemove o ho h_node⟩
 ·cases h
theorem form_kSet {o:Op} (ho:o.ok) (hk:o.kind=7) {s:Bs} (h:oneS o=some s):Form s (bareS o):=by
 have hb:bareS o={ kind:=7,node:=o.node,name:=o.name,word:=o.word }:=by
  unfold bareS
  simp [hk]
 rw [hb]
 unfold oneS at h
 rw [if_neg (by omega:¬o.kind=1)] at h
 rw [if_neg (by omega:¬o.kind=2)] at h
 rw [if_neg (by omega:¬o.kind=3)] at h
 rw [if_neg (by omega:¬o.kind=13)] at h
 rw [if_neg (by omega:¬o.kind=14)] at h
 rw [if_neg (by omega:¬o.kind=4)] at h
 rw [if_neg (by omega:¬o.kind=5)] at h
 rw [if_neg (by omega:¬o.kind=6)] at h
 rw [if_pos hk] at h
 split at h
 ·rename_i hc
  obtain ⟨h_node,h_name⟩:=hc
  cases h
  exact ⟨kSet,[(Lib.itoa o.node,(Lib.itoa o.node,false)),(o.name,(o.name,false)),(quoteS o.word,(o.word,true))],kw_ok _ (by decide),by simp [row],(pieces_cons (piece_itoa _) (pieces_cons (piece_plain h_name) (pieces_cons (piece_quote _) pieces_nil))),(stay_cons (stays_itoa _) (stay_cons (stays_plainB h_name) (stay_cons (stays_quote _) stay_nil))),by simp,op_kSet o ho h_node h_name⟩
 ·cases h
theorem form_kUnset {o:Op} (ho:o.ok) (hk:o.kind=8) {s:Bs} (h:oneS o=some s):Form s (bareS o):=by
 have hb:bareS o={ kind:=8,node:=o.node,name:=o.name }:=by
  unfold bareS
  simp [hk]
 rw [hb]
 unfold oneS at h
 rw [if_neg (by omega:¬o.kind=1)] at h
 rw [if_neg (by omega:¬o.kind=2)] at h
 rw [if_neg (by omega:¬o.kind=3)] at h
 rw [if_neg (by omega:¬o.kind=13)] at h
 rw [if_neg (by omega:¬o.kind=14)] at h
 rw [if_neg (by omega:¬o.kind=4)] at h
 rw [if_neg (by omega:¬o.kind=5)] at h
 rw [if_neg (by omega:¬o.kind=6)] at h
 rw [if_neg (by omega:¬o.kind=7)] at h
 rw [if_pos hk] at h
 split at h
 ·rename_i hc
  obtain ⟨h_node,h_name⟩:=hc
  cases h
  exact ⟨kUnset,[(Lib.itoa o.node,(Lib.itoa o.node,false)),(o.name,(o.name,false))],kw_ok _ (by decide),by simp [row],(pieces_cons (piece_itoa _) (pieces_cons (piece_plain h_name) pieces_nil)),(stay_cons (stays_itoa _) (stay_cons (stays_plainB h_name) stay_nil)),by simp,op_kUnset o ho h_node h_name⟩
 ·cases h
theorem form_kBox {o:Op} (ho:o.ok) (hk:o.kind=9) {s:Bs} (h:oneS o=some s):Form s (bareS o):=by
 have hb:bareS o={ kind:=9,node:=o.node,bt:=o.bt,bn:=o.bn,bw:=o.bw,bh:=o.bh }:=by
  unfold bareS
  simp [hk]
 rw [hb]
 unfold oneS at h
 rw [if_neg (by omega:¬o.kind=1)] at h
 rw [if_neg (by omega:¬o.kind=2)] at h
 rw [if_neg (by omega:¬o.kind=3)] at h
 rw [if_neg (by omega:¬o.kind=13)] at h
 rw [if_neg (by omega:¬o.kind=14)] at h
 rw [if_neg (by omega:¬o.kind=4)] at h
 rw [if_neg (by omega:¬o.kind=5)] at h
 rw [if_neg (by omega:¬o.kind=6)] at h
 rw [if_neg (by omega:¬o.kind=7)] at h
 rw [if_neg (by omega:¬o.kind=8)] at h
 rw [if_pos hk] at h
 split at h
 ·rename_i hc
  obtain ⟨h_node,h_bt,h_bm,h_bn,h_bw,h_bh⟩:=hc
  cases h
  exact ⟨kBox,[(Lib.itoa o.node,(Lib.itoa o.node,false)),(boxText o.bt,(boxText o.bt,false)),(boxWord o.bn,(boxWord o.bn,false)),(ratS o.bw.1 o.bw.2,(ratS o.bw.1 o.bw.2,false)),(ratS o.bh.1 o.bh.2,(ratS o.bh.1 o.bh.2,false))],kw_ok _ (by decide),by simp [row],(pieces_cons (piece_itoa _) (pieces_cons (piece_boxText _) (pieces_cons (piece_boxWord h_bn) (pieces_cons (piece_ratS _ _) (pieces_cons (piece_ratS _ _) pieces_nil))))),(stay_cons (stays_itoa _) (stay_cons (stays_boxText _) (stay_cons (stays_boxWord h_bn) (stay_cons (stays_ratS _ _) (stay_cons (stays_ratS _ _) stay_nil))))),by simp,op_kBox o ho h_node h_bt h_bm h_bn h_bw h_bh⟩
 ·cases h
theorem form_kAsk {o:Op} (ho:o.ok) (hk:o.kind=10) {s:Bs} (h:oneS o=some s):Form s (bareS o):=by
 have hb:bareS o={ kind:=10,node:=o.node,name:=o.name }:=by
  unfold bareS
  simp [hk]
 rw [hb]
 unfold oneS at h
 rw [if_neg (by omega:¬o.kind=1)] at h
 rw [if_neg (by omega:¬o.kind=2)] at h
 rw [if_neg (by omega:¬o.kind=3)] at h
 rw [if_neg (by omega:¬o.kind=13)] at h
 rw [if_neg (by omega:¬o.kind=14)] at h
 rw [if_neg (by omega:¬o.kind=4)] at h
 rw [if_neg (by omega:¬o.kind=5)] at h
 rw [if_neg (by omega:¬o.kind=6)] at h
 rw [if_neg (by omega:¬o.kind=7)] at h
 rw [if_neg (by omega:¬o.kind=8)] at h
 rw [if_neg (by omega:¬o.kind=9)] at h
 rw [if_pos hk] at h
 split at h
 ·rename_i hc
  obtain ⟨h_node,h_name⟩:=hc
  cases h
  exact ⟨kAsk,[(Lib.itoa o.node,(Lib.itoa o.node,false)),(o.name,(o.name,false))],kw_ok _ (by decide),by simp [row],(pieces_cons (piece_itoa _) (pieces_cons (piece_plain h_name) pieces_nil)),(stay_cons (stays_itoa _) (stay_cons (stays_plainB h_name) stay_nil)),by simp,op_kAsk o ho h_node h_name⟩
 ·cases h
theorem form_kCustom {o:Op} (ho:o.ok) (hk:o.kind=11) {s:Bs} (h:oneS o=some s):Form s (bareS o):=by
 have hb:bareS o={ kind:=11,node:=o.node,name:=o.name }:=by
  unfold bareS
  simp [hk]
 rw [hb]
 unfold oneS at h
 rw [if_neg (by omega:¬o.kind=1)] at h
 rw [if_neg (by omega:¬o.kind=2)] at h
 rw [if_neg (by omega:¬o.kind=3)] at h
 rw [if_neg (by omega:¬o.kind=13)] at h
 rw [if_neg (by omega:¬o.kind=14)] at h
 rw [if_neg (by omega:¬o.kind=4)] at h
 rw [if_neg (by omega:¬o.kind=5)] at h
 rw [if_neg (by omega:¬o.kind=6)] at h
 rw [if_neg (by omega:¬o.kind=7)] at h
 rw [if_neg (by omega:¬o.kind=8)] at h
 rw [if_neg (by omega:¬o.kind=9)] at h
 rw [if_neg (by omega:¬o.kind=10)] at h
 rw [if_pos hk] at h
 split at h
 ·rename_i hc
  obtain ⟨h_node,h_name⟩:=hc
  cases h
  exact ⟨kCustom,[(Lib.itoa o.node,(Lib.itoa o.node,false)),(o.name,(o.name,false))],kw_ok _ (by decide),by simp [row],(pieces_cons (piece_itoa _) (pieces_cons (piece_plain h_name) pieces_nil)),(stay_cons (stays_itoa _) (stay_cons (stays_plainB h_name) stay_nil)),by simp,op_kCustom o ho h_node h_name⟩
 ·cases h
theorem form_kRules {o:Op} (ho:o.ok) (hk:o.kind=12) {s:Bs} (h:oneS o=some s):Form s (bareS o):=by
 have hb:bareS o={ kind:=12,node:=o.node }:=by
  unfold bareS
  simp [hk]
 rw [hb]
 unfold oneS at h
 rw [if_neg (by omega:¬o.kind=1)] at h
 rw [if_neg (by omega:¬o.kind=2)] at h
 rw [if_neg (by omega:¬o.kind=3)] at h
 rw [if_neg (by omega:¬o.kind=13)] at h
 rw [if_neg (by omega:¬o.kind=14)] at h
 rw [if_neg (by omega:¬o.kind=4)] at h
 rw [if_neg (by omega:¬o.kind=5)] at h
 rw [if_neg (by omega:¬o.kind=6)] at h
 rw [if_neg (by omega:¬o.kind=7)] at h
 rw [if_neg (by omega:¬o.kind=8)] at h
 rw [if_neg (by omega:¬o.kind=9)] at h
 rw [if_neg (by omega:¬o.kind=10)] at h
 rw [if_neg (by omega:¬o.kind=11)] at h
 rw [if_pos hk] at h
 split at h
 ·rename_i hc
  have h_node:=hc
  cases h
  exact ⟨kRules,[(Lib.itoa o.node,(Lib.itoa o.node,false))],kw_ok _ (by decide),by simp [row],(pieces_cons (piece_itoa _) pieces_nil),(stay_cons (stays_itoa _) stay_nil),by simp,op_kRules o ho h_node⟩
 ·cases h
theorem form_kCount {o:Op} (ho:o.ok) (hk:o.kind=15) {s:Bs} (h:oneS o=some s):Form s (bareS o):=by
 have hb:bareS o={ kind:=15 }:=by
  unfold bareS
  simp [hk]
 rw [hb]
 unfold oneS at h
 rw [if_neg (by omega:¬o.kind=1)] at h
 rw [if_neg (by omega:¬o.kind=2)] at h
 rw [if_neg (by omega:¬o.kind=3)] at h
 rw [if_neg (by omega:¬o.kind=13)] at h
 rw [if_neg (by omega:¬o.kind=14)] at h
 rw [if_neg (by omega:¬o.kind=4)] at h
 rw [if_neg (by omega:¬o.kind=5)] at h
 rw [if_neg (by omega:¬o.kind=6)] at h
 rw [if_neg (by omega:¬o.kind=7)] at h
 rw [if_neg (by omega:¬o.kind=8)] at h
 rw [if_neg (by omega:¬o.kind=9)] at h
 rw [if_neg (by omega:¬o.kind=10)] at h
 rw [if_neg (by omega:¬o.kind=11)] at h
 rw [if_neg (by omega:¬o.kind=12)] at h
 rw [if_pos hk] at h
 cases h
 exact ⟨kCount,[],kw_ok _ (by decide),by simp [row],pieces_nil,stay_nil,by simp,op_kCount o ho⟩
theorem form_one {o:Op} (ho:o.ok) {s:Bs} (h:oneS o=some s):Form s (bareS o):=by
 by_cases k1:o.kind=1
 ·exact form_kSheet ho k1 h
 by_cases k2:o.kind=2
 ·exact form_kView ho k2 h
 by_cases k3:o.kind=3
 ·exact form_kFont ho k3 h
 by_cases k13:o.kind=13
 ·exact form_kColor ho k13 h
 by_cases k14:o.kind=14
 ·exact form_kPrint ho k14 h
 by_cases k4:o.kind=4
 ·exact form_kWord ho k4 h
 by_cases k5:o.kind=5
 ·exact form_kInsert ho k5 h
 by_cases k6:o.kind=6
 ·exact form_kRemove ho k6 h
 by_cases k7:o.kind=7
 ·exact form_kSet ho k7 h
 by_cases k8:o.kind=8
 ·exact form_kUnset ho k8 h
 by_cases k9:o.kind=9
 ·exact form_kBox ho k9 h
 by_cases k10:o.kind=10
 ·exact form_kAsk ho k10 h
 by_cases k11:o.kind=11
 ·exact form_kCustom ho k11 h
 by_cases k12:o.kind=12
 ·exact form_kRules ho k12 h
 by_cases k15:o.kind=15
 ·exact form_kCount ho k15 h
 unfold oneS at h
 rw [if_neg k1] at h
 rw [if_neg k2] at h
 rw [if_neg k3] at h
 rw [if_neg k13] at h
 rw [if_neg k14] at h
 rw [if_neg k4] at h
 rw [if_neg k5] at h
 rw [if_neg k6] at h
 rw [if_neg k7] at h
 rw [if_neg k8] at h
 rw [if_neg k9] at h
 rw [if_neg k10] at h
 rw [if_neg k11] at h
 rw [if_neg k12] at h
 rw [if_neg k15] at h
 cases h
theorem parseL_silent {s:Bs} (h:lineS s=some none) (i:Nat) (l:List Bs):parseL i (s :: l)=parseL (i+1) l:=by
 rw [parseL.eq_def]
 simp only [h]
theorem silent_a:lineS [35,32,120,32,34]=some none:=by
 unfold lineS
 rw [if_neg (by decide),if_pos (by decide)]
theorem silent_b:lineS [32,32,32]=some none:=by
 unfold lineS
 rw [if_neg (by decide),if_pos (by decide)]
theorem rowN_length (n:Nat) (hn:1≤n) (ps:List (Bs×Wd)):(rowN n ps).length=(row ps).length+ps.length*(n-1):=by
 induction ps with
 | nil=>simp [rowN,row]
 | cons p ps ih =>
  have e1:rowN n (p :: ps)=List.replicate n 32++p.1++rowN n ps:=by simp [rowN]
  have e2:row (p :: ps)=32 :: p.1++row ps:=by simp [row]
  rw [e1,e2]
  simp only [List.length_append,List.length_replicate,List.length_cons,ih,Nat.succ_mul]
  omega
theorem text_wide (n:Nat) (hn:1≤n) (l:List Op):(∀o∈l,o.ok)→∀s,textS l=some s→(linesS (wideS n false false s)).length=3*l.length∧(∀i,parseL i (linesS (wideS n false false s))=.inr (l.map bareS))∧(wideS n false false s).length≤s.length+l.length*(12+5*(n-1)):=by
 induction l with
 | nil =>
  intro _ s h
  cases h
  exact ⟨by rw [wide_nil,lines_nil];rfl,fun i=>by rw [wide_nil,lines_nil];rfl,by rw [wide_nil];simp⟩
 | cons o l ih =>
  intro ho s h
  unfold textS at h
  obtain ⟨a,ha,h⟩:=Option.bind_eq_some_iff.1 h
  obtain ⟨t,ht,rfl⟩:=Option.map_eq_some_iff.1 h
  obtain ⟨k,ps,⟨hk0,hk⟩,rfl,hp,hs,h5,hop⟩:=form_one (ho o List.mem_cons_self) ha
  obtain ⟨h3,h4,h6⟩:=ih (fun p hp=>ho p (List.mem_cons_of_mem _ hp)) t ht
  have hk':∀c∈k,(c != 32&&c != 34&&c != 10)=true:=fun c hc=>by
   have:=hk c hc
   simp only [Bool.and_eq_true] at this ⊢
   exact this.1
  obtain ⟨o1,e1⟩:=wide_plain n hk' (row ps++10 :: t) false
  obtain ⟨o2,e2⟩:=wide_row n ps hs t o1
  have e:wideS n false false (k++row ps++10 :: t)=(k++(rowN n ps++[32,32]))++10 :: ([35,32,120,32,34]++10 :: ([32,32,32]++10 :: wideS n false false t)):=by
   rw [List.append_assoc,e1,e2,wide_nl]
   simp [sepS]
  have hline:=lineS_rowN hk0 hk n hn ps hp
  rw [hop] at hline
  have hl:linesS (wideS n false false (k++row ps++10 :: t))=(k++(rowN n ps++[32,32])) :: [35,32,120,32,34] :: [32,32,32] :: linesS (wideS n false false t):=by
   rw [e,lines_cut (line_nl hline),lines_cut (by decide),lines_cut (by decide)]
  refine ⟨by rw [hl];simp only [List.length_cons,h3];omega,fun i => ?_,?_⟩
  ·rw [hl,List.map_cons]
   refine parseL_some hline i _ ?_
   rw [parseL_silent silent_a,parseL_silent silent_b]
   exact h4 _
  ·rw [e]
   have e3:=rowN_length n hn ps
   have e4:ps.length*(n-1)≤5*(n-1):=Nat.mul_le_mul_right _ h5
   have e5:(l.length+1)*(12+5*(n-1))=l.length*(12+5*(n-1))+(12+5*(n-1)):=Nat.succ_mul _ _
   simp only [List.length_append,List.length_cons,List.length_nil,e3]
   rw [e5]
   generalize l.length*(12+5*(n-1))=M at *
   omega
end Go.Proofs.YtihlneenajlhoaaGreatDoor.sp
set_option linter.unusedSimpArgs false
set_option linter.unusedVariables false
namespace Go.Proofs.YtihlneenajlhoaaGreatDoor
open Go Go.RowKit
def bar:List PanicEntry:=[{ v:=.iface 54 (.agg #[]),recovered:=false }]
set_option maxRecDepth 100000 in
theorem must_yes (w:World):Calls Tryz.prog 23 #[.bool true] w fun e w'=>e=.returned (.tuple #[])∧w'=w:=by
 go_enter Tryz.func23,Tryz.ntmps23
 go_wp2
 go_end0
 exact ⟨rfl,rfl⟩
set_option maxRecDepth 100000 in
theorem must_no (w:World):Calls Tryz.prog 23 #[.bool false] w fun e w'=>e=.panicked bar∧w'=w:=by
 go_enter Tryz.func23,Tryz.ntmps23
 go_wp2
 exact ⟨rfl,rfl,rfl⟩
def LineR (w:World) (b:Nat) (s:ByteArray) (u:List UInt8):Prop :=
 ∃pre:List UInt8,s.data.toList=pre++u∧w.heap[b]?=some (.cells #[.string s,.int .i64 pre.length] 61 (0,0))
theorem LineR.lt {w:World} {b:Nat} {s:ByteArray} {u:List UInt8} (h:LineR w b s u):b<w.heap.size:=by
 obtain ⟨_,_,h⟩:=h
 exact lt_of_block h
theorem LineR.below {w w':World} {b:Nat} {s:ByteArray} {u:List UInt8} (h:LineR w b s u) (hb:Below w.heap.size w w'):LineR w' b s u:=by
 obtain ⟨p,h1,h2⟩:=h
 exact ⟨p,h1,(hb.block b (lt_of_block h2)).trans h2⟩
def peekV:List UInt8→Value
 | []=>.tuple #[.int .u8 0,.bool false]
 | c :: _=>.tuple #[.int .u8 c.toNat,.bool true]
theorem line_size {s:ByteArray} {p u:List UInt8} (h:s.data.toList=p++u):s.size=p.length+u.length:=by
 have:=congrArg List.length h
 rw [Array.length_toList,List.length_append] at this
 exact this
theorem line_at {s:ByteArray} {p u:List UInt8} {c:UInt8} (h:s.data.toList=p++c :: u):∀hl:p.length<s.size,s[p.length]'hl=c:=fun hl=>by
 have h1:s.data[p.length]?=some c:=by
  rw [←Array.getElem?_toList,h]
  simp
 have h2:s.data[p.length]?=some (s[p.length]'hl):=Array.getElem?_eq_getElem hl
 exact Option.some.inj (h2.symm.trans h1)
set_option maxRecDepth 100000 in
set_option maxHeartbeats 1000000 in
theorem peek_any (w:World) (b:Nat) (s:ByteArray) (u:List UInt8) (h:LineR w b s u):Calls Tryz.prog 46 #[.pointer (some ⟨b,0,none⟩)] w fun e w'=>e=.returned (peekV u)∧Below w.heap.size w w':=by
 obtain ⟨p,h1,h2⟩:=h
 have hsz:=line_size h1
 have c0:w.cell? ⟨b,0,none⟩=some (.string s):=by rw [Lib.cell_of_heap h2];rfl
 have c1:w.cell? ⟨b,1,none⟩=some (.int .i64 p.length):=by rw [Lib.cell_of_heap h2];rfl
 cases u with
 | nil =>
  have hge:((p.length:Int)≥(s.size:Int)):=by simp at hsz;omega
  clear h1 h2
  go_enter Tryz.func46,Tryz.ntmps46
  go_wp2
  go_quiet (fail)
  go_wp2
  go_ret2
  exact ⟨rfl,below_drewN (Below.refl _ _) _⟩
 | cons c r =>
  have hlt:¬((p.length:Int)≥(s.size:Int)):=by simp at hsz;omega
  have hc:=line_at h1
  clear h1 h2
  go_enter Tryz.func46,Tryz.ntmps46
  go_wp2
  go_quiet (fail)
  go_wp2
  go_quiet (fail)
  go_wp2
  go_ret2
  exact ⟨rfl,below_drewN (below_drewN (Below.refl _ _) _) _⟩
set_option maxRecDepth 100000 in
set_option maxHeartbeats 1000000 in
theorem take_none (w:World) (b:Nat) (s:ByteArray) (h:LineR w b s []):Calls Tryz.prog 90 #[.pointer (some ⟨b,0,none⟩)] w fun e w'=>e=.panicked bar∧Fr w w' b none:=by
 have HP:=Lib.hid (peek_any w b s [] h)
 clear h
 go_enter Tryz.func90,Tryz.ntmps90
 go_wp2_with (go_at_call 46;refine HP.out.mono ?_;rintro e w1 ⟨rfl,hb1⟩;simp only [peekV])
 exact ⟨rfl,rfl,Fr.of_below hb1⟩
set_option maxRecDepth 100000 in
set_option maxHeartbeats 1000000 in
theorem take_some (w:World) (b:Nat) (s:ByteArray) (c:UInt8) (r:List UInt8) (h:LineR w b s (c :: r)) (hs:s.size≤1099511627776):Calls Tryz.prog 90 #[.pointer (some ⟨b,0,none⟩)] w fun e w'=>e=.returned (.int .u8 c.toNat)∧LineR w' b s r∧Fr w w' b none:=by
 have HP:=Lib.hid (peek_any w b s _ h)
 obtain ⟨p,h1,h2⟩:=h
 have hsz:=line_size h1
 have hlt:=lt_of_block h2
 have HE:Hid (s.data.toList=(p++[c])++r):=Lib.hid (by rw [h1];simp)
 have hp:(p.length:Int)≤1099511627776:=by simp at hsz;omega
 have H2:=Lib.hid h2
 clear h1 h2 hsz
 go_enter Tryz.func90,Tryz.ntmps90
 go_wp2_with (go_at_call 46;refine HP.out.mono ?_;rintro e w1 ⟨rfl,hb1⟩;have HB1:=Lib.hid hb1;have h3:=Lib.hid ((hb1.block b hlt).trans H2.out);have c1:w1.cell? ⟨b,1,none⟩=some (.int .i64 p.length):=(by rw [Lib.cell_of_heap h3.out];rfl);have z1:w1.frozen? ⟨b,1,none⟩=false:=blk_free h3.out 1;clear hb1;simp only [peekV])
 go_ret
 refine ⟨rfl,⟨p++[c],HE.out,?_⟩,(Fr.of_below HB1.out).trans (Fr.set 1 _) (Own.refl _ _)⟩
 have:=blk_set h3.out 1 (.int .i64 ((p.length:Int)+1))
 simpa using this
theorem hexv_dig {c:UInt8} (h:48≤c.toNat∧c.toNat≤57):sp.hexv c=some (c.toNat-48):=by unfold sp.hexv;rw [if_pos h]
theorem hexv_let {c:UInt8} (h0:¬(48≤c.toNat∧c.toNat≤57)) (h:97≤c.toNat∧c.toNat≤102):sp.hexv c=some (c.toNat-87):=by unfold sp.hexv;rw [if_neg h0,if_pos h]
theorem hexv_non {c:UInt8} (h0:¬(48≤c.toNat∧c.toNat≤57)) (h:¬(97≤c.toNat∧c.toNat≤102)):sp.hexv c=none:=by unfold sp.hexv;rw [if_neg h0,if_neg h]
def HexIs (c:UInt8) (e:Ending):Prop:=match sp.hexv c with
 | some k=>e=.returned (.int .u8 k)
 | none=>e=.panicked bar
set_option maxRecDepth 100000 in
set_option maxHeartbeats 1000000 in
theorem hex_any (c:UInt8) (w:World):Calls Tryz.prog 122 #[.int .u8 c.toNat] w fun e w'=>HexIs c e∧w'=w:=by
 have hc:=c.toNat_lt
 by_cases h1:48≤c.toNat∧c.toNat≤57
 ·have t1:decide ((c.toNat:Int)≥48)=true:=by simp;omega
  have t2:decide ((c.toNat:Int)≤57)=true:=by simp;omega
  have HX:=Lib.hid (hexv_dig h1)
  have hv:((c.toNat:Int)-48)=((c.toNat-48:Nat):Int):=by omega
  have H1:=Lib.hid h1
  clear h1
  go_enter Tryz.func122,Tryz.ntmps122
  go_wp2
  go_ret
  exact ⟨by unfold HexIs;rw [HX.out];rfl,rfl⟩
 ·have HX1:=Lib.hid h1
  by_cases h2:97≤c.toNat∧c.toNat≤102
  ·have t1:decide ((c.toNat:Int)≥48)=true:=by simp;omega
   have t2:decide ((c.toNat:Int)≤57)=false:=by simp;omega
   have t3:decide ((c.toNat:Int)≥97)=true:=by simp;omega
   have t4:decide ((c.toNat:Int)≤102)=true:=by simp;omega
   have HX:=Lib.hid (hexv_let h1 h2)
   have hv:((c.toNat:Int)-97)=((c.toNat-97:Nat):Int):=by omega
   have hv2:(((c.toNat-97:Nat):Int)+10)=((c.toNat-87:Nat):Int):=by omega
   clear h1 h2
   go_enter Tryz.func122,Tryz.ntmps122
   go_wp2
   go_ret
   exact ⟨by unfold HexIs;rw [HX.out];rfl,rfl⟩
  ·have HX:=Lib.hid (hexv_non h1 h2)
   have fin:HexIs c (.panicked bar):=by unfold HexIs;rw [HX.out]
   have FIN:=Lib.hid fin
   clear fin
   by_cases q1:48≤c.toNat
   ·have t1:decide ((c.toNat:Int)≥48)=true:=by simp;omega
    have t2:decide ((c.toNat:Int)≤57)=false:=by simp;omega
    by_cases q2:97≤c.toNat
    ·have t3:decide ((c.toNat:Int)≥97)=true:=by simp;omega
     have t4:decide ((c.toNat:Int)≤102)=false:=by simp;omega
     clear h1 h2 q1 q2
     go_enter Tryz.func122,Tryz.ntmps122
     go_wp2
     exact ⟨rfl,FIN.out,rfl⟩
    ·have t3:decide ((c.toNat:Int)≥97)=false:=by simp;omega
     clear h1 h2 q1 q2
     go_enter Tryz.func122,Tryz.ntmps122
     go_wp2
     exact ⟨rfl,FIN.out,rfl⟩
   ·have t1:decide ((c.toNat:Int)≥48)=false:=by simp;omega
    have t3:decide ((c.toNat:Int)≥97)=false:=by simp;omega
    clear h1 h2 q1
    go_enter Tryz.func122,Tryz.ntmps122
    go_wp2
    exact ⟨rfl,FIN.out,rfl⟩
theorem hex_yes {c:UInt8} {k:Nat} (h:sp.hexv c=some k) (w:World):Calls Tryz.prog 122 #[.int .u8 c.toNat] w fun e w'=>e=.returned (.int .u8 k)∧w'=w :=
 (hex_any c w).mono fun e w' ⟨h1,h2⟩=>⟨by unfold HexIs at h1;rw [h] at h1;exact h1,h2⟩
theorem hex_no {c:UInt8} (h:sp.hexv c=none) (w:World):Calls Tryz.prog 122 #[.int .u8 c.toNat] w fun e w'=>e=.panicked bar∧w'=w :=
 (hex_any c w).mono fun e w' ⟨h1,h2⟩=>⟨by unfold HexIs at h1;rw [h] at h1;exact h1,h2⟩
def escX:List UInt8→Option (UInt8×List UInt8)
 | a :: b :: r'=>(sp.hexv a).bind fun x=>(sp.hexv b).map fun y=>(UInt8.ofNat (16*x+y),r')
 | _=>none
def escS:List UInt8→Option (UInt8×List UInt8)
 | []=>none
 | c :: r =>
  if c=92∨c=34 then some (c,r) else if c=110 then some (10,r) else if c=120 then escX r else none
theorem qread_esc (r:List UInt8):sp.qread (92 :: r)=(escS r).bind fun p=>(sp.qread p.2).map fun q=>(p.1 :: q.1,q.2):=by
 cases r with
 | nil=>rw [sp.qread_esc0];rfl
 | cons c r =>
  simp only [escS]
  by_cases h1:c=92∨c=34
  ·rw [if_pos h1,sp.qread_esc_same h1];rfl
  ·rw [if_neg h1]
   by_cases h2:c=110
   ·rw [if_pos h2,h2,sp.qread_esc_n];rfl
   ·rw [if_neg h2]
    by_cases h3:c=120
    ·rw [if_pos h3];subst h3
     match r with
     | []=>rw [sp.qread_esc_x0];rfl
     | [a]=>rw [sp.qread_esc_x1];rfl
     | a :: b :: r' =>
      simp only [escX]
      cases hx:sp.hexv a with
      | none=>rw [sp.qread_esc_xa hx];rfl
      | some x =>
       cases hy:sp.hexv b with
       | none=>rw [sp.qread_esc_xb hy];rfl
       | some y=>rw [sp.qread_esc_x hx hy];rfl
    ·rw [if_neg h3,sp.qread_esc_bad h1 h2 h3];rfl
def EscIs (w':World) (b:Nat) (s:ByteArray) (r:List UInt8) (e:Ending):Prop:=match escS r with
 | some (d,u)=>e=.returned (.int .u8 d.toNat)∧LineR w' b s u
 | none=>e=.panicked bar
theorem u8ne (c d:UInt8) (h:c≠d):((c.toNat:Int)==(d.toNat:Int))=false:=by
 simp only [beq_eq_false_iff_ne,ne_eq]
 intro e
 exact h (UInt8.toNat.inj (by omega))
theorem or_bits:∀k q:Fin 16,bits BinOp.or IntKind.u8 ((k.val:Int)*16%256) (q.val:Int)=((16*k.val+q.val:Nat):Int):=by decide +kernel
theorem or_hex {x y:UInt8} {k q:Nat} (hx:sp.hexv x=some k) (hy:sp.hexv y=some q):bits BinOp.or IntKind.u8 ((k:Int)*16%256) (q:Int)=((UInt8.ofNat (16*k+q)).toNat:Int):=by
 have h1:=sp.hexv_lt hx
 have h2:=sp.hexv_lt hy
 have e:=or_bits ⟨k,h1⟩ ⟨q,h2⟩
 simp only at e
 rw [e]
 have:(UInt8.ofNat (16*k+q)).toNat=16*k+q:=by
  rw [UInt8.toNat_ofNat']
  omega
 rw [this]
set_option maxRecDepth 100000 in
set_option maxHeartbeats 2000000 in
theorem escaped_any (w:World) (b:Nat) (s:ByteArray) (r:List UInt8) (h:LineR w b s r) (hs:s.size≤1099511627776):Calls Tryz.prog 91 #[.pointer (some ⟨b,0,none⟩)] w fun e w'=>EscIs w' b s r e∧Fr w w' b none:=by
 have H:=Lib.hid h;have HS:=Lib.hid hs
 clear h hs
 cases r with
 | nil =>
  go_enter Tryz.func91,Tryz.ntmps91
  go_wp2_with (go_at_call 90;refine (take_none w b s H.out).mono ?_;rintro e w1 ⟨rfl,hf1⟩)
  exact ⟨rfl,rfl,hf1⟩
 | cons c r =>
  have HT:=Lib.hid (take_some w b s c r H.out HS.out)
  by_cases h1:c=92∨c=34
  ·have hE:escS (c :: r)=some (c,r):=by simp only [escS,if_pos h1]
   have HE:=Lib.hid hE
   rcases h1 with rfl | rfl
   ·clear hE
    go_enter Tryz.func91,Tryz.ntmps91
    go_wp2_with (go_at_call 90;refine HT.out.mono ?_;rintro e w1 ⟨rfl,hl1,hf1⟩)
    go_ret
    exact ⟨by unfold EscIs;rw [HE.out];exact ⟨rfl,hl1⟩,hf1⟩
   ·clear hE
    go_enter Tryz.func91,Tryz.ntmps91
    go_wp2_with (go_at_call 90;refine HT.out.mono ?_;rintro e w1 ⟨rfl,hl1,hf1⟩)
    go_ret
    exact ⟨by unfold EscIs;rw [HE.out];exact ⟨rfl,hl1⟩,hf1⟩
  ·have t1:((c.toNat:Int)==92)=false:=u8ne c 92 (fun e=>h1 (Or.inl e))
   have t2:((c.toNat:Int)==34)=false:=u8ne c 34 (fun e=>h1 (Or.inr e))
   by_cases h2:c=110
   ·have HE:Hid (escS (c :: r)=some (10,r)):=Lib.hid (by simp only [escS,if_neg h1,if_pos h2])
    subst h2
    clear h1
    go_enter Tryz.func91,Tryz.ntmps91
    go_wp2_with (go_at_call 90;refine HT.out.mono ?_;rintro e w1 ⟨rfl,hl1,hf1⟩)
    go_ret
    exact ⟨by unfold EscIs;rw [HE.out];exact ⟨rfl,hl1⟩,hf1⟩
   ·have t3:((c.toNat:Int)==110)=false:=u8ne c 110 h2
    by_cases h3:c=120
    ·have HE:=Lib.hid (show escS (c :: r)=escX r by simp only [escS,if_neg h1,if_neg h2,if_pos h3])
     subst h3
     clear h1 h2
     match r with
     | [] =>
      go_enter Tryz.func91,Tryz.ntmps91
      go_wp2_with (first
       | (go_at_call 90;refine HT.out.mono ?_;rintro e w1 ⟨rfl,hl1,hf1⟩;have HL1:=Lib.hid hl1;have HF1:=Lib.hid hf1;clear hl1 hf1;clear HT)
       | (go_at_call 90;refine (take_none _ b s HL1.out).mono ?_;rintro e w2 ⟨rfl,hf2⟩))
      exact ⟨rfl,by unfold EscIs;rw [HE.out];exact rfl,HF1.out.trans hf2 (Own.refl _ _)⟩
     | [x] =>
      have HE2:Hid (escS [120,x]=none):=HE
      clear HE
      cases hx:sp.hexv x with
      | none =>
       have HX:=Lib.hid hx
       clear hx
       go_enter Tryz.func91,Tryz.ntmps91
       go_wp2_with (first
        | (go_at_call 90;refine HT.out.mono ?_;rintro e w1 ⟨rfl,hl1,hf1⟩;have HL1:=Lib.hid hl1;have HF1:=Lib.hid hf1;clear hl1 hf1;clear HT;have HT2:=Lib.hid (take_some _ b s x [] HL1.out HS.out))
        | (go_at_call 90;refine HT2.out.mono ?_;rintro e w2 ⟨rfl,hl2,hf2⟩;have HL2:=Lib.hid hl2;have HF2:=Lib.hid (HF1.out.trans hf2 (Own.refl _ _));clear hl2 hf2;clear HT2)
        | (go_at_call 122;refine (hex_no HX.out _).mono ?_;rintro e w3 ⟨rfl,rfl⟩;clear HX))
       exact ⟨rfl,by unfold EscIs;rw [HE2.out],HF2.out⟩
      | some k =>
       have HX:=Lib.hid hx
       clear hx
       go_enter Tryz.func91,Tryz.ntmps91
       go_wp2_with (first
        | (go_at_call 90;refine HT.out.mono ?_;rintro e w1 ⟨rfl,hl1,hf1⟩;have HL1:=Lib.hid hl1;have HF1:=Lib.hid hf1;clear hl1 hf1;clear HT;have HT2:=Lib.hid (take_some _ b s x [] HL1.out HS.out))
        | (go_at_call 90;refine HT2.out.mono ?_;rintro e w2 ⟨rfl,hl2,hf2⟩;have HL2:=Lib.hid hl2;have HF2:=Lib.hid (HF1.out.trans hf2 (Own.refl _ _));clear hl2 hf2;clear HT2)
        | (go_at_call 122;refine (hex_yes HX.out _).mono ?_;rintro e w3 ⟨rfl,rfl⟩;clear HX)
        | (go_at_call 90;refine (take_none _ b s HL2.out).mono ?_;rintro e w4 ⟨rfl,hf4⟩))
       exact ⟨rfl,by unfold EscIs;rw [HE2.out],HF2.out.trans hf4 (Own.refl _ _)⟩
     | x :: y :: r' =>
      have HE2:Hid (escS (120 :: x :: y :: r')=(sp.hexv x).bind fun k=>(sp.hexv y).map fun q=>(UInt8.ofNat (16*k+q),r')):=HE
      clear HE
      cases hx:sp.hexv x with
      | none =>
       have HX:=Lib.hid hx
       have HE3:Hid (escS (120 :: x :: y :: r')=none):=Lib.hid (by rw [HE2.out,hx];rfl)
       clear hx HE2
       go_enter Tryz.func91,Tryz.ntmps91
       go_wp2_with (first
        | (go_at_call 90;refine HT.out.mono ?_;rintro e w1 ⟨rfl,hl1,hf1⟩;have HL1:=Lib.hid hl1;have HF1:=Lib.hid hf1;clear hl1 hf1;clear HT;have HT2:=Lib.hid (take_some _ b s x (y :: r') HL1.out HS.out))
        | (go_at_call 90;refine HT2.out.mono ?_;rintro e w2 ⟨rfl,hl2,hf2⟩;have HL2:=Lib.hid hl2;have HF2:=Lib.hid (HF1.out.trans hf2 (Own.refl _ _));clear hl2 hf2;clear HT2)
        | (go_at_call 122;refine (hex_no HX.out _).mono ?_;rintro e w3 ⟨rfl,rfl⟩;clear HX))
       exact ⟨rfl,by unfold EscIs;rw [HE3.out],HF2.out⟩
      | some k =>
       have HX:=Lib.hid hx
       cases hy:sp.hexv y with
       | none =>
        have HY:=Lib.hid hy
        have HE3:Hid (escS (120 :: x :: y :: r')=none):=Lib.hid (by rw [HE2.out,hx,hy];rfl)
        clear hx hy HE2
        go_enter Tryz.func91,Tryz.ntmps91
        go_wp2_with (first
         | (go_at_call 90;refine HT.out.mono ?_;rintro e w1 ⟨rfl,hl1,hf1⟩;have HL1:=Lib.hid hl1;have HF1:=Lib.hid hf1;clear hl1 hf1;clear HT;have HT2:=Lib.hid (take_some _ b s x (y :: r') HL1.out HS.out))
         | (go_at_call 90;refine HT2.out.mono ?_;rintro e w2 ⟨rfl,hl2,hf2⟩;have HL2:=Lib.hid hl2;have HF2:=Lib.hid (HF1.out.trans hf2 (Own.refl _ _));clear hl2 hf2;clear HT2;have HT3:=Lib.hid (take_some _ b s y r' HL2.out HS.out))
         | (go_at_call 122;refine (hex_yes HX.out _).mono ?_;rintro e w3 ⟨rfl,rfl⟩;clear HX)
         | (go_at_call 90;refine HT3.out.mono ?_;rintro e w4 ⟨rfl,hl4,hf4⟩;have HL4:=Lib.hid hl4;have HF4:=Lib.hid (HF2.out.trans hf4 (Own.refl _ _));clear hl4 hf4;clear HT3)
         | (go_at_call 122;refine (hex_no HY.out _).mono ?_;rintro e w5 ⟨rfl,rfl⟩))
        exact ⟨rfl,by unfold EscIs;rw [HE3.out],HF4.out⟩
       | some q =>
        have HY:=Lib.hid hy
        have HE3:Hid (escS (120 :: x :: y :: r')=some (UInt8.ofNat (16*k+q),r')):=Lib.hid (by rw [HE2.out,hx,hy];rfl)
        have HO:=Lib.hid (or_hex hx hy)
        clear hx hy HE2
        go_enter Tryz.func91,Tryz.ntmps91
        go_wp2_with (first
         | (go_at_call 90;refine HT.out.mono ?_;rintro e w1 ⟨rfl,hl1,hf1⟩;have HL1:=Lib.hid hl1;have HF1:=Lib.hid hf1;clear hl1 hf1;clear HT;have HT2:=Lib.hid (take_some _ b s x (y :: r') HL1.out HS.out))
         | (go_at_call 90;refine HT2.out.mono ?_;rintro e w2 ⟨rfl,hl2,hf2⟩;have HL2:=Lib.hid hl2;have HF2:=Lib.hid (HF1.out.trans hf2 (Own.refl _ _));clear hl2 hf2;clear HT2;have HT3:=Lib.hid (take_some _ b s y r' HL2.out HS.out))
         | (go_at_call 122;refine (hex_yes HX.out _).mono ?_;rintro e w3 ⟨rfl,rfl⟩;clear HX)
         | (go_at_call 90;refine HT3.out.mono ?_;rintro e w4 ⟨rfl,hl4,hf4⟩;have HL4:=Lib.hid hl4;have HF4:=Lib.hid (HF2.out.trans hf4 (Own.refl _ _));clear hl4 hf4;clear HT3)
         | (go_at_call 122;refine (hex_yes HY.out _).mono ?_;rintro e w5 ⟨rfl,rfl⟩))
        go_ret
        refine ⟨?_,HF4.out⟩
        unfold EscIs
        rw [HE3.out]
        exact ⟨by rw [←HO.out];rfl,HL4.out⟩
    ·have t4:((c.toNat:Int)==120)=false:=u8ne c 120 h3
     have HE:Hid (escS (c :: r)=none):=Lib.hid (by simp only [escS,if_neg h1,if_neg h2,if_neg h3])
     clear h1 h2 h3
     go_enter Tryz.func91,Tryz.ntmps91
     go_wp2_with (go_at_call 90;refine HT.out.mono ?_;rintro e w1 ⟨rfl,hl1,hf1⟩)
     exact ⟨rfl,by unfold EscIs;rw [HE.out];exact rfl,hf1⟩
namespace sp
theorem line_form {s:Bs} {b:Op} (h:Form s b):lineS s=some (some b):=by
 obtain ⟨k,ps,hk,rfl,hp,_,_,ho⟩:=h
 rw [lineS_row hk.1 hk.2 ps hp,ho]
 rfl
theorem text_read (l:List Op):(∀o∈l,o.ok)→∀s,textS l=some s→(linesS s).length=l.length∧∀i,parseL i (linesS s)=.inr (l.map bareS):=by
 induction l with
 | nil =>
  intro _ s h
  cases h
  exact ⟨by rw [lines_nil];rfl,fun i=>by rw [lines_nil];rfl⟩
 | cons o l ih =>
  intro ho s h
  unfold textS at h
  obtain ⟨a,ha,h⟩:=Option.bind_eq_some_iff.1 h
  obtain ⟨t,ht,rfl⟩:=Option.map_eq_some_iff.1 h
  have h1:=line_form (form_one (ho o List.mem_cons_self) ha)
  obtain ⟨h3,h4⟩:=ih (fun p hp=>ho p (List.mem_cons_of_mem _ hp)) t ht
  have hl:=lines_cut (line_nl h1) t
  refine ⟨by rw [hl,List.length_cons,List.length_cons,h3],fun i => ?_⟩
  rw [hl,List.map_cons]
  exact parseL_some h1 i _ (h4 _)
end sp
def trail (p:List UInt8):Nat:=(p.reverse.takeWhile (· == 92)).length
theorem trail_all (k:Nat):trail (List.replicate k 92)=k:=by
 unfold trail
 rw [List.reverse_replicate,List.takeWhile_replicate]
 simp
theorem trail_cut (q:List UInt8) {d:UInt8} (hd:d≠92) (k:Nat):trail ((q++[d])++List.replicate k 92)=k:=by
 unfold trail
 rw [List.reverse_append,List.reverse_replicate,List.reverse_append,List.takeWhile_append_of_pos (by intro a ha;rw [List.eq_of_mem_replicate ha];rfl)]
 simp [hd]
theorem trail_slash (p:List UInt8):trail (p++[92])=trail p+1:=by
 unfold trail
 rw [List.reverse_append]
 simp
theorem trail_other (p:List UInt8) {d:UInt8} (hd:d≠92):trail (p++[d])=0:=by
 have:=trail_cut p hd 0
 simpa using this
theorem bstr_mid2 {s p r:List UInt8} {c:UInt8} (h:s=p++c :: r):∀q,(bstr s)[p.length]'q=c:=fun q=>by
 have:(bstr s).data.toList=p++c :: r:=by rw [bstr_toList,h]
 exact line_at this q
set_option maxRecDepth 100000 in
set_option maxHeartbeats 4000000 in
theorem slashes_any (s p r:List UInt8) (w:World) (hs:s=p++r) (hn:s.length≤1099511627776):Calls Tryz.prog 19 #[.string (bstr s),.int .i64 (p.length:Nat)] w fun e w'=>e=.returned (.int .i64 (trail p:Nat))∧w'=w:=by
 have hsz:=bstr_size s
 have hlen:p.length≤s.length:=by rw [hs];simp
 have hpl:(p.length:Int)≤1099511627776:=by omega
 have HS:=Lib.hid hs;have HL:=Lib.hid hlen
 clear hs hn hlen
 go_enter Tryz.func19,Tryz.ntmps19
 go_wp2
 go_loopw [5] (fun n wr=>∃(k:Nat) (q:List UInt8),p=q++List.replicate k 92∧n=.int .i64 k∧wr=w) (fun n _=>p.length-(intOf n).toNat)
 case atStart=>exact ⟨0,p,by simp,rfl,rfl⟩
 case round =>
  obtain ⟨k,q,hp,rfl,rfl⟩:=hrel
  have hk:=congrArg List.length hp
  rw [List.length_append,List.length_replicate] at hk
  have hkb:(k:Int)≤1099511627776:=by omega
  rcases List.eq_nil_or_concat q with rfl | ⟨q,d,rfl⟩
  ·have HT:Hid (trail p=k):=Lib.hid (by rw [hp,List.nil_append];exact trail_all k)
   have t0:decide ((p.length:Int)>(k:Int))=false:=by simp at hk;simp;omega
   have t1:¬(p.length:Int)>(k:Int):=by simp at hk;omega
   have t2:¬k<p.length:=by simp at hk;omega
   clear hp hk
   go_wp2
   go_ret
   exact ⟨by rw [HT.out];rfl,rfl⟩
  ·have hk2:p.length=q.length+1+k:=by rw [hk];simp
   have t0:decide ((p.length:Int)>(k:Int))=true:=by simp;omega
   have t1:(p.length:Int)>(k:Int):=by omega
   have t2:k<p.length:=by omega
   have hsx:s=q++d :: (List.replicate k 92++r):=by rw [HS.out,hp];simp
   have ei:=bstr_mid2 hsx
   have e1:(p.length:Int)-1-(k:Int)=(q.length:Int):=by omega
   have hqs:q.length<s.length:=by rw [hsx];simp
   have HK2:=Lib.hid hk2
   clear hk2
   by_cases hd:d=92
   ·subst hd
    have HP:Hid (p=q++List.replicate (k+1) 92):=Lib.hid (by rw [hp,List.replicate_succ];simp)
    clear hp hk hsx
    go_wp2
    refine ⟨⟨k+1,q,HP.out,by go_num,trivial⟩,?_⟩
    have:=HK2.out
    simp [intOf]
    omega
   ·have HT:Hid (trail p=k):=Lib.hid (by rw [hp];have:=trail_cut q hd k;simpa using this)
    have td:((d.toNat:Int)==92)=false:=u8ne d 92 hd
    clear hp hk hsx
    go_wp2
    go_ret
    exact ⟨by rw [HT.out];rfl,rfl⟩
def leftOf (w:World) (b:Nat) (s:ByteArray):Nat:=s.size-(match w.cell? ⟨b,1,none⟩ with | some (.int _ n)=>n.toNat | _=>0)
theorem LineR.left {w:World} {b:Nat} {s:ByteArray} {u:List UInt8} (h:LineR w b s u):leftOf w b s=u.length:=by
 obtain ⟨p,h1,h2⟩:=h
 have hsz:=line_size h1
 unfold leftOf
 have c1:w.cell? ⟨b,1,none⟩=some (.int .i64 p.length):=by rw [Lib.cell_of_heap h2];rfl
 rw [c1]
 simp only [Int.toNat_natCast]
 omega
theorem LineR.len {w:World} {b:Nat} {s:ByteArray} {u:List UInt8} (h:LineR w b s u):u.length≤s.size:=by
 obtain ⟨p,h1,_⟩:=h
 have:=line_size h1
 omega
theorem LineR.keep {w w':World} {b:Nat} {s:ByteArray} {u:List UInt8} (h:LineR w b s u) (hb:w'.heap[b]?=w.heap[b]?):LineR w' b s u:=by
 obtain ⟨p,h1,h2⟩:=h
 exact ⟨p,h1,hb.trans h2⟩
structure TextR (w:World) (b:Nat) (s:ByteArray) (r t:List UInt8) (wr:World):Prop where
 line:LineR wr b s r
 bld:∃own,Bld wr 92 [] w.heap.size own t
 fr:Fr w wr b none
 hb:b<w.heap.size
 len:t.length+r.length≤s.size
section
variable {w wr w':World} {b:Nat} {s:ByteArray} {r r' t:List UInt8}
theorem TextR.move (h:TextR w b s r t wr) (hl:LineR w' b s r') (hf:Fr wr w' b none) (hn:r'.length≤r.length):TextR w b s r' t w':=by
 obtain ⟨own,hB⟩:=h.bld
 have hb:=h.hb
 refine ⟨hl,⟨own,hB.keep (hf.block _ hB.lt (by omega) (fun e=>by cases e)) fun g hg => ?_⟩,h.fr.trans hf (Own.refl _ _),h.hb,by have:=h.len;omega⟩
 have h2:=hB.own_lt g hg
 exact hf.block g h2.2 (by omega) (fun e=>by cases e)
theorem TextR.put {own:Option Nat} {c:UInt8} (h:TextR w b s r t wr) (hB:Bld wr 92 [] w.heap.size own t) (hw:WroteP wr 92 [] w.heap.size own (t++[c]) w') (hn:t.length+1+r.length≤s.size):TextR w b s r (t++[c]) w':=by
 obtain ⟨own',h1,hf,ho⟩:=hw
 have hsz:=h.fr.size
 have old:∀k,k<w.heap.size→w'.heap[k]?=wr.heap[k]?:=fun k hk=>hf.block k (by omega) (by omega) fun e=>by
  have:=hB.own_lt k e.symm
  omega
 refine ⟨h.line.keep (old b h.hb),⟨own',Or.inr h1⟩,⟨hf.os.trans h.fr.os,hf.tape.trans h.fr.tape,hf.output.trans h.fr.output,Nat.le_trans hsz hf.size,fun k hk hb hn=>(old k hk).trans (h.fr.block k hk hb hn)⟩,h.hb,by rw [List.length_append];simp;omega⟩
theorem TextR.str {own:Option Nat} (h:TextR w b s r t wr) (hB:Bld wr 92 [] w.heap.size own t) (hf:Fr wr w' w.heap.size own):LineR w' b s r∧Fr w w' b none:=by
 have hsz:=h.fr.size
 have old:∀k,k<w.heap.size→w'.heap[k]?=wr.heap[k]?:=fun k hk=>hf.block k (by omega) (by omega) fun e=>by
  have:=hB.own_lt k e.symm
  omega
 exact ⟨h.line.keep (old b h.hb),⟨hf.os.trans h.fr.os,hf.tape.trans h.fr.tape,hf.output.trans h.fr.output,Nat.le_trans hsz hf.size,fun k hk hb hn=>(old k hk).trans (h.fr.block k hk hb hn)⟩⟩
end
theorem escS_len {r u:List UInt8} {d:UInt8} (h:escS r=some (d,u)):u.length<r.length:=by
 cases r with
 | nil=>cases h
 | cons c r =>
  simp only [escS] at h
  split at h
  ·cases h;simp
  ·split at h
   ·cases h;simp
   ·split at h
    ·unfold escX at h
     split at h
     ·rename_i a b r'
      cases ha:sp.hexv a with
      | none=>rw [ha] at h;cases h
      | some x =>
       cases hb:sp.hexv b with
       | none=>rw [ha,hb] at h;cases h
       | some y=>rw [ha,hb] at h;cases h;simp;omega
     ·cases h
    ·cases h
def QIs (w':World) (b:Nat) (s:ByteArray) (r:List UInt8) (e:Ending):Prop:=match sp.qread r with
 | some (t,u)=>e=.returned (.string (bstr t))∧LineR w' b s u
 | none=>e=.panicked bar
set_option maxRecDepth 100000 in
set_option maxHeartbeats 4000000 in
theorem text_word (w:World) (b:Nat) (s:ByteArray) (c0:UInt8) (r:List UInt8) (h:LineR w b s (c0 :: r)) (hs:s.size≤1099511627776):Calls Tryz.prog 47 #[.pointer (some ⟨b,0,none⟩)] w fun e w'=>QIs w' b s r e∧Fr w w' b none:=by
 have HS:=Lib.hid hs
 obtain ⟨p,h1,h2⟩:=h
 have hsz:=line_size h1
 have hlt:=lt_of_block h2
 have hp:(p.length:Int)≤1099511627776:=by simp at hsz;omega
 have c1:(w.alloc (.cells #[.pointer none,.slice none 0 0] 92)).cell? ⟨b,1,none⟩=some (.int .i64 p.length):=by rw [Lib.cell_of_heap (heap_old w _ _ h2)];rfl
 have z1:(w.alloc (.cells #[.pointer none,.slice none 0 0] 92)).frozen? ⟨b,1,none⟩=false:=blk_free (heap_old w _ _ h2) 1
 have h4:=blk_set h2 1 (.int .i64 ((p.length:Int)+1))
 have h5:=heap_old _ (.cells #[.pointer none,.slice none 0 0] 92) _ h4
 have h6:=heap_alloc_at (w.setCell ⟨b,1,none⟩ (.int .i64 ((p.length:Int)+1))) (.cells #[.pointer none,.slice none 0 0] 92)
 have hz:(w.setCell ⟨b,1,none⟩ (.int .i64 ((p.length:Int)+1))).heap.size=w.heap.size:=by simp
 rw [hz] at h6
 have HR:Hid (TextR w b s r [] ((w.setCell ⟨b,1,none⟩ (.int .i64 ((p.length:Int)+1))).alloc (.cells #[.pointer none,.slice none 0 0] 92))):=Lib.hid (
  ⟨⟨p++[c0],by rw [h1];simp,by simpa using h5⟩,⟨none,bld_new 92 [] _ h6⟩,(Fr.set 1 _).trans (Fr.of_below (below_new _ _)) (Own.refl _ _),hlt,by simp at hsz ⊢; omega⟩)
 have H1:=Lib.hid h1
 clear h1 h2 h4 h5 h6 hz hsz
 go_enter Tryz.func47,Tryz.ntmps47
 go_wp2
 go_loopw [4] (fun _ wr=>∃r1 t1,TextR w b s r1 t1 wr∧sp.qread r=(sp.qread r1).map fun q=>(t1++q.1,q.2)) (fun _ wr=>leftOf wr b s)
 case atStart=>exact ⟨r,[],HR.out,by cases sp.qread r<;>simp⟩
 case round =>
  obtain ⟨r1,t1,hr,hq⟩:=hrel
  have HR1:=Lib.hid hr;have HQ:=Lib.hid hq
  clear hr hq HR H1 c1 z1
  cases r1 with
  | nil =>
   go_wp2_with (go_at_call 90;refine (take_none _ b s HR1.out.line).mono ?_;rintro e w1 ⟨rfl,hf1⟩)
   exact ⟨rfl,by unfold QIs;rw [HQ.out,sp.qread_nil];exact rfl,HR1.out.fr.trans hf1 (Own.refl _ _)⟩
  | cons c r2 =>
   have HT:=Lib.hid (take_some _ b s c r2 HR1.out.line HS.out)
   have hlen:=HR1.out.len
   by_cases e34:c=34
   ·subst e34
    obtain ⟨own,hB⟩:=HR1.out.bld
    go_wp2_with (first
     | (go_at_call 90;refine HT.out.mono ?_;rintro e w1 ⟨rfl,hl1,hf1⟩;have HR2:=Lib.hid (HR1.out.move hl1 hf1 (by simp));clear hl1 hf1)
     | (go_at_call 42;obtain ⟨own2,hB2⟩:=HR2.out.bld;refine (string_any _ 92 [] _ own2 _ hB2).mono ?_;rintro e w2 ⟨rfl,hf2⟩))
    go_ret
    have HF:=HR2.out.str hB2 hf2
    refine ⟨?_,HF.2⟩
    unfold QIs
    rw [HQ.out,sp.qread_end]
    exact ⟨by simp [bstr],HF.1⟩
   ·by_cases e92:c=92
    ·subst e92
     cases hE:escS r2 with
     | none =>
      have HQ2:Hid (sp.qread r=none):=Lib.hid (by rw [HQ.out,qread_esc,hE];rfl)
      have HE:=Lib.hid hE
      clear HQ hE
      go_wp2_with (first
       | (go_at_call 90;refine HT.out.mono ?_;rintro e w1 ⟨rfl,hl1,hf1⟩;have HR2:=Lib.hid (HR1.out.move hl1 hf1 (by simp));clear hl1 hf1)
       | (go_at_call 91;refine (escaped_any _ b s r2 HR2.out.line HS.out).mono ?_;rintro e w2 ⟨he,hf2⟩;unfold EscIs at he;rw [HE.out] at he;subst he))
      exact ⟨rfl,by unfold QIs;rw [HQ2.out],HR2.out.fr.trans hf2 (Own.refl _ _)⟩
     | some q =>
      obtain ⟨d,u⟩:=q
      have HQ2:Hid (sp.qread r=(sp.qread u).map fun q=>((t1++[d])++q.1,q.2)):=Lib.hid (by
       rw [HQ.out,qread_esc,hE]
       show Option.map _ (Option.map _ (sp.qread u))=_
       rw [Option.map_map]
       congr 1
       funext q
       simp)
      have HE:=Lib.hid hE
      have hul:=Lib.hid (escS_len hE)
      clear HQ hE
      go_wp2_with (first
       | (go_at_call 90;refine HT.out.mono ?_;rintro e w1 ⟨rfl,hl1,hf1⟩;have HR2:=Lib.hid (HR1.out.move hl1 hf1 (by simp));clear hl1 hf1)
       | (go_at_call 91;refine (escaped_any _ b s r2 HR2.out.line HS.out).mono ?_;rintro e w2 ⟨he,hf2⟩;unfold EscIs at he;rw [HE.out] at he;obtain ⟨rfl,hl2⟩:=he;have HR3:=Lib.hid (HR2.out.move hl2 hf2 (by have:=hul.out;omega));obtain ⟨own3,hB3⟩:=HR3.out.bld;have HB3:=Lib.hid hB3;clear hl2 hf2 hB3)
       | (go_at_call 41;refine (writeByte_any _ 92 [] _ own3 t1 d bt92 HB3.out (by have:=HR1.out.len;have:=HS.out;omega)).mono ?_;rintro e w3 ⟨rfl,hw⟩;have HR4:=Lib.hid (HR3.out.put HB3.out hw (by have q1:=HR1.out.len;have q2:=hul.out;simp only [List.length_cons] at q1;omega));clear hw))
      refine ⟨⟨u,t1++[d],HR4.out,HQ2.out⟩,?_⟩
      rw [HR4.out.line.left,HR1.out.line.left]
      have:=hul.out
      simp only [List.length_cons]
      omega
    ·have t1':((c.toNat:Int)==34)=false:=u8ne c 34 e34
     have t2':((c.toNat:Int)==92)=false:=u8ne c 92 e92
     have HQ2:Hid (sp.qread r=(sp.qread r2).map fun q=>((t1++[c])++q.1,q.2)):=Lib.hid (by
      rw [HQ.out,sp.qread_plain e34 e92,Option.map_map]
      congr 1
      funext q
      simp)
     clear HQ e34 e92
     go_wp2_with (first
      | (go_at_call 90;refine HT.out.mono ?_;rintro e w1 ⟨rfl,hl1,hf1⟩;have HR2:=Lib.hid (HR1.out.move hl1 hf1 (by simp));obtain ⟨own3,hB3⟩:=HR2.out.bld;have HB3:=Lib.hid hB3;clear hl1 hf1 hB3)
      | (go_at_call 41;refine (writeByte_any _ 92 [] _ own3 t1 c bt92 HB3.out (by have:=HR1.out.len;have:=HS.out;omega)).mono ?_;rintro e w3 ⟨rfl,hw⟩;have HR4:=Lib.hid (HR2.out.put HB3.out hw (by have:=HR1.out.len;simp only [List.length_cons] at this;omega));clear hw))
     refine ⟨⟨r2,t1++[c],HR4.out,HQ2.out⟩,?_⟩
     rw [HR4.out.line.left,HR1.out.line.left]
     simp
def peekC:List UInt8→Int
 | []=>0
 | c :: _=>c.toNat
def peekB:List UInt8→Bool
 | []=>false
 | _=>true
theorem peekV_ex (u:List UInt8):∃(c:Int) (o:Bool),peekV u=.tuple #[.int .u8 c,.bool o]∧c=peekC u∧o=peekB u:=by cases u<;>exact ⟨_,_,rfl,rfl,rfl⟩
theorem extract_bstr {s:ByteArray} {p t r:List UInt8} (h:s.data.toList=p++(t++r)):s.extract p.length (p.length+t.length)=bstr t:=by
 apply ByteArray.ext
 apply Array.ext'
 rw [ByteArray.data_extract,Array.toList_extract,h]
 simp [bstr,List.extract_eq_take_drop]
theorem while_at {f:UInt8→Bool} {t r:List UInt8} (ht:∀x∈t,f x=true) (hr:∀c,r.head?=some c→f c=false):(t++r).takeWhile f=t∧(t++r).dropWhile f=r:=by
 induction t with
 | nil =>
  cases r with
  | nil=>exact ⟨rfl,rfl⟩
  | cons c r=>simp [List.takeWhile_cons,List.dropWhile_cons,hr c rfl]
 | cons x t ih =>
  have hx:=ht x List.mem_cons_self
  obtain ⟨h1,h2⟩:=ih fun y hy=>ht y (List.mem_cons_of_mem _ hy)
  simp [List.takeWhile_cons,List.dropWhile_cons,hx,h1,h2]
theorem str_cong {a:ByteArray} {l:List UInt8} (h:a=bstr l):Ending.returned (.string a)=Ending.returned (.string (bstr l)):=by rw [h]
theorem plain_fin {w wr:World} {b n:Nat} {s:ByteArray} {p u t1 r1:List UInt8} (H1:s.data.toList=p++u) (hu:u=t1++r1) (ha:∀x∈t1,sp.wordB x=true) (hr:∀c,r1.head?=some c→sp.wordB c=false) (hl:LineR wr b s r1) (hf:Fr w wr b none) :
  Ending.returned (.string (s.extract p.length (p.length+t1.length)))=Ending.returned (.string (bstr (u.takeWhile sp.wordB)))∧LineR (wr.drewN n) b s (u.dropWhile sp.wordB)∧Fr w (wr.drewN n) b none:=by
 subst hu
 obtain ⟨h1,h2⟩:=while_at ha hr
 have hb:=below_drewN (Below.refl wr.heap.size wr) n
 rw [h1,h2]
 exact ⟨str_cong (extract_bstr H1),hl.below hb,hf.trans (Fr.of_below hb) (Own.refl _ _)⟩
set_option maxRecDepth 100000 in
set_option maxHeartbeats 4000000 in
theorem plain_word (w:World) (b:Nat) (s:ByteArray) (u:List UInt8) (h:LineR w b s u) (hs:s.size≤1099511627776):Calls Tryz.prog 48 #[.pointer (some ⟨b,0,none⟩)] w fun e w'=>e=.returned (.string (bstr (u.takeWhile sp.wordB)))∧LineR w' b s (u.dropWhile sp.wordB)∧Fr w w' b none:=by
 have HS:=Lib.hid hs
 have HP:=Lib.hid (peek_any w b s u h)
 have HH:=Lib.hid h
 obtain ⟨p,h1,h2⟩:=h
 have hsz:=line_size h1
 have hlt:=lt_of_block h2
 have c1:w.cell? ⟨b,1,none⟩=some (.int .i64 p.length):=by rw [Lib.cell_of_heap h2];rfl
 have H1:=Lib.hid h1;have HZ:=Lib.hid hsz
 clear h1 h2 hsz
 obtain ⟨c0,o0,hpv,hc0,ho0⟩:=peekV_ex u
 have HPV:=Lib.hid hpv;have HC0:=Lib.hid hc0;have HO0:=Lib.hid ho0
 clear hpv hc0 ho0
 go_enter Tryz.func48,Tryz.ntmps48
 go_wp2_with (go_at_call 46;refine HP.out.mono ?_;rintro e w1 ⟨rfl,hb1⟩;rw [HPV.out])
 have HR:Hid (LineR w1 b s u∧Fr w w1 b none):=Lib.hid ⟨HH.out.below hb1,Fr.of_below hb1⟩
 go_loopw [4,5] (fun c ok wr=>∃t1 r1,u=t1++r1∧(∀x∈t1,sp.wordB x=true)∧LineR wr b s r1∧Fr w wr b none∧c=.int .u8 (peekC r1)∧ok=.bool (peekB r1)) (fun _ _ wr=>leftOf wr b s)
 case atStart=>exact ⟨[],u,rfl,fun _ hx=>(by cases hx),HR.out.1,HR.out.2,by rw [HC0.out],by rw [HO0.out]⟩
 case round =>
  obtain ⟨t1,r1,hu,hall,hl,hf,rfl,rfl⟩:=hrel
  have HL:=Lib.hid hl;have HF:=Lib.hid hf
  clear hl hf HR HP hb1 HC0 HO0 HPV
  obtain ⟨q,hq1,hq2⟩:=HL.out
  have hqp:q=p++t1:=by
   have:=hq1.symm.trans (H1.out.trans (by rw [hu]))
   rw [←List.append_assoc] at this
   exact List.append_cancel_right this
  have d1:wr.cell? ⟨b,1,none⟩=some (.int .i64 (p.length+t1.length:Nat)):=by rw [Lib.cell_of_heap hq2,hqp,List.length_append];rfl
  have d0:wr.cell? ⟨b,0,none⟩=some (.string s):=by rw [Lib.cell_of_heap hq2];rfl
  have z1:wr.frozen? ⟨b,1,none⟩=false:=blk_free hq2 1
  have hle:p.length+t1.length≤s.size:=by have:=HZ.out;rw [hu,List.length_append] at this;omega
  have hh:=blk_set hq2 1 (.int .i64 ((p.length+t1.length:Nat)+1:Int))
  have HH2:=Lib.hid hh;have HU:=Lib.hid hu;have HA:=Lib.hid hall;have HQ:=Lib.hid hqp;have HQ1:=Lib.hid hq1
  have hb63:((p.length+t1.length:Nat):Int)≤1099511627776:=by have:=HS.out;omega
  clear hh hu hall hqp hq1 hq2
  match r1 with
  | [] =>
   simp only [peekC,peekB]
   go_wp2
   go_quiet (fail)
   go_wp2
   go_ret
   exact plain_fin H1.out HU.out HA.out (fun _ h=>by cases h) HL.out HF.out
  | c :: r2 =>
   simp only [peekC,peekB]
   by_cases e32:c=32
   ·subst e32
    go_wp2
    go_quiet (fail)
    go_wp2
    go_ret
    exact plain_fin H1.out HU.out HA.out (fun _ h=>by cases h;rfl) HL.out HF.out
   ·have t1':((c.toNat:Int)==32)=false:=u8ne c 32 e32
    have t1n:((c.toNat:Int) != 32)=true:=by rw [bne,t1'];rfl
    by_cases e34:c=34
    ·subst e34
     go_wp2
     go_quiet (fail)
     go_wp2
     go_ret
     exact plain_fin H1.out HU.out HA.out (fun _ h=>by cases h;rfl) HL.out HF.out
    ·have t2':((c.toNat:Int)==34)=false:=u8ne c 34 e34
     have t2n:((c.toNat:Int) != 34)=true:=by rw [bne,t2'];rfl
     have hcw:sp.wordB c=true:=by simp [sp.wordB,e32,e34]
     have HL2:Hid (LineR (wr.setCell ⟨b,1,none⟩ (.int .i64 ((p.length+t1.length:Nat)+1:Int))) b s r2):=Lib.hid ⟨q++[c],by rw [HQ1.out];simp,by
      have:=HH2.out
      rw [this,HQ.out]
      simp
      omega⟩
     have HA2:Hid (∀x∈t1++[c],sp.wordB x=true):=Lib.hid fun x hx=>by
      rcases List.mem_append.1 hx with h | h
      ·exact HA.out x h
      ·rw [List.mem_singleton] at h;rw [h];exact hcw
     have HU2:Hid (u=(t1++[c])++r2):=Lib.hid (by rw [HU.out];simp)
     have HP2:=Lib.hid (peek_any _ b s _ HL2.out)
     obtain ⟨c1',o1,hpv,hc1,ho1⟩:=peekV_ex r2
     have HPV:=Lib.hid hpv;have HC0:=Lib.hid hc1;have HO0:=Lib.hid ho1
     clear hpv hc1 ho1 hcw e32 e34
     go_wp2_with (go_at_call 46;refine HP2.out.mono ?_;rintro e w2 ⟨rfl,hb2⟩;rw [HPV.out])
     refine ⟨⟨t1++[c],r2,HU2.out,HA2.out,HL2.out.below hb2,((HF.out.trans (Fr.set 1 _) (Own.refl _ _))).trans (Fr.of_below hb2) (Own.refl _ _),by rw [HC0.out];rfl,by rw [HO0.out];rfl⟩,?_⟩
     rw [(HL2.out.below hb2).left,HL.out.left]
     simp
def wdCell (p:List UInt8×Bool):List Value:=[.string (bstr p.1),.bool p.2]
def wdCells (l:List (List UInt8×Bool)):List Value:=l.flatMap wdCell
theorem wdCells_append (l m:List (List UInt8×Bool)):wdCells (l++m)=wdCells l++wdCells m:=by unfold wdCells;rw [List.flatMap_append]
theorem wdCells_one (p:List UInt8×Bool):wdCells [p]=wdCell p:=by simp [wdCells]
theorem info71:(Tryz.prog.info? 71).map (fun i=>(i.zero,i.size,i.bytes))=some (some (.agg #[.string ⟨#[]⟩,.bool false]),2,24):=by kernel_rfl
structure WT (T E:TypeId):Prop where
 slice:Tryz.prog.underlying T=some (.slice E)
 info:(Tryz.prog.info? E).map (fun i=>(i.zero,i.size,i.bytes))=some (some (.agg #[.string ⟨#[]⟩,.bool false]),2,24)
theorem wt58:WT 58 71:=⟨Tryz.underlying58,info71⟩
section
variable {ops:Array Oper} {rest:List Oper} {o:Oper} {a:Act} {Q:Exit→Act→World→Prop} {w:World} {T E:TypeId}
theorem wpl_append_wd (hT:WT T E) (hgd:o.guard=none) (s x:Operand) (ho:o.op=.call { callee:=.builtin .append,args:=#[s,x],argTypes:=#[T,T] }) (base:Nat) (xs:List (List UInt8×Bool)) (d:Value) (hs:a.eval s=d) (hown:w.ownsRow base E 2 d xs.length (wdCells xs))
  (b:Nat) (y:List UInt8×Bool) (fz:Nat×Nat) (hx:a.eval x=.slice (some ⟨b,0,none⟩) 1 1) (hb:w.heap[b]?=some (.cells #[.string (bstr y.1),.bool y.2] E fz)) (hn:xs.length≤1099511627776) (hbase:base≤w.heap.size)
  (h:∀v' w',w'.ownsRow base E 2 v' (xs++[y]).length (wdCells (xs++[y]))→w.grownBy w' d.ownBlock→(v'.ownBlock=d.ownBlock∨v'.ownBlock=some w.heap.size)→wpList Tryz.prog ops Q rest (a.put o.dst v') w'):wpList Tryz.prog ops Q (o :: rest) a w:=by
 obtain ⟨i,hi,hz,hsz,hby⟩:=info_parts hT.info
 refine Go.wpList_append_own_at w hgd s x T ho base E i _ 2 24 hT.slice hi hz hsz hby rfl (by decide) d xs.length (wdCells xs) hs hown ⟨b,0,none⟩ 1 1 (wdCell y) hx rfl (fun j u hu => ?_) (fun u hu => ?_) (by unfold maxLen;omega) (by omega) hbase (fun v' w' k1 k2 _ k3=>h v' w' ?_ k2 k3)
 ·rw [Addr.add_mid,Nat.zero_add,cell_of_row w b j _ E fz hb]
  simpa [wdCell] using hu
 ·simp only [wdCell,List.mem_cons,List.not_mem_nil,or_false] at hu
  rcases hu with rfl | rfl<;>rfl
 ·rw [List.length_append,wdCells_append,wdCells_one]
  exact k1
end
theorem ownsRow_fr {w w':World} {base b:Nat} {e:TypeId} {k n:Nat} {v:Value} {xs:List Value} (h:w.ownsRow base e k v n xs) (hf:Fr w w' b none) (hb:b<base):w'.ownsRow base e k v n xs:=by
 obtain ⟨hl,h5⟩:=h
 refine ⟨hl,h5.imp id fun ⟨g,cap,cur,y1,y2,y3,y4⟩=>⟨g,cap,cur,y1,y2,(hf.block g (lt_of_block y3) (by omega) (fun e=>by cases e)).trans y3,y4⟩⟩
/-! ### The words of a line, word by word -/
open sp in
theorem words_q_none {r:List UInt8} (h:qread r=none):words (34 :: r)=none:=by
 rw [words.eq_def]
 have e:(34 :: r).dropWhile (· == (32:UInt8))=34 :: r:=by rw [List.dropWhile_cons,if_neg (by decide)]
 split
 ·rename_i h1;rw [e] at h1;cases h1
 ·rename_i c r1 h1
  rw [e] at h1
  cases h1
  rw [if_pos rfl]
  split
  ·rfl
  ·rename_i h2;rw [h] at h2;cases h2
open sp in
theorem words_q_some {r t u:List UInt8} (h:qread r=some (t,u)):words (34 :: r)=if u.head?=none∨u.head?=some 32 then (words u).map fun l=>(t,true) :: l else none:=by
 rw [words.eq_def]
 have e:(34 :: r).dropWhile (· == (32:UInt8))=34 :: r:=by rw [List.dropWhile_cons,if_neg (by decide)]
 split
 ·rename_i h1;rw [e] at h1;cases h1
 ·rename_i c r1 h1
  rw [e] at h1
  cases h1
  rw [if_pos rfl]
  split
  ·rename_i h2;rw [h] at h2;cases h2
  ·rename_i h2;rw [h] at h2;cases h2;rfl
open sp in
theorem words_p {c:UInt8} {r:List UInt8} (h1:c≠32) (h2:c≠34):words (c :: r)=if ((c :: r).dropWhile wordB).head?=some 34 then none else (words ((c :: r).dropWhile wordB)).map fun l=>((c :: r).takeWhile wordB,false) :: l:=by
 rw [words.eq_def]
 have e:(c :: r).dropWhile (· == (32:UInt8))=c :: r:=by rw [List.dropWhile_cons,if_neg (by simpa using h1)]
 split
 ·rename_i h3;rw [e] at h3;cases h3
 ·rename_i c1 r1 h3
  rw [e] at h3
  cases h3
  rw [if_neg h2]
end Go.Proofs.YtihlneenajlhoaaGreatDoor
namespace Go.Proofs.YtihlneenajlhoaaGreatDoor
open Go Go.RowKit Go.Shelf
def Tryz.laysCut_ren:Go.Shelf.Ren:=⟨fun | 103=>92 | 210=>123 | 206=>155 | n=>n,fun | 9=>9 | 4=>4 | 24=>93 | 3=>3 | n=>n,fun | n=>n⟩
theorem Tryz.laysCut:Go.Proofs.Lays.n103 Tryz.prog Tryz.laysCut_ren:={
 mixed:=by kernel_rfl,
 f103:=Tryz.func92.trans (congrArg some (by kernel_rfl)),
 f206:=Tryz.func155.trans (congrArg some (by kernel_rfl)),
 f210:=Tryz.func123.trans (congrArg some (by kernel_rfl)),
 t3:=Tryz.underlying3,
 a3:=Tryz.isAgg3,
 z3:=Tryz.sizeOf3,
 v3:=Tryz.zeroValue3,
 t4:=Tryz.underlying4,
 a4:=Tryz.isAgg4,
 z4:=Tryz.sizeOf4,
 v4:=Tryz.zeroValue4,
 t9:=Tryz.underlying9,
 a9:=Tryz.isAgg9,
 z9:=Tryz.sizeOf9,
 v9:=Tryz.zeroValue9,
 t24:=Tryz.underlying93,
 a24:=Tryz.isAgg93,
 z24:=Tryz.sizeOf93,
 v24:=Tryz.zeroValue93 }
def Tryz.laysContains_ren:Go.Shelf.Ren:=⟨fun | 144=>24 | 143=>44 | 219=>85 | 217=>115 | 225=>116 | 224=>117 | 267=>118 | 266=>151 | 314=>152 | n=>n,fun | 9=>9 | 4=>4 | 3=>3 | 5=>5 | 46=>120 | 146=>237 | 51=>236 | n=>n,fun | 1=>0 | n=>n⟩
theorem Tryz.laysContains:Go.Proofs.Lays.n144 Tryz.prog Tryz.laysContains_ren:={
 mixed:=by kernel_rfl,
 f143:=Tryz.func44.trans (congrArg some (by kernel_rfl)),
 f144:=Tryz.func24.trans (congrArg some (by kernel_rfl)),
 f217:=Tryz.func115.trans (congrArg some (by kernel_rfl)),
 f219:=Tryz.func85.trans (congrArg some (by kernel_rfl)),
 f224:=Tryz.func117.trans (congrArg some (by kernel_rfl)),
 f225:=Tryz.func116.trans (congrArg some (by kernel_rfl)),
 f266:=Tryz.func151.trans (congrArg some (by kernel_rfl)),
 f267:=Tryz.func118.trans (congrArg some (by kernel_rfl)),
 f314:=Tryz.func152.trans (congrArg some (by kernel_rfl)),
 t3:=Tryz.underlying3,
 a3:=Tryz.isAgg3,
 z3:=Tryz.sizeOf3,
 v3:=Tryz.zeroValue3,
 t4:=Tryz.underlying4,
 a4:=Tryz.isAgg4,
 z4:=Tryz.sizeOf4,
 v4:=Tryz.zeroValue4,
 t5:=Tryz.underlying5,
 a5:=Tryz.isAgg5,
 z5:=Tryz.sizeOf5,
 v5:=Tryz.zeroValue5,
 t9:=Tryz.underlying9,
 a9:=Tryz.isAgg9,
 z9:=Tryz.sizeOf9,
 v9:=Tryz.zeroValue9,
 t46:=Tryz.underlying120,
 a46:=Tryz.isAgg120,
 z46:=Tryz.sizeOf120,
 v46:=Tryz.zeroValue120,
 t51:=Tryz.underlying236,
 a51:=Tryz.isAgg236,
 z51:=Tryz.sizeOf236,
 v51:=Tryz.zeroValue236,
 t146:=Tryz.underlying237,
 a146:=Tryz.isAgg237,
 z146:=Tryz.sizeOf237,
 v146:=Tryz.zeroValue237,
 g1:=by kernel_rfl }
def Tryz.laysTrim_ren:Go.Shelf.Ren:=⟨fun | 161=>45 | 231=>86 | 227=>87 | 233=>88 | 235=>89 | 228=>119 | 197=>120 | 151=>121 | 260=>153 | 152=>154 | 137=>212 | 119=>213 | 224=>117 | 225=>116 | 217=>115 | 266=>151 | n=>n,fun | 9=>9 | 4=>4 | 3=>3 | 5=>5 | 117=>135 | 116=>134 | 0=>0 | 124=>138 | 105=>198 | 21=>21 | 119=>314 | 46=>120 | 139=>317 | 138=>316 | n=>n,fun | 3=>2 | 4=>3 | n=>n⟩
theorem Tryz.laysTrim:Go.Proofs.Lays.n161 Tryz.prog Tryz.laysTrim_ren:={
 mixed:=by kernel_rfl,
 f119:=Tryz.func213.trans (congrArg some (by kernel_rfl)),
 f137:=Tryz.func212.trans (congrArg some (by kernel_rfl)),
 f151:=Tryz.func121.trans (congrArg some (by kernel_rfl)),
 f152:=Tryz.func154.trans (congrArg some (by kernel_rfl)),
 f161:=Tryz.func45.trans (congrArg some (by kernel_rfl)),
 f197:=Tryz.func120.trans (congrArg some (by kernel_rfl)),
 f217:=Tryz.func115.trans (congrArg some (by kernel_rfl)),
 f224:=Tryz.func117.trans (congrArg some (by kernel_rfl)),
 f225:=Tryz.func116.trans (congrArg some (by kernel_rfl)),
 f227:=Tryz.func87.trans (congrArg some (by kernel_rfl)),
 f228:=Tryz.func119.trans (congrArg some (by kernel_rfl)),
 f231:=Tryz.func86.trans (congrArg some (by kernel_rfl)),
 f233:=Tryz.func88.trans (congrArg some (by kernel_rfl)),
 f235:=Tryz.func89.trans (congrArg some (by kernel_rfl)),
 f260:=Tryz.func153.trans (congrArg some (by kernel_rfl)),
 f266:=Tryz.func151.trans (congrArg some (by kernel_rfl)),
 t0:=Tryz.underlying0,
 a0:=Tryz.isAgg0,
 z0:=Tryz.sizeOf0,
 v0:=Tryz.zeroValue0,
 t3:=Tryz.underlying3,
 a3:=Tryz.isAgg3,
 z3:=Tryz.sizeOf3,
 v3:=Tryz.zeroValue3,
 t4:=Tryz.underlying4,
 a4:=Tryz.isAgg4,
 z4:=Tryz.sizeOf4,
 v4:=Tryz.zeroValue4,
 t5:=Tryz.underlying5,
 a5:=Tryz.isAgg5,
 z5:=Tryz.sizeOf5,
 v5:=Tryz.zeroValue5,
 t9:=Tryz.underlying9,
 a9:=Tryz.isAgg9,
 z9:=Tryz.sizeOf9,
 v9:=Tryz.zeroValue9,
 t21:=Tryz.underlying21,
 a21:=Tryz.isAgg21,
 z21:=Tryz.sizeOf21,
 v21:=Tryz.zeroValue21,
 t46:=Tryz.underlying120,
 a46:=Tryz.isAgg120,
 z46:=Tryz.sizeOf120,
 v46:=Tryz.zeroValue120,
 t105:=Tryz.underlying198,
 a105:=Tryz.isAgg198,
 z105:=Tryz.sizeOf198,
 v105:=Tryz.zeroValue198,
 t116:=Tryz.underlying134,
 a116:=Tryz.isAgg134,
 z116:=Tryz.sizeOf134,
 t117:=Tryz.underlying135,
 a117:=Tryz.isAgg135,
 z117:=Tryz.sizeOf135,
 v117:=Tryz.zeroValue135,
 t119:=Tryz.underlying314,
 a119:=Tryz.isAgg314,
 z119:=Tryz.sizeOf314,
 t124:=Tryz.underlying138,
 a124:=Tryz.isAgg138,
 z124:=Tryz.sizeOf138,
 v124:=Tryz.zeroValue138,
 t138:=Tryz.underlying316,
 a138:=Tryz.isAgg316,
 z138:=Tryz.sizeOf316,
 v138:=Tryz.zeroValue316,
 t139:=Tryz.underlying317,
 a139:=Tryz.isAgg317,
 z139:=Tryz.sizeOf317,
 v139:=Tryz.zeroValue317,
 g3:=by kernel_rfl,
 g4:=by kernel_rfl }
def Tryz.laysSplit_ren:Go.Shelf.Ren:=⟨fun | 146=>71 | 221=>104 | 268=>141 | 138=>142 | 143=>44 | 195=>204 | 197=>120 | 218=>205 | 219=>85 | 260=>153 | 217=>115 | 225=>116 | 224=>117 | 267=>118 | 266=>151 | 314=>152 | n=>n,fun | 9=>9 | 31=>81 | 3=>3 | 4=>4 | 0=>0 | 105=>198 | 21=>21 | 5=>5 | 46=>120 | 119=>314 | 139=>317 | 138=>316 | 146=>237 | 51=>236 | n=>n,fun | 1=>0 | 3=>2 | 4=>3 | n=>n⟩
theorem Tryz.laysSplit:Go.Proofs.LaysM.n146 Tryz.prog Tryz.laysSplit_ren:={
 mixed:=by kernel_rfl,
 f138:=Tryz.func142.trans (congrArg some (by kernel_rfl)),
 f143:=Tryz.func44.trans (congrArg some (by kernel_rfl)),
 f146:=Tryz.func71.trans (congrArg some (by kernel_rfl)),
 f195:=Tryz.func204.trans (congrArg some (by kernel_rfl)),
 f197:=Tryz.func120.trans (congrArg some (by kernel_rfl)),
 f217:=Tryz.func115.trans (congrArg some (by kernel_rfl)),
 f218:=Tryz.func205.trans (congrArg some (by kernel_rfl)),
 f219:=Tryz.func85.trans (congrArg some (by kernel_rfl)),
 f221:=Tryz.func104.trans (congrArg some (by kernel_rfl)),
 f224:=Tryz.func117.trans (congrArg some (by kernel_rfl)),
 f225:=Tryz.func116.trans (congrArg some (by kernel_rfl)),
 f260:=Tryz.func153.trans (congrArg some (by kernel_rfl)),
 f266:=Tryz.func151.trans (congrArg some (by kernel_rfl)),
 f267:=Tryz.func118.trans (congrArg some (by kernel_rfl)),
 f268:=Tryz.func141.trans (congrArg some (by kernel_rfl)),
 f314:=Tryz.func152.trans (congrArg some (by kernel_rfl)),
 t0:=Tryz.underlying0,
 a0:=Tryz.isAgg0,
 z0:=Tryz.sizeOf0,
 v0:=Tryz.zeroValue0,
 t3:=Tryz.underlying3,
 a3:=Tryz.isAgg3,
 z3:=Tryz.sizeOf3,
 v3:=Tryz.zeroValue3,
 t4:=Tryz.underlying4,
 a4:=Tryz.isAgg4,
 z4:=Tryz.sizeOf4,
 v4:=Tryz.zeroValue4,
 t5:=Tryz.underlying5,
 a5:=Tryz.isAgg5,
 z5:=Tryz.sizeOf5,
 v5:=Tryz.zeroValue5,
 t9:=Tryz.underlying9,
 a9:=Tryz.isAgg9,
 z9:=Tryz.sizeOf9,
 v9:=Tryz.zeroValue9,
 t21:=Tryz.underlying21,
 a21:=Tryz.isAgg21,
 z21:=Tryz.sizeOf21,
 v21:=Tryz.zeroValue21,
 t31:=Tryz.underlying81,
 a31:=Tryz.isAgg81,
 z31:=Tryz.sizeOf81,
 v31:=Tryz.zeroValue81,
 t46:=Tryz.underlying120,
 a46:=Tryz.isAgg120,
 z46:=Tryz.sizeOf120,
 v46:=Tryz.zeroValue120,
 t51:=Tryz.underlying236,
 a51:=Tryz.isAgg236,
 z51:=Tryz.sizeOf236,
 v51:=Tryz.zeroValue236,
 t105:=Tryz.underlying198,
 a105:=Tryz.isAgg198,
 z105:=Tryz.sizeOf198,
 v105:=Tryz.zeroValue198,
 t119:=Tryz.underlying314,
 a119:=Tryz.isAgg314,
 z119:=Tryz.sizeOf314,
 t138:=Tryz.underlying316,
 a138:=Tryz.isAgg316,
 z138:=Tryz.sizeOf316,
 v138:=Tryz.zeroValue316,
 t139:=Tryz.underlying317,
 a139:=Tryz.isAgg317,
 z139:=Tryz.sizeOf317,
 v139:=Tryz.zeroValue317,
 t146:=Tryz.underlying237,
 a146:=Tryz.isAgg237,
 z146:=Tryz.sizeOf237,
 v146:=Tryz.zeroValue237,
 g1:=by kernel_rfl,
 g3:=by kernel_rfl,
 g4:=by kernel_rfl,
 i0:=by kernel_rfl,
 i3:=by kernel_rfl,
 i4:=by kernel_rfl,
 i5:=by kernel_rfl,
 i9:=by kernel_rfl,
 i21:=by kernel_rfl,
 i31:=by kernel_rfl,
 i46:=by kernel_rfl,
 i51:=by kernel_rfl,
 i105:=by kernel_rfl,
 i138:=by kernel_rfl,
 i139:=by kernel_rfl,
 i146:=by kernel_rfl,
 m1:=by kernel_rfl,
 s1_3:=fun w h=>Go.Proofs.cell_of_shapedOpen_int (zero:=#[.int .i64 0]) (t:=3) h (of_decide_eq_true (by kernel_rfl)) (by kernel_rfl) rfl (by kernel_rfl) (by kernel_rfl) Tryz.underlying3,
 m3:=by kernel_rfl,
 m4:=by kernel_rfl }
end Go.Proofs.YtihlneenajlhoaaGreatDoor
