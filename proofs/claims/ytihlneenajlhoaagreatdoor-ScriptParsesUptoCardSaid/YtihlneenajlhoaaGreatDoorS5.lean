/-
 Contract, for a run of one goroutine, of jalousieref27.Lines: the lines of a text. Condition: its length fits.
-/
import Derived.Test.YtihlneenajlhoaaGreatDoorS4
import Derived.Test.YtihlneenajlhoaaGreatDoorS1
set_option linter.unusedSimpArgs false
set_option linter.unusedVariables false
namespace Go.Proofs.YtihlneenajlhoaaGreatDoor
open Go Go.RowKit
theorem info9:(Tryz.prog.info? 9).map (fun i=>(i.zero,i.size,i.bytes))=some (some (.string ⟨#[]⟩),1,16):=by kernel_rfl
theorem strCells_app (l:List (List UInt8)) (s:List UInt8):strCells (l++[s])=strCells l++[.string (bstr s)]:=by simp [strCells]
section
variable {ops:Array Oper} {rest:List Oper} {o:Oper} {a:Act} {Q:Exit→Act→World→Prop} {w:World}
theorem wpl_append_ln (hgd:o.guard=none) (s x:Operand) (ho:o.op=.call { callee:=.builtin .append,args:=#[s,x],argTypes:=#[81,81] }) (base:Nat) (xs:List (List UInt8)) (d:Value) (hs:a.eval s=d) (hown:w.ownsRow base 9 1 d xs.length (strCells xs))
  (b:Nat) (y:List UInt8) (fz:Nat×Nat) (hx:a.eval x=.slice (some ⟨b,0,none⟩) 1 1) (hb:w.heap[b]?=some (.cells #[.string (bstr y)] 9 fz)) (hn:xs.length≤2097152) (hbase:base≤w.heap.size)
  (h:∀v' w',w'.ownsRow base 9 1 v' (xs++[y]).length (strCells (xs++[y]))→w.grownBy w' d.ownBlock→wpList Tryz.prog ops Q rest (a.put o.dst v') w'):wpList Tryz.prog ops Q (o :: rest) a w:=by
 obtain ⟨i,hi,hz,hsz,hby⟩:=info_parts info9
 refine Go.wpList_append_own_at w hgd s x 81 ho base 9 i _ 1 16 Tryz.underlying81 hi hz hsz hby rfl (by decide) d xs.length (strCells xs) hs hown ⟨b,0,none⟩ 1 1 [.string (bstr y)] hx rfl (fun j u hu => ?_) (fun u hu => ?_) (by unfold maxLen;omega) (by omega) hbase (fun v' w' k1 k2 _ k3=>h v' w' ?_ k2)
 ·rw [Addr.add_mid,Nat.zero_add,cell_of_row w b j _ 9 fz hb]
  simpa using hu
 ·rw [List.mem_singleton.1 hu];rfl
 ·rw [List.length_append,strCells_app]
  exact k1
end
structure LsR (w:World) (b:List UInt8) (l:List (List UInt8)) (p q r:List UInt8) (d:Value) (wr:World):Prop where
 text:b=p++(q++r)
 free:(10:UInt8)∉q
 eq:sp.linesS b=l++sp.linesS (q++r)
 own:wr.ownsRow w.heap.size 9 1 d l.length (strCells l)
 bel:Below w.heap.size w wr
 len:l.length≤p.length
section
variable {w wr W w':World} {b p q r:List UInt8} {l:List (List UInt8)} {d v':Value} {c:UInt8}
theorem LsR.on (h:LsR w b l p q r d wr) (hb:Below wr.heap.size wr W):LsR w b l p q r d W:=⟨h.text,h.free,h.eq,ownsRow_below h.own hb,h.bel.trans (hb.mono h.bel.size),h.len⟩
theorem LsR.more (h:LsR w b l p q (c :: r) d wr) (hc:c≠10):LsR w b l p (q++[c]) r d wr :=
 ⟨by rw [h.text];simp,by simp [h.free,Ne.symm hc],by rw [h.eq];simp,h.own,h.bel,h.len⟩
theorem LsR.line (h:LsR w b l p q (10 :: r) d wr) (hown:w'.ownsRow w.heap.size 9 1 v' (l++[q]).length (strCells (l++[q]))) (hb:Below w.heap.size w w'):LsR w b (l++[q]) (p++(q++[10])) [] r v' w' :=
 ⟨by rw [h.text];simp,by simp,by rw [h.eq,sp.lines_cut h.free];simp,hown,hb,by have:=h.len;simp;omega⟩
end
theorem rowAt_ownS {W:World} {base:Nat} {d:Value} {l:List (List UInt8)} (h:W.ownsRow base 9 1 d l.length (strCells l)):RowAt W.heap.size W d l.length (strCells l):=by
 rcases h.2 with ⟨rfl,h0⟩ | ⟨g,cap,cur,rfl,h2,h3,h4,h5,h6,h7⟩
 ·have:=List.eq_nil_of_length_eq_zero h0
  subst this
  exact ⟨none,0,rfl,Nat.le_refl _,Nat.zero_le _,.inl ⟨rfl,rfl,fun _=>rfl⟩⟩
 ·refine rowAt_strs h3 rfl h4 h5 fun j u hu => ?_
  have hj:j<l.length*1:=by
   have h1:=(List.getElem?_eq_some_iff.1 hu).1
   rw [h.1] at h1
   exact h1
  rw [←h7,List.getElem?_take_of_lt hj] at hu
  simpa using hu
theorem conv_piece {W:World} {g off cap f n:Nat} {b q:List UInt8} (hr:W.rangeAt g off (Lib.byteCells b)) (hb:b.length≤cap) (hc:cap≤maxLen) (hg:g<W.heap.size) (hq:(b.drop f).take q.length=q) (hf:f+q.length≤b.length) (hn:n=q.length) (o:Nat) (ho:o=off+f) (c:Nat) (hcc:c=cap-f):(convert 22 9 (.slice (some ⟨g,o,none⟩) n c)).run Tryz.prog W=.ok (.string (bstr q)) W:=by
 subst hn ho hcc
 refine conv_row (B:=W.heap.size) ⟨_,_,rfl,by omega,by omega,?_⟩
 by_cases h0:q.length=0
 ·have:=List.eq_nil_of_length_eq_zero h0
  subst this
  exact .inl ⟨rfl,rfl,fun h=>by cases h⟩
 ·refine .inr ⟨by omega,g,off+f,rfl,hg,fun j u hu => ?_⟩
  obtain ⟨x,hx,rfl⟩:=byteCells_get hu
  have hj:j<q.length:=(List.getElem?_eq_some_iff.1 hx).1
  rw [Nat.add_assoc]
  refine hr (f+j) _ ?_
  have hx2:b[f+j]?=some x:=by
   rw [←hq,List.getElem?_take_of_lt hj,List.getElem?_drop] at hx
   exact hx
  simp [Lib.byteCells,hx2]
set_option maxRecDepth 100000 in
set_option maxHeartbeats 8000000 in
theorem rlines_any (w:World) (v:Value) (b:List UInt8) (h:RowAt w.heap.size w v b.length (Lib.byteCells b)) (hn:b.length≤1048576) :
  Calls Tryz.prog 33 #[v] w fun e w'=>∃v',e=.returned v'∧RowAt w'.heap.size w' v' (sp.linesS b).length (strCells (sp.linesS b))∧Below w.heap.size w w':=by
 obtain ⟨av,cv,rfl,hcap,hcm,hr⟩:=h
 have HN:=Lib.hid hn;have HCAP:=Lib.hid hcap;have HCM:=Lib.hid hcm;have HR:=Lib.hid hr
 have HS:Hid (LsR w b [] [] [] b (.slice none 0 0) w):=Lib.hid ⟨rfl,by simp,rfl,World.ownsRow_nil _ _ _ _,Below.refl _ _,Nat.le_refl _⟩
 clear hn hcap hcm hr
 go_enter Tryz.func33,Tryz.ntmps33
 go_wp2
 go_loopw [3,4,9] (fun d f i wr=>∃l p q r,LsR w b l p q r d wr∧f=.int .i64 (p.length:Nat)∧i=.int .i64 ((p++q).length:Nat)) (fun _ _ i _=>b.length-(intOf i).toNat)
 case atStart=>exact ⟨[],[],[],b,HS.out,rfl,rfl⟩
 case round =>
  obtain ⟨l,p,q,r,hl,rfl,rfl⟩:=hrel
  have HL:=Lib.hid hl
  have hlen:=congrArg List.length hl.text
  rw [←List.append_assoc,List.length_append] at hlen
  have hkb:((p++q).length:Int)≤1048576:=by have:=HN.out;omega
  have hpb:(p.length:Int)≤((p++q).length:Int):=by simp;omega
  clear hl HS
  match r with
  | c :: r =>
   have hlt:(p++q).length<b.length:=by simp only [List.length_cons] at hlen;omega
   rcases HR.out with ⟨h0,_⟩ | ⟨_,g,off,rfl,hg,hrg⟩
   ·omega
   have hb:b[(p++q).length]?=some c:=by rw [HL.out.text,←List.append_assoc];simp
   have hcell:wr.cell? ⟨g,off+(p++q).length,none⟩=some (.int .u8 c.toNat):=rangeAt_below HL.out.bel hg hrg _ _ (by simp only [Lib.byteCells,List.getElem?_map,hb];rfl)
   have hpq:p.length≤(p++q).length:=by simp
   have HPL:Hid (p.length+q.length=(p++q).length):=Lib.hid (by simp)
   obtain ⟨K,hK⟩:∃K,K=(p++q).length:=⟨_,rfl⟩
   rw [←hK] at hlt hcell hkb hpb hpq HPL ⊢
   have t0:decide ((K:Int)<(b.length:Int))=true:=by simp only [decide_eq_true_eq];omega
   have HKB:Hid (K<b.length):=Lib.hid hlt
   by_cases e10:c=10
   ·subst e10
    have HQ:Hid ((b.drop p.length).take q.length=q):=Lib.hid (by rw [HL.out.text];simp)
    have hcK:K≤cv:=by have:=HCAP.out;omega
    have hpc:¬cv-p.length=0:=by have:=HCAP.out;omega
    have hpc2:¬p.length=cv:=by have:=HCAP.out;omega
    have hpc3:¬cv=p.length:=by have:=HCAP.out;omega
    have hcv:=conv_piece (rangeAt_below HL.out.bel hg hrg) HCAP.out HCM.out (Nat.lt_of_lt_of_le hg HL.out.bel.size) HQ.out (by have:=HPL.out;omega) (show K-p.length=q.length by have:=HPL.out;omega) _ rfl _ rfl
    have HLB:Hid (l.length≤2097152):=Lib.hid (by have:=HL.out.len;have:=HN.out;omega)
    have HP8:Hid (K+1=(p++(q++[10])).length):=Lib.hid (by simp;have:=HPL.out;omega)
    clear hb hK hlen
    go_wp2_with (at_builtin;refine wpl_append_ln rfl _ _ rfl w.heap.size l _ rfl (HL.out.own.alloc _) wr.heap.size q (0,0) rfl (heap_alloc_at _ _) HLB.out (by have:=HL.out.bel.size;simp;omega) ?_;intro v' w4 hown hgr;have HX:=Lib.hid (HL.out.line hown ((HL.out.bel.alloc HL.out.bel.size _).grown hgr (by have:=HL.out.bel.size;simp;omega) (fun k hk=>(own_lt HL.out.own k hk).1)));clear hown hgr)
    refine ⟨⟨l++[q],p++(q++[10]),[],r,HX.out,?_,?_⟩,?_⟩
    ·rw [←HP8.out];go_num
    ·rw [List.append_nil,←HP8.out];go_num
    ·have:=HKB.out
     simp [intOf]
     omega
   ·have t10:((c.toNat:Int)==10)=false:=u8ne c 10 e10
    have HKK:=Lib.hid hK
    clear hb hlen hK
    go_wp2
    refine ⟨⟨l,p,q++[c],r,HL.out.more e10,rfl,?_⟩,?_⟩
    ·rw [←List.append_assoc,List.length_append,←HKK.out];go_num
    ·have:=HKB.out
     simp [intOf]
     omega
  | [] =>
   have hKe:(p++q).length=b.length:=by simpa using hlen.symm
   rw [hKe]
   have t0:decide ((b.length:Int)<(b.length:Int))=false:=by simp
   have HE:Hid (sp.linesS b=l++sp.linesS q):=Lib.hid (by have:=HL.out.eq;rwa [List.append_nil] at this)
   have hpl:p.length+q.length=b.length:=by rw [←hKe];simp
   have HPL:=Lib.hid hpl
   by_cases h0:q = []
   ·subst h0
    have hpe:p.length=b.length:=by simpa using hpl
    have HE2:Hid (sp.linesS b=l):=Lib.hid (by rw [HE.out,sp.lines_nil,List.append_nil])
    rw [hpe]
    clear hpl hKe hlen hpe
    go_wp2
    go_ret
    refine ⟨_,rfl,?_,HL.out.bel⟩
    rw [HE2.out]
    exact rowAt_ownS HL.out.own
   ·have hq0:0<q.length:=List.length_pos_iff.2 h0
    have hplt:p.length<b.length:=by omega
    rcases HR.out with ⟨h1,_⟩ | ⟨_,g,off,rfl,hg,hrg⟩
    ·omega
    have HE2:Hid (sp.linesS b=l++[q]):=Lib.hid (by rw [HE.out,sp.lines_last HL.out.free h0])
    have t1:decide ((p.length:Int)<(b.length:Int))=true:=by simp only [decide_eq_true_eq];omega
    have HQ:Hid ((b.drop p.length).take q.length=q):=Lib.hid (by rw [HL.out.text];simp)
    have hcK:b.length≤cv:=HCAP.out
    have hpc:¬cv-p.length=0:=by have:=HCAP.out;omega
    have hpc2:¬p.length=cv:=by have:=HCAP.out;omega
    have hpc3:¬cv=p.length:=by have:=HCAP.out;omega
    have hple:p.length≤b.length:=by omega
    have hpi:(p.length:Int)≤(b.length:Int):=by omega
    have hnb:(b.length:Int)≤1048576:=by have:=HN.out;omega
    have hcv:=conv_piece (rangeAt_below HL.out.bel hg hrg) HCAP.out HCM.out (Nat.lt_of_lt_of_le hg HL.out.bel.size) HQ.out (by have:=HPL.out;omega) (show b.length-p.length=q.length by have:=HPL.out;omega) _ rfl _ rfl
    have HLB:Hid (l.length≤2097152):=Lib.hid (by have:=HL.out.len;have:=HN.out;omega)
    clear hpl hKe hlen hq0 h0
    go_wp2_with (at_builtin;refine wpl_append_ln rfl _ _ rfl w.heap.size l _ rfl (HL.out.own.alloc _) wr.heap.size q (0,0) rfl (heap_alloc_at _ _) HLB.out (by have:=HL.out.bel.size;simp;omega) ?_;intro v' w4 hown hgr;have HO:=Lib.hid hown;have HB4:=Lib.hid ((HL.out.bel.alloc HL.out.bel.size _).grown hgr (by have:=HL.out.bel.size;simp;omega) (fun k hk=>(own_lt HL.out.own k hk).1));clear hown hgr)
    go_ret
    refine ⟨_,rfl,?_,HB4.out⟩
    rw [HE2.out]
    exact rowAt_ownS HO.out
def rhexV (c:UInt8):Value:=match sp.hexv c with
 | some k=>.tuple #[.int .u8 k,.bool true]
 | none=>.tuple #[.int .u8 0,.bool false]
set_option maxRecDepth 100000 in
set_option maxHeartbeats 1000000 in
theorem rhex_any (c:UInt8) (w:World):Calls Tryz.prog 95 #[.int .u8 c.toNat] w fun e w'=>e=.returned (rhexV c)∧w'=w:=by
 have hc:=c.toNat_lt
 by_cases h1:48≤c.toNat∧c.toNat≤57
 ·have t1:decide ((c.toNat:Int)≥48)=true:=by simp;omega
  have t2:decide ((c.toNat:Int)≤57)=true:=by simp;omega
  have HX:=Lib.hid (hexv_dig h1)
  have hv:((c.toNat:Int)-48)=((c.toNat-48:Nat):Int):=by omega
  clear h1
  go_enter Tryz.func95,Tryz.ntmps95
  go_wp2
  go_ret2
  exact ⟨by unfold rhexV;rw [HX.out];rfl,rfl⟩
 ·by_cases h2:97≤c.toNat∧c.toNat≤102
  ·have t1:decide ((c.toNat:Int)≥48)=true:=by simp;omega
   have t2:decide ((c.toNat:Int)≤57)=false:=by simp;omega
   have t3:decide ((c.toNat:Int)≥97)=true:=by simp;omega
   have t4:decide ((c.toNat:Int)≤102)=true:=by simp;omega
   have HX:=Lib.hid (hexv_let h1 h2)
   have hv:((c.toNat:Int)-97)=((c.toNat-97:Nat):Int):=by omega
   have hv2:(((c.toNat-97:Nat):Int)+10)=((c.toNat-87:Nat):Int):=by omega
   clear h1 h2
   go_enter Tryz.func95,Tryz.ntmps95
   go_wp2
   go_ret2
   exact ⟨by unfold rhexV;rw [HX.out];rfl,rfl⟩
  ·have HX:=Lib.hid (hexv_non h1 h2)
   have fin:Ending.returned (.tuple #[.int .u8 0,.bool false])=.returned (rhexV c):=by unfold rhexV;rw [HX.out]
   have FIN:=Lib.hid fin
   clear fin
   by_cases q1:48≤c.toNat
   ·have t1:decide ((c.toNat:Int)≥48)=true:=by simp;omega
    have t2:decide ((c.toNat:Int)≤57)=false:=by simp;omega
    by_cases q2:97≤c.toNat
    ·have t3:decide ((c.toNat:Int)≥97)=true:=by simp;omega
     have t4:decide ((c.toNat:Int)≤102)=false:=by simp;omega
     clear h1 h2 q1 q2
     go_enter Tryz.func95,Tryz.ntmps95
     go_wp2
     go_ret2
     exact ⟨FIN.out,rfl⟩
    ·have t3:decide ((c.toNat:Int)≥97)=false:=by simp;omega
     clear h1 h2 q1 q2
     go_enter Tryz.func95,Tryz.ntmps95
     go_wp2
     go_ret2
     exact ⟨FIN.out,rfl⟩
   ·have t1:decide ((c.toNat:Int)≥48)=false:=by simp;omega
    have t3:decide ((c.toNat:Int)≥97)=false:=by simp;omega
    clear h1 h2 q1
    go_enter Tryz.func95,Tryz.ntmps95
    go_wp2
    go_ret2
    exact ⟨FIN.out,rfl⟩
def rquoteV (n:Nat) (r:List UInt8):Value:=match sp.qread r with
 | some (t,u)=>.tuple #[.string (bstr t),.int .i64 (n-u.length:Nat),.bool true]
 | none=>.tuple #[.string ⟨#[]⟩,.int .i64 0,.bool false]
structure OutR (w:World) (t:List UInt8) (d:Value) (wr:World):Prop where
 own:wr.ownsRow w.heap.size 5 1 d t.length (Lib.byteCells t)
 bel:Below w.heap.size w wr
theorem OutR.app {w wr w':World} {t:List UInt8} {d v':Value} {c:UInt8} {o:Obj} (h:OutR w t d wr) (hown:w'.ownsRow w.heap.size 5 1 v' (t++[c]).length (Lib.byteCells (t++[c]))) (hg:(wr.alloc o).grownBy w' d.ownBlock):OutR w (t++[c]) v' w' :=
 ⟨hown,(h.bel.alloc h.bel.size o).grown hg (by have:=h.bel.size;simp;omega) fun k hk=>by have:=h.own.lt k hk;omega⟩
theorem bstr_idx {S p r:List UInt8} {c:UInt8} (h:S=p++c :: r):∀q,(bstr S)[p.length]'q=c:=fun q=>by
 have:(bstr S).data.toList=p++c :: r:=by rw [bstr_toList,h]
 exact line_at this q
set_option maxRecDepth 100000 in
set_option maxHeartbeats 8000000 in
theorem rquote_any (S p r:List UInt8) (w:World) (hS:S=p++34 :: r) (hn:S.length≤1099511627776):Calls Tryz.prog 63 #[.string (bstr S),.int .i64 p.length] w fun e w'=>e=.returned (rquoteV S.length r)∧Below w.heap.size w w':=by
 have HO:Hid (OutR w [] (.slice none 0 0) w):=Lib.hid ⟨World.ownsRow_nil _ _ _ _,Below.refl _ _⟩
 have hlen:=congrArg List.length hS
 simp only [List.length_append,List.length_cons] at hlen
 have hp:(p.length:Int)≤1099511627776:=by omega
 have HS:=Lib.hid hS;have HN:=Lib.hid hn;have HLEN:=Lib.hid hlen
 have hsz:=bstr_size S
 clear hS hlen hn
 go_enter Tryz.func63,Tryz.ntmps63
 go_wp2
 go_loopw [1,7] (fun i d wr=>∃p1 r1 t1,S=p1++r1∧i=.int .i64 (p1.length:Nat)∧OutR w t1 d wr∧(sp.qread r=(sp.qread r1).map fun q=>(t1++q.1,q.2))∧t1.length+r1.length≤S.length) (fun i _ _=>S.length-(intOf i).toNat)
 case atStart=>exact ⟨p++[34],r,[],by rw [HS.out];simp,by simp,HO.out,by cases sp.qread r<;>simp,by have:=HLEN.out;simp;omega⟩
 case round =>
  obtain ⟨p1,r1,t1,hS1,rfl,ho,hq,htl⟩:=hrel
  have HTL:=Lib.hid htl
  clear htl
  have HO1:=Lib.hid ho;have HQ:=Lib.hid hq;have HS1:=Lib.hid hS1
  have hl1:=congrArg List.length hS1
  rw [List.length_append] at hl1
  have hp1:(p1.length:Int)≤1099511627776:=by have:=HN.out;omega
  clear ho hq hS1 HO
  match r1 with
  | [] =>
   have t0:decide ((p1.length:Int)<(S.length:Int))=false:=by simp at hl1;simp;omega
   have HF:Hid (rquoteV S.length r=.tuple #[.string ⟨#[]⟩,.int .i64 0,.bool false]):=Lib.hid (by unfold rquoteV;rw [HQ.out,sp.qread_nil];rfl)
   go_wp2
   go_ret3
   exact ⟨by rw [HF.out];rfl,HO1.out.bel⟩
  | c :: r2 =>
   have t0:decide ((p1.length:Int)<(S.length:Int))=true:=by simp at hl1;simp;omega
   have hlt:p1.length<S.length:=by simp at hl1;omega
   have ei:=bstr_idx HS1.out
   by_cases e34:c=34
   ·subst e34
    have hcv:=conv_own HO1.out.own
    have HF:Hid (rquoteV S.length r=.tuple #[.string (bstr t1),.int .i64 ((p1.length:Int)+1),.bool true]):=Lib.hid (by
     unfold rquoteV
     rw [HQ.out,sp.qread_end]
     simp only [List.length_cons] at hl1
     simp
     omega)
    go_wp2
    go_ret3
    exact ⟨by rw [HF.out];rfl,HO1.out.bel⟩
   ·have t34:((c.toNat:Int)==34)=false:=u8ne c 34 e34
    by_cases e92:c=92
    ·subst e92
     match r2 with
     | [] =>
      have HE:Hid (escS []=none):=Lib.hid rfl
      have t1':decide ((S.length:Int)≤(p1.length:Int)+1)=true:=by simp at hl1;simp;omega
      have HF:Hid (rquoteV S.length r=.tuple #[.string ⟨#[]⟩,.int .i64 0,.bool false]):=Lib.hid (by unfold rquoteV;rw [HQ.out,qread_esc,HE.out];rfl)
      go_wp2
      go_ret3
      exact ⟨by rw [HF.out];rfl,HO1.out.bel⟩
     | d :: r3 =>
      have HS2:Hid (S=(p1++[92])++d :: r3):=Lib.hid (by rw [HS1.out];simp)
      have ei2:∀q,(bstr S)[p1.length+1]'q=d:=by have:=bstr_idx HS2.out;simpa using this
      have t1':decide ((S.length:Int)≤(p1.length:Int)+1)=false:=by simp at hl1;simp;omega
      have hlt2:p1.length+1<S.length:=by simp at hl1;omega
      by_cases h1:d=92∨d=34
      ·have HE:Hid (escS (d :: r3)=some (d,r3)):=Lib.hid (by simp only [escS,if_pos h1])
       have HQ2:Hid (sp.qread r=(sp.qread r3).map fun q=>((t1++[d])++q.1,q.2)):=Lib.hid (by
        rw [HQ.out,qread_esc,HE.out]
        show Option.map _ (Option.map _ (sp.qread r3))=_
        rw [Option.map_map]
        congr 1
        funext q
        simp)
       rcases h1 with rfl | rfl
       ·go_wp2_with (at_builtin;refine wpl_append_bytes rfl _ _ rfl w.heap.size t1 _ rfl (HO1.out.own.alloc _) wr.heap.size 1 [92] _ (0,0) rfl rfl rfl (heap_alloc_at _ _) (by have:=HTL.out;have:=HN.out;omega) (by have:=HO1.out.bel.size;simp;omega) ?_;intro v' w4 hown hg _ _;have HO2:=Lib.hid (HO1.out.app hown hg);clear hown hg)
        refine ⟨⟨p1++[92,92],r3,t1++[92],by rw [HS1.out,List.append_assoc];rfl,by simp<;>omega,HO2.out,HQ2.out,by have:=HTL.out;simp at this ⊢; omega⟩,?_⟩
        simp [intOf]
        omega
       ·go_wp2_with (at_builtin;refine wpl_append_bytes rfl _ _ rfl w.heap.size t1 _ rfl (HO1.out.own.alloc _) wr.heap.size 1 [34] _ (0,0) rfl rfl rfl (heap_alloc_at _ _) (by have:=HTL.out;have:=HN.out;omega) (by have:=HO1.out.bel.size;simp;omega) ?_;intro v' w4 hown hg _ _;have HO2:=Lib.hid (HO1.out.app hown hg);clear hown hg)
        refine ⟨⟨p1++[92,34],r3,t1++[34],by rw [HS1.out,List.append_assoc];rfl,by simp<;>omega,HO2.out,HQ2.out,by have:=HTL.out;simp at this ⊢; omega⟩,?_⟩
        simp [intOf]
        omega
      ·have u1:((d.toNat:Int)==92)=false:=u8ne d 92 (fun e=>h1 (Or.inl e))
       have u2:((d.toNat:Int)==34)=false:=u8ne d 34 (fun e=>h1 (Or.inr e))
       by_cases h2:d=110
       ·have HE:Hid (escS (d :: r3)=some (10,r3)):=Lib.hid (by simp only [escS,if_neg h1,if_pos h2])
        have HQ2:Hid (sp.qread r=(sp.qread r3).map fun q=>((t1++[10])++q.1,q.2)):=Lib.hid (by
         rw [HQ.out,qread_esc,HE.out]
         show Option.map _ (Option.map _ (sp.qread r3))=_
         rw [Option.map_map]
         congr 1
         funext q
         simp)
        subst h2
        go_wp2_with (at_builtin;refine wpl_append_bytes rfl _ _ rfl w.heap.size t1 _ rfl (HO1.out.own.alloc _) wr.heap.size 1 [10] _ (0,0) rfl rfl rfl (heap_alloc_at _ _) (by have:=HTL.out;have:=HN.out;omega) (by have:=HO1.out.bel.size;simp;omega) ?_;intro v' w4 hown hg _ _;have HO2:=Lib.hid (HO1.out.app hown hg);clear hown hg)
        refine ⟨⟨p1++[92,110],r3,t1++[10],by rw [HS1.out,List.append_assoc];rfl,by simp<;>omega,HO2.out,HQ2.out,by have:=HTL.out;simp at this ⊢; omega⟩,?_⟩
        simp [intOf]
        omega
       ·have u3:((d.toNat:Int)==110)=false:=u8ne d 110 h2
        by_cases h3:d=120
        ·have HX0:Hid (escS (d :: r3)=escX r3):=Lib.hid (by simp only [escS,if_neg h1,if_neg h2,if_pos h3])
         subst h3
         match r3 with
         | [] =>
          have HE:Hid (escS [120]=none):=Lib.hid rfl
          have t2':decide ((S.length:Int)≤(p1.length:Int)+1+2)=true:=by simp at hl1;simp;omega
          have HF:Hid (rquoteV S.length r=.tuple #[.string ⟨#[]⟩,.int .i64 0,.bool false]):=Lib.hid (by unfold rquoteV;rw [HQ.out,qread_esc,HE.out];rfl)
          go_wp2
          go_ret3
          exact ⟨by rw [HF.out];rfl,HO1.out.bel⟩
         | [a] =>
          have HE:Hid (escS [120,a]=none):=Lib.hid rfl
          have t2':decide ((S.length:Int)≤(p1.length:Int)+1+2)=true:=by simp at hl1;simp;omega
          have HF:Hid (rquoteV S.length r=.tuple #[.string ⟨#[]⟩,.int .i64 0,.bool false]):=Lib.hid (by unfold rquoteV;rw [HQ.out,qread_esc,HE.out];rfl)
          go_wp2
          go_ret3
          exact ⟨by rw [HF.out];rfl,HO1.out.bel⟩
         | a :: b :: r4 =>
          have HX1:Hid (escS (120 :: a :: b :: r4)=(sp.hexv a).bind fun x=>(sp.hexv b).map fun y=>(UInt8.ofNat (16*x+y),r4)):=HX0
          clear HX0
          have HS3:Hid (S=(p1++[92,120])++a :: (b :: r4)):=Lib.hid (by rw [HS1.out];simp)
          have HS4:Hid (S=(p1++[92,120,a])++b :: r4):=Lib.hid (by rw [HS1.out];simp)
          have ei3:∀q,(bstr S)[p1.length+1+1]'q=a:=by have:=bstr_idx HS3.out;simpa using this
          have ei4:∀q,(bstr S)[p1.length+1+2]'q=b:=by have:=bstr_idx HS4.out;simpa using this
          have t2':decide ((S.length:Int)≤(p1.length:Int)+1+2)=false:=by simp at hl1;simp;omega
          have hlt3:p1.length+1+1<S.length:=by simp at hl1;omega
          have hlt4:p1.length+1+2<S.length:=by simp at hl1;omega
          have hxa:∀W,Calls Tryz.prog 95 #[.int .u8 a.toNat] W fun e w'=>e=.returned (rhexV a)∧w'=W:=fun W=>rhex_any a W
          have hxb:∀W,Calls Tryz.prog 95 #[.int .u8 b.toNat] W fun e w'=>e=.returned (rhexV b)∧w'=W:=fun W=>rhex_any b W
          cases ha:sp.hexv a with
          | none =>
           have HE:Hid (escS (120 :: a :: b :: r4)=none):=Lib.hid (by rw [HX1.out,ha];rfl)
           have va:rhexV a=.tuple #[.int .u8 0,.bool false]:=by unfold rhexV;rw [ha]
           rw [va] at hxa
           obtain ⟨kb,ob,vb⟩:∃(k:Int) (o:Bool),rhexV b=.tuple #[.int .u8 k,.bool o]:=by unfold rhexV;cases sp.hexv b<;>exact ⟨_,_,rfl⟩
           rw [vb] at hxb
           have HXA:=Lib.hid hxa;have HXB:=Lib.hid hxb
           clear hxa hxb va vb ha
           have HF:Hid (rquoteV S.length r=.tuple #[.string ⟨#[]⟩,.int .i64 0,.bool false]):=Lib.hid (by unfold rquoteV;rw [HQ.out,qread_esc,HE.out];rfl)
           go_wp2_with (first
            | (have hgd:=HXA;clear hgd;go_at_call 95;refine (HXA.out _).mono ?_;rintro e w2 ⟨rfl,rfl⟩;clear HXA)
            | (go_at_call 95;refine (HXB.out _).mono ?_;rintro e w2 ⟨rfl,rfl⟩))
           go_ret3
           exact ⟨by rw [HF.out];rfl,HO1.out.bel⟩
          | some ka =>
           have va:rhexV a=.tuple #[.int .u8 ka,.bool true]:=by unfold rhexV;rw [ha]
           rw [va] at hxa
           cases hb:sp.hexv b with
           | none =>
            have HE:Hid (escS (120 :: a :: b :: r4)=none):=Lib.hid (by rw [HX1.out,ha,hb];rfl)
            have vb:rhexV b=.tuple #[.int .u8 0,.bool false]:=by unfold rhexV;rw [hb]
            rw [vb] at hxb
            have HXA:=Lib.hid hxa;have HXB:=Lib.hid hxb
            clear hxa hxb va vb ha hb
            have HF:Hid (rquoteV S.length r=.tuple #[.string ⟨#[]⟩,.int .i64 0,.bool false]):=Lib.hid (by unfold rquoteV;rw [HQ.out,qread_esc,HE.out];rfl)
            go_wp2_with (first
             | (have hgd:=HXA;clear hgd;go_at_call 95;refine (HXA.out _).mono ?_;rintro e w2 ⟨rfl,rfl⟩;clear HXA)
             | (go_at_call 95;refine (HXB.out _).mono ?_;rintro e w2 ⟨rfl,rfl⟩))
            go_ret3
            exact ⟨by rw [HF.out];rfl,HO1.out.bel⟩
           | some kb =>
            have HE:Hid (escS (120 :: a :: b :: r4)=some (UInt8.ofNat (16*ka+kb),r4)):=Lib.hid (by rw [HX1.out,ha,hb];rfl)
            have vb:rhexV b=.tuple #[.int .u8 kb,.bool true]:=by unfold rhexV;rw [hb]
            rw [vb] at hxb
            have HXA:=Lib.hid hxa;have HXB:=Lib.hid hxb
            have hor:=or_hex ha hb
            have HQ2:Hid (sp.qread r=(sp.qread r4).map fun q=>((t1++[UInt8.ofNat (16*ka+kb)])++q.1,q.2)):=Lib.hid (by
             rw [HQ.out,qread_esc,HE.out]
             show Option.map _ (Option.map _ (sp.qread r4))=_
             rw [Option.map_map]
             congr 1
             funext q
             simp)
            generalize UInt8.ofNat (16*ka+kb)=D at hor HQ2
            clear hxa hxb va vb ha hb HX1 HE
            go_wp2_with (first
             | (have hgd:=HXA;clear hgd;go_at_call 95;refine (HXA.out _).mono ?_;rintro e w2 ⟨rfl,rfl⟩;clear HXA)
             | (go_at_call 95;refine (HXB.out _).mono ?_;rintro e w2 ⟨rfl,rfl⟩)
             | (at_builtin;refine wpl_append_bytes rfl _ _ rfl w.heap.size t1 _ rfl (HO1.out.own.alloc _) _ 1 [D] _ (0,0) rfl rfl rfl (heap_alloc_at _ _) (by have:=HTL.out;have:=HN.out;omega) (by have:=HO1.out.bel.size;simp;omega) ?_;intro v' w4 hown hg _ _;have HO2:=Lib.hid (HO1.out.app hown hg);clear hown hg))
            refine ⟨⟨p1++[92,120,a,b],r4,t1++[D],by rw [HS1.out,List.append_assoc];rfl,by simp<;>omega,HO2.out,HQ2.out,by have:=HTL.out;simp at this ⊢; omega⟩,?_⟩
            simp [intOf]
            omega
        ·have u4:((d.toNat:Int)==120)=false:=u8ne d 120 h3
         have HE:Hid (escS (d :: r3)=none):=Lib.hid (by simp only [escS,if_neg h1,if_neg h2,if_neg h3])
         clear h1 h2 h3
         have HF:Hid (rquoteV S.length r=.tuple #[.string ⟨#[]⟩,.int .i64 0,.bool false]):=Lib.hid (by unfold rquoteV;rw [HQ.out,qread_esc,HE.out];rfl)
         go_wp2
         go_ret3
         exact ⟨by rw [HF.out];rfl,HO1.out.bel⟩
    ·have t92:((c.toNat:Int)==92)=false:=u8ne c 92 e92
     have HQ2:Hid (sp.qread r=(sp.qread r2).map fun q=>((t1++[c])++q.1,q.2)):=Lib.hid (by
      rw [HQ.out,sp.qread_plain e34 e92,Option.map_map]
      congr 1
      funext q
      simp)
     clear e34 e92
     go_wp2_with (at_builtin;refine wpl_append_bytes rfl _ _ rfl w.heap.size t1 _ rfl (HO1.out.own.alloc _) wr.heap.size 1 [c] _ (0,0) rfl rfl rfl (heap_alloc_at _ _) (by have:=HTL.out;have:=HN.out;omega) (by have:=HO1.out.bel.size;simp;omega) ?_;intro v' w4 hown hg _ _;have HO2:=Lib.hid (HO1.out.app hown hg);clear hown hg)
     refine ⟨⟨p1++[c],r2,t1++[c],by rw [HS1.out,List.append_assoc];rfl,by simp,HO2.out,HQ2.out,by have:=HTL.out;simp at this ⊢; omega⟩,?_⟩
     simp [intOf]
     omega
def RWordsIs (w w':World) (S:List UInt8) (e:Ending):Prop:=match sp.words S with
 | some l=>∃v,e=.returned (.tuple #[v,.bool true])∧w'.ownsRow w.heap.size 110 2 v l.length (wdCells l)
 | none=>e=.returned (.tuple #[.slice none 0 0,.bool false])
theorem ownsRow_bel {w w':World} {base:Nat} {e:TypeId} {k n:Nat} {v:Value} {xs:List Value} (h:w.ownsRow base e k v n xs) (hb:Below w.heap.size w w'):w'.ownsRow base e k v n xs:=by
 obtain ⟨hl,h5⟩:=h
 refine ⟨hl,h5.imp id fun ⟨g,cap,cur,y1,y2,y3,y4⟩=>⟨g,cap,cur,y1,y2,(hb.block g (lt_of_block y3)).trans y3,y4⟩⟩
structure RW (w:World) (S:List UInt8) (l:List (List UInt8×Bool)) (v:Value) (p r:List UInt8) (wr:World):Prop where
 text:S=p++r
 own:wr.ownsRow w.heap.size 110 2 v l.length (wdCells l)
 bel:Below w.heap.size w wr
 eq:sp.words S=(sp.words r).map fun m=>l++m
 len:l.length+r.length≤S.length
section
variable {w wr w':World} {S p r p' r':List UInt8} {l:List (List UInt8×Bool)} {v v':Value} {x:List UInt8×Bool} {o:Obj}
theorem RW.lay (h:RW w S l v p r wr) (hown:w'.ownsRow w.heap.size 110 2 v' (l++[x]).length (wdCells (l++[x]))) (hg:(wr.alloc o).grownBy w' v.ownBlock) (ht:S=p'++r') (he:sp.words r=(sp.words r').map fun m=>x :: m) (hn:r'.length<r.length):RW w S (l++[x]) v' p' r' w' :=
 ⟨ht,hown,(h.bel.alloc h.bel.size o).grown hg (by have:=h.bel.size;simp;omega) fun k hk=>by have:=h.own.lt k hk;omega,by rw [h.eq,he,Option.map_map];congr 1;funext m;simp,by have:=h.len;rw [List.length_append];simp only [List.length_cons,List.length_nil];omega⟩
end
set_option maxRecDepth 100000 in
set_option maxHeartbeats 8000000 in
theorem rwords_any (S:List UInt8) (w:World) (hn:S.length≤1099511627776):Calls Tryz.prog 29 #[.string (bstr S)] w fun e w'=>RWordsIs w w' S e∧Below w.heap.size w w':=by
 have HR:Hid (RW w S [] (.slice none 0 0) [] S w):=Lib.hid ⟨rfl,World.ownsRow_nil _ _ _ _,Below.refl _ _,by cases sp.words S<;>simp,by simp⟩
 have HN:=Lib.hid hn
 have hsz:=bstr_size S
 clear hn
 go_enter Tryz.func29,Tryz.ntmps29
 go_wp2
 go_loopw [4,5] (fun v i wr=>∃l p r,RW w S l v p r wr∧i=.int .i64 (p.length:Nat)) (fun _ i _=>S.length-(intOf i).toNat)
 case atStart=>exact ⟨[],[],S,HR.out,rfl⟩
 case round =>
  obtain ⟨l,p,r,hr,rfl⟩:=hrel
  have HR1:=Lib.hid hr
  have hl1:=congrArg List.length hr.text
  rw [List.length_append] at hl1
  have hp1:(p.length:Int)≤1099511627776:=by have:=HN.out;omega
  have HL1:=Lib.hid hl1
  clear hr HR hl1
  match r with
  | [] =>
   have t0:decide ((p.length:Int)<(S.length:Int))=false:=by have hl1:=HL1.out;simp at hl1;simp;omega
   have hnlt:¬p.length<S.length:=by have hl1:=HL1.out;simp at hl1;omega
   have HF:Hid (sp.words S=some l):=Lib.hid (by rw [HR1.out.eq,sp.words_nil];simp)
   go_wp2
   go_ret2
   exact ⟨by unfold RWordsIs;rw [HF.out];exact ⟨_,rfl,HR1.out.own⟩,HR1.out.bel⟩
  | c :: r2 =>
   have t0:decide ((p.length:Int)<(S.length:Int))=true:=by have hl1:=HL1.out;simp at hl1;simp;omega
   have hlt:p.length<S.length:=by have hl1:=HL1.out;simp at hl1;omega
   have ei:=bstr_idx HR1.out.text
   by_cases e32:c=32
   ·subst e32
    go_wp2
    refine ⟨⟨l,p++[32],r2,⟨by rw [HR1.out.text,List.append_assoc];rfl,HR1.out.own,HR1.out.bel,by rw [HR1.out.eq,sp.words_space],by have:=HR1.out.len;simp at this ⊢; omega⟩,by simp⟩,?_⟩
    simp [intOf]
    omega
   ·have t32:((c.toNat:Int)==32)=false:=u8ne c 32 e32
    by_cases e34:c=34
    ·subst e34
     have HQ:=Lib.hid (fun W=>rquote_any S p r2 W HR1.out.text HN.out)
     cases hq:sp.qread r2 with
     | none =>
      have hv:rquoteV S.length r2=.tuple #[.string ⟨#[]⟩,.int .i64 0,.bool false]:=by unfold rquoteV;rw [hq]
      rw [hv] at HQ
      have HF:Hid (sp.words S=none):=Lib.hid (by rw [HR1.out.eq,words_q_none hq];rfl)
      clear hv hq
      go_wp2_with (go_at_call 63;refine (HQ.out _).mono ?_;rintro e w2 ⟨rfl,hb2⟩)
      go_ret2
      exact ⟨by unfold RWordsIs;rw [HF.out];rfl,HR1.out.bel.trans (hb2.mono HR1.out.bel.size)⟩
     | some q =>
      obtain ⟨t,u⟩:=q
      obtain ⟨pre,hpre⟩:=qread_suffix _ r2 (Nat.le_refl _) t u hq
      have hql:=qread_len _ r2 (Nat.le_refl _) t u hq
      have hlu:u.length≤S.length:=by have hl1:=HL1.out;simp at hl1;omega
      have hv:rquoteV S.length r2=.tuple #[.string (bstr t),.int .i64 (S.length-u.length:Nat),.bool true]:=by unfold rquoteV;rw [hq]
      rw [hv] at HQ
      have HQL:=Lib.hid hql
      have HT:Hid (S=(p++34 :: pre)++u):=Lib.hid (by rw [HR1.out.text,hpre];simp)
      have hpl:(p++34 :: pre).length=S.length-u.length:=by have:=congrArg List.length HT.out;rw [List.length_append] at this;omega
      have HPL:=Lib.hid hpl
      obtain ⟨E,hE⟩:∃E,E=S.length-u.length:=⟨_,rfl⟩
      rw [←hE] at HQ HPL
      have HE:=Lib.hid hE
      have HEQ:=Lib.hid (words_q_some hq)
      have HLU:=Lib.hid hlu
      clear hv hq hpre hql hpl hE hlu
      match u with
      | [] =>
       have hnE:¬E<S.length:=by have hE:=HE.out;simp at hE;omega
       have t1':decide ((E:Int)<(S.length:Int))=false:=by have hE:=HE.out;simp at hE;simp;omega
       have HW:Hid (sp.words (34 :: r2)=(sp.words []).map fun m=>(t,true) :: m):=Lib.hid (by rw [HEQ.out];simp)
       go_wp2_with (first
        | (go_at_call 63;refine (HQ.out _).mono ?_;rintro e w2 ⟨rfl,hb2⟩;have HR2:Hid (RW w S l u4 p (34 :: r2) w2):=Lib.hid ⟨HR1.out.text,ownsRow_bel HR1.out.own hb2,HR1.out.bel.trans (hb2.mono HR1.out.bel.size),HR1.out.eq,HR1.out.len⟩;clear hb2)
        | (at_builtin;refine wpl_append_wd wt73 rfl _ _ rfl w.heap.size l _ rfl (HR2.out.own.alloc _) _ (t,true) (0,0) rfl (heap_alloc_at _ _) (by have:=HR1.out.len;have:=HN.out;omega) (by have:=HR2.out.bel.size;simp;omega) ?_;intro v' w4 hown hg _;have HO:=Lib.hid hown;have HG:=Lib.hid hg;clear hown hg))
       refine ⟨⟨_,p++34 :: pre,[],HR2.out.lay HO.out HG.out HT.out HW.out (by simp),by rw [HPL.out]⟩,?_⟩
       simp [intOf]
       have:=HPL.out
       simp at this
       omega
      | c4 :: u2 =>
       have hEl:E<S.length:=by have hE:=HE.out;have hlu:=HLU.out;simp at hE;simp at hlu;omega
       have t1':decide ((E:Int)<(S.length:Int))=true:=by simp;omega
       have ei2:∀q,(bstr S)[E]'q=c4:=by have:=bstr_idx HT.out;rw [HPL.out] at this;exact this
       by_cases e4:c4=32
       ·subst e4
        have HW:Hid (sp.words (34 :: r2)=(sp.words (32 :: u2)).map fun m=>(t,true) :: m):=Lib.hid (by rw [HEQ.out];simp)
        go_wp2_with (first
         | (go_at_call 63;refine (HQ.out _).mono ?_;rintro e w2 ⟨rfl,hb2⟩;have HR2:Hid (RW w S l u4 p (34 :: r2) w2):=Lib.hid ⟨HR1.out.text,ownsRow_bel HR1.out.own hb2,HR1.out.bel.trans (hb2.mono HR1.out.bel.size),HR1.out.eq,HR1.out.len⟩;clear hb2)
         | (at_builtin;refine wpl_append_wd wt73 rfl _ _ rfl w.heap.size l _ rfl (HR2.out.own.alloc _) _ (t,true) (0,0) rfl (heap_alloc_at _ _) (by have:=HR1.out.len;have:=HN.out;omega) (by have:=HR2.out.bel.size;simp;omega) ?_;intro v' w4 hown hg _;have HO:=Lib.hid hown;have HG:=Lib.hid hg;clear hown hg))
        refine ⟨⟨_,p++34 :: pre,32 :: u2,HR2.out.lay HO.out HG.out HT.out HW.out (by have:=HQL.out;simp at this ⊢; omega),by rw [HPL.out]⟩,?_⟩
        simp [intOf]
        have:=HPL.out
        simp at this
        omega
       ·have t4:((c4.toNat:Int)==32)=false:=u8ne c4 32 e4
        have HF:Hid (sp.words S=none):=Lib.hid (by rw [HR1.out.eq,HEQ.out,if_neg (by simp [e4])];rfl)
        clear e4
        go_wp2_with (go_at_call 63;refine (HQ.out _).mono ?_;rintro e w2 ⟨rfl,hb2⟩)
        go_ret2
        exact ⟨by unfold RWordsIs;rw [HF.out];rfl,HR1.out.bel.trans (hb2.mono HR1.out.bel.size)⟩
    ·have t34:((c.toNat:Int)==34)=false:=u8ne c 34 e34
     have HC:=Lib.hid (And.intro e32 e34)
     clear e32 e34
     have HPX:Hid (S=p++(c :: r2)):=Lib.hid HR1.out.text
     have hE:∀t1 r1:List UInt8,c :: r2=t1++r1→p.length+t1.length+r1.length=S.length:=fun t1 r1 h=>by
      have e1:=congrArg List.length HPX.out
      have e2:=congrArg List.length h
      rw [List.length_append] at e1 e2
      omega
     have HEE:=Lib.hid hE
     clear hE
     go_wp2
     obtain ⟨wo,hwo⟩:∃wo,wo=wr:=⟨_,rfl⟩
     subst hwo
     go_loopw [9] (fun i w2=>∃t1 r1,c :: r2=t1++r1∧(∀x∈t1,sp.wordB x=true)∧i=.int .i64 (p.length+t1.length:Nat)∧w2=wo) (fun i _=>S.length-(intOf i).toNat)
     case atStart=>exact ⟨[],c :: r2,rfl,fun _ h=>(by cases h),rfl,rfl⟩
     case round =>
      obtain ⟨t1,r1,ht,hall,rfl,rfl⟩:=hrel
      have HT:=Lib.hid ht;have HALL:=Lib.hid hall
      have HSUM:=Lib.hid (HEE.out t1 r1 ht)
      have HPT:Hid (S=(p++t1)++r1):=Lib.hid (by rw [HPX.out,ht,List.append_assoc])
      have hkb:(p.length:Int)+(t1.length:Int)≤1099511627776:=by have:=HN.out;have:=HSUM.out;omega
      clear ht hall
      have HWP:=Lib.hid (words_p (r:=r2) HC.out.1 HC.out.2)
      match r1 with
      | [] =>
       have hnk:¬p.length+t1.length<S.length:=by have hsum:=HSUM.out;simp at hsum;omega
       have hle4:(p.length:Int)+(t1.length:Int)≤(S.length:Int):=by have hsum:=HSUM.out;simp at hsum;omega
       have k0:decide ((p.length:Int)+(t1.length:Int)<(S.length:Int))=false:=by have hsum:=HSUM.out;simp at hsum;simp;omega
       have hex:(bstr S).extract p.length (p.length+t1.length)=bstr t1:=extract_bstr (r:=[]) (by rw [bstr_toList,HPX.out,HT.out])
       have hwl:=while_at (f:=sp.wordB) (t:=t1) (r:=[]) HALL.out (fun _ h=>by cases h)
       rw [←HT.out] at hwl
       have HW:Hid (sp.words (c :: r2)=(sp.words []).map fun m=>(t1,false) :: m):=Lib.hid (by rw [HWP.out,hwl.1,hwl.2,if_neg (by simp)])
       clear hwl
       go_wp2_with (at_builtin;refine wpl_append_wd wt73 rfl _ _ rfl w.heap.size l _ rfl (HR1.out.own.alloc _) _ (t1,false) (0,0) rfl (heap_alloc_at _ _) (by have:=HR1.out.len;have:=HN.out;omega) (by have:=HR1.out.bel.size;simp;omega) ?_;intro v' w4 hown hg _;have HO:=Lib.hid hown;have HG:=Lib.hid hg;clear hown hg)
       refine ⟨⟨_,p++t1,[],HR1.out.lay HO.out HG.out HPT.out HW.out (by simp),by simp⟩,?_⟩
       simp [intOf]
       have hsum:=HSUM.out
       simp at hsum
       omega
      | c4 :: r4 =>
       have k0:decide ((p.length:Int)+(t1.length:Int)<(S.length:Int))=true:=by have hsum:=HSUM.out;simp at hsum;simp;omega
       have hle4:(p.length:Int)+(t1.length:Int)≤(S.length:Int):=by have hsum:=HSUM.out;simp at hsum;omega
       have hklt:p.length+t1.length<S.length:=by have hsum:=HSUM.out;simp at hsum;omega
       have ei2:∀q,(bstr S)[p.length+t1.length]'q=c4:=by have:=bstr_idx HPT.out;simpa using this
       by_cases e4:c4=32
       ·subst e4
        have hex:(bstr S).extract p.length (p.length+t1.length)=bstr t1:=extract_bstr (r:=32 :: r4) (by rw [bstr_toList,HPX.out,HT.out])
        have hwl:=while_at (f:=sp.wordB) (t:=t1) (r:=32 :: r4) HALL.out (fun _ h=>by cases h;rfl)
        rw [←HT.out] at hwl
        have HW:Hid (sp.words (c :: r2)=(sp.words (32 :: r4)).map fun m=>(t1,false) :: m):=Lib.hid (by rw [HWP.out,hwl.1,hwl.2,if_neg (by simp)])
        clear hwl
        have hlt3:(32 :: r4).length<(c :: r2).length:=by
         have h1:=congrArg List.length HT.out
         rw [List.length_append] at h1
         have h0:t1≠[]:=fun e=>by
          have:=HT.out
          rw [e] at this
          cases this
          exact HC.out.1 rfl
         have:=List.length_pos_iff.2 h0
         omega
        have HL3:=Lib.hid hlt3
        clear hlt3
        go_wp2_with (at_builtin;refine wpl_append_wd wt73 rfl _ _ rfl w.heap.size l _ rfl (HR1.out.own.alloc _) _ (t1,false) (0,0) rfl (heap_alloc_at _ _) (by have:=HR1.out.len;have:=HN.out;omega) (by have:=HR1.out.bel.size;simp;omega) ?_;intro v' w4 hown hg _;have HO:=Lib.hid hown;have HG:=Lib.hid hg;clear hown hg)
        refine ⟨⟨_,p++t1,32 :: r4,HR1.out.lay HO.out HG.out HPT.out HW.out HL3.out,by simp⟩,?_⟩
        simp [intOf]
        have:=HL3.out
        have hl1:=HL1.out
        have hsum:=HSUM.out
        simp at hsum this hl1
        omega
       ·have k32:((c4.toNat:Int)==32)=false:=u8ne c4 32 e4
        have k32n:((c4.toNat:Int) != 32)=true:=by rw [bne,k32];rfl
        by_cases e5:c4=34
        ·subst e5
         have hwl:=while_at (f:=sp.wordB) (t:=t1) (r:=34 :: r4) HALL.out (fun _ h=>by cases h;rfl)
         rw [←HT.out] at hwl
         have HF:Hid (sp.words S=none):=Lib.hid (by rw [HR1.out.eq,HWP.out,hwl.2];simp)
         clear hwl
         go_wp2
         go_ret2
         exact ⟨by unfold RWordsIs;rw [HF.out];rfl,HR1.out.bel⟩
        ·have k34:((c4.toNat:Int)==34)=false:=u8ne c4 34 e5
         have hcw:sp.wordB c4=true:=by simp [sp.wordB,e4,e5]
         have HA2:Hid (∀x∈t1++[c4],sp.wordB x=true):=Lib.hid fun x hx=>by
          rcases List.mem_append.1 hx with h | h
          ·exact HALL.out x h
          ·rw [List.mem_singleton] at h;rw [h];exact hcw
         have HT2:Hid (c :: r2=(t1++[c4])++r4):=Lib.hid (by rw [HT.out];simp)
         clear hcw e4 e5
         go_wp2
         refine ⟨⟨t1++[c4],r4,HT2.out,HA2.out,by simp;omega,trivial⟩,?_⟩
         simp [intOf]
         have hsum:=HSUM.out
         simp at hsum
         omega
def rnumV (t:List UInt8):Value:=match sp.num t with
 | some n=>.tuple #[.int .i64 n,.bool true]
 | none=>.tuple #[.int .i64 0,.bool false]
theorem rnum_no {t:List UInt8} (h:bodyOf t = []∨9<(bodyOf t).length∨((bodyOf t).head?=some 48∧t≠[48])):rnumV t=.tuple #[.int .i64 0,.bool false]:=by unfold rnumV;rw [num_body,if_pos h]
theorem rnum_bad {t:List UInt8} (h:¬(bodyOf t).all sp.digitB=true):rnumV t=.tuple #[.int .i64 0,.bool false]:=by
 unfold rnumV
 rw [num_body]
 split
 ·rename_i h2;split at h2
  ·cases h2
  ·first | (rw [if_neg h] at h2;cases h2) | cases h2
 ·rfl
theorem rnum_good {t:List UInt8} (h:¬(bodyOf t = []∨9<(bodyOf t).length∨((bodyOf t).head?=some 48∧t≠[48]))) (ha:(bodyOf t).all sp.digitB=true):rnumV t=.tuple #[.int .i64 (if t.head?=some 45 then -(sp.val 0 (bodyOf t):Int) else (sp.val 0 (bodyOf t):Int)),.bool true]:=by
 unfold rnumV
 rw [num_body,if_neg h,if_pos ha]
set_option maxRecDepth 100000 in
set_option maxHeartbeats 8000000 in
theorem rnumber_any (t:List UInt8) (w:World) (hn:t.length≤1099511627776):Calls Tryz.prog 97 #[.string (bstr t)] w fun e w'=>e=.returned (rnumV t)∧Below w.heap.size w w':=by
 match t with
 | [] =>
  have e1:(bstr []).toList.isEmpty=true:=by rw [Lib.toList_data];rfl
  have HF:=Lib.hid (rnum_no (t:=[]) (Or.inl rfl))
  go_enter Tryz.func97,Tryz.ntmps97
  go_wp2
  go_ret2
  exact ⟨by rw [HF.out];rfl,Below.refl _ _⟩
 | c :: r =>
  have e1:(bstr (c :: r)).toList.isEmpty=false:=by rw [Lib.toList_data,bstr_toList];rfl
  have e0:0<(bstr (c :: r)).size:=by rw [bstr_size];simp
  have ei:∀p,(bstr (c :: r))[0]'p=c:=fun p=>rfl
  have es1:(1:Int)≤(bstr (c :: r)).size:=by rw [bstr_size];simp;omega
  have ex:(bstr (c :: r)).extract 1 (bstr (c :: r)).size=bstr r:=ext_drop (c :: r) 1 _ (by simp) (bstr_size _)
  by_cases h45:c=45
  ·subst h45
   match r with
   | [] =>
    have e2:(bstr []).toList.isEmpty=true:=by rw [Lib.toList_data];rfl
    have HF:=Lib.hid (rnum_no (t:=[45]) (Or.inl rfl))
    go_enter Tryz.func97,Tryz.ntmps97
    go_wp2
    go_ret2
    exact ⟨by rw [HF.out];rfl,Below.refl _ _⟩
   | d :: r2 =>
    have e2:(bstr (d :: r2)).toList.isEmpty=false:=by rw [Lib.toList_data,bstr_toList];rfl
    have g0:0<(bstr (d :: r2)).size:=by rw [bstr_size];simp
    have gi:∀p,(bstr (d :: r2))[0]'p=d:=fun p=>rfl
    have hsz:(bstr (d :: r2)).size=((d :: r2):List UInt8).length:=bstr_size _
    have hbo:bodyOf (45 :: d :: r2)=(d :: r2):=rfl
    by_cases h9:9<((d :: r2):List UInt8).length
    ·have HF:=Lib.hid (rnum_no (t:=(45 :: d :: r2)) (Or.inr (Or.inl (by rw [hbo];exact h9))))
     have t9:decide ((9:Int)<(bstr (d :: r2)).size)=true:=by rw [bstr_size];simp at h9 ⊢; omega
     have t9n:(9:Int)<(((d :: r2):List UInt8).length:Int):=by omega
     clear h9 hbo
     go_enter Tryz.func97,Tryz.ntmps97
     go_wp2
     go_ret2
     exact ⟨by rw [HF.out];rfl,Below.refl _ _⟩
    ·have t9:decide ((9:Int)<(bstr (d :: r2)).size)=false:=by rw [bstr_size];simp at h9 ⊢; omega
     have t9n:¬(9:Int)<(((d :: r2):List UInt8).length:Int):=by omega
     by_cases h48:d=48
     ·subst h48
      have HF:=Lib.hid (rnum_no (t:=(45 :: 48 :: r2)) (Or.inr (Or.inr ⟨rfl,by simp⟩)))
      have q0:((bstr (45 :: 48 :: r2)).toList==[48])=false:=str_ne (by simp)
      clear h9 hbo
      go_enter Tryz.func97,Tryz.ntmps97
      go_wp2
      go_ret2
      exact ⟨by rw [HF.out];rfl,Below.refl _ _⟩
     ·have t48:((d.toNat:Int)==48)=false:=u8ne d 48 h48
      have q1:((bstr (d :: r2)).toList==(bstr (45 :: d :: r2)).toList)=false:=by rw [Lib.toList_data (bstr (45 :: d :: r2)),bstr_toList];exact str_ne (fun e=>by have:=congrArg List.length e;simp at this)
      have HN9:Hid (((d :: r2):List UInt8).length≤9):=Lib.hid (by omega)
      have HBAD:=Lib.hid (fun h=>rnum_bad (t:=(45 :: d :: r2)) (by rw [hbo];exact h))
      have HGOOD:Hid (((d :: r2):List UInt8).all sp.digitB=true→rnumV (45 :: d :: r2)=.tuple #[.int .i64 (-(sp.val 0 (d :: r2):Int)),.bool true]):=Lib.hid (fun h=>by rw [rnum_good (t:=(45 :: d :: r2)) (by rw [hbo];exact fun h=>h.elim (fun h=>by cases h) (fun h=>h.elim (fun h=>by omega) (fun h=>h48 (by simpa using h.1)))) (by rw [hbo];exact h),hbo];rfl)
      clear h9 hbo h48
      generalize hRV:rnumV (45 :: d :: r2)=RV at HBAD HGOOD ⊢
      obtain ⟨W2,cp,q,hcv,hbw,hrow⟩:=conv_bytes w (d :: r2)
      have HB:=Lib.hid hbw;have HROW:=Lib.hid hrow
      generalize hS:bstr (45 :: d :: r2)=S at e1 e0 ei es1 ex q1 ⊢
      clear hS hRV
      obtain ⟨X,hX⟩:∃X:List UInt8,X=(d :: r2):=⟨_,rfl⟩
      rw [←hX] at hcv HROW HBAD HGOOD HN9 hsz e2 g0 gi ex q1 t9 t9n
      clear hbw hrow hX
      go_enter Tryz.func97,Tryz.ntmps97
      go_wp2
      go_loopw [5,37] (fun n i wr=>∃k:Nat,k≤X.length∧i=.int .i64 k∧n=.int .i64 (sp.val 0 (X.take k):Nat)∧(∀x∈X.take k,sp.digitB x=true)∧wr=W2) (fun _ i _=>X.length-(intOf i).toNat)
      case atStart=>exact ⟨0,Nat.zero_le _,rfl,rfl,fun _ h=>(by cases h),rfl⟩
      case round =>
       obtain ⟨k,hk,rfl,rfl,hd,rfl⟩:=hrel
       have HD:=Lib.hid hd
       clear hd
       by_cases hlt:k<X.length
       ·have hcell:=HROW.out k hlt
        have hv:=val_take hlt
        have hs:sp.val 0 (X.take k)<1000000000:=val_small HD.out (by rw [List.length_take];have:=HN9.out;omega)
        have hmem:X.getD k 0∈X:=by rw [getD_get hlt];exact List.getElem_mem _
        have HSET:=Lib.hid (take_step hlt)
        have hX9:(X.length:Int)≤9:=by have:=HN9.out;omega
        have HV:=Lib.hid hv;have HM:=Lib.hid hmem
        clear hv hmem
        generalize X.getD k 0=K at hcell HV HM HSET
        have hK:=K.toNat_lt
        by_cases hdg:48≤K.toNat∧K.toNat≤57
        ·have t1:decide ((K.toNat:Int)<48)=false:=by simp;omega
         have t2:decide ((57:Int)<K.toNat)=false:=by simp;omega
         have hsub:((K.toNat:Int)-48)=((K.toNat-48:Nat):Int):=by omega
         have hb1:((K.toNat-48:Nat):Int)≤9:=by omega
         have HKD:=Lib.hid ((digB_iff K).2 hdg)
         have hn1:¬(K.toNat:Int)<48:=by omega
         have hn2:¬(57:Int)<K.toNat:=by omega
         generalize K.toNat-48=D at hsub hb1 HV
         generalize sp.val 0 (X.take k)=V at hs HV
         clear hdg
         go_wp2
         refine ⟨⟨k+1,by omega,by go_num,?_,fun x hx => ?_,trivial⟩,by simp [intOf];omega⟩
         ·rw [HV.out];simp
         ·rcases HSET.out x hx with h | h
          ·exact HD.out x h
          ·rw [h];exact HKD.out
        ·have HF:Hid (RV=.tuple #[.int .i64 0,.bool false]):=Lib.hid (HBAD.out (fun hall=>by
          have:=List.all_eq_true.1 hall K HM.out
          exact hdg ((digB_iff K).1 this)))
         by_cases q1:48≤K.toNat
         ·have t1:decide ((K.toNat:Int)<48)=false:=by simp;omega
          have t2:decide ((57:Int)<K.toNat)=true:=by simp;omega
          have hn1:¬(K.toNat:Int)<48:=by omega
          clear hdg q1
          go_wp2
          go_ret2
          exact ⟨by rw [HF.out];rfl,HB.out⟩
         ·have t1:decide ((K.toNat:Int)<48)=true:=by simp;omega
          clear hdg q1
          go_wp2
          go_ret2
          exact ⟨by rw [HF.out];rfl,HB.out⟩
       ·have hke:k=X.length:=by omega
        subst hke
        have HF:=Lib.hid (HGOOD.out (List.all_eq_true.2 fun x hx=>HD.out x (by rw [List.take_length];exact hx)))
        have hs:sp.val 0 (X.take X.length)<1000000000:=val_small HD.out (by rw [List.take_length];exact HN9.out)
        rw [List.take_length] at hs ⊢
        generalize sp.val 0 X=V at hs HF
        have hX9:(X.length:Int)≤9:=by have:=HN9.out;omega
        go_wp2
        go_ret2
        exact ⟨by rw [HF.out];rfl,HB.out⟩
  ·have t45:((c.toNat:Int)==45)=false:=u8ne c 45 h45
   have hsz:(bstr (c :: r)).size=((c :: r):List UInt8).length:=bstr_size _
   have hbo:bodyOf (c :: r)=(c :: r):=(by unfold bodyOf;rw [if_neg (by simpa using h45)])
   by_cases h9:9<((c :: r):List UInt8).length
   ·have HF:=Lib.hid (rnum_no (t:=(c :: r)) (Or.inr (Or.inl (by rw [hbo];exact h9))))
    have t9:decide ((9:Int)<(bstr (c :: r)).size)=true:=by rw [bstr_size];simp at h9 ⊢; omega
    have t9n:(9:Int)<(((c :: r):List UInt8).length:Int):=by omega
    clear h9 hbo
    go_enter Tryz.func97,Tryz.ntmps97
    go_wp2
    go_ret2
    exact ⟨by rw [HF.out];rfl,Below.refl _ _⟩
   ·have t9:decide ((9:Int)<(bstr (c :: r)).size)=false:=by rw [bstr_size];simp at h9 ⊢; omega
    have t9n:¬(9:Int)<(((c :: r):List UInt8).length:Int):=by omega
    by_cases h48:c=48
    ·subst h48
     by_cases hr:r = []
     ·subst hr
      have q0:((bstr [48]).toList==[48])=true:=str_eq rfl
      have q1:((bstr [48]).toList==(bstr [48]).toList)=true:=beq_self_eq_true _
      have HN9:Hid (([48]:List UInt8).length≤9):=Lib.hid (by omega)
      have HBAD:=Lib.hid (fun h=>rnum_bad (t:=[48]) (by rw [hbo];exact h))
      have HGOOD:Hid (([48]:List UInt8).all sp.digitB=true→rnumV [48]=.tuple #[.int .i64 ((sp.val 0 [48]:Int)),.bool true]):=Lib.hid (fun h=>by rw [rnum_good (t:=[48]) (by rw [hbo];simp) (by rw [hbo];exact h),hbo];rw [if_neg (by simp)])
      clear h9 hbo
      generalize hRV:rnumV [48]=RV at HBAD HGOOD ⊢
      obtain ⟨W2,cp,q,hcv,hbw,hrow⟩:=conv_bytes w [48]
      have HB:=Lib.hid hbw;have HROW:=Lib.hid hrow
      generalize hS:bstr [48]=S at e0 ei e1 es1 q0 q1 t9 hsz hcv ⊢
      clear hS hRV
      obtain ⟨X,hX⟩:∃X:List UInt8,X = [48]:=⟨_,rfl⟩
      rw [←hX] at HROW HBAD HGOOD HN9 hsz t9n hcv
      clear hbw hrow hX
      go_enter Tryz.func97,Tryz.ntmps97
      go_wp2
      go_loopw [5,37] (fun n i wr=>∃k:Nat,k≤X.length∧i=.int .i64 k∧n=.int .i64 (sp.val 0 (X.take k):Nat)∧(∀x∈X.take k,sp.digitB x=true)∧wr=W2) (fun _ i _=>X.length-(intOf i).toNat)
      case atStart=>exact ⟨0,Nat.zero_le _,rfl,rfl,fun _ h=>(by cases h),rfl⟩
      case round =>
       obtain ⟨k,hk,rfl,rfl,hd,rfl⟩:=hrel
       have HD:=Lib.hid hd
       clear hd
       by_cases hlt:k<X.length
       ·have hcell:=HROW.out k hlt
        have hv:=val_take hlt
        have hs:sp.val 0 (X.take k)<1000000000:=val_small HD.out (by rw [List.length_take];have:=HN9.out;omega)
        have hmem:X.getD k 0∈X:=by rw [getD_get hlt];exact List.getElem_mem _
        have HSET:=Lib.hid (take_step hlt)
        have hX9:(X.length:Int)≤9:=by have:=HN9.out;omega
        have HV:=Lib.hid hv;have HM:=Lib.hid hmem
        clear hv hmem
        generalize X.getD k 0=K at hcell HV HM HSET
        have hK:=K.toNat_lt
        by_cases hdg:48≤K.toNat∧K.toNat≤57
        ·have t1:decide ((K.toNat:Int)<48)=false:=by simp;omega
         have t2:decide ((57:Int)<K.toNat)=false:=by simp;omega
         have hsub:((K.toNat:Int)-48)=((K.toNat-48:Nat):Int):=by omega
         have hb1:((K.toNat-48:Nat):Int)≤9:=by omega
         have HKD:=Lib.hid ((digB_iff K).2 hdg)
         have hn1:¬(K.toNat:Int)<48:=by omega
         have hn2:¬(57:Int)<K.toNat:=by omega
         generalize K.toNat-48=D at hsub hb1 HV
         generalize sp.val 0 (X.take k)=V at hs HV
         clear hdg
         go_wp2
         refine ⟨⟨k+1,by omega,by go_num,?_,fun x hx => ?_,trivial⟩,by simp [intOf];omega⟩
         ·rw [HV.out];simp
         ·rcases HSET.out x hx with h | h
          ·exact HD.out x h
          ·rw [h];exact HKD.out
        ·have HF:Hid (RV=.tuple #[.int .i64 0,.bool false]):=Lib.hid (HBAD.out (fun hall=>by
          have:=List.all_eq_true.1 hall K HM.out
          exact hdg ((digB_iff K).1 this)))
         by_cases q1:48≤K.toNat
         ·have t1:decide ((K.toNat:Int)<48)=false:=by simp;omega
          have t2:decide ((57:Int)<K.toNat)=true:=by simp;omega
          have hn1:¬(K.toNat:Int)<48:=by omega
          clear hdg q1
          go_wp2
          go_ret2
          exact ⟨by rw [HF.out];rfl,HB.out⟩
         ·have t1:decide ((K.toNat:Int)<48)=true:=by simp;omega
          clear hdg q1
          go_wp2
          go_ret2
          exact ⟨by rw [HF.out];rfl,HB.out⟩
       ·have hke:k=X.length:=by omega
        subst hke
        have HF:=Lib.hid (HGOOD.out (List.all_eq_true.2 fun x hx=>HD.out x (by rw [List.take_length];exact hx)))
        have hs:sp.val 0 (X.take X.length)<1000000000:=val_small HD.out (by rw [List.take_length];exact HN9.out)
        rw [List.take_length] at hs ⊢
        generalize sp.val 0 X=V at hs HF
        have hX9:(X.length:Int)≤9:=by have:=HN9.out;omega
        go_wp2
        go_ret2
        exact ⟨by rw [HF.out];rfl,HB.out⟩
     ·have HF:=Lib.hid (rnum_no (t:=(48 :: r)) (Or.inr (Or.inr ⟨by rw [hbo];rfl,by simpa using hr⟩)))
      have q0:((bstr (48 :: r)).toList==[48])=false:=str_ne (by simpa using hr)
      clear h9 hbo hr
      go_enter Tryz.func97,Tryz.ntmps97
      go_wp2
      go_ret2
      exact ⟨by rw [HF.out];rfl,Below.refl _ _⟩
    ·have t48:((c.toNat:Int)==48)=false:=u8ne c 48 h48
     have q1:((bstr (c :: r)).toList==(bstr (c :: r)).toList)=true:=beq_self_eq_true _
     have HN9:Hid (((c :: r):List UInt8).length≤9):=Lib.hid (by omega)
     have HBAD:=Lib.hid (fun h=>rnum_bad (t:=(c :: r)) (by rw [hbo];exact h))
     have HGOOD:Hid (((c :: r):List UInt8).all sp.digitB=true→rnumV (c :: r)=.tuple #[.int .i64 ((sp.val 0 (c :: r):Int)),.bool true]):=Lib.hid (fun h=>by rw [rnum_good (t:=(c :: r)) (by rw [hbo];exact fun h=>h.elim (fun h=>by cases h) (fun h=>h.elim (fun h=>by omega) (fun h=>h48 (by simpa using h.1)))) (by rw [hbo];exact h),hbo];rw [if_neg (by simpa using h45)])
     clear h9 hbo h48
     generalize hRV:rnumV (c :: r)=RV at HBAD HGOOD ⊢
     obtain ⟨W2,cp,q,hcv,hbw,hrow⟩:=conv_bytes w (c :: r)
     have HB:=Lib.hid hbw;have HROW:=Lib.hid hrow
     generalize hS:bstr (c :: r)=S at e0 ei e1 es1 q1 t9 hsz hcv ⊢
     clear hS hRV
     obtain ⟨X,hX⟩:∃X:List UInt8,X=(c :: r):=⟨_,rfl⟩
     rw [←hX] at HROW HBAD HGOOD HN9 hsz t9n hcv
     clear hbw hrow hX
     go_enter Tryz.func97,Tryz.ntmps97
     go_wp2
     go_loopw [5,37] (fun n i wr=>∃k:Nat,k≤X.length∧i=.int .i64 k∧n=.int .i64 (sp.val 0 (X.take k):Nat)∧(∀x∈X.take k,sp.digitB x=true)∧wr=W2) (fun _ i _=>X.length-(intOf i).toNat)
     case atStart=>exact ⟨0,Nat.zero_le _,rfl,rfl,fun _ h=>(by cases h),rfl⟩
     case round =>
      obtain ⟨k,hk,rfl,rfl,hd,rfl⟩:=hrel
      have HD:=Lib.hid hd
      clear hd
      by_cases hlt:k<X.length
      ·have hcell:=HROW.out k hlt
       have hv:=val_take hlt
       have hs:sp.val 0 (X.take k)<1000000000:=val_small HD.out (by rw [List.length_take];have:=HN9.out;omega)
       have hmem:X.getD k 0∈X:=by rw [getD_get hlt];exact List.getElem_mem _
       have HSET:=Lib.hid (take_step hlt)
       have hX9:(X.length:Int)≤9:=by have:=HN9.out;omega
       have HV:=Lib.hid hv;have HM:=Lib.hid hmem
       clear hv hmem
       generalize X.getD k 0=K at hcell HV HM HSET
       have hK:=K.toNat_lt
       by_cases hdg:48≤K.toNat∧K.toNat≤57
       ·have t1:decide ((K.toNat:Int)<48)=false:=by simp;omega
        have t2:decide ((57:Int)<K.toNat)=false:=by simp;omega
        have hsub:((K.toNat:Int)-48)=((K.toNat-48:Nat):Int):=by omega
        have hb1:((K.toNat-48:Nat):Int)≤9:=by omega
        have HKD:=Lib.hid ((digB_iff K).2 hdg)
        have hn1:¬(K.toNat:Int)<48:=by omega
        have hn2:¬(57:Int)<K.toNat:=by omega
        generalize K.toNat-48=D at hsub hb1 HV
        generalize sp.val 0 (X.take k)=V at hs HV
        clear hdg
        go_wp2
        refine ⟨⟨k+1,by omega,by go_num,?_,fun x hx => ?_,trivial⟩,by simp [intOf];omega⟩
        ·rw [HV.out];simp
        ·rcases HSET.out x hx with h | h
         ·exact HD.out x h
         ·rw [h];exact HKD.out
       ·have HF:Hid (RV=.tuple #[.int .i64 0,.bool false]):=Lib.hid (HBAD.out (fun hall=>by
         have:=List.all_eq_true.1 hall K HM.out
         exact hdg ((digB_iff K).1 this)))
        by_cases q1:48≤K.toNat
        ·have t1:decide ((K.toNat:Int)<48)=false:=by simp;omega
         have t2:decide ((57:Int)<K.toNat)=true:=by simp;omega
         have hn1:¬(K.toNat:Int)<48:=by omega
         clear hdg q1
         go_wp2
         go_ret2
         exact ⟨by rw [HF.out];rfl,HB.out⟩
        ·have t1:decide ((K.toNat:Int)<48)=true:=by simp;omega
         clear hdg q1
         go_wp2
         go_ret2
         exact ⟨by rw [HF.out];rfl,HB.out⟩
      ·have hke:k=X.length:=by omega
       subst hke
       have HF:=Lib.hid (HGOOD.out (List.all_eq_true.2 fun x hx=>HD.out x (by rw [List.take_length];exact hx)))
       have hs:sp.val 0 (X.take X.length)<1000000000:=val_small HD.out (by rw [List.take_length];exact HN9.out)
       rw [List.take_length] at hs ⊢
       generalize sp.val 0 X=V at hs HF
       have hX9:(X.length:Int)≤9:=by have:=HN9.out;omega
       go_wp2
       go_ret2
       exact ⟨by rw [HF.out];rfl,HB.out⟩
def CountP (X:List UInt8) (v:Int) (ok:Bool):Prop:=sp.I64 v∧(if ok then X=Lib.decDigits v.toNat∧0≤v else ∀m:Nat,m≤9223372036854775807→X≠Lib.decDigits m)
def CountIs (X:List UInt8) (e:Ending):Prop:=∃v ok,e=.returned (.tuple #[.int .i64 v,.bool ok])∧CountP X v ok
theorem countIs {X:List UInt8} {v:Int} {ok:Bool} (h:CountP X v ok):CountIs X (.returned (.tuple #[.int .i64 v,.bool ok])):=⟨v,ok,rfl,h⟩
theorem count_nil:CountP [] 0 false:=⟨⟨by decide,by decide⟩,fun m _ e=>sp.dec_ne m e.symm⟩
theorem count_long {X:List UInt8} (h:19<X.length):CountP X 0 false:=⟨⟨by decide,by decide⟩,fun m hm e=>by
 have h1:=nDigits_le19 hm
 rw [←Lib.decDigits_length,←e] at h1
 omega⟩
theorem count_zero {r:List UInt8} (h:r≠[]):CountP (48 :: r) 0 false:=⟨⟨by decide,by decide⟩,fun m hm e=>by
 by_cases h0:m=0
 ·subst h0
  rw [sp.dec_small (by omega)] at e
  cases e
  exact h rfl
 ·have:=sp.dec_head m h0
  rw [←e] at this
  exact this rfl⟩
theorem count_bad {X:List UInt8} (h:¬X.all sp.digitB=true):CountP X 0 false:=⟨⟨by decide,by decide⟩,fun m hm e=>h (List.all_eq_true.2 fun c hc=>sp.dec_all m c (e ▸ hc))⟩
theorem count_good {X:List UInt8} (h0:X≠[]) (h1:X.head?=some 48→X = [48]) (h:X.all sp.digitB=true) (hm:sp.val 0 X≤9223372036854775807):CountP X (sp.val 0 X:Nat) true :=
 ⟨⟨by omega,by omega⟩,by rw [if_pos rfl];exact ⟨by rw [Int.toNat_natCast];exact (sp.dec_of_val X (List.all_eq_true.1 h) h0 h1).symm,by omega⟩⟩
theorem count_big {X:List UInt8} (h0:X≠[]) (h1:X.head?=some 48→X = [48]) (h:X.all sp.digitB=true) (hm:¬sp.val 0 X≤9223372036854775807) (v:Int) (hv:sp.I64 v):CountP X v false :=
 ⟨hv,fun m hm2 e=>hm (by rw [e,sp.dec_val];exact hm2)⟩
set_option maxRecDepth 100000 in
set_option maxHeartbeats 1000000 in
theorem digit_any (c:UInt8) (w:World):Calls Tryz.prog 157 #[.int .u8 c.toNat] w fun e w'=>e=.returned (.bool (sp.digitB c))∧w'=w:=by
 have hc:=c.toNat_lt
 have HD:=Lib.hid (digB_iff c)
 by_cases h1:48≤c.toNat
 ·have t1:decide ((c.toNat:Int)≥48)=true:=by simp;omega
  by_cases h2:c.toNat≤57
  ·have t2:decide ((c.toNat:Int)≤57)=true:=by simp;omega
   have HF:=Lib.hid (HD.out.2 ⟨h1,h2⟩)
   clear h1 h2
   go_enter Tryz.func157,Tryz.ntmps157
   go_wp2
   go_ret
   exact ⟨by rw [HF.out];rfl,rfl⟩
  ·have t2:decide ((c.toNat:Int)≤57)=false:=by simp;omega
   have HF:Hid (sp.digitB c=false):=Lib.hid (by cases hb:sp.digitB c with | false=>rfl | true=>exact absurd (HD.out.1 hb).2 h2)
   clear h1 h2
   go_enter Tryz.func157,Tryz.ntmps157
   go_wp2
   go_ret
   exact ⟨by rw [HF.out];rfl,rfl⟩
 ·have t1:decide ((c.toNat:Int)≥48)=false:=by simp;omega
  have HF:Hid (sp.digitB c=false):=Lib.hid (by cases hb:sp.digitB c with | false=>rfl | true=>exact absurd (HD.out.1 hb).1 h1)
  clear h1
  go_enter Tryz.func157,Tryz.ntmps157
  go_wp2
  go_ret
  exact ⟨by rw [HF.out];rfl,rfl⟩
set_option maxRecDepth 100000 in
set_option maxHeartbeats 8000000 in
theorem count_any (X:List UInt8) (w:World) (hn:X.length≤1099511627776):Calls Tryz.prog 126 #[.string (bstr X)] w fun e w'=>CountIs X e∧Below w.heap.size w w':=by
 match X with
 | [] =>
  have e1:(bstr []).toList.isEmpty=true:=by rw [Lib.toList_data];rfl
  go_enter Tryz.func126,Tryz.ntmps126
  go_wp2
  go_ret2
  exact ⟨countIs count_nil,Below.refl _ _⟩
 | c :: r =>
  have e1:(bstr (c :: r)).toList.isEmpty=false:=by rw [Lib.toList_data,bstr_toList];rfl
  have e0:0<(bstr (c :: r)).size:=by rw [bstr_size];simp
  have ei:∀p,(bstr (c :: r))[0]'p=c:=fun p=>rfl
  have hsz:(bstr (c :: r)).size=(c :: r:List UInt8).length:=bstr_size _
  obtain ⟨X,hX⟩:∃X:List UInt8,X=c :: r:=⟨_,rfl⟩
  by_cases h19:19<(c :: r:List UInt8).length
  ·have HF:=Lib.hid (count_long h19)
   have t9:decide ((19:Int)<(bstr (c :: r)).size)=true:=by rw [bstr_size];simp at h19 ⊢; omega
   have t9n:(19:Int)<((c :: r:List UInt8).length:Int):=by omega
   clear h19 hX
   go_enter Tryz.func126,Tryz.ntmps126
   go_wp2
   go_ret2
   exact ⟨countIs HF.out,Below.refl _ _⟩
  ·by_cases hz:c=48∧r≠[]
   ·obtain ⟨rfl,hr⟩:=hz
    have HF:=Lib.hid (count_zero hr)
    have h1:1<(48 :: r:List UInt8).length:=by have:=List.length_pos_iff.2 hr;simp;omega
    have t9:decide ((19:Int)<(bstr (48 :: r)).size)=false:=by rw [bstr_size];simp at h19 ⊢; omega
    have t9n:¬(19:Int)<((48 :: r:List UInt8).length:Int):=by omega
    have t1:decide ((1:Int)<(bstr (48 :: r)).size)=true:=by rw [bstr_size];simp at h1 ⊢; omega
    have t1n:(1:Int)<((48 :: r:List UInt8).length:Int):=by omega
    have t1r:decide ((1:Int)<(r.length:Int)+1)=true:=by simp at h1 ⊢; omega
    have t1s:(1:Int)<(r.length:Int)+1:=by simp at h1;omega
    clear h19 hX hr h1
    go_enter Tryz.func126,Tryz.ntmps126
    go_wp2
    go_ret2
    exact ⟨countIs HF.out,Below.refl _ _⟩
   ·have HZ:Hid (X.head?=some 48→X = [48]):=Lib.hid (fun h=>by
     rw [hX] at h ⊢
     cases h
     by_cases hr:r = []
     ·rw [hr]
     ·exact absurd ⟨rfl,hr⟩ hz)
    have HNE:Hid (X≠[]):=Lib.hid (by rw [hX];simp)
    have hl1:c=48→X.length=1:=fun e=>by rw [hX,show r = [] from Classical.byContradiction fun hr=>hz ⟨e,hr⟩];rfl
    obtain ⟨W2,cp,q,hcv,hbw,hrow⟩:=conv_bytes w (c :: r)
    rw [←hX] at hcv hrow hsz e0 e1 h19 ⊢
    have ei':∀p,(bstr X)[0]'p=c:=by rw [hX];exact ei
    have HB:=Lib.hid hbw;have HROW:=Lib.hid hrow
    have t9n:¬(19:Int)<(X.length:Int):=by omega
    have t9:decide ((19:Int)<(bstr X).size)=false:=by rw [hsz];simp;omega
    have HN9:Hid (X.length≤19):=Lib.hid (by omega)
    clear ei hX hz hbw hrow h19
    by_cases h48:c=48
    ·have h1:=hl1 h48
     subst h48
     have t1n:¬(1:Int)<(X.length:Int):=by omega
     have t1:decide ((1:Int)<(bstr X).size)=false:=by rw [hsz];simp;omega
     clear hl1 h1
     go_enter Tryz.func126,Tryz.ntmps126
     go_wp2
     go_loopw [4,27] (fun n i wr=>∃k:Nat,k≤X.length∧i=.int .i64 k∧n=.int .u64 (sp.val 0 (X.take k):Nat)∧(∀x∈X.take k,sp.digitB x=true)∧wr=W2) (fun _ i _=>X.length-(intOf i).toNat)
     case atStart=>exact ⟨0,Nat.zero_le _,rfl,rfl,fun _ h=>(by cases h),rfl⟩
     case round =>
      obtain ⟨k,hk,rfl,rfl,hd,rfl⟩:=hrel
      have HD:=Lib.hid hd
      clear hd
      by_cases hlt:k<X.length
      ·have hcell:=HROW.out k hlt
       have hv:=val_take hlt
       have hs:sp.val 0 (X.take k)<1000000000000000000:=val_18 HD.out hlt HN9.out
       have hmem:X.getD k 0∈X:=by rw [getD_get hlt];exact List.getElem_mem _
       have HSET:=Lib.hid (take_step hlt)
       have hX9:(X.length:Int)≤19:=by have:=HN9.out;omega
       have HV:=Lib.hid hv;have HM:=Lib.hid hmem
       clear hv hmem
       generalize X.getD k 0=K at hcell HV HM HSET
       have hK:=K.toNat_lt
       have HDG:=Lib.hid (fun W=>digit_any K W)
       cases hdg:sp.digitB K with
       | true =>
        have hd2:=(digB_iff K).1 hdg
        have hsub:((K.toNat:Int)-48)=((K.toNat-48:Nat):Int):=by omega
        have hb1:((K.toNat-48:Nat):Int)≤9:=by omega
        have HKD:=Lib.hid hdg
        rw [hdg] at HDG
        generalize K.toNat-48=D at hsub hb1 HV
        generalize sp.val 0 (X.take k)=V at hs HV
        clear hdg hd2
        go_wp2_with (go_at_call 157;refine (HDG.out _).mono ?_;rintro e w1 ⟨rfl,rfl⟩)
        refine ⟨⟨k+1,by omega,by go_num,?_,fun x hx => ?_,trivial⟩,by simp [intOf];omega⟩
        ·rw [HV.out];simp
        ·rcases HSET.out x hx with h | h
         ·exact HD.out x h
         ·rw [h];exact HKD.out
       | false =>
        have HF:Hid (CountP X 0 false):=Lib.hid (count_bad (fun hall=>by
         have:=List.all_eq_true.1 hall K HM.out
         rw [hdg] at this
         cases this))
        rw [hdg] at HDG
        clear hdg
        go_wp2_with (go_at_call 157;refine (HDG.out _).mono ?_;rintro e w1 ⟨rfl,rfl⟩)
        go_ret2
        exact ⟨countIs HF.out,HB.out⟩
      ·have hke:k=X.length:=by omega
       subst hke
       have HALL:Hid (X.all sp.digitB=true):=Lib.hid (List.all_eq_true.2 fun x hx=>HD.out x (by rw [List.take_length];exact hx))
       have hs:sp.val 0 (X.take X.length)<10000000000000000000:=val_19 HD.out (by rw [List.take_length];exact HN9.out)
       rw [List.take_length] at hs ⊢
       have hX9:(X.length:Int)≤19:=by have:=HN9.out;omega
       by_cases hm:sp.val 0 X≤9223372036854775807
       ·have HF:=Lib.hid (count_good HNE.out HZ.out HALL.out hm)
        generalize sp.val 0 X=V at hs hm HF
        have hdv:decide ((V:Int)≤9223372036854775807)=true:=by simp;omega
        go_wp2
        go_ret2
        exact ⟨countIs HF.out,HB.out⟩
       ·have HF:=Lib.hid (count_big HNE.out HZ.out HALL.out hm)
        have hdv:decide (((sp.val 0 X:Nat):Int)≤9223372036854775807)=false:=by simp;omega
        generalize sp.val 0 X=V at hs hm HF hdv
        go_wp2
        go_ret2
        exact ⟨countIs (HF.out _ (wrap_I64 _)),HB.out⟩
    ·have t48:((c.toNat:Int)==48)=false:=u8ne c 48 h48
     clear hl1
     go_enter Tryz.func126,Tryz.ntmps126
     go_wp2
     go_loopw [4,27] (fun n i wr=>∃k:Nat,k≤X.length∧i=.int .i64 k∧n=.int .u64 (sp.val 0 (X.take k):Nat)∧(∀x∈X.take k,sp.digitB x=true)∧wr=W2) (fun _ i _=>X.length-(intOf i).toNat)
     case atStart=>exact ⟨0,Nat.zero_le _,rfl,rfl,fun _ h=>(by cases h),rfl⟩
     case round =>
      obtain ⟨k,hk,rfl,rfl,hd,rfl⟩:=hrel
      have HD:=Lib.hid hd
      clear hd
      by_cases hlt:k<X.length
      ·have hcell:=HROW.out k hlt
       have hv:=val_take hlt
       have hs:sp.val 0 (X.take k)<1000000000000000000:=val_18 HD.out hlt HN9.out
       have hmem:X.getD k 0∈X:=by rw [getD_get hlt];exact List.getElem_mem _
       have HSET:=Lib.hid (take_step hlt)
       have hX9:(X.length:Int)≤19:=by have:=HN9.out;omega
       have HV:=Lib.hid hv;have HM:=Lib.hid hmem
       clear hv hmem
       generalize X.getD k 0=K at hcell HV HM HSET
       have hK:=K.toNat_lt
       have HDG:=Lib.hid (fun W=>digit_any K W)
       cases hdg:sp.digitB K with
       | true =>
        have hd2:=(digB_iff K).1 hdg
        have hsub:((K.toNat:Int)-48)=((K.toNat-48:Nat):Int):=by omega
        have hb1:((K.toNat-48:Nat):Int)≤9:=by omega
        have HKD:=Lib.hid hdg
        rw [hdg] at HDG
        generalize K.toNat-48=D at hsub hb1 HV
        generalize sp.val 0 (X.take k)=V at hs HV
        clear hdg hd2
        go_wp2_with (go_at_call 157;refine (HDG.out _).mono ?_;rintro e w1 ⟨rfl,rfl⟩)
        refine ⟨⟨k+1,by omega,by go_num,?_,fun x hx => ?_,trivial⟩,by simp [intOf];omega⟩
        ·rw [HV.out];simp
        ·rcases HSET.out x hx with h | h
         ·exact HD.out x h
         ·rw [h];exact HKD.out
       | false =>
        have HF:Hid (CountP X 0 false):=Lib.hid (count_bad (fun hall=>by
         have:=List.all_eq_true.1 hall K HM.out
         rw [hdg] at this
         cases this))
        rw [hdg] at HDG
        clear hdg
        go_wp2_with (go_at_call 157;refine (HDG.out _).mono ?_;rintro e w1 ⟨rfl,rfl⟩)
        go_ret2
        exact ⟨countIs HF.out,HB.out⟩
      ·have hke:k=X.length:=by omega
       subst hke
       have HALL:Hid (X.all sp.digitB=true):=Lib.hid (List.all_eq_true.2 fun x hx=>HD.out x (by rw [List.take_length];exact hx))
       have hs:sp.val 0 (X.take X.length)<10000000000000000000:=val_19 HD.out (by rw [List.take_length];exact HN9.out)
       rw [List.take_length] at hs ⊢
       have hX9:(X.length:Int)≤19:=by have:=HN9.out;omega
       by_cases hm:sp.val 0 X≤9223372036854775807
       ·have HF:=Lib.hid (count_good HNE.out HZ.out HALL.out hm)
        generalize sp.val 0 X=V at hs hm HF
        have hdv:decide ((V:Int)≤9223372036854775807)=true:=by simp;omega
        go_wp2
        go_ret2
        exact ⟨countIs HF.out,HB.out⟩
       ·have HF:=Lib.hid (count_big HNE.out HZ.out HALL.out hm)
        have hdv:decide (((sp.val 0 X:Nat):Int)≤9223372036854775807)=false:=by simp;omega
        generalize sp.val 0 X=V at hs hm HF hdv
        go_wp2
        go_ret2
        exact ⟨countIs (HF.out _ (wrap_I64 _)),HB.out⟩
structure Cut (X top low:List UInt8) (parts:Bool):Prop where
 no:parts=false→top=bodyOf X∧low = [49]∧(47:UInt8)∉bodyOf X
 yes:parts=true→bodyOf X=top++47 :: low∧(47:UInt8)∉top
theorem dec_no47 (m:Nat):(47:UInt8)∉Lib.decDigits m:=fun h=>by
 have:=sp.dec_all m 47 h
 revert this
 decide
theorem cut_fwd {X top low:List UInt8} {parts:Bool} (hc:Cut X top low parts) {n d:Int} (h:sp.SureP n d) (he:sp.ratS n d=X):top=Lib.decDigits n.natAbs∧low=Lib.decDigits d.toNat∧(parts=true↔1<d):=by
 obtain ⟨_,k2,k3⟩:=frac_fwd h he
 have e:bodyOf X=Lib.decDigits n.natAbs++(if 1<d then 47 :: Lib.decDigits d.toNat else []):=by
  rw [←k2,←k3]
  exact (List.takeWhile_append_dropWhile).symm
 have hd1:=h.1
 cases parts with
 | false =>
  obtain ⟨a,b,c⟩:=hc.no rfl
  have hd:¬1<d:=fun q=>c (by rw [e,if_pos q];simp)
  have:d=1:=by omega
  subst this
  rw [if_neg hd,List.append_nil] at e
  refine ⟨by rw [a,e],?_,by simp⟩
  rw [b]
  show [49]=Lib.decDigits 1
  rw [sp.dec_small (by omega)]
  rfl
 | true =>
  obtain ⟨a,b⟩:=hc.yes rfl
  by_cases q:1<d
  ·rw [if_pos q] at e
   have:=sp.split_at (a.symm.trans e) b (dec_no47 _)
   exact ⟨this.1,this.2,by simp [q]⟩
  ·rw [if_neg q,List.append_nil] at e
   exfalso
   have:(47:UInt8)∈Lib.decDigits n.natAbs:=by rw [←e,a];simp
   exact dec_no47 _ this
theorem count_fwd {X:List UInt8} {v:Int} {ok:Bool} (h:CountP X v ok) {m:Nat} (hX:X=Lib.decDigits m) (hm:m≤9223372036854775807):ok=true∧v=m:=by
 obtain ⟨_,h2⟩:=h
 cases ok with
 | true =>
  rw [if_pos rfl] at h2
  obtain ⟨a,b⟩:=h2
  have:=sp.dec_inj (hX.symm.trans a)
  exact ⟨rfl,by omega⟩
 | false =>
  rw [if_neg (by decide)] at h2
  exact absurd hX (h2 m hm)
section
variable {X top low:List UInt8} {parts ok1 ok2:Bool} {v1 v2:Int}
theorem rfrac_err (hX:X≠sp.over) (hc:Cut X top low parts) (h1:CountP top v1 ok1) (h2:CountP low v2 ok2) (hbad:ok1=false∨ok2=false∨(parts=true∧v2<2)∨(X.head?=some 45∧v1=0)∨¬sp.MayP (sgn X v1) v2):FracIs X (.returned (.tuple #[.agg #[.int .i64 0,.int .i64 0],.int .i64 3])) :=
 frac_none hX fun n d hn hd h3 h4=>by
  obtain ⟨k1,k2,k3⟩:=cut_fwd hc h3 h4
  obtain ⟨a1,a2⟩:=count_fwd h1 k1 (sure_small hn h3)
  obtain ⟨b1,b2⟩:=count_fwd h2 k2 (by have:=hd.2;omega)
  have hd1:=h3.1
  have hv2:v2=d:=by omega
  rcases hbad with h | h | ⟨h,h'⟩ | ⟨h,h'⟩ | h
  ·rw [a1] at h;cases h
  ·rw [b1] at h;cases h
  ·have:=k3.1 h;omega
  ·have:=(frac_fwd h3 h4).1.1 h;omega
  ·rw [a2,hv2,sgn_abs h3 h4] at h
   exact h (.inr h3)
theorem rfrac_ok (hX:X≠sp.over) (hc:Cut X top low parts) (h1:CountP top v1 true) (h2:CountP low v2 true) (hp:parts=true→2≤v2) (hz:X.head?=some 45→v1≠0) (hm:sp.MayP (sgn X v1) v2):FracIs X (.returned (.tuple #[.agg #[.int .i64 (sgn X v1),.int .i64 v2],.int .i64 0])):=by
 have e1:=h1.2
 have e2:=h2.2
 rw [if_pos rfl] at e1 e2
 obtain ⟨e1,z1⟩:=e1
 obtain ⟨e2,z2⟩:=e2
 have hI1:=h1.1
 have hI2:=h2.1
 have hv2:1≤v2∧(parts=true↔1<v2):=by
  cases parts with
  | true=>have:=hp rfl;exact ⟨by omega,by simp;omega⟩
  | false =>
   obtain ⟨_,b,_⟩:=hc.no rfl
   have:Lib.decDigits v2.toNat=Lib.decDigits 1:=by
    rw [←e2,b,sp.dec_small (by omega)]
    rfl
   have:=sp.dec_inj this
   have:v2=1:=by omega
   subst this
   exact ⟨by omega,by simp⟩
 have hs:sp.SureP (sgn X v1) v2:=by
  rcases hm with ⟨_,h⟩ | h
  ·omega
  ·exact h
 have hI:sp.I64 (sgn X v1):=by
  unfold sgn
  split
  ·obtain ⟨a,b⟩:=hI1;exact ⟨by omega,by omega⟩
  ·exact hI1
 refine frac_some hI hI2 hs ?_
 unfold sp.ratS
 rw [if_pos hs]
 have hd:(if 1<v2 then 47 :: Lib.itoa v2 else []:List UInt8)=if parts then 47 :: low else []:=by
  by_cases q:1<v2
  ·rw [if_pos q,if_pos (hv2.2.2 q),e2,show v2=((v2.toNat:Nat):Int) by omega,sp.itoa_nat]
   rfl
  ·rw [if_neg q,if_neg (fun h=>q (hv2.2.1 h))]
 rw [hd]
 have hb:bodyOf X=top++(if parts then 47 :: low else []):=by
  cases parts with
  | true=>exact (hc.yes rfl).1
  | false=>rw [if_neg (by decide),List.append_nil];exact (hc.no rfl).1.symm
 by_cases hh:X.head?=some 45
 ·have hne:=hz hh
  have es:sgn X v1 = -((v1.toNat:Nat):Int):=by unfold sgn;rw [if_pos hh];omega
  rw [es,sp.itoa_minus _ (by omega),←e1,List.cons_append,←hb]
  cases X with
  | nil=>cases hh
  | cons c r=>cases hh;rfl
 ·have es:sgn X v1=((v1.toNat:Nat):Int):=by unfold sgn;rw [if_neg hh];omega
  rw [es,sp.itoa_nat,←e1,←hb]
  unfold bodyOf
  rw [if_neg hh]
end
theorem mayB_iff (n d:Int):mayB n d=true↔sp.MayP n d:=by
 unfold mayB sp.MayP
 rw [Bool.or_eq_true]
 exact or_congr (by simp [zeroB]) (by simp [sureB];exact Iff.rfl)
theorem split_first {x:UInt8}:∀ {l:List UInt8},x∈l→∃a b,l=a++x :: b∧x∉a
 | c :: l,h=>by
  by_cases e:c=x
  ·exact ⟨[],l,by rw [e];rfl,by simp⟩
  ·obtain ⟨a,b,h1,h2⟩:=split_first (l:=l) ((List.mem_cons.1 h).resolve_left (fun q=>e q.symm))
   exact ⟨c :: a,b,by rw [h1];rfl,by simp [h2,Ne.symm e]⟩
theorem cut_ex (X:List UInt8):(47∉bodyOf X∧Cut X (bodyOf X) [49] false)∨∃top low,bodyOf X=top++47 :: low∧(47:UInt8)∉top∧Cut X top low true:=by
 by_cases h:(47:UInt8)∈bodyOf X
 ·right
  obtain ⟨a,b,e,hn⟩:=split_first h
  exact ⟨a,b,e,hn,⟨fun h=>(by cases h),fun _=>⟨e,hn⟩⟩⟩
 ·exact .inl ⟨h,⟨fun _=>⟨rfl,rfl,h⟩,fun h=>(by cases h)⟩⟩
end Go.Proofs.YtihlneenajlhoaaGreatDoor
