/-
 Contract, for a run of one goroutine, of jalousieref27.Line: any text as a line, as the plain law says. Condition: its length fits.
-/
import Derived.Test.YtihlneenajlhoaaGreatDoorS7
import Derived.Test.YtihlneenajlhoaaGreatDoorS5
import Derived.Test.YtihlneenajlhoaaGreatDoorS4
import Derived.Test.YtihlneenajlhoaaGreatDoorRows
import Derived.Test.YtihlneenajlhoaaGreatDoorS0
import Derived.Test.YtihlneenajlhoaaGreatDoorS2
import Derived.Deep.Slices
import Derived.SizedLaws
import Derived.Handed
import Derived.OpenShut
import Derived.KernelRfl
set_option linter.unusedSimpArgs false
set_option linter.unusedVariables false
namespace Go.Proofs.YtihlneenajlhoaaGreatDoor
open Go Go.RowKit
structure LnR (w W0:World) (b g n cap q:Nat) (s:RSt) (o:sp.Op) (tv:Value) (W:World):Prop where
 rd:RdR W0 b g n cap s.1 s.2 W
 res:W.heap[w.heap.size]?=some (.cells (zeroC 0) 28 (0,0))
 loc:W.heap[q]?=some (.cells (opCells o tv) 28 (0,0))
 row:RowAt W.heap.size W tv o.text.length (Lib.byteCells o.text)
 bel:Below w.heap.size w W
 own:∀x,tv.ownBlock=some x→w.heap.size<x
theorem LnR.start {w W0 W:World} {b g n cap:Nat} {s:RSt} {o:sp.Op} {tv:Value} (hm:W0.heap[w.heap.size]?=some (.cells (zeroC 0) 28 (0,0))) (hb:w.heap.size<b) (hB:Below w.heap.size w W0) (hr:RowAt W.heap.size W tv o.text.length (Lib.byteCells o.text)) (h:RdR W0 b g n cap s.1 s.2 W) (ho:∀x,tv.ownBlock=some x→W0.heap.size≤x) :
  ∀W5,W5=(W.alloc (.cells (zeroC 0) 28)).setRow W.heap.size (opCells o tv)→LnR w W0 b g n cap W.heap.size s o tv W5:=by
 rintro W5 rfl
 have hlt:=lt_of_block hm
 have hmW:W.heap[w.heap.size]?=some (.cells (zeroC 0) 28 (0,0)):=(h.fr.block _ hlt (by omega) (by simp)).trans hm
 have hbW:=lt_of_block h.blk
 have hs:=h.fr.size
 have hg:=h.glt
 have hbel:Below w.heap.size w W:=hB.trans (h.fr.below (by omega) (by simp) (by omega))
 have hB2:Below W.heap.size W ((W.alloc (.cells (zeroC 0) 28)).setRow W.heap.size (opCells o tv)):=below_setRow (below_new W _) (Nat.le_refl _) _
 refine ⟨(h.on (below_new W _)).row (by omega) (by omega) hs _,(hB2.block _ (by omega)).trans hmW,setRow_at (heap_alloc_at _ _) _,(hr.keep hB2).mono hB2.size,hbel.trans (hB2.mono (by omega)),fun x hx=>by have:=ho x hx;omega⟩
theorem one_opc {o:sp.Op} {tv:Value} {B n:Nat} {W:World} {cs:List Value} (h:RowAt B W tv n cs):(opCells o tv).all (·.oneCell')=true:=by
 obtain ⟨a,cap,rfl⟩:=h.slice
 simp [opCells,Value.oneCell']
theorem nil_row {w:World} {base:Nat} {e:TypeId} {k:Nat} {v:Value} {xs:List Value} (h:w.ownsRow base e k v 0 xs):∃a cp,v=.slice a 0 cp:=by
 rcases h.2 with h | ⟨g,cap,cur,h,_⟩
 ·exact ⟨_,_,h.1⟩
 ·exact ⟨_,_,h⟩
theorem row_of {w:World} {base:Nat} {v:Value} {n:Nat} {xs:List Value} (h:w.ownsRow base 110 2 v n xs) (hn:0<n):∃g cap cur,v=.slice (some ⟨g,0,none⟩) n cap∧base≤g∧w.heap[g]?=some (.cells cur 110 (0,0))∧n≤cap∧cur.toList.take (n*2)=xs:=by
 rcases h.2 with h | ⟨g,cap,cur,h1,h2,h3,h4,_,_,h5⟩
 ·omega
 ·exact ⟨g,cap,cur,h1,h2,h3,h4,h5⟩
theorem line_res {s:List UInt8} {l:List (List UInt8×Bool)} (h:10∉s) (h2:sp.silentB s=false) (hw:sp.words s=some l):sp.lineS s=(resOf l).map some:=by
 rw [line_words h h2,hw]
 match l with
 | []=>rfl
 | (w,false) :: a=>rfl
 | (w,true) :: a=>rfl
theorem opOk_bad {res:Option sp.Op} {o:sp.Op} {r:List (List UInt8×Bool)} (h:OpOk res (o,(r,true))):res=none:=by
 cases res with
 | none=>rfl
 | some x=>cases h
theorem opOk_rest {res:Option sp.Op} {o:sp.Op} {x:List UInt8×Bool} {r:List (List UInt8×Bool)} {b:Bool} (h:OpOk res (o,(x :: r,b))):res=none:=by
 cases res with
 | none=>rfl
 | some x=>cases h
theorem opOk_good {res:Option sp.Op} {o:sp.Op} (h:OpOk res (o,([],false))):res=some o:=by
 cases res with
 | none =>
  rcases h with h | h
  ·cases h
  ·exact absurd rfl h
 | some x=>cases h;rfl
section
variable {ops:Array Oper} {rest:List Oper} {op:Oper} {a:Act} {Q:Exit→Act→World→Prop} {W:World}
theorem wpl_st28 (hgd:op.guard=none) (x y:Operand) (hop:op.op=.store 28 x y) (g:Nat) (cells:Array Value) (hx:a.eval x=.pointer (some ⟨g,0,none⟩)) (hy:a.eval y=.agg cells) (old:Array Value) (hg:W.heap[g]?=some (.cells old 28 (0,0))) (ho:old.size=18) (hc:cells.size=18) (h1:cells.all (·.oneCell')=true)
  (h:∀W',W'=W.setRow g cells→wpList Tryz.prog ops Q rest (a.put op.dst undef) W'):wpList Tryz.prog ops Q (op :: rest) a W :=
 wpList_store_row hgd 28 x y hop g cells hx hy 28 old hg (by rw [hc];exact size28') (by rw [ho,hc]) h1 (h _ rfl)
end
theorem lineIs_op {B:Nat} {s:List UInt8} {o:sp.Op} {tv:Value} {W:World} (h:sp.lineS s=some (some o)) (hr:RowAt W.heap.size W tv o.text.length (Lib.byteCells o.text)) (ho:∀x,tv.ownBlock=some x→B≤x):LineIs B s W (.returned (.tuple #[.agg (opCells o tv),.bool true,.int .i64 0])):=by
 unfold LineIs
 rw [h]
 exact ⟨tv,rfl,hr,ho⟩
theorem line_bad_words {s:List UInt8} (h:10∉s) (h2:sp.silentB s=false) (hw:sp.words s=none):sp.lineS s=none:=by rw [line_words h h2,hw]
set_option maxRecDepth 100000 in
set_option maxHeartbeats 8000000 in
theorem rline_any (s:List UInt8) (w:World) (hn:s.length≤1099511627776):Calls Tryz.prog 10 #[.string (bstr s)] w fun e w'=>LineIs w.heap.size s w' e∧Below w.heap.size w w':=by
 have HN:=Lib.hid hn
 have hsz:=bstr_size s
 have HM:Hid ((w.alloc (.cells (zeroC 0) 28)).heap[w.heap.size]?=some (.cells (zeroC 0) 28 (0,0))):=Lib.hid (heap_alloc_at _ _)
 have HB0:Hid (Below w.heap.size w (w.alloc (.cells (zeroC 0) 28))):=Lib.hid (below_new w _)
 clear hn
 go_enter Tryz.func10,Tryz.ntmps10
 go_wp2
 go_loopw [5,13] (fun j i wr=>∃p r:List UInt8,s=p++r∧(10:UInt8)∉p∧i=.int .i64 (p.length:Nat)∧wr=w.alloc (.cells (zeroC 0) 28)) (fun _ i _=>s.length-(intOf i).toNat)
 case atStart=>exact ⟨[],s,rfl,by simp,rfl,rfl⟩
 case round =>
  obtain ⟨p,r,hs,hno,rfl,rfl⟩:=hrel
  have hl1:=congrArg List.length hs
  rw [List.length_append] at hl1
  have hp1:(p.length:Int)≤1099511627776:=by have:=HN.out;omega
  have HS:=Lib.hid hs
  have HNO:=Lib.hid hno
  clear hs hno
  match r with
  | [] =>
   have t0:decide ((p.length:Int)<(s.length:Int))=false:=by simp at hl1;simp;omega
   have hnlt:¬p.length<s.length:=by simp at hl1;omega
   have H10:Hid ((10:UInt8)∉s):=Lib.hid (by rw [HS.out,List.append_nil];exact HNO.out)
   clear hl1
   go_wp2
   have HW:=Lib.hid (fun W=>rwords_any s W HN.out)
   go_loopw [6,24] (fun j i wr=>∃p r:List UInt8,s=p++r∧(∀x∈p,x=32)∧i=.int .i64 (p.length:Nat)∧wr=w.alloc (.cells (zeroC 0) 28)) (fun _ i _=>s.length-(intOf i).toNat)
   case atStart=>exact ⟨[],s,rfl,by simp,rfl,rfl⟩
   case round =>
    clear t0 hnlt hp1 HS HNO
    obtain ⟨p2,r3,hs,hno,rfl,rfl⟩:=hrel
    have hl1:=congrArg List.length hs
    rw [List.length_append] at hl1
    have hp1:(p2.length:Int)≤1099511627776:=by have:=HN.out;omega
    have HS:=Lib.hid hs
    have HNO:=Lib.hid hno
    clear hs hno
    match r3 with
    | [] =>
     have t0:decide ((p2.length:Int)<(s.length:Int))=false:=by simp at hl1;simp;omega
     have hnlt:¬p2.length<s.length:=by simp at hl1;omega
     have HP:Hid (s=p2):=Lib.hid (by rw [HS.out,List.append_nil])
     have HE:Hid (sp.words s=some []):=Lib.hid (by have:=words_spc HNO.out [];rw [List.append_nil,sp.words_nil] at this;rw [HP.out];exact this)
     have HF:=Lib.hid (fun W=>lineIs_silent (B:=w.heap.size) (line_silent H10.out (by rw [HP.out];exact silent_spc HNO.out)) W)
     clear hl1
     go_wp2_with (first
      | (have hgd:=HW;clear hgd;go_at_call 29;refine (HW.out _).mono ?_;rintro e w2 ⟨he,hb2⟩;unfold RWordsIs at he;rw [HE.out] at he;obtain ⟨v,rfl,hv⟩:=he;have hv2:=nil_row hv;obtain ⟨a,cp,rfl⟩:=hv2;have HB2:=Lib.hid (HB0.out.trans (hb2.mono HB0.out.size));have HM2:=Lib.hid ((hb2.block _ (lt_of_block HM.out)).trans HM.out);clear hv hb2 HW)
      | (refine wpList_store_row rfl 28 _ _ rfl w.heap.size (zeroC 0) rfl rfl 28 _ HM2.out size28' rfl zero_one ?_))
     exact ret_rline rfl rfl rfl rfl (setRow_at HM2.out _) rfl ⟨HF.out _,below_setRow HB2.out (Nat.le_refl _) _⟩
    | c :: r4 =>
     have t0:decide ((p2.length:Int)<(s.length:Int))=true:=by simp at hl1;simp;omega
     have hlt:p2.length<s.length:=by simp at hl1;omega
     have ei:=bstr_idx HS.out
     by_cases e35:c=35
     ·subst e35
      have HF:=Lib.hid (fun W=>lineIs_silent (B:=w.heap.size) (line_silent H10.out (by rw [HS.out];exact silent_hash HNO.out r4)) W)
      clear hl1
      go_wp2_with (refine wpList_store_row rfl 28 _ _ rfl w.heap.size (zeroC 0) rfl rfl 28 _ HM.out size28' rfl zero_one ?_)
      exact ret_rline rfl rfl rfl rfl (setRow_at HM.out _) rfl ⟨HF.out _,below_setRow HB0.out (Nat.le_refl _) _⟩
     ·have t35:((c.toNat:Int)==35)=false:=u8ne c 35 e35
      by_cases e32:c=32
      ·subst e32
       go_wp2
       refine ⟨⟨p2++[32],r4,by rw [HS.out,List.append_assoc];rfl,fun x hx => ?_,by simp,trivial⟩,?_⟩
       ·rcases List.mem_append.1 hx with h | h
        ·exact HNO.out x h
        ·simpa using h
       ·simp [intOf]
        omega
      ·have t32:((c.toNat:Int)==32)=false:=u8ne c 32 e32
       have HSI:Hid (sp.silentB s=false):=Lib.hid (by rw [HS.out];exact silent_not HNO.out e32 e35 r4)
       clear hl1
       cases hw:sp.words s with
       | none =>
        have HE:=Lib.hid hw
        have HF:=Lib.hid (fun W=>lineIs_none (B:=w.heap.size) (line_bad_words H10.out HSI.out hw) W)
        clear hw
        go_wp2_with (first
         | (have hgd:=HW;clear hgd;go_at_call 29;refine (HW.out _).mono ?_;rintro e w2 ⟨he,hb2⟩;unfold RWordsIs at he;rw [HE.out] at he;subst he;have HB2:=Lib.hid (HB0.out.trans (hb2.mono HB0.out.size));have HM2:=Lib.hid ((hb2.block _ (lt_of_block HM.out)).trans HM.out);clear hb2 HW)
         | (refine wpList_store_row rfl 28 _ _ rfl w.heap.size (zeroC 0) rfl rfl 28 _ HM2.out size28' rfl zero_one ?_))
        exact ret_rline rfl rfl rfl rfl (setRow_at HM2.out _) rfl ⟨HF.out _,below_setRow HB2.out (Nat.le_refl _) _⟩
       | some l =>
        have HE:=Lib.hid hw
        have h0:l≠[]:=fun e=>words_some_ne HSI.out (by rw [hw,e])
        have HLL:=Lib.hid (words_len _ s (Nat.le_refl _) l hw)
        have hlen:0<l.length:=List.length_pos_iff.2 h0
        have hlen2:¬l.length=0:=by omega
        have hlen3:((l.length:Int)==0)=false:=by simp;omega
        have hO:=opR_words l h0
        have HLR:=Lib.hid (line_res H10.out HSI.out hw)
        obtain ⟨⟨o,r5,bd⟩,hx⟩:∃x,opR (l,false)=x:=⟨_,rfl⟩
        rw [hx] at hO
        have HO:=Lib.hid hO
        have HOP:Hid (∀(W0 W:World) (b g cap:Nat) (h:RdR W0 b g l.length cap l false W),Calls Tryz.prog 30 #[.pointer (some ⟨b,0,none⟩)] W fun e w'=>OpIs W0 b g l.length cap o (r5,bd) e w'):=Lib.hid (fun W0 W b g cap h=>by
         have:=rop_any W0 W b g l.length cap (l,false) h
         rw [hx] at this
         exact this)
        clear hw hO hx
        cases bd with
        | true =>
         have HF:=Lib.hid (fun W=>lineIs_none (B:=w.heap.size) (s:=s) (by rw [HLR.out,opOk_bad HO.out];rfl) W)
         go_wp2_with (first
          | (have hgd:=HW;clear hgd;go_at_call 29;refine (HW.out _).mono ?_;rintro e w2 ⟨he,hb2⟩;unfold RWordsIs at he;rw [HE.out] at he;obtain ⟨v,rfl,hv⟩:=he;obtain ⟨g,cap,cur,rfl,hg1,hg2,hg3,hg4⟩:=row_of hv hlen;have HB2:=Lib.hid (HB0.out.trans (hb2.mono HB0.out.size));have HM2:=Lib.hid ((hb2.block _ (lt_of_block HM.out)).trans HM.out);have HRD:=Lib.hid (rd_start (cap:=cap) hg2 hg4 (Nat.le_trans HLL.out.2 HN.out) (fun p hp=>Nat.le_trans (HLL.out.1 p hp) HN.out));clear hv hb2 HW hg1 hg2 hg3 hg4)
          | (have hgd:=HRD;clear hgd;go_at_call 30;refine (HOP.out _ _ _ _ _ HRD.out).mono ?_;rintro e w4 ⟨tv,rfl,hr4,hd4,ho4⟩;have HONE:=Lib.hid (one_opc (o:=o) hr4);have HL:=Lib.hid (LnR.start (heap_old _ _ _ HM2.out) (lt_of_block HM2.out) (HB2.out.alloc HB2.out.size _) hr4 hd4 ho4);clear hr4 hd4 ho4 HRD)
          | (have hgd:=HL;clear hgd;refine wpl_st28 rfl _ _ rfl w4.heap.size (opCells o tv) rfl rfl _ (heap_alloc_at _ _) rfl rfl HONE.out ?_;intro W5 hW5;have H5:=Lib.hid (HL.out W5 hW5);have c2:=H5.out.rd.c2;have c1:=H5.out.rd.c1 rfl;clear hW5 HL)
          | (have hgd:=H5;clear hgd;refine wpList_store_row rfl 28 _ _ rfl w.heap.size (zeroC 0) rfl rfl 28 _ H5.out.res size28' rfl zero_one ?_))
         exact ret_rline rfl rfl rfl rfl (setRow_at H5.out.res _) rfl ⟨HF.out _,below_setRow H5.out.bel (Nat.le_refl _) _⟩
        | false =>
        match r5 with
        | x :: r6 =>
         have HF:=Lib.hid (fun W=>lineIs_none (B:=w.heap.size) (s:=s) (by rw [HLR.out,opOk_rest HO.out];rfl) W)
         have hk1:(((l.length-(x :: r6).length:Nat):Int)==(l.length:Int))=false:=by simp;omega
         have hk2:¬((l.length-(x :: r6).length:Nat):Int)=(l.length:Int):=by simp;omega
         have hk3:¬(l.length-(x :: r6).length:Nat)=l.length:=by simp;omega
         generalize l.length-(x :: r6).length=K at hk1 hk2 hk3
         go_wp2_with (first
          | (have hgd:=HW;clear hgd;go_at_call 29;refine (HW.out _).mono ?_;rintro e w2 ⟨he,hb2⟩;unfold RWordsIs at he;rw [HE.out] at he;obtain ⟨v,rfl,hv⟩:=he;obtain ⟨g,cap,cur,rfl,hg1,hg2,hg3,hg4⟩:=row_of hv hlen;have HB2:=Lib.hid (HB0.out.trans (hb2.mono HB0.out.size));have HM2:=Lib.hid ((hb2.block _ (lt_of_block HM.out)).trans HM.out);have HRD:=Lib.hid (rd_start (cap:=cap) hg2 hg4 (Nat.le_trans HLL.out.2 HN.out) (fun p hp=>Nat.le_trans (HLL.out.1 p hp) HN.out));clear hv hb2 HW hg1 hg2 hg3 hg4)
          | (have hgd:=HRD;clear hgd;go_at_call 30;refine (HOP.out _ _ _ _ _ HRD.out).mono ?_;rintro e w4 ⟨tv,rfl,hr4,hd4,ho4⟩;have HONE:=Lib.hid (one_opc (o:=o) hr4);have HL:=Lib.hid (LnR.start (heap_old _ _ _ HM2.out) (lt_of_block HM2.out) (HB2.out.alloc HB2.out.size _) hr4 hd4 ho4);clear hr4 hd4 ho4 HRD)
          | (have hgd:=HL;clear hgd;refine wpl_st28 rfl _ _ rfl w4.heap.size (opCells o tv) rfl rfl _ (heap_alloc_at _ _) rfl rfl HONE.out ?_;intro W5 hW5;have H5:=Lib.hid (HL.out W5 hW5);have c2:=H5.out.rd.c2;have c1:=H5.out.rd.c1 rfl;clear hW5 HL)
          | (have hgd:=H5;clear hgd;refine wpList_store_row rfl 28 _ _ rfl w.heap.size (zeroC 0) rfl rfl 28 _ H5.out.res size28' rfl zero_one ?_))
         exact ret_rline rfl rfl rfl rfl (setRow_at H5.out.res _) rfl ⟨HF.out _,below_setRow H5.out.bel (Nat.le_refl _) _⟩
        | [] =>
         have HF:Hid (sp.lineS s=some (some o)):=Lib.hid (by rw [HLR.out,opOk_good HO.out];rfl)
         go_wp2_with (first
          | (have hgd:=HW;clear hgd;go_at_call 29;refine (HW.out _).mono ?_;rintro e w2 ⟨he,hb2⟩;unfold RWordsIs at he;rw [HE.out] at he;obtain ⟨v,rfl,hv⟩:=he;obtain ⟨g,cap,cur,rfl,hg1,hg2,hg3,hg4⟩:=row_of hv hlen;have HB2:=Lib.hid (HB0.out.trans (hb2.mono HB0.out.size));have HM2:=Lib.hid ((hb2.block _ (lt_of_block HM.out)).trans HM.out);have HRD:=Lib.hid (rd_start (cap:=cap) hg2 hg4 (Nat.le_trans HLL.out.2 HN.out) (fun p hp=>Nat.le_trans (HLL.out.1 p hp) HN.out));clear hv hb2 HW hg1 hg2 hg3 hg4)
          | (have hgd:=HRD;clear hgd;go_at_call 30;refine (HOP.out _ _ _ _ _ HRD.out).mono ?_;rintro e w4 ⟨tv,rfl,hr4,hd4,ho4⟩;have HONE:=Lib.hid (one_opc (o:=o) hr4);have HL:=Lib.hid (LnR.start (heap_old _ _ _ HM2.out) (lt_of_block HM2.out) (HB2.out.alloc HB2.out.size _) hr4 hd4 ho4);clear hr4 hd4 ho4 HRD)
          | (have hgd:=HL;clear hgd;refine wpl_st28 rfl _ _ rfl w4.heap.size (opCells o tv) rfl rfl _ (heap_alloc_at _ _) rfl rfl HONE.out ?_;intro W5 hW5;have H5:=Lib.hid (HL.out W5 hW5);have c2:=H5.out.rd.c2;have c1:=H5.out.rd.c1 (k:=(l.length:Int)) rfl;clear hW5 HL)
          | (have hgd:=H5;clear hgd;refine wpList_load_row rfl 28 _ rfl w4.heap.size rfl 28 (opCells o tv) (0,0) _ H5.out.loc Tryz.underlying28 rfl size28' ?_)
          | (have hgd:=H5;clear hgd;refine wpList_store_row rfl 28 _ _ rfl w.heap.size (opCells o tv) rfl rfl 28 _ H5.out.res size28' rfl HONE.out ?_))
         refine ret_rline rfl rfl rfl rfl (setRow_at H5.out.res _) rfl ⟨lineIs_op HF.out ?_ (fun x hx=>Nat.le_of_lt (H5.out.own x hx)),below_setRow H5.out.bel (Nat.le_refl _) _⟩
         have:=rowAt_row2 H5.out.row (b:=w.heap.size) (fun x hx=>Nat.ne_of_gt (H5.out.own x hx)) (opCells o tv)
         simpa [World.setRow] using this
  | c :: r2 =>
   have t0:decide ((p.length:Int)<(s.length:Int))=true:=by simp at hl1;simp;omega
   have hlt:p.length<s.length:=by simp at hl1;omega
   have ei:=bstr_idx HS.out
   by_cases e10:c=10
   ·subst e10
    have HF:=Lib.hid (fun W=>lineIs_none (B:=w.heap.size) (line_nl (s:=s) (by rw [HS.out];simp)) W)
    clear hl1
    go_wp2_with (refine wpList_store_row rfl 28 _ _ rfl w.heap.size (zeroC 0) rfl rfl 28 _ HM.out size28' rfl zero_one ?_)
    exact ret_rline rfl rfl rfl rfl (setRow_at HM.out _) rfl ⟨HF.out _,below_setRow HB0.out (Nat.le_refl _) _⟩
   ·have t10:((c.toNat:Int)==10)=false:=u8ne c 10 e10
    go_wp2
    refine ⟨⟨p++[c],r2,by rw [HS.out,List.append_assoc];rfl,by simp [HNO.out,Ne.symm e10],by simp,trivial⟩,?_⟩
    simp [intOf]
    omega
set_option maxRecDepth 100000 in
set_option maxHeartbeats 16000000 in
theorem rparse_op (w:World) (v:Value) (b:List UInt8) (h:RowAt w.heap.size w v b.length (Lib.byteCells b)) (hn:b.length≤1048576) :
  Calls Tryz.prog 14 #[v] w fun e w'=>ParseIs b w' e∧Below w.heap.size w w':=by
 have HLN:=Lib.hid (rlines_any w v b h hn)
 obtain ⟨av,cv,rfl⟩:=h.slice
 by_cases hbig:65536<b.length
 ·have HF:=Lib.hid (fun W=>parse_long (.inl hbig) W)
  have t6:decide ((65536:Int)<(b.length:Int))=true:=by simp;omega
  have t6n:(65536:Int)<(b.length:Int):=by omega
  have t6g:decide ((b.length:Int)>65536)=true:=by simp;omega
  clear hbig hn  h
  go_enter Tryz.func14,Tryz.ntmps14
  go_wp2_with (go_at_call 33;refine HLN.out.mono ?_;rintro e w1 ⟨v',rfl,hr1,hb1⟩;obtain ⟨a1,c1,rfl⟩:=hr1.slice;have HB1:=Lib.hid hb1;clear hr1 hb1)
  go_ret3
  exact ⟨HF.out _,HB1.out⟩
 have t6:decide ((65536:Int)<(b.length:Int))=false:=by simp;omega
 have t6n:¬(65536:Int)<(b.length:Int):=by omega
 have t6g:decide ((b.length:Int)>65536)=false:=by simp;omega
 have HB6:Hid (b.length≤65536):=Lib.hid (by omega)
 have HNB:=Lib.hid hn
 have HLS:=Lib.hid (linesS_len b).2
 by_cases hlong:2000<(sp.linesS b).length
 ·have HF:=Lib.hid (fun W=>parse_long (b:=b) (.inr hlong) W)
  have HLO:=Lib.hid hlong
  clear hbig hn  h hlong
  go_enter Tryz.func14,Tryz.ntmps14
  go_wp2_with (go_at_call 33;refine HLN.out.mono ?_;rintro e w1 ⟨v',rfl,hr1,hb1⟩;obtain ⟨a1,c1,rfl⟩:=hr1.slice;have hl1:decide (((sp.linesS b).length:Int)>2000)=true:=(by have:=HLO.out;simp;omega);have hl2:((sp.linesS b).length:Int)>2000:=(by have:=HLO.out;omega);have HB1:=Lib.hid hb1;clear hr1 hb1)
  go_ret3
  exact ⟨HF.out _,HB1.out⟩
 have HL2:Hid ((sp.linesS b).length≤2000):=Lib.hid (by omega)
 obtain ⟨lns,hlns⟩:∃lns,lns=sp.linesS b:=⟨_,rfl⟩
 have HLNS:=Lib.hid hlns
 rw [←hlns] at HLN HLS
 have HK2:Hid (lns.length≤2000):=Lib.hid (by rw [hlns];exact HL2.out)
 clear hbig hn  h hlong hlns
 go_enter Tryz.func14,Tryz.ntmps14
 go_wp2_with (go_at_call 33;refine HLN.out.mono ?_;rintro e w1 ⟨v',rfl,hr1,hb1⟩;obtain ⟨a1,c1,rfl⟩:=hr1.slice;have hl1:decide ((lns.length:Int)>2000)=false:=(by have:=HK2.out;simp;omega);have hl2:¬(lns.length:Int)>2000:=(by have:=HK2.out;omega);have HBA:=Lib.hid hb1;have HROW:=Lib.hid hr1;clear hr1 hb1)
 go_loopw [6,24] (fun d i wr=>∃k:Nat,k≤lns.length∧i=.int .i64 k∧∃L,PaR w1 L d wr∧PaAt lns k (L.map (·.1))∧L.length≤k) (fun _ i _=>lns.length-(intOf i).toNat)
 case atStart=>exact ⟨0,Nat.zero_le _,rfl,[],PaR.nil w1,PaAt.start _,Nat.le_refl _⟩
 case round =>
  obtain ⟨k,hk,rfl,L,hp,hat,hkl⟩:=hrel
  have HP:=Lib.hid hp;have HAT:=Lib.hid hat;have HLK:=Lib.hid hkl
  have HKL:Hid (L.length≤2000):=Lib.hid (by have:=HK2.out;omega)
  have hkb:(k:Int)≤2000:=by have:=HK2.out;omega
  clear hp hat hkl
  by_cases hlt:k<lns.length
  ·obtain ⟨bx,off,hae,_,hcell⟩:=str_el HROW.out HP.out.bel hlt
   subst hae
   have t0:decide ((k:Int)<(lns.length:Int))=true:=by simp;omega
   have HSL:Hid (lns[k].length≤1048576):=Lib.hid (Nat.le_trans (HLS.out _ (List.getElem_mem hlt)) HNB.out)
   obtain ⟨s,hs⟩:∃s,lns[k]=s:=⟨_,rfl⟩
   rw [hs] at hcell HSL
   have HSK:=Lib.hid hs
   have HCL:=Lib.hid (fun W hn=>rline_any s W hn)
   cases hq:sp.lineS s with
   | none =>
    have HLE:=Lib.hid hq
    have HF:=Lib.hid (fun W=>parse_err HB6.out HL2.out (by rw [←HLNS.out];exact HAT.out.bad hlt HSK.out hq) W)
    clear hq hs
    go_wp2_with (first
       | (have hgd:=HCL;clear hgd;go_at_call 10;refine (HCL.out _ (Nat.le_trans HSL.out (by decide))).mono ?_;rintro e W1 ⟨he,hb1⟩;unfold LineIs at he;rw [HLE.out] at he;subst he;have HB1:=Lib.hid hb1;clear hb1 HCL)
        | (have hgd:=HB1;clear hgd;refine wpl_st28' rfl _ _ rfl W1.heap.size (zeroC 0) rfl rfl _ (heap_alloc_at _ _) rfl rfl zero_one ?_;intro W2 hW;obtain ⟨q1,q2⟩:=st_new hW;have HQ2:=Lib.hid q1;have HB2:=Lib.hid (HB1.out.trans (q2.mono HB1.out.size));clear hW q1 q2 HB1))
    go_ret3
    exact ⟨by have:=HF.out W2;simpa using this,HBA.out.trans ((HP.out.bel.trans (HB2.out.mono HP.out.bel.size)).mono HBA.out.size)⟩
   | some x =>
    cases x with
    | none =>
     have HLE:=Lib.hid hq
     clear hs
     go_wp2_with (first
       | (have hgd:=HCL;clear hgd;go_at_call 10;refine (HCL.out _ (Nat.le_trans HSL.out (by decide))).mono ?_;rintro e W1 ⟨he,hb1⟩;unfold LineIs at he;rw [HLE.out] at he;subst he;have HB1:=Lib.hid hb1;clear hb1 HCL)
        | (have hgd:=HB1;clear hgd;refine wpl_st28' rfl _ _ rfl W1.heap.size (zeroC 0) rfl rfl _ (heap_alloc_at _ _) rfl rfl zero_one ?_;intro W2 hW;obtain ⟨q1,q2⟩:=st_new hW;have HQ2:=Lib.hid q1;have HB2:=Lib.hid (HB1.out.trans (q2.mono HB1.out.size));clear hW q1 q2 HB1))
     exact ⟨⟨k+1,by omega,by go_num,L,HP.out.on HB2.out,HAT.out.skip hlt HSK.out HLE.out,Nat.le_succ_of_le HLK.out⟩,by simp [intOf];omega⟩
    | some o =>
     have HLE:=Lib.hid hq
     clear hs
     go_wp2_with (first
       | (have hgd:=HCL;clear hgd;go_at_call 10;refine (HCL.out _ (Nat.le_trans HSL.out (by decide))).mono ?_;rintro e W1 ⟨he,hb1⟩;unfold LineIs at he;rw [HLE.out] at he;obtain ⟨tv,rfl,hr1,ho1⟩:=he;have HB1:=Lib.hid hb1;have HT1:=Lib.hid hr1;have HN1:=Lib.hid ho1;have HO1:=Lib.hid (one_op' (o:=o) hr1);clear hb1 hr1 ho1 HCL)
        | (have hgd:=HB1;clear hgd;refine wpl_st28' rfl _ _ rfl W1.heap.size (opCells o tv) rfl rfl _ (heap_alloc_at _ _) rfl rfl HO1.out ?_;intro W2 hW;obtain ⟨q1,q2⟩:=st_new hW;have HQ2:=Lib.hid q1;have HB2:=Lib.hid (HB1.out.trans (q2.mono HB1.out.size));have HT2:=Lib.hid ((HT1.out.keep q2).mono q2.size);clear hW q1 q2 HB1)
        | (have hgd:=HQ2;clear hgd;refine wpList_load_row rfl 28 _ rfl W1.heap.size rfl 28 (opCells o tv) (0,0) _ HQ2.out Tryz.underlying28 rfl size28' ?_;clear HQ2)
        | (have hgd:=HT2;clear hgd;refine wpl_slice28 rfl _ rfl o tv rfl ?_;intro W3 p1 p2;have HQ3:=Lib.hid p1;have HB3:=Lib.hid (HB2.out.trans (p2.mono HB2.out.size));have HT3:=Lib.hid ((HT2.out.keep p2).mono p2.size);clear p1 p2 HT2)
        | (have hgd:=HQ3;clear hgd;at_builtin;refine wpl_append_op rfl _ _ rfl w1.heap.size L _ rfl (HP.out.on HB3.out).own W2.heap.size (o,tv) (0,0) rfl HQ3.out HO1.out (by have:=HKL.out;omega) (HP.out.on HB3.out).bel.size ?_;intro v' W4 hown hgr hvo;have HX:=Lib.hid (HP.out.app HB3.out HT3.out HN1.out hown hgr hvo);clear hown hgr hvo HQ3))
     exact ⟨⟨k+1,by omega,by go_num,L++[(o,tv)],HX.out,by rw [List.map_append];exact HAT.out.one hlt HSK.out HLE.out,by rw [List.length_append];exact Nat.succ_le_succ HLK.out⟩,by simp [intOf];omega⟩
  ·have hke:k=lns.length:=by omega
   have t0:decide ((k:Int)<(lns.length:Int))=false:=by simp;omega
   have HF:=Lib.hid (parse_ok HB6.out HL2.out (by rw [←HLNS.out];exact HAT.out.fin (by omega)) HP.out)
   go_wp2
   go_ret3
   exact ⟨HF.out,HBA.out.trans (HP.out.bel.mono HBA.out.size)⟩
theorem sameRow_nil (W:World):SameRow W (.slice none 0 0) []:=⟨⟨none,0,rfl,Nat.le_refl _,Nat.zero_le _,.inl ⟨rfl,rfl,fun _=>rfl⟩⟩,fun p hp=>by cases hp⟩
theorem parseL_len:∀(ls:List (List UInt8)) (i:Nat) (l:List sp.Op),sp.parseL i ls=.inr l→l.length≤ls.length
 | [],i,l,h=>by rw [sp.parseL] at h;cases h;simp
 | s :: ls,i,l,h=>by
  rw [sp.parseL] at h
  cases hl:sp.lineS s with
  | none=>rw [hl] at h;cases h
  | some x =>
   rw [hl] at h
   cases x with
   | none=>have:=parseL_len ls (i+1) l h;simp;omega
   | some o =>
    simp only at h
    cases hp:sp.parseL (i+1) ls with
    | inl n=>rw [hp] at h;cases h
    | inr r =>
     rw [hp] at h
     cases h
     have:=parseL_len ls (i+1) r hp
     simp
     omega
theorem parseIs_shape (b:List UInt8):∃(l:List sp.Op) (n er:Int),l.length≤2000∧∀W e,ParseIs b W e→∃v L,e=.returned (.tuple #[v,.int .i64 n,.int .i64 er])∧L.map (·.1)=l∧SameRow W v L:=by
 unfold ParseIs
 by_cases h:65536<b.length∨2000<(sp.linesS b).length
 ·exact ⟨[],0,2,by simp,fun W e he=>by rw [if_pos h] at he;exact ⟨_,[],he,rfl,sameRow_nil W⟩⟩
 ·cases hp:sp.parseL 0 (sp.linesS b) with
  | inl n=>exact ⟨[],n,12,by simp,fun W e he=>by rw [if_neg h] at he;exact ⟨_,[],he,rfl,sameRow_nil W⟩⟩
  | inr l=>exact ⟨l,0,0,by have:=parseL_len _ _ _ hp;omega,fun W e he=>by rw [if_neg h] at he;obtain ⟨v,L,h1,h2,h3⟩:=he;exact ⟨v,L,h2,h1,h3⟩⟩
set_option maxRecDepth 100000 in
set_option maxHeartbeats 4000000 in
theorem scriptParses_any (w:World) (v:Value) (b:List UInt8) (h:RowAt w.heap.size w v b.length (Lib.byteCells b)) (hm:MaxAt w) (hn:b.length≤1048576)
  (haw:∀wx,Below w.heap.size w wx→Calls Tryz.prog 12 #[] wx fun e w'=>e=.returned (.bool true)∧Below wx.heap.size wx w') :
  Calls Tryz.prog 4 #[v] w fun e w'=>e=.returned (.bool true)∧Below w.heap.size w w':=by
 obtain ⟨l,n,er,hl,hs⟩:=parseIs_shape b
 have HS:=Lib.hid hs;have HAW:=Lib.hid haw;have HLL:=Lib.hid hl
 have HC:=Lib.hid (parse_op w v b h hm hn)
 have HR:=Lib.hid (fun W (hb:Below w.heap.size w W)=>rparse_op W v b ((h.keep hb).mono hb.size) hn)
 clear hs haw hn h hm hl
 go_enter Tryz.func4,Tryz.ntmps4
 go_wp2_with (first
  | (have hgd:=HC;clear hgd;go_at_call 13;refine HC.out.mono ?_;rintro e w1 ⟨ht,hb1⟩;obtain ⟨va,A,rfl,ha,hra⟩:=HS.out _ _ ht;have HB:=Lib.hid hb1;have HA:=Lib.hid ha;have HRA:=Lib.hid hra;clear ht hra ha hb1 HC)
  | (have hgd:=HR;clear hgd;go_at_call 14;refine (HR.out _ HB.out).mono ?_;rintro e w2 ⟨ht,hb1⟩;obtain ⟨vc,C,rfl,hc,hrc⟩:=HS.out _ _ ht;have HB2:=Lib.hid (HB.out.trans (hb1.mono HB.out.size));have HCM:=Lib.hid hc;have HRC:=Lib.hid hrc;have HRA2:=Lib.hid (HRA.out.on hb1);clear ht hrc hc hb1 HR)
  | (have hgd:=HRA2;clear hgd;go_at_call 15;refine (same_any _ va vc A C HRA2.out HRC.out (HA.out.trans HCM.out.symm) (by have h1:=congrArg List.length HA.out;have h2:=HLL.out;rw [List.length_map] at h1;omega)).mono ?_;rintro e w3 ⟨rfl,hb5⟩;have HB5:=Lib.hid (HB2.out.trans (hb5.mono HB2.out.size));clear hb5 HRA2)
  | (have hgd:=HB5;clear hgd;go_at_call 12;refine (HAW.out _ HB5.out).mono ?_;rintro e w6 ⟨rfl,hb6⟩;have HB6:=Lib.hid (HB5.out.trans (hb6.mono HB5.out.size));clear hb6))
 go_ret
 exact ⟨rfl,HB6.out⟩
end Go.Proofs.YtihlneenajlhoaaGreatDoor
set_option linter.unusedSimpArgs false
set_option linter.unusedVariables false
namespace Go.Proofs.YtihlneenajlhoaaGreatDoor
open Go Go.RowKit Go.ChangeShapes Go.WideShapes
section
variable {H:Type} {enc:TypeId×Value→H} {w:World} {held:Bool}
def Bk (N:Nat) (d:DataW H):Prop:=Rows.uptoBulk d≤N
theorem bulk_mem:∀ {l:List (DataW H)} {d:DataW H},d∈l→Rows.uptoBulk d≤Rows.uptoBulkAll l
 | [],_,h=>by cases h
 | a :: l,d,h=>by
  rw [Rows.uptoBulkAll]
  rcases List.mem_cons.1 h with rfl | h
  ·omega
  ·have:=bulk_mem h;omega
theorem bulk_pos (d:DataW H):1≤Rows.uptoBulk d:=by
 unfold Rows.uptoBulk
 split<;>omega
theorem bulk_len:∀(l:List (DataW H)),l.length≤Rows.uptoBulkAll l
 | []=>Nat.zero_le _
 | a :: l=>by
  rw [Rows.uptoBulkAll,List.length_cons]
  have:=bulk_len l
  have:=bulk_pos a
  omega
theorem Bk.elem {N:Nat} {l s:List (DataW H)} (h:Bk N (.slice l s)) {d:DataW H} (hd:d∈l):Bk N d:=by
 unfold Bk at *
 rw [Rows.uptoBulk] at h
 have:=bulk_mem hd
 omega
theorem Bk.len {N:Nat} {l s:List (DataW H)} (h:Bk N (.slice l s)):l.length+s.length≤N:=by
 unfold Bk at h
 rw [Rows.uptoBulk] at h
 have:=bulk_len l
 have:=bulk_len s
 omega
theorem Bk.field {N:Nat} {l:List (DataW H)} (h:Bk N (.agg l)) {i:Nat} {d:DataW H} (hd:l[i]?=some d):Bk N d:=by
 unfold Bk at *
 rw [Rows.uptoBulk] at h
 have:=bulk_mem (List.mem_of_getElem? hd)
 omega
theorem Bk.str {N:Nat} {s:List UInt8} (h:Bk N (.lit (.string s):DataW H)):s.length≤N:=by
 unfold Bk at h
 rw [Rows.uptoBulk] at h
 omega
theorem flat_get {α:Type} {cells:α→List Value} {k:Nat} (hk:0<k) (hl:∀a,(cells a).length=k):∀ {l:List α} {j:Nat} {u:Value},(l.flatMap cells)[j]?=some u→∃i q a,j=i*k+q∧q<k∧l[i]?=some a∧(cells a)[q]?=some u
 | [],j,u,h=>by simp at h
 | b :: l,j,u,h=>by
  rw [List.flatMap_cons] at h
  by_cases hj:j<k
  ·rw [List.getElem?_append_left (by rw [hl];exact hj)] at h
   exact ⟨0,j,b,by omega,hj,rfl,h⟩
  ·rw [List.getElem?_append_right (by rw [hl];omega),hl] at h
   obtain ⟨i,q,a,h1,h2,h3,h4⟩:=flat_get hk hl h
   exact ⟨i+1,q,a,by rw [Nat.succ_mul];omega,h2,h3,h4⟩
theorem add_plain (a:Addr) (n:Nat) (h:a.spot=none):a.add n=⟨a.block,a.off+n,none⟩:=by
 unfold Addr.add
 split
 ·subst_vars
  cases a
  simp at h ⊢
  exact h
 ·rfl
theorem cell_plain {w:World} {a:Addr} {v:Value} (h:w.cell? a=some v):a.spot=none∧a.block<w.heap.size:=by
 unfold World.cell? at h
 split at h
 ·rename_i hb
  refine ⟨?_,(Array.getElem?_eq_some_iff.1 hb).1⟩
  split at h
  ·cases h
  ·rename_i hs
   cases hq:a.spot with
   | none=>rfl
   | some _=>simp [hq] at hs
 ·cases h
theorem open_row {P:Program} {N:Nat} {α:Type} [Inhabited α] (cells:α→List Value) (ok:α→Prop) {k:Nat} (hk:0<k) {t e:TypeId} {fuel:Nat} {cs:List Value} {x:DataW H×List MemPlace} (ht:P.underlying t=some (.slice e)) (hc:P.cellsOf e=k)
  (hl:∀a,(cells a).length=k) (one:∀n cs' y,DataW.trod enc P w 0 (fun _=>true) held n e cs'=some y→Bk N y.1→∃a,cs'=cells a∧ok a)
  (h:DataW.trod enc P w 0 (fun _=>true) held fuel t cs=some x) (hb:Bk N x.1):∃(v:Value) (l:List α),cs = [v]∧RowAt w.heap.size w v l.length (l.flatMap cells)∧(∀a∈l,ok a)∧l.length≤N:=by
 rcases Deep.open_slice ht h with ⟨rfl,rfl⟩ | ⟨a,len,cap,m,n,D,Pl,rfl,_,hle,hcap,hm,rfl,hx⟩
 ·exact ⟨_,[],rfl,⟨none,0,rfl,Nat.le_refl _,Nat.zero_le _,Or.inl ⟨rfl,rfl,fun _=>rfl⟩⟩,(fun _ h=>by cases h),by simp⟩
 ·have hlm:len≤m:=by rw [hm];split<;>omega
  have each:∀i,i<len→∃y:α,w.cells? 0 (a.add (i*k)) k=some (cells y)∧ok y:=fun i hi=>by
   obtain ⟨cs',h1,h2⟩:=hx i (by omega)
   obtain ⟨y,rfl,h3⟩:=one _ _ _ h2 (hb.elem (List.mem_map.2 ⟨i,List.mem_range.2 hi,rfl⟩))
   rw [hc] at h1
   exact ⟨y,h1,h3⟩
  obtain ⟨A,hA⟩:=Deep.choose_lt each
  have hlen:((List.range len).map A).length=len:=by simp
  refine ⟨_,(List.range len).map A,rfl,⟨some a,cap,by rw [hlen],by omega,hcap,?_⟩,fun y hy => ?_,?_⟩
  ·rw [hlen]
   by_cases h0:len=0
   ·subst h0
    exact Or.inl ⟨rfl,rfl,fun h=>by cases h⟩
   ·refine Or.inr ⟨by omega,?_⟩
    have c0:=(World.cells?_some (hA 0 (by omega)).1).2.2 0 hk
    have cA:(cells (A 0))[0]?=some ((cells (A 0))[0]'(by rw [hl];exact hk)):=List.getElem?_eq_getElem _
    rw [Nat.zero_mul] at c0
    rw [cA] at c0
    have ha:(a.add 0).add 0=a:=rfl
    rw [ha] at c0
    obtain ⟨hs,hbl⟩:=cell_plain c0
    refine ⟨a.block,a.off,by cases a;simp at hs ⊢; exact hs,hbl,fun j u hj => ?_⟩
    obtain ⟨i,q,y,rfl,hq,hi,hy⟩:=flat_get hk hl hj
    have hil:i<len:=by
     have:=(List.getElem?_eq_some_iff.1 hi).1
     simpa using this
    have:=(World.cells?_some (hA i hil).1).2.2 q hq
    rw [Deep.add_add,add_plain _ _ hs] at this
    rw [List.getElem?_map,List.getElem?_range hil] at hi
    obtain rfl:A i=y:=by simpa using hi
    rw [this]
    exact hy
  ·obtain ⟨i,hi,rfl⟩:=List.mem_map.1 hy
   exact (hA i (List.mem_range.1 hi)).2
  ·have:=hb.len
   rw [hlen]
   simp only [List.length_map,List.length_range] at this
   omega
variable {n N:Nat} {cs:List Value} {y:DataW H×List MemPlace}
theorem one_u8 (h:DataW.trod enc Tryz.prog w 0 (fun _=>true) held n 5 cs=some y):∃b:UInt8,cs = [.int .u8 b.toNat]:=by
 obtain ⟨i,rfl,_,hw⟩:=DataW.trod_int Tryz.underlying5 h
 simp only [Lit.wf,Bool.and_eq_true,decide_eq_true_eq] at hw
 obtain ⟨h0,h1⟩:=hw
 have e0:IntKind.u8.min=0:=rfl
 have e1:IntKind.u8.max=255:=rfl
 obtain ⟨k,hk,_⟩:∃k:UInt8,i=k.toNat∧True:=⟨UInt8.ofNat i.toNat,by
  rw [UInt8.toNat_ofNat']
  have:i.toNat%2 ^ 8=i.toNat:=Nat.mod_eq_of_lt (by omega)
  rw [this];omega,trivial⟩
 exact ⟨k,by rw [hk]⟩
theorem cellsR5:Tryz.prog.cellsOf 5=1:=by kernel_rfl
theorem read_bytes (h:DataW.trod enc Tryz.prog w 0 (fun _=>true) held n 22 cs=some y) (hb:Bk N y.1):∃(v:Value) (l:List UInt8),cs = [v]∧RowAt w.heap.size w v l.length (Lib.byteCells l)∧l.length≤N:=by
 obtain ⟨v,l,rfl,hr,ho,hl⟩:=open_row (fun b:UInt8=>[Value.int .u8 b.toNat]) (fun _=>True) (by omega) Tryz.underlying22 cellsR5 (fun _=>rfl) (fun n cs' y h _=>by obtain ⟨b,e⟩:=one_u8 h;exact ⟨b,e,trivial⟩) h hb
 refine ⟨v,l,rfl,?_,hl⟩
 have e:l.flatMap (fun b:UInt8=>[Value.int .u8 b.toNat])=Lib.byteCells l:=by
  unfold Lib.byteCells
  clear hr ho hl h
  induction l with
  | nil=>rfl
  | cons a l ih=>rw [List.flatMap_cons,ih];rfl
 rw [e] at hr
 exact hr
structure Opx where
 op:sp.Op
 tv:Value
def Opx.cells (x:Opx):List Value:=[.int .i64 x.op.kind,.int .i64 x.op.node,.int .i64 x.op.at_,.int .i64 x.op.origin,.string (bstr x.op.name),.string (bstr x.op.word),x.tv,.int .i64 x.op.w.1,.int .i64 x.op.w.2,.int .i64 x.op.h.1,.int .i64 x.op.h.2,.int .i64 x.op.bt,.string (bstr x.op.bn),.int .i64 x.op.bw.1,.int .i64 x.op.bw.2,.int .i64 x.op.bh.1,.int .i64 x.op.bh.2,.bool x.op.on]
instance:Inhabited Opx:=⟨⟨{},default⟩⟩
end
end Go.Proofs.YtihlneenajlhoaaGreatDoor
