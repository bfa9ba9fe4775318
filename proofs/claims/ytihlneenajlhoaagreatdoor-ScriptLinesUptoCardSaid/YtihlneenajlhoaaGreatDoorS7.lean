/-
 Contract, for a run of one goroutine, of jalousieref27.Line: any text as a line, as the plain law says. Condition: its length fits.
-/
import Derived.Test.YtihlneenajlhoaaGreatDoorS6
import Derived.Deep.RegionHeld
import Derived.Test.YtihlneenajlhoaaGreatDoorS3
import Derived.Test.YtihlneenajlhoaaGreatDoorRows
import Derived.Test.YtihlneenajlhoaaGreatDoorS0
import Derived.Test.YtihlneenajlhoaaGreatDoorS2
import Derived.Deep.Slices
import Derived.SizedLaws
import Derived.Handed
import Derived.OpenShut
import Derived.KernelRfl
set_option linter.unusedSimpArgs false
set_option linter.unusedVariables false
namespace Go.Proofs.YtihlneenajlhoaaGreatDoor
open Go Go.RowKit
structure LnR (w W0:World) (b g n cap q:Nat) (s:RSt) (o:sp.Op) (tv:Value) (W:World):Prop where
 rd:RdR W0 b g n cap s.1 s.2 W
 res:W.heap[w.heap.size]?=some (.cells (zeroC 0) 28 (0,0))
 loc:W.heap[q]?=some (.cells (opCells o tv) 28 (0,0))
 row:RowAt W.heap.size W tv o.text.length (Lib.byteCells o.text)
 bel:Below w.heap.size w W
 own:∀x,tv.ownBlock=some x→w.heap.size<x
theorem LnR.start {w W0 W:World} {b g n cap:Nat} {s:RSt} {o:sp.Op} {tv:Value} (hm:W0.heap[w.heap.size]?=some (.cells (zeroC 0) 28 (0,0))) (hb:w.heap.size<b) (hB:Below w.heap.size w W0) (hr:RowAt W.heap.size W tv o.text.length (Lib.byteCells o.text)) (h:RdR W0 b g n cap s.1 s.2 W) (ho:∀x,tv.ownBlock=some x→W0.heap.size≤x) :
  ∀W5,W5=(W.alloc (.cells (zeroC 0) 28)).setRow W.heap.size (opCells o tv)→LnR w W0 b g n cap W.heap.size s o tv W5:=by
 rintro W5 rfl
 have hlt:=lt_of_block hm
 have hmW:W.heap[w.heap.size]?=some (.cells (zeroC 0) 28 (0,0)):=(h.fr.block _ hlt (by omega) (by simp)).trans hm
 have hbW:=lt_of_block h.blk
 have hs:=h.fr.size
 have hg:=h.glt
 have hbel:Below w.heap.size w W:=hB.trans (h.fr.below (by omega) (by simp) (by omega))
 have hB2:Below W.heap.size W ((W.alloc (.cells (zeroC 0) 28)).setRow W.heap.size (opCells o tv)):=below_setRow (below_new W _) (Nat.le_refl _) _
 refine ⟨(h.on (below_new W _)).row (by omega) (by omega) hs _,(hB2.block _ (by omega)).trans hmW,setRow_at (heap_alloc_at _ _) _,(hr.keep hB2).mono hB2.size,hbel.trans (hB2.mono (by omega)),fun x hx=>by have:=ho x hx;omega⟩
theorem one_opc {o:sp.Op} {tv:Value} {B n:Nat} {W:World} {cs:List Value} (h:RowAt B W tv n cs):(opCells o tv).all (·.oneCell')=true:=by
 obtain ⟨a,cap,rfl⟩:=h.slice
 simp [opCells,Value.oneCell']
theorem nil_row {w:World} {base:Nat} {e:TypeId} {k:Nat} {v:Value} {xs:List Value} (h:w.ownsRow base e k v 0 xs):∃a cp,v=.slice a 0 cp:=by
 rcases h.2 with h | ⟨g,cap,cur,h,_⟩
 ·exact ⟨_,_,h.1⟩
 ·exact ⟨_,_,h⟩
theorem row_of {w:World} {base:Nat} {v:Value} {n:Nat} {xs:List Value} (h:w.ownsRow base 110 2 v n xs) (hn:0<n):∃g cap cur,v=.slice (some ⟨g,0,none⟩) n cap∧base≤g∧w.heap[g]?=some (.cells cur 110 (0,0))∧n≤cap∧cur.toList.take (n*2)=xs:=by
 rcases h.2 with h | ⟨g,cap,cur,h1,h2,h3,h4,_,_,h5⟩
 ·omega
 ·exact ⟨g,cap,cur,h1,h2,h3,h4,h5⟩
theorem line_res {s:List UInt8} {l:List (List UInt8×Bool)} (h:10∉s) (h2:sp.silentB s=false) (hw:sp.words s=some l):sp.lineS s=(resOf l).map some:=by
 rw [line_words h h2,hw]
 match l with
 | []=>rfl
 | (w,false) :: a=>rfl
 | (w,true) :: a=>rfl
theorem opOk_bad {res:Option sp.Op} {o:sp.Op} {r:List (List UInt8×Bool)} (h:OpOk res (o,(r,true))):res=none:=by
 cases res with
 | none=>rfl
 | some x=>cases h
theorem opOk_rest {res:Option sp.Op} {o:sp.Op} {x:List UInt8×Bool} {r:List (List UInt8×Bool)} {b:Bool} (h:OpOk res (o,(x :: r,b))):res=none:=by
 cases res with
 | none=>rfl
 | some x=>cases h
theorem opOk_good {res:Option sp.Op} {o:sp.Op} (h:OpOk res (o,([],false))):res=some o:=by
 cases res with
 | none =>
  rcases h with h | h
  ·cases h
  ·exact absurd rfl h
 | some x=>cases h;rfl
section
variable {ops:Array Oper} {rest:List Oper} {op:Oper} {a:Act} {Q:Exit→Act→World→Prop} {W:World}
theorem wpl_st28 (hgd:op.guard=none) (x y:Operand) (hop:op.op=.store 28 x y) (g:Nat) (cells:Array Value) (hx:a.eval x=.pointer (some ⟨g,0,none⟩)) (hy:a.eval y=.agg cells) (old:Array Value) (hg:W.heap[g]?=some (.cells old 28 (0,0))) (ho:old.size=18) (hc:cells.size=18) (h1:cells.all (·.oneCell')=true)
  (h:∀W',W'=W.setRow g cells→wpList Tryz.prog ops Q rest (a.put op.dst undef) W'):wpList Tryz.prog ops Q (op :: rest) a W :=
 wpList_store_row hgd 28 x y hop g cells hx hy 28 old hg (by rw [hc];exact size28') (by rw [ho,hc]) h1 (h _ rfl)
end
theorem lineIs_op {B:Nat} {s:List UInt8} {o:sp.Op} {tv:Value} {W:World} (h:sp.lineS s=some (some o)) (hr:RowAt W.heap.size W tv o.text.length (Lib.byteCells o.text)) (ho:∀x,tv.ownBlock=some x→B≤x):LineIs B s W (.returned (.tuple #[.agg (opCells o tv),.bool true,.int .i64 0])):=by
 unfold LineIs
 rw [h]
 exact ⟨tv,rfl,hr,ho⟩
theorem line_bad_words {s:List UInt8} (h:10∉s) (h2:sp.silentB s=false) (hw:sp.words s=none):sp.lineS s=none:=by rw [line_words h h2,hw]
set_option maxRecDepth 100000 in
set_option maxHeartbeats 8000000 in
theorem rline_any (s:List UInt8) (w:World) (hn:s.length≤1099511627776):Calls Tryz.prog 10 #[.string (bstr s)] w fun e w'=>LineIs w.heap.size s w' e∧Below w.heap.size w w':=by
 have HN:=Lib.hid hn
 have hsz:=bstr_size s
 have HM:Hid ((w.alloc (.cells (zeroC 0) 28)).heap[w.heap.size]?=some (.cells (zeroC 0) 28 (0,0))):=Lib.hid (heap_alloc_at _ _)
 have HB0:Hid (Below w.heap.size w (w.alloc (.cells (zeroC 0) 28))):=Lib.hid (below_new w _)
 clear hn
 go_enter Tryz.func10,Tryz.ntmps10
 go_wp2
 go_loopw [5,13] (fun j i wr=>∃p r:List UInt8,s=p++r∧(10:UInt8)∉p∧i=.int .i64 (p.length:Nat)∧wr=w.alloc (.cells (zeroC 0) 28)) (fun _ i _=>s.length-(intOf i).toNat)
 case atStart=>exact ⟨[],s,rfl,by simp,rfl,rfl⟩
 case round =>
  obtain ⟨p,r,hs,hno,rfl,rfl⟩:=hrel
  have hl1:=congrArg List.length hs
  rw [List.length_append] at hl1
  have hp1:(p.length:Int)≤1099511627776:=by have:=HN.out;omega
  have HS:=Lib.hid hs
  have HNO:=Lib.hid hno
  clear hs hno
  match r with
  | [] =>
   have t0:decide ((p.length:Int)<(s.length:Int))=false:=by simp at hl1;simp;omega
   have hnlt:¬p.length<s.length:=by simp at hl1;omega
   have H10:Hid ((10:UInt8)∉s):=Lib.hid (by rw [HS.out,List.append_nil];exact HNO.out)
   clear hl1
   go_wp2
   have HW:=Lib.hid (fun W=>rwords_any s W HN.out)
   go_loopw [6,24] (fun j i wr=>∃p r:List UInt8,s=p++r∧(∀x∈p,x=32)∧i=.int .i64 (p.length:Nat)∧wr=w.alloc (.cells (zeroC 0) 28)) (fun _ i _=>s.length-(intOf i).toNat)
   case atStart=>exact ⟨[],s,rfl,by simp,rfl,rfl⟩
   case round =>
    clear t0 hnlt hp1 HS HNO
    obtain ⟨p2,r3,hs,hno,rfl,rfl⟩:=hrel
    have hl1:=congrArg List.length hs
    rw [List.length_append] at hl1
    have hp1:(p2.length:Int)≤1099511627776:=by have:=HN.out;omega
    have HS:=Lib.hid hs
    have HNO:=Lib.hid hno
    clear hs hno
    match r3 with
    | [] =>
     have t0:decide ((p2.length:Int)<(s.length:Int))=false:=by simp at hl1;simp;omega
     have hnlt:¬p2.length<s.length:=by simp at hl1;omega
     have HP:Hid (s=p2):=Lib.hid (by rw [HS.out,List.append_nil])
     have HE:Hid (sp.words s=some []):=Lib.hid (by have:=words_spc HNO.out [];rw [List.append_nil,sp.words_nil] at this;rw [HP.out];exact this)
     have HF:=Lib.hid (fun W=>lineIs_silent (B:=w.heap.size) (line_silent H10.out (by rw [HP.out];exact silent_spc HNO.out)) W)
     clear hl1
     go_wp2_with (first
      | (have hgd:=HW;clear hgd;go_at_call 29;refine (HW.out _).mono ?_;rintro e w2 ⟨he,hb2⟩;unfold RWordsIs at he;rw [HE.out] at he;obtain ⟨v,rfl,hv⟩:=he;have hv2:=nil_row hv;obtain ⟨a,cp,rfl⟩:=hv2;have HB2:=Lib.hid (HB0.out.trans (hb2.mono HB0.out.size));have HM2:=Lib.hid ((hb2.block _ (lt_of_block HM.out)).trans HM.out);clear hv hb2 HW)
      | (refine wpList_store_row rfl 28 _ _ rfl w.heap.size (zeroC 0) rfl rfl 28 _ HM2.out size28' rfl zero_one ?_))
     exact ret_rline rfl rfl rfl rfl (setRow_at HM2.out _) rfl ⟨HF.out _,below_setRow HB2.out (Nat.le_refl _) _⟩
    | c :: r4 =>
     have t0:decide ((p2.length:Int)<(s.length:Int))=true:=by simp at hl1;simp;omega
     have hlt:p2.length<s.length:=by simp at hl1;omega
     have ei:=bstr_idx HS.out
     by_cases e35:c=35
     ·subst e35
      have HF:=Lib.hid (fun W=>lineIs_silent (B:=w.heap.size) (line_silent H10.out (by rw [HS.out];exact silent_hash HNO.out r4)) W)
      clear hl1
      go_wp2_with (refine wpList_store_row rfl 28 _ _ rfl w.heap.size (zeroC 0) rfl rfl 28 _ HM.out size28' rfl zero_one ?_)
      exact ret_rline rfl rfl rfl rfl (setRow_at HM.out _) rfl ⟨HF.out _,below_setRow HB0.out (Nat.le_refl _) _⟩
     ·have t35:((c.toNat:Int)==35)=false:=u8ne c 35 e35
      by_cases e32:c=32
      ·subst e32
       go_wp2
       refine ⟨⟨p2++[32],r4,by rw [HS.out,List.append_assoc];rfl,fun x hx => ?_,by simp,trivial⟩,?_⟩
       ·rcases List.mem_append.1 hx with h | h
        ·exact HNO.out x h
        ·simpa using h
       ·simp [intOf]
        omega
      ·have t32:((c.toNat:Int)==32)=false:=u8ne c 32 e32
       have HSI:Hid (sp.silentB s=false):=Lib.hid (by rw [HS.out];exact silent_not HNO.out e32 e35 r4)
       clear hl1
       cases hw:sp.words s with
       | none =>
        have HE:=Lib.hid hw
        have HF:=Lib.hid (fun W=>lineIs_none (B:=w.heap.size) (line_bad_words H10.out HSI.out hw) W)
        clear hw
        go_wp2_with (first
         | (have hgd:=HW;clear hgd;go_at_call 29;refine (HW.out _).mono ?_;rintro e w2 ⟨he,hb2⟩;unfold RWordsIs at he;rw [HE.out] at he;subst he;have HB2:=Lib.hid (HB0.out.trans (hb2.mono HB0.out.size));have HM2:=Lib.hid ((hb2.block _ (lt_of_block HM.out)).trans HM.out);clear hb2 HW)
         | (refine wpList_store_row rfl 28 _ _ rfl w.heap.size (zeroC 0) rfl rfl 28 _ HM2.out size28' rfl zero_one ?_))
        exact ret_rline rfl rfl rfl rfl (setRow_at HM2.out _) rfl ⟨HF.out _,below_setRow HB2.out (Nat.le_refl _) _⟩
       | some l =>
        have HE:=Lib.hid hw
        have h0:l≠[]:=fun e=>words_some_ne HSI.out (by rw [hw,e])
        have HLL:=Lib.hid (words_len _ s (Nat.le_refl _) l hw)
        have hlen:0<l.length:=List.length_pos_iff.2 h0
        have hlen2:¬l.length=0:=by omega
        have hlen3:((l.length:Int)==0)=false:=by simp;omega
        have hO:=opR_words l h0
        have HLR:=Lib.hid (line_res H10.out HSI.out hw)
        obtain ⟨⟨o,r5,bd⟩,hx⟩:∃x,opR (l,false)=x:=⟨_,rfl⟩
        rw [hx] at hO
        have HO:=Lib.hid hO
        have HOP:Hid (∀(W0 W:World) (b g cap:Nat) (h:RdR W0 b g l.length cap l false W),Calls Tryz.prog 30 #[.pointer (some ⟨b,0,none⟩)] W fun e w'=>OpIs W0 b g l.length cap o (r5,bd) e w'):=Lib.hid (fun W0 W b g cap h=>by
         have:=rop_any W0 W b g l.length cap (l,false) h
         rw [hx] at this
         exact this)
        clear hw hO hx
        cases bd with
        | true =>
         have HF:=Lib.hid (fun W=>lineIs_none (B:=w.heap.size) (s:=s) (by rw [HLR.out,opOk_bad HO.out];rfl) W)
         go_wp2_with (first
          | (have hgd:=HW;clear hgd;go_at_call 29;refine (HW.out _).mono ?_;rintro e w2 ⟨he,hb2⟩;unfold RWordsIs at he;rw [HE.out] at he;obtain ⟨v,rfl,hv⟩:=he;obtain ⟨g,cap,cur,rfl,hg1,hg2,hg3,hg4⟩:=row_of hv hlen;have HB2:=Lib.hid (HB0.out.trans (hb2.mono HB0.out.size));have HM2:=Lib.hid ((hb2.block _ (lt_of_block HM.out)).trans HM.out);have HRD:=Lib.hid (rd_start (cap:=cap) hg2 hg4 (Nat.le_trans HLL.out.2 HN.out) (fun p hp=>Nat.le_trans (HLL.out.1 p hp) HN.out));clear hv hb2 HW hg1 hg2 hg3 hg4)
          | (have hgd:=HRD;clear hgd;go_at_call 30;refine (HOP.out _ _ _ _ _ HRD.out).mono ?_;rintro e w4 ⟨tv,rfl,hr4,hd4,ho4⟩;have HONE:=Lib.hid (one_opc (o:=o) hr4);have HL:=Lib.hid (LnR.start (heap_old _ _ _ HM2.out) (lt_of_block HM2.out) (HB2.out.alloc HB2.out.size _) hr4 hd4 ho4);clear hr4 hd4 ho4 HRD)
          | (have hgd:=HL;clear hgd;refine wpl_st28 rfl _ _ rfl w4.heap.size (opCells o tv) rfl rfl _ (heap_alloc_at _ _) rfl rfl HONE.out ?_;intro W5 hW5;have H5:=Lib.hid (HL.out W5 hW5);have c2:=H5.out.rd.c2;have c1:=H5.out.rd.c1 rfl;clear hW5 HL)
          | (have hgd:=H5;clear hgd;refine wpList_store_row rfl 28 _ _ rfl w.heap.size (zeroC 0) rfl rfl 28 _ H5.out.res size28' rfl zero_one ?_))
         exact ret_rline rfl rfl rfl rfl (setRow_at H5.out.res _) rfl ⟨HF.out _,below_setRow H5.out.bel (Nat.le_refl _) _⟩
        | false =>
        match r5 with
        | x :: r6 =>
         have HF:=Lib.hid (fun W=>lineIs_none (B:=w.heap.size) (s:=s) (by rw [HLR.out,opOk_rest HO.out];rfl) W)
         have hk1:(((l.length-(x :: r6).length:Nat):Int)==(l.length:Int))=false:=by simp;omega
         have hk2:¬((l.length-(x :: r6).length:Nat):Int)=(l.length:Int):=by simp;omega
         have hk3:¬(l.length-(x :: r6).length:Nat)=l.length:=by simp;omega
         generalize l.length-(x :: r6).length=K at hk1 hk2 hk3
         go_wp2_with (first
          | (have hgd:=HW;clear hgd;go_at_call 29;refine (HW.out _).mono ?_;rintro e w2 ⟨he,hb2⟩;unfold RWordsIs at he;rw [HE.out] at he;obtain ⟨v,rfl,hv⟩:=he;obtain ⟨g,cap,cur,rfl,hg1,hg2,hg3,hg4⟩:=row_of hv hlen;have HB2:=Lib.hid (HB0.out.trans (hb2.mono HB0.out.size));have HM2:=Lib.hid ((hb2.block _ (lt_of_block HM.out)).trans HM.out);have HRD:=Lib.hid (rd_start (cap:=cap) hg2 hg4 (Nat.le_trans HLL.out.2 HN.out) (fun p hp=>Nat.le_trans (HLL.out.1 p hp) HN.out));clear hv hb2 HW hg1 hg2 hg3 hg4)
          | (have hgd:=HRD;clear hgd;go_at_call 30;refine (HOP.out _ _ _ _ _ HRD.out).mono ?_;rintro e w4 ⟨tv,rfl,hr4,hd4,ho4⟩;have HONE:=Lib.hid (one_opc (o:=o) hr4);have HL:=Lib.hid (LnR.start (heap_old _ _ _ HM2.out) (lt_of_block HM2.out) (HB2.out.alloc HB2.out.size _) hr4 hd4 ho4);clear hr4 hd4 ho4 HRD)
          | (have hgd:=HL;clear hgd;refine wpl_st28 rfl _ _ rfl w4.heap.size (opCells o tv) rfl rfl _ (heap_alloc_at _ _) rfl rfl HONE.out ?_;intro W5 hW5;have H5:=Lib.hid (HL.out W5 hW5);have c2:=H5.out.rd.c2;have c1:=H5.out.rd.c1 rfl;clear hW5 HL)
          | (have hgd:=H5;clear hgd;refine wpList_store_row rfl 28 _ _ rfl w.heap.size (zeroC 0) rfl rfl 28 _ H5.out.res size28' rfl zero_one ?_))
         exact ret_rline rfl rfl rfl rfl (setRow_at H5.out.res _) rfl ⟨HF.out _,below_setRow H5.out.bel (Nat.le_refl _) _⟩
        | [] =>
         have HF:Hid (sp.lineS s=some (some o)):=Lib.hid (by rw [HLR.out,opOk_good HO.out];rfl)
         go_wp2_with (first
          | (have hgd:=HW;clear hgd;go_at_call 29;refine (HW.out _).mono ?_;rintro e w2 ⟨he,hb2⟩;unfold RWordsIs at he;rw [HE.out] at he;obtain ⟨v,rfl,hv⟩:=he;obtain ⟨g,cap,cur,rfl,hg1,hg2,hg3,hg4⟩:=row_of hv hlen;have HB2:=Lib.hid (HB0.out.trans (hb2.mono HB0.out.size));have HM2:=Lib.hid ((hb2.block _ (lt_of_block HM.out)).trans HM.out);have HRD:=Lib.hid (rd_start (cap:=cap) hg2 hg4 (Nat.le_trans HLL.out.2 HN.out) (fun p hp=>Nat.le_trans (HLL.out.1 p hp) HN.out));clear hv hb2 HW hg1 hg2 hg3 hg4)
          | (have hgd:=HRD;clear hgd;go_at_call 30;refine (HOP.out _ _ _ _ _ HRD.out).mono ?_;rintro e w4 ⟨tv,rfl,hr4,hd4,ho4⟩;have HONE:=Lib.hid (one_opc (o:=o) hr4);have HL:=Lib.hid (LnR.start (heap_old _ _ _ HM2.out) (lt_of_block HM2.out) (HB2.out.alloc HB2.out.size _) hr4 hd4 ho4);clear hr4 hd4 ho4 HRD)
          | (have hgd:=HL;clear hgd;refine wpl_st28 rfl _ _ rfl w4.heap.size (opCells o tv) rfl rfl _ (heap_alloc_at _ _) rfl rfl HONE.out ?_;intro W5 hW5;have H5:=Lib.hid (HL.out W5 hW5);have c2:=H5.out.rd.c2;have c1:=H5.out.rd.c1 (k:=(l.length:Int)) rfl;clear hW5 HL)
          | (have hgd:=H5;clear hgd;refine wpList_load_row rfl 28 _ rfl w4.heap.size rfl 28 (opCells o tv) (0,0) _ H5.out.loc Tryz.underlying28 rfl size28' ?_)
          | (have hgd:=H5;clear hgd;refine wpList_store_row rfl 28 _ _ rfl w.heap.size (opCells o tv) rfl rfl 28 _ H5.out.res size28' rfl HONE.out ?_))
         refine ret_rline rfl rfl rfl rfl (setRow_at H5.out.res _) rfl ⟨lineIs_op HF.out ?_ (fun x hx=>Nat.le_of_lt (H5.out.own x hx)),below_setRow H5.out.bel (Nat.le_refl _) _⟩
         have:=rowAt_row2 H5.out.row (b:=w.heap.size) (fun x hx=>Nat.ne_of_gt (H5.out.own x hx)) (opCells o tv)
         simpa [World.setRow] using this
  | c :: r2 =>
   have t0:decide ((p.length:Int)<(s.length:Int))=true:=by simp at hl1;simp;omega
   have hlt:p.length<s.length:=by simp at hl1;omega
   have ei:=bstr_idx HS.out
   by_cases e10:c=10
   ·subst e10
    have HF:=Lib.hid (fun W=>lineIs_none (B:=w.heap.size) (line_nl (s:=s) (by rw [HS.out];simp)) W)
    clear hl1
    go_wp2_with (refine wpList_store_row rfl 28 _ _ rfl w.heap.size (zeroC 0) rfl rfl 28 _ HM.out size28' rfl zero_one ?_)
    exact ret_rline rfl rfl rfl rfl (setRow_at HM.out _) rfl ⟨HF.out _,below_setRow HB0.out (Nat.le_refl _) _⟩
   ·have t10:((c.toNat:Int)==10)=false:=u8ne c 10 e10
    go_wp2
    refine ⟨⟨p++[c],r2,by rw [HS.out,List.append_assoc];rfl,by simp [HNO.out,Ne.symm e10],by simp,trivial⟩,?_⟩
    simp [intOf]
    omega
theorem start_eq (w:World):((w.alloc (.cells #[.int .i64 0,.int .i64 0,.int .i64 0,.int .i64 0,.string ⟨#[]⟩,.string ⟨#[]⟩,.slice none 0 0,.int .i64 0,.int .i64 0,.int .i64 0,.int .i64 0,.int .i64 0,.string ⟨#[]⟩,.int .i64 0,.int .i64 0,.int .i64 0,.int .i64 0,.bool false] 28)).alloc (.cells #[.bool false] 4)).alloc (.cells #[.int .i64 0] 29)=startL w:=rfl
theorem Res.row {n:Nat} {cs cs':Array Value} {sy:Bool} {er:Int} {W:World} (h:Res n (n+1) (n+2) cs sy er W):Res n (n+1) (n+2) cs' sy er (W.setRow n cs')∧Below n W (W.setRow n cs') :=
 ⟨⟨setRow_at h.op _,(setRow_far _ (by omega)).trans h.says,(setRow_far _ (by omega)).trans h.err⟩,below_setRow (Below.refl n W) (Nat.le_refl _) _⟩
theorem lineR_new (W:World) (s:List UInt8):LineR (W.alloc (.cells #[.string (bstr s),.int .i64 0] 61)) W.heap.size (bstr s) s:=⟨[],by rw [bstr_toList];rfl,heap_alloc_at _ _⟩
theorem after_words {w w2:World} {o:Obj} (hf:Fr ((startL w).alloc o) w2 (startL w).heap.size none):Res w.heap.size (w.heap.size+1) (w.heap.size+2) (zeroC 0) false 0 w2∧Below w.heap.size w w2:=by
 obtain ⟨hr,hb,hsz⟩:=start_res w
 have h1:Below (startL w).heap.size (startL w) w2:=(below_new (startL w) o).trans (hf.below (Nat.le_refl _) (fun g hg=>by cases hg) (by simp))
 exact ⟨hr.on h1,hb.trans (h1.mono (by omega))⟩
set_option maxRecDepth 100000 in
set_option maxHeartbeats 4000000 in
theorem line_nothing (s:List UInt8) (w:World) (h:10∉s) (h2:sp.silentB s=true):Calls Tryz.prog 9 #[.string (bstr s)] w fun e w'=>LineIs w.heap.size s w' e∧Below w.heap.size w w':=by
 have hmf:∀(fn:Fn) (first cap:Array Value) (w:World),(Instr.makeFunc fn first cap).run Tryz.prog w=.ok (.func fn first cap) w:=fun _ _ _ _=>rfl
 obtain ⟨hr,hb,_⟩:=start_res w
 have HR:=Lib.hid hr;have HB:=Lib.hid hb
 have HF:=Lib.hid (fun W=>lineIs_silent (B:=w.heap.size) (line_silent h h2) W)
 have HC:=Lib.hid (fun W=>contains_nl s W)
 rw [show decide (10∈s)=false by simpa using h] at HC
 have HS:=Lib.hid (fun W=>silent_any s W)
 rw [h2] at HS
 clear hr hb h h2
 go_enter_defers Tryz.func9,Tryz.ntmps9
 go_wp2_with (first
  | (go_at_call 24;refine (HC.out _).mono ?_;rintro e w1 ⟨rfl,rfl⟩)
  | (go_at_call 23;refine (must_yes _).mono ?_;rintro e w1 ⟨rfl,rfl⟩)
  | (go_at_call 25;refine (HS.out _).mono ?_;rintro e w1 ⟨rfl,rfl⟩;rw [start_eq];have HR1:=Lib.hid (HR.out.row (cs':=zeroC 0)).1;have HB1:=Lib.hid (HB.out.trans (HR.out.row (cs':=zeroC 0)).2))
  | (refine wpList_store_row rfl 28 _ _ rfl w.heap.size (zeroC 0) rfl rfl 28 _ HR.out.op size28' rfl zero_one ?_;obtain ⟨k0,k1,y0,y1⟩:=HR1.out.cells;generalize (startL w).setRow w.heap.size (zeroC 0)=W2 at *))
 obtain ⟨n1,n2,n3⟩:=ne12 w.heap.size
 have HG:=HR1.out.fin n1 n2 n3 false 0
 exact leave_ok HG.1 rfl ⟨rfl,rfl,rfl⟩ ⟨HF.out _,HB1.out.trans (HG.2 _ (Nat.le_succ _) (by omega))⟩
set_option maxRecDepth 100000 in
set_option maxHeartbeats 4000000 in
theorem line_no_words (s:List UInt8) (w:World) (h:10∉s) (h2:sp.silentB s=false) (hw:sp.words s=none) (hn:s.length≤1099511627776):Calls Tryz.prog 9 #[.string (bstr s)] w fun e w'=>LineIs w.heap.size s w' e∧Below w.heap.size w w':=by
 have hmf:∀(fn:Fn) (first cap:Array Value) (w:World),(Instr.makeFunc fn first cap).run Tryz.prog w=.ok (.func fn first cap) w:=fun _ _ _ _=>rfl
 obtain ⟨hr,hb,hsz⟩:=start_res w
 have HR:=Lib.hid hr;have HB:=Lib.hid hb
 have HF:=Lib.hid (fun W=>lineIs_none (B:=w.heap.size) (s:=s) (by rw [line_words h h2,hw]) W)
 have HC:=Lib.hid (fun W=>contains_nl s W)
 rw [show decide (10∈s)=false by simpa using h] at HC
 have HS:=Lib.hid (fun W=>silent_any s W)
 rw [h2] at HS
 have HL:=Lib.hid (lineR_new (startL w) s)
 have HW:=Lib.hid hw;have HN:=Lib.hid hn;have HSZ:=Lib.hid hsz
 clear hr hb h h2 hw hn hsz
 go_enter_defers Tryz.func9,Tryz.ntmps9
 go_wp2_with (first
  | (go_at_call 24;refine (HC.out _).mono ?_;rintro e w1 ⟨rfl,rfl⟩)
  | (go_at_call 23;refine (must_yes _).mono ?_;rintro e w1 ⟨rfl,rfl⟩)
  | (go_at_call 25;refine (HS.out _).mono ?_;rintro e w1 ⟨rfl,rfl⟩;rw [start_eq])
  | (go_at_call 26;refine (words_any _ (startL w).heap.size (bstr s) s HL.out (by rw [bstr_size];exact HN.out)).mono ?_;rintro e w2 ⟨he,hf⟩;unfold WordsIs at he;rw [HW.out] at he;subst he))
 have HA:=after_words hf
 exact leave_bar HA.1 rfl ⟨rfl,rfl,rfl⟩ fun W' hW=>⟨HF.out _,HA.2.trans hW⟩
structure LW (w:World) (g:Nat) (l:List (List UInt8×Bool)) (W:World):Prop where
 res:Res w.heap.size (w.heap.size+1) (w.heap.size+2) (zeroC 0) false 0 W
 row:∃cur,W.heap[g]?=some (.cells cur 71 (0,0))∧cur.toList.take (l.length*2)=wdCells l
 far:w.heap.size+2<g
 bel:Below w.heap.size w W
theorem LW.on {w W W':World} {g:Nat} {l:List (List UInt8×Bool)} (h:LW w g l W) (hb:Below W.heap.size W W'):LW w g l W':=by
 obtain ⟨cur,h1,h2⟩:=h.row
 have:=lt_of_block h.res.op
 exact ⟨h.res.on hb,⟨cur,(hb.block _ (lt_of_block h1)).trans h1,h2⟩,h.far,h.bel.trans (hb.mono (by omega))⟩
theorem LW.cell {w W:World} {g:Nat} {l:List (List UInt8×Bool)} (h:LW w g l W) {j:Nat} {u:Value} (hj:(wdCells l)[j]?=some u):W.cell? ⟨g,j,none⟩=some u:=by
 obtain ⟨cur,h1,h2⟩:=h.row
 rw [cell_of_row W g j cur 71 (0,0) h1]
 have h3:=hj
 rw [←h2,List.getElem?_take] at h3
 split at h3
 ·simpa using h3
 ·cases h3
theorem lw_start {w w2:World} {o:Obj} {v:Value} {l:List (List UInt8×Bool)} (hf:Fr ((startL w).alloc o) w2 (startL w).heap.size none) (hown:w2.ownsRow ((startL w).alloc o).heap.size 71 2 v l.length (wdCells l)) (h0:l≠[]) :
  ∃g cap,v=.slice (some ⟨g,0,none⟩) l.length cap∧l.length≤cap∧cap≤maxLen∧LW w g l w2:=by
 have hA:=after_words hf
 obtain ⟨_,_,hsz⟩:=start_res w
 rcases hown.2 with ⟨_,hz⟩ | ⟨g,cap,cur,hv,hbg,hg,hnc,hcm,hcs,htake⟩
 ·exact absurd (List.length_eq_zero_iff.1 hz) h0
 ·refine ⟨g,cap,hv,hnc,hcm,hA.1,⟨cur,hg,htake⟩,?_,hA.2⟩
  simp at hbg
  omega
def CutQ (N:Act→World→Prop) (PS:List PanicEntry→Act→World→Prop):Exit→Act→World→Prop
 | .normal,a,w=>N a w
 | .panic c,a,w=>PS c a w
 | _,_,_=>False
theorem wp_cut {P:Program} {c:Code} {Q:Exit→Act→World→Prop} {a:Act} {w:World} (N:Act→World→Prop) (PS:List PanicEntry→Act→World→Prop) (hp:∀c a W,PS c a W→Q (.panic c) a W) (h:c.wp P (CutQ N PS) a w) (hn:∀a W,N a W→Q .normal a W):c.wp P Q a w :=
 wp_mono h fun e a W hX=>by
  cases e with
  | panic c=>exact hp c a W hX
  | normal=>exact hn a W hX
  | ret=>exact (hX:False).elim
  | exit _=>exact (hX:False).elim
  | goto _=>exact (hX:False).elim
  | outgrown=>exact (hX:False).elim
theorem LW.pan {w W:World} {g:Nat} {l:List (List UInt8×Bool)} {a:Act} (h:LW w g l W) (hd:a.defers=defL w.heap.size) (hs:SlotsL w.heap.size a.tmps):PanSt w.heap.size w bar a W:=⟨rfl,hd,hs,⟨_,_,_,rfl,h.res⟩,h.bel⟩
def zr:Array Value:=#[.int .i64 0,.int .i64 0,.nilFunc]
def actL (n g cap m lz:Nat) (s:List UInt8) (p:List UInt8×Bool) (rv:Value) (okb:Bool) (R M:Nat):Act :=
 ⟨#[.string (bstr s),undef,.pointer (some ⟨n,0,none⟩),.pointer (some ⟨n+1,0,none⟩),.pointer (some ⟨n+1+1,0,none⟩),.slice (some ⟨g,0,none⟩) m cap,.pointer (some ⟨R,0,none⟩),.bool okb,
  .func (.func 22) #[] #[.pointer (some ⟨n,0,none⟩),.pointer (some ⟨n+1,0,none⟩),.pointer (some ⟨n+1+1,0,none⟩)],.string (bstr s),.bool false,.bool true,.tuple #[],.string (bstr s),.bool false,undef,.string (bstr s),.agg #[.string (bstr s),.int .i64 0],
  .pointer (some ⟨lz,0,none⟩),.slice (some ⟨g,0,none⟩) m cap,.tuple #[rv,.bool okb],.map (some M),.slice (some ⟨g,0,none⟩) m cap,.pointer (some ⟨g,0,none⟩),.agg #[.string (bstr p.1),.bool p.2],.string (bstr p.1),.tuple #[rv,.bool okb],rv,.bool okb,
  undef,undef,undef,undef,undef,undef,undef,undef,undef,undef,undef,undef,undef,undef,undef,undef,undef,undef,undef],defL n⟩
theorem row_range {name:List UInt8} {r:Rw} (hr:(name,r)∈rowsL):0≤r.n∧r.n≤5:=by
 have:∀p∈rowsL,0≤p.2.n∧p.2.n≤5:=by decide
 exact this _ hr
theorem LW.put {w W:World} {g R:Nat} {l:List (List UInt8×Bool)} (h:LW w g l W) (hR:W.heap[R]?=some (.cells zr 65 (0,0))) (hn:w.heap.size+2<R) (a b c:Value):LW w g l (((W.setCell ⟨R,0,none⟩ a).setCell ⟨R,1,none⟩ b).setCell ⟨R,2,none⟩ c)∧(((W.setCell ⟨R,0,none⟩ a).setCell ⟨R,1,none⟩ b).setCell ⟨R,2,none⟩ c).heap[R]?=some (.cells #[a,b,c] 65 (0,0)):=by
 obtain ⟨cur,h1,h2⟩:=h.row
 have hgR:R≠g:=fun e=>by rw [e,h1] at hR;cases hR
 refine ⟨⟨⟨?_,?_,?_⟩,⟨cur,?_,h2⟩,h.far,?_⟩,?_⟩
 ·rw [heap_other (by omega),heap_other (by omega),heap_other (by omega)];exact h.res.op
 ·rw [heap_other (by omega),heap_other (by omega),heap_other (by omega)];exact h.res.says
 ·rw [heap_other (by omega),heap_other (by omega),heap_other (by omega)];exact h.res.err
 ·rw [heap_other hgR,heap_other hgR,heap_other hgR];exact h1
 ·exact ((h.bel.setCell (show w.heap.size≤R by omega) _).setCell (show w.heap.size≤R by omega) _).setCell (show w.heap.size≤R by omega) _
 ·have:=blk_set (blk_set (blk_set hR 0 a) 1 b) 2 c
  simpa [zr] using this
set_option maxRecDepth 100000 in
set_option maxHeartbeats 8000000 in
theorem line_quoted (s:List UInt8) (w:World) (h:10∉s) (h2:sp.silentB s=false) (p:List UInt8×Bool) (l:List (List UInt8×Bool)) (hp:p.2=true) (hw:sp.words s=some (p :: l)) (hn:s.length≤1099511627776):Calls Tryz.prog 9 #[.string (bstr s)] w fun e w'=>LineIs w.heap.size s w' e∧Below w.heap.size w w':=by
 have HPAN:=Lib.hid (fun W=>lineIs_none (B:=w.heap.size) (s:=s) (by rw [line_words h h2,hw];obtain ⟨a,b⟩:=p;simp only at hp;subst hp;rfl) W)
 have HPX:Hid (sp.wPlain p=none):=Lib.hid (by unfold sp.wPlain;rw [if_pos hp])
 clear hp
 have hmf:∀(fn:Fn) (first cap:Array Value) (w:World),(Instr.makeFunc fn first cap).run Tryz.prog w=.ok (.func fn first cap) w:=fun _ _ _ _=>rfl
 obtain ⟨hr,hb,hsz⟩:=start_res w
 have HC:=Lib.hid (fun W=>contains_nl s W)
 rw [show decide (10∈s)=false by simpa using h] at HC
 have HS:=Lib.hid (fun W=>silent_any s W)
 rw [h2] at HS
 have HL:=Lib.hid (lineR_new (startL w) s)
 have HP:=Lib.hid (fun W=>wplain_any p W)
 have HW:=Lib.hid hw;have HN:=Lib.hid hn;have HSZ:=Lib.hid hsz
 clear hr hb h h2 hw hn hsz
 go_enter_defers Tryz.func9,Tryz.ntmps9
 go_wp2_with (first
  | (go_at_call 24;refine (HC.out _).mono ?_;rintro e w1 ⟨rfl,rfl⟩)
  | (go_at_call 23;refine (must_yes _).mono ?_;rintro e w1 ⟨rfl,rfl⟩)
  | (go_at_call 25;refine (HS.out _).mono ?_;rintro e w1 ⟨rfl,rfl⟩;rw [start_eq])
  | (go_at_call 26;refine (words_any _ (startL w).heap.size (bstr s) s HL.out (by rw [bstr_size];exact HN.out)).mono ?_;rintro e w2 ⟨he,hf⟩;unfold WordsIs at he;rw [HW.out] at he;obtain ⟨v,rfl,hown⟩:=he;obtain ⟨g,cap,rfl,hc1,hc2,hlw⟩:=lw_start hf hown (by simp);have H0:=Lib.hid hlw;have HC1:=Lib.hid hc1;have HC2:=Lib.hid hc2;clear hf hown hlw hc1 hc2))
 refine wp_cut (fun _ _=>False) (PanSt w.heap.size w) ?_ ?_ ?_
 ·rintro c a W h
  obtain ⟨cs,sy,er,q1,q2⟩:=h.res
  rw [h.bar]
  show Leaves Tryz.prog Tryz.f9 a.tmps _ a.defers (.panicking bar) W
  rw [h.defers]
  exact leave_bar q2 q1 h.slots fun W' hW=>⟨HPAN.out _,h.bel.trans hW⟩
 ·have H0:=Lib.hid (H0.out.on (Below.refl _ _).drew)
  refine wp_region_held_drew (S:=fun W=>LW w g (p :: l) W) (by kernel_rfl) H0.out (fun hHeld => ?_)
  refine tk 1 (.slice (some ⟨g,0,none⟩) (l.length+1) cap) rfl hHeld (fun s hs=>by go_simp) ?_ (hQ:=fun _ _ _ h=>h.unput (by decide))
  refine tk 2 (.pointer (some ⟨g,0,none⟩)) rfl hHeld (fun s hs=>by go_simp<;>omega) ?_ (hQ:=fun _ _ _ h=>h.unput (by decide))
  refine tk 3 (.agg #[.string (bstr p.1),.bool p.2]) rfl hHeld (fun s hs=>by have e0:s.cell? ⟨g,0,none⟩=some (.string (bstr p.1)):=LW.cell hs rfl;have e1:s.cell? ⟨g,1,none⟩=some (.bool p.2):=LW.cell hs rfl;go_simp) ?_ (hQ:=fun _ _ _ h=>h.unput (by decide))
  generalize w2.drew=u0 at *
  refine wpAnyH_ready (rs:=[0,9]) (by kernel_rfl) (by simp) ?_
  refine AllReadyH.cons rfl (fun K hK => ?_) (AllReadyH.cons rfl (fun K hK => ?_) AllReadyH.nil)
  ·rw [if_pos (by kernel_rfl)]
   go_simp
   refine (rows_any _).mono ?_
   rintro e u1 ⟨rfl,hm,hb⟩
   obtain ⟨M,hM⟩:∃M,M=u0.heap.size:=⟨_,rfl⟩
   rw [←hM] at hm ⊢
   have H1:=Lib.hid (H0.out.on hb)
   have HM1:=Lib.hid hm
   clear hm hb hM
   refine hK.out _ _ H1.out (fun hHeld => ?_)
   clear hK
   refine wpAnyH_ready (rs:=[4,9]) (by kernel_rfl) (by simp) ?_
   refine AllReadyH.cons rfl (fun K hK => ?_) (AllReadyH.cons rfl (fun K hK => ?_) AllReadyH.nil)
   ·rw [if_pos (by kernel_rfl)]
    go_simp
    refine (HP.out _).mono ?_
    rintro e u2 ⟨he,hb⟩
    unfold PlainIs at he
    rw [HPX.out] at he
    subst he
    have H2:=Lib.hid (H1.out.on hb)
    exact H2.out.pan rfl ⟨rfl,rfl,rfl⟩
   ·rw [if_pos (by kernel_rfl)]
    go_simp
    have H2:=Lib.hid (H1.out.on (below_new _ (.cells zr 65)))
    obtain ⟨R,hR⟩:∃R,R=u1.heap.size:=⟨_,rfl⟩
    have HR2:=Lib.hid (heap_alloc_at u1 (.cells zr 65))
    have HRN:=Lib.hid (show w.heap.size+2<R by have:=lt_of_block H1.out.row.choose_spec.1;have:=H1.out.far;omega)
    have HM2:=Lib.hid (HM1.out.below (below_new _ (.cells zr 65)) HM1.out.lt)
    rw [←hR] at HR2 ⊢
    clear hR
    change K _ (u1.alloc (.cells zr 65))
    generalize u1.alloc (.cells zr 65)=u2 at H2 HR2 HM2 ⊢
    refine hK.out _ _ H2.out (fun hHeld => ?_)
    clear hK
    refine rd1 4 rfl fun K hK => ?_
    go_simp
    refine (HP.out _).mono ?_
    rintro e u3 ⟨he,hb⟩
    unfold PlainIs at he
    rw [HPX.out] at he
    subst he
    have H3:=Lib.hid (H2.out.on hb)
    exact H3.out.pan rfl ⟨rfl,rfl,rfl⟩
  ·rw [if_pos (by kernel_rfl)]
   go_simp
   have H1:=Lib.hid (H0.out.on (below_new _ (.cells zr 65)))
   obtain ⟨R,hR⟩:∃R,R=u0.heap.size:=⟨_,rfl⟩
   have HR1:=Lib.hid (heap_alloc_at u0 (.cells zr 65))
   have HRN:=Lib.hid (show w.heap.size+2<R by have:=lt_of_block H0.out.row.choose_spec.1;have:=H0.out.far;omega)
   rw [←hR] at HR1 ⊢
   clear hR
   change K _ (u0.alloc (.cells zr 65))
   generalize u0.alloc (.cells zr 65)=u1 at H1 HR1 ⊢
   refine hK.out _ _ H1.out (fun hHeld => ?_)
   clear hK
   refine rd1 0 rfl fun K hK => ?_
   go_simp
   refine (rows_any _).mono ?_
   rintro e u2 ⟨rfl,hm,hb⟩
   obtain ⟨M,hM⟩:∃M,M=u1.heap.size:=⟨_,rfl⟩
   rw [←hM] at hm ⊢
   have H2:=Lib.hid (H1.out.on hb)
   have HM2:=Lib.hid hm
   have HR2:=Lib.hid ((hb.block _ (lt_of_block HR1.out)).trans HR1.out)
   clear hm hb hM
   refine hK.out _ _ H2.out (fun hHeld => ?_)
   clear hK
   refine rd1 4 rfl fun K hK => ?_
   go_simp
   refine (HP.out _).mono ?_
   rintro e u3 ⟨he,hb⟩
   unfold PlainIs at he
   rw [HPX.out] at he
   subst he
   have H3:=Lib.hid (H2.out.on hb)
   exact H3.out.pan rfl ⟨rfl,rfl,rfl⟩
 ·intro a W h
  exact h.elim
theorem elem58:Tryz.prog.elem 58=71:=by kernel_rfl
theorem sizeOf71 (W:World):(sizeOf 71).run Tryz.prog W=.ok 2 W:=by kernel_rfl
theorem slice_rest (W:World) (g m cap:Nat) (h1:m+1≤cap) (h2:cap≤maxLen):(Instr.sliceAt 58 (.slice (some ⟨g,0,none⟩) (m+1) cap) (some (.int .i64 1)) none none).run Tryz.prog W=.ok (.slice (some (if cap=1 then ⟨g,0,none⟩ else ⟨g,2,none⟩)) m (cap-1)) W:=by
 have hu:Tryz.prog.underlying 58=some (.slice (Tryz.prog.elem 58)):=by rw [elem58];exact Tryz.underlying58
 rw [run_sliceAt_slice W 58 _ _ _ _ hu,run_slice_l W 58 (some ⟨g,0,none⟩) (m+1) cap hu .i64 1 (by omega) (by omega),elem58,sizeOf71]
 simp only [Result.andThen,sliced]
 by_cases hc:cap=1
 ·subst hc
  simp
 ·simp [hc,Addr.add]
set_option maxRecDepth 100000 in
theorem row_enters {name:List UInt8} {r:Rw} (hr:(name,r)∈rowsL) (args:Array Value) (W:World):(callFunc r.g args).run Tryz.prog W=.ok (.enter r.g args) W:=by
 simp only [rowsL,List.mem_cons,List.not_mem_nil,or_false,Prod.mk.injEq] at hr
 rcases hr with ⟨_,rfl⟩ | ⟨_,rfl⟩ | ⟨_,rfl⟩ | ⟨_,rfl⟩ | ⟨_,rfl⟩ | ⟨_,rfl⟩ | ⟨_,rfl⟩ | ⟨_,rfl⟩ | ⟨_,rfl⟩ | ⟨_,rfl⟩ | ⟨_,rfl⟩ | ⟨_,rfl⟩ | ⟨_,rfl⟩ | ⟨_,rfl⟩ | ⟨_,rfl⟩
 all_goals first | exact enters_of Tryz.func49 (by kernel_rfl) rfl args W | exact enters_of Tryz.func51 (by kernel_rfl) rfl args W | exact enters_of Tryz.func52 (by kernel_rfl) rfl args W | exact enters_of Tryz.func54 (by kernel_rfl) rfl args W | exact enters_of Tryz.func56 (by kernel_rfl) rfl args W | exact enters_of Tryz.func57 (by kernel_rfl) rfl args W | exact enters_of Tryz.func58 (by kernel_rfl) rfl args W | exact enters_of Tryz.func59 (by kernel_rfl) rfl args W | exact enters_of Tryz.func60 (by kernel_rfl) rfl args W | exact enters_of Tryz.func61 (by kernel_rfl) rfl args W | exact enters_of Tryz.func62 (by kernel_rfl) rfl args W
set_option maxRecDepth 100000 in
set_option maxHeartbeats 8000000 in
theorem line_unknown (s:List UInt8) (w:World) (h:10∉s) (h2:sp.silentB s=false) (p:List UInt8×Bool) (l:List (List UInt8×Bool)) (hp:p.2=false) (hq:p.1∉rowsL.map (·.1)) (hw:sp.words s=some (p :: l)) (hn:s.length≤1099511627776):Calls Tryz.prog 9 #[.string (bstr s)] w fun e w'=>LineIs w.heap.size s w' e∧Below w.heap.size w w':=by
 have HPAN:=Lib.hid (fun W=>lineIs_none (B:=w.heap.size) (s:=s) (by rw [line_words h h2,hw];obtain ⟨a,b⟩:=p;simp only at hp;subst hp;show (sp.opS a l).map some=none;rw [op_unknown hq];rfl) W)
 have HPX:Hid (sp.wPlain p=some p.1):=Lib.hid (by unfold sp.wPlain;rw [if_neg (by rw [hp];decide)])
 have hpl:p.1.length≤maxLen:=by
  have:=(words_len _ s (Nat.le_refl _) _ hw).1 p List.mem_cons_self
  unfold maxLen
  omega
 obtain ⟨K0,e0⟩:∃v:Int,v=0:=⟨_,rfl⟩
 obtain ⟨N0,e1⟩:∃v:Int,v=0:=⟨_,rfl⟩
 obtain ⟨okb,e3⟩:∃v,v=false:=⟨_,rfl⟩
 have HLK:Hid (∀W M,MapIs W M rowsL→(Instr.lookup 67 (.map (some M)) (.string (bstr p.1)) true).run Tryz.prog W=.ok (.tuple #[.agg #[.int .i64 K0,.int .i64 N0,.nilFunc],.bool okb]) W):=Lib.hid (fun W M hm=>by rw [e0,e1,e3];exact hm.lookOk_none hpl hq)
 have E3:=Lib.hid e3
 clear hp hq hpl e0 e1 e3
 have hmf:∀(fn:Fn) (first cap:Array Value) (w:World),(Instr.makeFunc fn first cap).run Tryz.prog w=.ok (.func fn first cap) w:=fun _ _ _ _=>rfl
 obtain ⟨hr,hb,hsz⟩:=start_res w
 have HC:=Lib.hid (fun W=>contains_nl s W)
 rw [show decide (10∈s)=false by simpa using h] at HC
 have HS:=Lib.hid (fun W=>silent_any s W)
 rw [h2] at HS
 have HL:=Lib.hid (lineR_new (startL w) s)
 have HP:=Lib.hid (fun W=>wplain_any p W)
 have HW:=Lib.hid hw;have HN:=Lib.hid hn;have HSZ:=Lib.hid hsz
 clear hr hb h h2 hw hn hsz
 go_enter_defers Tryz.func9,Tryz.ntmps9
 go_wp2_with (first
  | (go_at_call 24;refine (HC.out _).mono ?_;rintro e w1 ⟨rfl,rfl⟩)
  | (go_at_call 23;refine (must_yes _).mono ?_;rintro e w1 ⟨rfl,rfl⟩)
  | (go_at_call 25;refine (HS.out _).mono ?_;rintro e w1 ⟨rfl,rfl⟩;rw [start_eq])
  | (go_at_call 26;refine (words_any _ (startL w).heap.size (bstr s) s HL.out (by rw [bstr_size];exact HN.out)).mono ?_;rintro e w2 ⟨he,hf⟩;unfold WordsIs at he;rw [HW.out] at he;obtain ⟨v,rfl,hown⟩:=he;obtain ⟨g,cap,rfl,hc1,hc2,hlw⟩:=lw_start hf hown (by simp);have H0:=Lib.hid hlw;have HC1:=Lib.hid hc1;have HC2:=Lib.hid hc2;clear hf hown hlw hc1 hc2))
 refine wp_cut (fun a W=>∃R M,a=actL w.heap.size g cap (l.length+1) (startL w).heap.size s p (.agg #[(.int .i64 K0),(.int .i64 N0),(.nilFunc)]) okb R M∧W.heap[R]?=some (.cells #[(.int .i64 K0),(.int .i64 N0),(.nilFunc)] 65 (0,0))∧LW w g (p :: l) W∧w.heap.size+2<R) (PanSt w.heap.size w) ?_ ?_ ?_
 ·rintro c a W h
  obtain ⟨cs,sy,er,q1,q2⟩:=h.res
  rw [h.bar]
  show Leaves Tryz.prog Tryz.f9 a.tmps _ a.defers (.panicking bar) W
  rw [h.defers]
  exact leave_bar q2 q1 h.slots fun W' hW=>⟨HPAN.out _,h.bel.trans hW⟩
 ·have H0:=Lib.hid (H0.out.on (Below.refl _ _).drew)
  refine wp_region_held_drew (S:=fun W=>LW w g (p :: l) W) (by kernel_rfl) H0.out (fun hHeld => ?_)
  refine tk 1 (.slice (some ⟨g,0,none⟩) (l.length+1) cap) rfl hHeld (fun s hs=>by go_simp) ?_ (hQ:=fun _ _ _ h=>h.unput (by decide))
  refine tk 2 (.pointer (some ⟨g,0,none⟩)) rfl hHeld (fun s hs=>by go_simp<;>omega) ?_ (hQ:=fun _ _ _ h=>h.unput (by decide))
  refine tk 3 (.agg #[.string (bstr p.1),.bool p.2]) rfl hHeld (fun s hs=>by have e0:s.cell? ⟨g,0,none⟩=some (.string (bstr p.1)):=LW.cell hs rfl;have e1:s.cell? ⟨g,1,none⟩=some (.bool p.2):=LW.cell hs rfl;go_simp) ?_ (hQ:=fun _ _ _ h=>h.unput (by decide))
  generalize w2.drew=u0 at *
  refine wpAnyH_ready (rs:=[0,9]) (by kernel_rfl) (by simp) ?_
  refine AllReadyH.cons rfl (fun K hK => ?_) (AllReadyH.cons rfl (fun K hK => ?_) AllReadyH.nil)
  ·rw [if_pos (by kernel_rfl)]
   go_simp
   refine (rows_any _).mono ?_
   rintro e u1 ⟨rfl,hm,hb⟩
   obtain ⟨M,hM⟩:∃M,M=u0.heap.size:=⟨_,rfl⟩
   rw [←hM] at hm ⊢
   have H1:=Lib.hid (H0.out.on hb)
   have HM1:=Lib.hid hm
   clear hm hb hM
   refine hK.out _ _ H1.out (fun hHeld => ?_)
   clear hK
   refine wpAnyH_ready (rs:=[4,9]) (by kernel_rfl) (by simp) ?_
   refine AllReadyH.cons rfl (fun K hK => ?_) (AllReadyH.cons rfl (fun K hK => ?_) AllReadyH.nil)
   ·rw [if_pos (by kernel_rfl)]
    go_simp
    refine (HP.out _).mono ?_
    rintro e u2 ⟨he,hb⟩
    unfold PlainIs at he
    rw [HPX.out] at he
    subst he
    have H2:=Lib.hid (H1.out.on hb)
    have HM2:=Lib.hid (HM1.out.below hb HM1.out.lt)
    clear hb
    refine hK.out _ _ H2.out (fun hHeld => ?_)
    clear hK
    refine wpAnyH_ready (rs:=[5,9]) (by kernel_rfl) (by simp) ?_
    refine AllReadyH.cons rfl (fun K hK => ?_) (AllReadyH.cons rfl (fun K hK => ?_) AllReadyH.nil)
    ·rw [if_pos (by kernel_rfl)]
     have hlk:=HLK.out _ _ HM2.out
     go_simp
     clear hlk
     refine hK.out _ _ H2.out (fun hHeld => ?_)
     clear hK
     refine tk 6 (.tuple #[.agg #[(.int .i64 K0),(.int .i64 N0),(.nilFunc)],.bool okb]) rfl hHeld (fun s hs=>by go_simp) ?_ (hQ:=fun _ _ _ h=>h.unput (by decide))
     refine tk 7 (.agg #[(.int .i64 K0),(.int .i64 N0),(.nilFunc)]) rfl hHeld (fun s hs=>by go_simp) ?_ (hQ:=fun _ _ _ h=>h.unput (by decide))
     refine tk 8 (.bool okb) rfl hHeld (fun s hs=>by go_simp) ?_ (hQ:=fun _ _ _ h=>h.unput (by decide))
     refine rd1 9 rfl fun K hK => ?_
     go_simp
     have H3:=Lib.hid (H2.out.on (below_new _ (.cells zr 65)))
     obtain ⟨R,hR⟩:∃R,R=u2.heap.size:=⟨_,rfl⟩
     have HR3:=Lib.hid (heap_alloc_at u2 (.cells zr 65))
     have HRN:=Lib.hid (show w.heap.size+2<R by have:=lt_of_block H2.out.row.choose_spec.1;have:=H2.out.far;omega)
     have HM3:=Lib.hid (HM2.out.below (below_new _ (.cells zr 65)) HM2.out.lt)
     rw [←hR] at HR3 ⊢
     clear hR
     change K _ (u2.alloc (.cells zr 65))
     generalize u2.alloc (.cells zr 65)=u3 at H3 HR3 HM3 ⊢
     refine hK.out _ _ H3.out (fun hHeld => ?_)
     clear hK
     refine rd1 10 rfl fun K hK => ?_
     have r0:u3.cell? ⟨R,0,none⟩=some (.int .i64 0):=by rw [Lib.cell_of_heap HR3.out];rfl
     have r1:u3.cell? ⟨R,1,none⟩=some (.int .i64 0):=by rw [Lib.cell_of_heap HR3.out];rfl
     have r2:u3.cell? ⟨R,2,none⟩=some .nilFunc:=by rw [Lib.cell_of_heap HR3.out];rfl
     have f0:=blk_free HR3.out 0
     have f1:=blk_free HR3.out 1
     have f2:=blk_free HR3.out 2
     go_simp
     have HX:=H3.out.put HR3.out HRN.out (.int .i64 K0) (.int .i64 N0) (.nilFunc)
     refine hK.out _ _ HX.1 (fun hHeld => ?_)
     refine tk 11 (.bool okb) rfl hHeld (fun s hs=>by go_simp) ?_ (hQ:=fun _ _ _ h=>h.unput (by decide))
     refine wpAnyH_done (by kernel_rfl) ?_ _
     exact ⟨R,M,rfl,HX.2,HX.1,HRN.out⟩
    ·rw [if_pos (by kernel_rfl)]
     go_simp
     have H3:=Lib.hid (H2.out.on (below_new _ (.cells zr 65)))
     obtain ⟨R,hR⟩:∃R,R=u2.heap.size:=⟨_,rfl⟩
     have HR3:=Lib.hid (heap_alloc_at u2 (.cells zr 65))
     have HRN:=Lib.hid (show w.heap.size+2<R by have:=lt_of_block H2.out.row.choose_spec.1;have:=H2.out.far;omega)
     have HM3:=Lib.hid (HM2.out.below (below_new _ (.cells zr 65)) HM2.out.lt)
     rw [←hR] at HR3 ⊢
     clear hR
     change K _ (u2.alloc (.cells zr 65))
     generalize u2.alloc (.cells zr 65)=u3 at H3 HR3 HM3 ⊢
     refine hK.out _ _ H3.out (fun hHeld => ?_)
     clear hK
     refine rd1 5 rfl fun K hK => ?_
     have hlk:=HLK.out _ _ HM3.out
     go_simp
     clear hlk
     refine hK.out _ _ H3.out (fun hHeld => ?_)
     clear hK
     refine tk 6 (.tuple #[.agg #[(.int .i64 K0),(.int .i64 N0),(.nilFunc)],.bool okb]) rfl hHeld (fun s hs=>by go_simp) ?_ (hQ:=fun _ _ _ h=>h.unput (by decide))
     refine tk 7 (.agg #[(.int .i64 K0),(.int .i64 N0),(.nilFunc)]) rfl hHeld (fun s hs=>by go_simp) ?_ (hQ:=fun _ _ _ h=>h.unput (by decide))
     refine tk 8 (.bool okb) rfl hHeld (fun s hs=>by go_simp) ?_ (hQ:=fun _ _ _ h=>h.unput (by decide))
     refine rd1 10 rfl fun K hK => ?_
     have r0:u3.cell? ⟨R,0,none⟩=some (.int .i64 0):=by rw [Lib.cell_of_heap HR3.out];rfl
     have r1:u3.cell? ⟨R,1,none⟩=some (.int .i64 0):=by rw [Lib.cell_of_heap HR3.out];rfl
     have r2:u3.cell? ⟨R,2,none⟩=some .nilFunc:=by rw [Lib.cell_of_heap HR3.out];rfl
     have f0:=blk_free HR3.out 0
     have f1:=blk_free HR3.out 1
     have f2:=blk_free HR3.out 2
     go_simp
     have HX:=H3.out.put HR3.out HRN.out (.int .i64 K0) (.int .i64 N0) (.nilFunc)
     refine hK.out _ _ HX.1 (fun hHeld => ?_)
     refine tk 11 (.bool okb) rfl hHeld (fun s hs=>by go_simp) ?_ (hQ:=fun _ _ _ h=>h.unput (by decide))
     refine wpAnyH_done (by kernel_rfl) ?_ _
     exact ⟨R,M,rfl,HX.2,HX.1,HRN.out⟩
   ·rw [if_pos (by kernel_rfl)]
    go_simp
    have H2:=Lib.hid (H1.out.on (below_new _ (.cells zr 65)))
    obtain ⟨R,hR⟩:∃R,R=u1.heap.size:=⟨_,rfl⟩
    have HR2:=Lib.hid (heap_alloc_at u1 (.cells zr 65))
    have HRN:=Lib.hid (show w.heap.size+2<R by have:=lt_of_block H1.out.row.choose_spec.1;have:=H1.out.far;omega)
    have HM2:=Lib.hid (HM1.out.below (below_new _ (.cells zr 65)) HM1.out.lt)
    rw [←hR] at HR2 ⊢
    clear hR
    change K _ (u1.alloc (.cells zr 65))
    generalize u1.alloc (.cells zr 65)=u2 at H2 HR2 HM2 ⊢
    refine hK.out _ _ H2.out (fun hHeld => ?_)
    clear hK
    refine rd1 4 rfl fun K hK => ?_
    go_simp
    refine (HP.out _).mono ?_
    rintro e u3 ⟨he,hb⟩
    unfold PlainIs at he
    rw [HPX.out] at he
    subst he
    have H3:=Lib.hid (H2.out.on hb)
    have HM3:=Lib.hid (HM2.out.below hb HM2.out.lt)
    have HR3:=Lib.hid ((hb.block _ (lt_of_block HR2.out)).trans HR2.out)
    clear hb
    refine hK.out _ _ H3.out (fun hHeld => ?_)
    clear hK
    refine rd1 5 rfl fun K hK => ?_
    have hlk:=HLK.out _ _ HM3.out
    go_simp
    clear hlk
    refine hK.out _ _ H3.out (fun hHeld => ?_)
    clear hK
    refine tk 6 (.tuple #[.agg #[(.int .i64 K0),(.int .i64 N0),(.nilFunc)],.bool okb]) rfl hHeld (fun s hs=>by go_simp) ?_ (hQ:=fun _ _ _ h=>h.unput (by decide))
    refine tk 7 (.agg #[(.int .i64 K0),(.int .i64 N0),(.nilFunc)]) rfl hHeld (fun s hs=>by go_simp) ?_ (hQ:=fun _ _ _ h=>h.unput (by decide))
    refine tk 8 (.bool okb) rfl hHeld (fun s hs=>by go_simp) ?_ (hQ:=fun _ _ _ h=>h.unput (by decide))
    refine rd1 10 rfl fun K hK => ?_
    have r0:u3.cell? ⟨R,0,none⟩=some (.int .i64 0):=by rw [Lib.cell_of_heap HR3.out];rfl
    have r1:u3.cell? ⟨R,1,none⟩=some (.int .i64 0):=by rw [Lib.cell_of_heap HR3.out];rfl
    have r2:u3.cell? ⟨R,2,none⟩=some .nilFunc:=by rw [Lib.cell_of_heap HR3.out];rfl
    have f0:=blk_free HR3.out 0
    have f1:=blk_free HR3.out 1
    have f2:=blk_free HR3.out 2
    go_simp
    have HX:=H3.out.put HR3.out HRN.out (.int .i64 K0) (.int .i64 N0) (.nilFunc)
    refine hK.out _ _ HX.1 (fun hHeld => ?_)
    refine tk 11 (.bool okb) rfl hHeld (fun s hs=>by go_simp) ?_ (hQ:=fun _ _ _ h=>h.unput (by decide))
    refine wpAnyH_done (by kernel_rfl) ?_ _
    exact ⟨R,M,rfl,HX.2,HX.1,HRN.out⟩
  ·rw [if_pos (by kernel_rfl)]
   go_simp
   have H1:=Lib.hid (H0.out.on (below_new _ (.cells zr 65)))
   obtain ⟨R,hR⟩:∃R,R=u0.heap.size:=⟨_,rfl⟩
   have HR1:=Lib.hid (heap_alloc_at u0 (.cells zr 65))
   have HRN:=Lib.hid (show w.heap.size+2<R by have:=lt_of_block H0.out.row.choose_spec.1;have:=H0.out.far;omega)
   rw [←hR] at HR1 ⊢
   clear hR
   change K _ (u0.alloc (.cells zr 65))
   generalize u0.alloc (.cells zr 65)=u1 at H1 HR1 ⊢
   refine hK.out _ _ H1.out (fun hHeld => ?_)
   clear hK
   refine rd1 0 rfl fun K hK => ?_
   go_simp
   refine (rows_any _).mono ?_
   rintro e u2 ⟨rfl,hm,hb⟩
   obtain ⟨M,hM⟩:∃M,M=u1.heap.size:=⟨_,rfl⟩
   rw [←hM] at hm ⊢
   have H2:=Lib.hid (H1.out.on hb)
   have HM2:=Lib.hid hm
   have HR2:=Lib.hid ((hb.block _ (lt_of_block HR1.out)).trans HR1.out)
   clear hm hb hM
   refine hK.out _ _ H2.out (fun hHeld => ?_)
   clear hK
   refine rd1 4 rfl fun K hK => ?_
   go_simp
   refine (HP.out _).mono ?_
   rintro e u3 ⟨he,hb⟩
   unfold PlainIs at he
   rw [HPX.out] at he
   subst he
   have H3:=Lib.hid (H2.out.on hb)
   have HM3:=Lib.hid (HM2.out.below hb HM2.out.lt)
   have HR3:=Lib.hid ((hb.block _ (lt_of_block HR2.out)).trans HR2.out)
   clear hb
   refine hK.out _ _ H3.out (fun hHeld => ?_)
   clear hK
   refine rd1 5 rfl fun K hK => ?_
   have hlk:=HLK.out _ _ HM3.out
   go_simp
   clear hlk
   refine hK.out _ _ H3.out (fun hHeld => ?_)
   clear hK
   refine tk 6 (.tuple #[.agg #[(.int .i64 K0),(.int .i64 N0),(.nilFunc)],.bool okb]) rfl hHeld (fun s hs=>by go_simp) ?_ (hQ:=fun _ _ _ h=>h.unput (by decide))
   refine tk 7 (.agg #[(.int .i64 K0),(.int .i64 N0),(.nilFunc)]) rfl hHeld (fun s hs=>by go_simp) ?_ (hQ:=fun _ _ _ h=>h.unput (by decide))
   refine tk 8 (.bool okb) rfl hHeld (fun s hs=>by go_simp) ?_ (hQ:=fun _ _ _ h=>h.unput (by decide))
   refine rd1 10 rfl fun K hK => ?_
   have r0:u3.cell? ⟨R,0,none⟩=some (.int .i64 0):=by rw [Lib.cell_of_heap HR3.out];rfl
   have r1:u3.cell? ⟨R,1,none⟩=some (.int .i64 0):=by rw [Lib.cell_of_heap HR3.out];rfl
   have r2:u3.cell? ⟨R,2,none⟩=some .nilFunc:=by rw [Lib.cell_of_heap HR3.out];rfl
   have f0:=blk_free HR3.out 0
   have f1:=blk_free HR3.out 1
   have f2:=blk_free HR3.out 2
   go_simp
   have HX:=H3.out.put HR3.out HRN.out (.int .i64 K0) (.int .i64 N0) (.nilFunc)
   refine hK.out _ _ HX.1 (fun hHeld => ?_)
   refine tk 11 (.bool okb) rfl hHeld (fun s hs=>by go_simp) ?_ (hQ:=fun _ _ _ h=>h.unput (by decide))
   refine wpAnyH_done (by kernel_rfl) ?_ _
   exact ⟨R,M,rfl,HX.2,HX.1,HRN.out⟩
 ·rintro a W ⟨R,M,rfl,hR,hlw,hRn⟩
  have HLW:=Lib.hid hlw
  unfold actL
  rw [E3.out]
  clear hR hlw hRn
  go_wp2_with (first
   | (go_at_call 23;refine (must_no _).mono ?_;rintro e w1 ⟨rfl,rfl⟩))
  exact leave_bar HLW.out.res rfl ⟨rfl,rfl,rfl⟩ fun W' hW=>⟨HPAN.out _,HLW.out.bel.trans hW⟩
set_option maxRecDepth 100000 in
set_option maxHeartbeats 8000000 in
theorem line_count (s:List UInt8) (w:World) (h:10∉s) (h2:sp.silentB s=false) (p:List UInt8×Bool) (l:List (List UInt8×Bool)) (hp:p.2=false) (r:Rw) (hq:(p.1,r)∈rowsL) (hc:(l.length:Int)≠r.n) (hw:sp.words s=some (p :: l)) (hn:s.length≤1099511627776):Calls Tryz.prog 9 #[.string (bstr s)] w fun e w'=>LineIs w.heap.size s w' e∧Below w.heap.size w w':=by
 have HPAN:=Lib.hid (fun W=>lineIs_none (B:=w.heap.size) (s:=s) (by rw [line_words h h2,hw];obtain ⟨a,b⟩:=p;simp only at hp;subst hp;show (sp.opS a l).map some=none;rw [op_count hq hc];rfl) W)
 have HPX:Hid (sp.wPlain p=some p.1):=Lib.hid (by unfold sp.wPlain;rw [if_neg (by rw [hp];decide)])
 obtain ⟨K0,e0⟩:∃v,v=r.k:=⟨_,rfl⟩
 obtain ⟨N0,e1⟩:∃v,v=r.n:=⟨_,rfl⟩
 obtain ⟨F0,e2⟩:∃v,v=r.g:=⟨_,rfl⟩
 obtain ⟨okb,e3⟩:∃v,v=true:=⟨_,rfl⟩
 have HLK:Hid (∀W M,MapIs W M rowsL→(Instr.lookup 67 (.map (some M)) (.string (bstr p.1)) true).run Tryz.prog W=.ok (.tuple #[.agg #[.int .i64 K0,.int .i64 N0,.func (.func F0) #[] #[]],.bool okb]) W):=Lib.hid (fun W M hm=>by rw [e0,e1,e2,e3];exact hm.lookOk_some hq)
 have hrn:0≤N0∧N0≤5:=by rw [e1];exact row_range hq
 have hll:(l.length:Int)≤1099511627776:=by
  have:=(words_len _ s (Nat.le_refl _) _ hw).2
  simp only [List.length_cons] at this
  omega
 have ht:((l.length:Int)+1==N0+1)=false:=by simp;omega
 have E3:=Lib.hid e3
 clear hp hq hc e0 e1 e2 e3
 have hmf:∀(fn:Fn) (first cap:Array Value) (w:World),(Instr.makeFunc fn first cap).run Tryz.prog w=.ok (.func fn first cap) w:=fun _ _ _ _=>rfl
 obtain ⟨hr,hb,hsz⟩:=start_res w
 have HC:=Lib.hid (fun W=>contains_nl s W)
 rw [show decide (10∈s)=false by simpa using h] at HC
 have HS:=Lib.hid (fun W=>silent_any s W)
 rw [h2] at HS
 have HL:=Lib.hid (lineR_new (startL w) s)
 have HP:=Lib.hid (fun W=>wplain_any p W)
 have HW:=Lib.hid hw;have HN:=Lib.hid hn;have HSZ:=Lib.hid hsz
 clear hr hb h h2 hw hn hsz
 go_enter_defers Tryz.func9,Tryz.ntmps9
 go_wp2_with (first
  | (go_at_call 24;refine (HC.out _).mono ?_;rintro e w1 ⟨rfl,rfl⟩)
  | (go_at_call 23;refine (must_yes _).mono ?_;rintro e w1 ⟨rfl,rfl⟩)
  | (go_at_call 25;refine (HS.out _).mono ?_;rintro e w1 ⟨rfl,rfl⟩;rw [start_eq])
  | (go_at_call 26;refine (words_any _ (startL w).heap.size (bstr s) s HL.out (by rw [bstr_size];exact HN.out)).mono ?_;rintro e w2 ⟨he,hf⟩;unfold WordsIs at he;rw [HW.out] at he;obtain ⟨v,rfl,hown⟩:=he;obtain ⟨g,cap,rfl,hc1,hc2,hlw⟩:=lw_start hf hown (by simp);have H0:=Lib.hid hlw;have HC1:=Lib.hid hc1;have HC2:=Lib.hid hc2;clear hf hown hlw hc1 hc2))
 refine wp_cut (fun a W=>∃R M,a=actL w.heap.size g cap (l.length+1) (startL w).heap.size s p (.agg #[(.int .i64 K0),(.int .i64 N0),(.func (.func F0) #[] #[])]) okb R M∧W.heap[R]?=some (.cells #[(.int .i64 K0),(.int .i64 N0),(.func (.func F0) #[] #[])] 65 (0,0))∧LW w g (p :: l) W∧w.heap.size+2<R) (PanSt w.heap.size w) ?_ ?_ ?_
 ·rintro c a W h
  obtain ⟨cs,sy,er,q1,q2⟩:=h.res
  rw [h.bar]
  show Leaves Tryz.prog Tryz.f9 a.tmps _ a.defers (.panicking bar) W
  rw [h.defers]
  exact leave_bar q2 q1 h.slots fun W' hW=>⟨HPAN.out _,h.bel.trans hW⟩
 ·have H0:=Lib.hid (H0.out.on (Below.refl _ _).drew)
  refine wp_region_held_drew (S:=fun W=>LW w g (p :: l) W) (by kernel_rfl) H0.out (fun hHeld => ?_)
  refine tk 1 (.slice (some ⟨g,0,none⟩) (l.length+1) cap) rfl hHeld (fun s hs=>by go_simp) ?_ (hQ:=fun _ _ _ h=>h.unput (by decide))
  refine tk 2 (.pointer (some ⟨g,0,none⟩)) rfl hHeld (fun s hs=>by go_simp<;>omega) ?_ (hQ:=fun _ _ _ h=>h.unput (by decide))
  refine tk 3 (.agg #[.string (bstr p.1),.bool p.2]) rfl hHeld (fun s hs=>by have e0:s.cell? ⟨g,0,none⟩=some (.string (bstr p.1)):=LW.cell hs rfl;have e1:s.cell? ⟨g,1,none⟩=some (.bool p.2):=LW.cell hs rfl;go_simp) ?_ (hQ:=fun _ _ _ h=>h.unput (by decide))
  generalize w2.drew=u0 at *
  refine wpAnyH_ready (rs:=[0,9]) (by kernel_rfl) (by simp) ?_
  refine AllReadyH.cons rfl (fun K hK => ?_) (AllReadyH.cons rfl (fun K hK => ?_) AllReadyH.nil)
  ·rw [if_pos (by kernel_rfl)]
   go_simp
   refine (rows_any _).mono ?_
   rintro e u1 ⟨rfl,hm,hb⟩
   obtain ⟨M,hM⟩:∃M,M=u0.heap.size:=⟨_,rfl⟩
   rw [←hM] at hm ⊢
   have H1:=Lib.hid (H0.out.on hb)
   have HM1:=Lib.hid hm
   clear hm hb hM
   refine hK.out _ _ H1.out (fun hHeld => ?_)
   clear hK
   refine wpAnyH_ready (rs:=[4,9]) (by kernel_rfl) (by simp) ?_
   refine AllReadyH.cons rfl (fun K hK => ?_) (AllReadyH.cons rfl (fun K hK => ?_) AllReadyH.nil)
   ·rw [if_pos (by kernel_rfl)]
    go_simp
    refine (HP.out _).mono ?_
    rintro e u2 ⟨he,hb⟩
    unfold PlainIs at he
    rw [HPX.out] at he
    subst he
    have H2:=Lib.hid (H1.out.on hb)
    have HM2:=Lib.hid (HM1.out.below hb HM1.out.lt)
    clear hb
    refine hK.out _ _ H2.out (fun hHeld => ?_)
    clear hK
    refine wpAnyH_ready (rs:=[5,9]) (by kernel_rfl) (by simp) ?_
    refine AllReadyH.cons rfl (fun K hK => ?_) (AllReadyH.cons rfl (fun K hK => ?_) AllReadyH.nil)
    ·rw [if_pos (by kernel_rfl)]
     have hlk:=HLK.out _ _ HM2.out
     go_simp
     clear hlk
     refine hK.out _ _ H2.out (fun hHeld => ?_)
     clear hK
     refine tk 6 (.tuple #[.agg #[(.int .i64 K0),(.int .i64 N0),(.func (.func F0) #[] #[])],.bool okb]) rfl hHeld (fun s hs=>by go_simp) ?_ (hQ:=fun _ _ _ h=>h.unput (by decide))
     refine tk 7 (.agg #[(.int .i64 K0),(.int .i64 N0),(.func (.func F0) #[] #[])]) rfl hHeld (fun s hs=>by go_simp) ?_ (hQ:=fun _ _ _ h=>h.unput (by decide))
     refine tk 8 (.bool okb) rfl hHeld (fun s hs=>by go_simp) ?_ (hQ:=fun _ _ _ h=>h.unput (by decide))
     refine rd1 9 rfl fun K hK => ?_
     go_simp
     have H3:=Lib.hid (H2.out.on (below_new _ (.cells zr 65)))
     obtain ⟨R,hR⟩:∃R,R=u2.heap.size:=⟨_,rfl⟩
     have HR3:=Lib.hid (heap_alloc_at u2 (.cells zr 65))
     have HRN:=Lib.hid (show w.heap.size+2<R by have:=lt_of_block H2.out.row.choose_spec.1;have:=H2.out.far;omega)
     have HM3:=Lib.hid (HM2.out.below (below_new _ (.cells zr 65)) HM2.out.lt)
     rw [←hR] at HR3 ⊢
     clear hR
     change K _ (u2.alloc (.cells zr 65))
     generalize u2.alloc (.cells zr 65)=u3 at H3 HR3 HM3 ⊢
     refine hK.out _ _ H3.out (fun hHeld => ?_)
     clear hK
     refine rd1 10 rfl fun K hK => ?_
     have r0:u3.cell? ⟨R,0,none⟩=some (.int .i64 0):=by rw [Lib.cell_of_heap HR3.out];rfl
     have r1:u3.cell? ⟨R,1,none⟩=some (.int .i64 0):=by rw [Lib.cell_of_heap HR3.out];rfl
     have r2:u3.cell? ⟨R,2,none⟩=some .nilFunc:=by rw [Lib.cell_of_heap HR3.out];rfl
     have f0:=blk_free HR3.out 0
     have f1:=blk_free HR3.out 1
     have f2:=blk_free HR3.out 2
     go_simp
     have HX:=H3.out.put HR3.out HRN.out (.int .i64 K0) (.int .i64 N0) (.func (.func F0) #[] #[])
     refine hK.out _ _ HX.1 (fun hHeld => ?_)
     refine tk 11 (.bool okb) rfl hHeld (fun s hs=>by go_simp) ?_ (hQ:=fun _ _ _ h=>h.unput (by decide))
     refine wpAnyH_done (by kernel_rfl) ?_ _
     exact ⟨R,M,rfl,HX.2,HX.1,HRN.out⟩
    ·rw [if_pos (by kernel_rfl)]
     go_simp
     have H3:=Lib.hid (H2.out.on (below_new _ (.cells zr 65)))
     obtain ⟨R,hR⟩:∃R,R=u2.heap.size:=⟨_,rfl⟩
     have HR3:=Lib.hid (heap_alloc_at u2 (.cells zr 65))
     have HRN:=Lib.hid (show w.heap.size+2<R by have:=lt_of_block H2.out.row.choose_spec.1;have:=H2.out.far;omega)
     have HM3:=Lib.hid (HM2.out.below (below_new _ (.cells zr 65)) HM2.out.lt)
     rw [←hR] at HR3 ⊢
     clear hR
     change K _ (u2.alloc (.cells zr 65))
     generalize u2.alloc (.cells zr 65)=u3 at H3 HR3 HM3 ⊢
     refine hK.out _ _ H3.out (fun hHeld => ?_)
     clear hK
     refine rd1 5 rfl fun K hK => ?_
     have hlk:=HLK.out _ _ HM3.out
     go_simp
     clear hlk
     refine hK.out _ _ H3.out (fun hHeld => ?_)
     clear hK
     refine tk 6 (.tuple #[.agg #[(.int .i64 K0),(.int .i64 N0),(.func (.func F0) #[] #[])],.bool okb]) rfl hHeld (fun s hs=>by go_simp) ?_ (hQ:=fun _ _ _ h=>h.unput (by decide))
     refine tk 7 (.agg #[(.int .i64 K0),(.int .i64 N0),(.func (.func F0) #[] #[])]) rfl hHeld (fun s hs=>by go_simp) ?_ (hQ:=fun _ _ _ h=>h.unput (by decide))
     refine tk 8 (.bool okb) rfl hHeld (fun s hs=>by go_simp) ?_ (hQ:=fun _ _ _ h=>h.unput (by decide))
     refine rd1 10 rfl fun K hK => ?_
     have r0:u3.cell? ⟨R,0,none⟩=some (.int .i64 0):=by rw [Lib.cell_of_heap HR3.out];rfl
     have r1:u3.cell? ⟨R,1,none⟩=some (.int .i64 0):=by rw [Lib.cell_of_heap HR3.out];rfl
     have r2:u3.cell? ⟨R,2,none⟩=some .nilFunc:=by rw [Lib.cell_of_heap HR3.out];rfl
     have f0:=blk_free HR3.out 0
     have f1:=blk_free HR3.out 1
     have f2:=blk_free HR3.out 2
     go_simp
     have HX:=H3.out.put HR3.out HRN.out (.int .i64 K0) (.int .i64 N0) (.func (.func F0) #[] #[])
     refine hK.out _ _ HX.1 (fun hHeld => ?_)
     refine tk 11 (.bool okb) rfl hHeld (fun s hs=>by go_simp) ?_ (hQ:=fun _ _ _ h=>h.unput (by decide))
     refine wpAnyH_done (by kernel_rfl) ?_ _
     exact ⟨R,M,rfl,HX.2,HX.1,HRN.out⟩
   ·rw [if_pos (by kernel_rfl)]
    go_simp
    have H2:=Lib.hid (H1.out.on (below_new _ (.cells zr 65)))
    obtain ⟨R,hR⟩:∃R,R=u1.heap.size:=⟨_,rfl⟩
    have HR2:=Lib.hid (heap_alloc_at u1 (.cells zr 65))
    have HRN:=Lib.hid (show w.heap.size+2<R by have:=lt_of_block H1.out.row.choose_spec.1;have:=H1.out.far;omega)
    have HM2:=Lib.hid (HM1.out.below (below_new _ (.cells zr 65)) HM1.out.lt)
    rw [←hR] at HR2 ⊢
    clear hR
    change K _ (u1.alloc (.cells zr 65))
    generalize u1.alloc (.cells zr 65)=u2 at H2 HR2 HM2 ⊢
    refine hK.out _ _ H2.out (fun hHeld => ?_)
    clear hK
    refine rd1 4 rfl fun K hK => ?_
    go_simp
    refine (HP.out _).mono ?_
    rintro e u3 ⟨he,hb⟩
    unfold PlainIs at he
    rw [HPX.out] at he
    subst he
    have H3:=Lib.hid (H2.out.on hb)
    have HM3:=Lib.hid (HM2.out.below hb HM2.out.lt)
    have HR3:=Lib.hid ((hb.block _ (lt_of_block HR2.out)).trans HR2.out)
    clear hb
    refine hK.out _ _ H3.out (fun hHeld => ?_)
    clear hK
    refine rd1 5 rfl fun K hK => ?_
    have hlk:=HLK.out _ _ HM3.out
    go_simp
    clear hlk
    refine hK.out _ _ H3.out (fun hHeld => ?_)
    clear hK
    refine tk 6 (.tuple #[.agg #[(.int .i64 K0),(.int .i64 N0),(.func (.func F0) #[] #[])],.bool okb]) rfl hHeld (fun s hs=>by go_simp) ?_ (hQ:=fun _ _ _ h=>h.unput (by decide))
    refine tk 7 (.agg #[(.int .i64 K0),(.int .i64 N0),(.func (.func F0) #[] #[])]) rfl hHeld (fun s hs=>by go_simp) ?_ (hQ:=fun _ _ _ h=>h.unput (by decide))
    refine tk 8 (.bool okb) rfl hHeld (fun s hs=>by go_simp) ?_ (hQ:=fun _ _ _ h=>h.unput (by decide))
    refine rd1 10 rfl fun K hK => ?_
    have r0:u3.cell? ⟨R,0,none⟩=some (.int .i64 0):=by rw [Lib.cell_of_heap HR3.out];rfl
    have r1:u3.cell? ⟨R,1,none⟩=some (.int .i64 0):=by rw [Lib.cell_of_heap HR3.out];rfl
    have r2:u3.cell? ⟨R,2,none⟩=some .nilFunc:=by rw [Lib.cell_of_heap HR3.out];rfl
    have f0:=blk_free HR3.out 0
    have f1:=blk_free HR3.out 1
    have f2:=blk_free HR3.out 2
    go_simp
    have HX:=H3.out.put HR3.out HRN.out (.int .i64 K0) (.int .i64 N0) (.func (.func F0) #[] #[])
    refine hK.out _ _ HX.1 (fun hHeld => ?_)
    refine tk 11 (.bool okb) rfl hHeld (fun s hs=>by go_simp) ?_ (hQ:=fun _ _ _ h=>h.unput (by decide))
    refine wpAnyH_done (by kernel_rfl) ?_ _
    exact ⟨R,M,rfl,HX.2,HX.1,HRN.out⟩
  ·rw [if_pos (by kernel_rfl)]
   go_simp
   have H1:=Lib.hid (H0.out.on (below_new _ (.cells zr 65)))
   obtain ⟨R,hR⟩:∃R,R=u0.heap.size:=⟨_,rfl⟩
   have HR1:=Lib.hid (heap_alloc_at u0 (.cells zr 65))
   have HRN:=Lib.hid (show w.heap.size+2<R by have:=lt_of_block H0.out.row.choose_spec.1;have:=H0.out.far;omega)
   rw [←hR] at HR1 ⊢
   clear hR
   change K _ (u0.alloc (.cells zr 65))
   generalize u0.alloc (.cells zr 65)=u1 at H1 HR1 ⊢
   refine hK.out _ _ H1.out (fun hHeld => ?_)
   clear hK
   refine rd1 0 rfl fun K hK => ?_
   go_simp
   refine (rows_any _).mono ?_
   rintro e u2 ⟨rfl,hm,hb⟩
   obtain ⟨M,hM⟩:∃M,M=u1.heap.size:=⟨_,rfl⟩
   rw [←hM] at hm ⊢
   have H2:=Lib.hid (H1.out.on hb)
   have HM2:=Lib.hid hm
   have HR2:=Lib.hid ((hb.block _ (lt_of_block HR1.out)).trans HR1.out)
   clear hm hb hM
   refine hK.out _ _ H2.out (fun hHeld => ?_)
   clear hK
   refine rd1 4 rfl fun K hK => ?_
   go_simp
   refine (HP.out _).mono ?_
   rintro e u3 ⟨he,hb⟩
   unfold PlainIs at he
   rw [HPX.out] at he
   subst he
   have H3:=Lib.hid (H2.out.on hb)
   have HM3:=Lib.hid (HM2.out.below hb HM2.out.lt)
   have HR3:=Lib.hid ((hb.block _ (lt_of_block HR2.out)).trans HR2.out)
   clear hb
   refine hK.out _ _ H3.out (fun hHeld => ?_)
   clear hK
   refine rd1 5 rfl fun K hK => ?_
   have hlk:=HLK.out _ _ HM3.out
   go_simp
   clear hlk
   refine hK.out _ _ H3.out (fun hHeld => ?_)
   clear hK
   refine tk 6 (.tuple #[.agg #[(.int .i64 K0),(.int .i64 N0),(.func (.func F0) #[] #[])],.bool okb]) rfl hHeld (fun s hs=>by go_simp) ?_ (hQ:=fun _ _ _ h=>h.unput (by decide))
   refine tk 7 (.agg #[(.int .i64 K0),(.int .i64 N0),(.func (.func F0) #[] #[])]) rfl hHeld (fun s hs=>by go_simp) ?_ (hQ:=fun _ _ _ h=>h.unput (by decide))
   refine tk 8 (.bool okb) rfl hHeld (fun s hs=>by go_simp) ?_ (hQ:=fun _ _ _ h=>h.unput (by decide))
   refine rd1 10 rfl fun K hK => ?_
   have r0:u3.cell? ⟨R,0,none⟩=some (.int .i64 0):=by rw [Lib.cell_of_heap HR3.out];rfl
   have r1:u3.cell? ⟨R,1,none⟩=some (.int .i64 0):=by rw [Lib.cell_of_heap HR3.out];rfl
   have r2:u3.cell? ⟨R,2,none⟩=some .nilFunc:=by rw [Lib.cell_of_heap HR3.out];rfl
   have f0:=blk_free HR3.out 0
   have f1:=blk_free HR3.out 1
   have f2:=blk_free HR3.out 2
   go_simp
   have HX:=H3.out.put HR3.out HRN.out (.int .i64 K0) (.int .i64 N0) (.func (.func F0) #[] #[])
   refine hK.out _ _ HX.1 (fun hHeld => ?_)
   refine tk 11 (.bool okb) rfl hHeld (fun s hs=>by go_simp) ?_ (hQ:=fun _ _ _ h=>h.unput (by decide))
   refine wpAnyH_done (by kernel_rfl) ?_ _
   exact ⟨R,M,rfl,HX.2,HX.1,HRN.out⟩
 ·rintro a W ⟨R,M,rfl,hR,hlw,hRn⟩
  have HLW:=Lib.hid hlw
  have c1:W.cell? ⟨R,1,none⟩=some (.int .i64 N0):=by rw [Lib.cell_of_heap hR];rfl
  unfold actL
  rw [E3.out]
  clear hR hlw hRn
  go_wp2_with (first
   | (go_at_call 23;refine (must_no _).mono ?_;rintro e w1 ⟨rfl,rfl⟩))
  exact leave_bar HLW.out.res rfl ⟨rfl,rfl,rfl⟩ fun W' hW=>⟨HPAN.out _,HLW.out.bel.trans hW⟩
theorem slice_cap {g m cap:Nat} (h:m+1≤cap):0<m→(some (if cap=1 then (⟨g,0,none⟩:Addr) else ⟨g,2,none⟩))=some ⟨g,2,none⟩:=fun h0=>by
 rw [if_neg (by omega)]
theorem LW.rowS {w W:World} {g:Nat} {p:List UInt8×Bool} {l:List (List UInt8×Bool)} (h:LW w g (p :: l) W) (k:Int):RowS ((W.setCell ⟨w.heap.size,0,none⟩ (.int .i64 k)).drew) w.heap.size g l (zeroC k) ((W.setCell ⟨w.heap.size,0,none⟩ (.int .i64 k)).drew):=by
 obtain ⟨cur,h1,h2⟩:=h.row
 have hne:g≠w.heap.size:=by have:=h.far;omega
 have hr:W.rangeAt g 2 (wdCells l):=fun j u hu=>by
  have e:(wdCells (p :: l))[2+j]?=some u:=by
   rw [show wdCells (p :: l)=wdCell p++wdCells l by simp [wdCells],List.getElem?_append_right (by simp [wdCell])]
   simpa [wdCell] using hu
  exact h.cell e
 refine ⟨?_,rfl,range_other hr hne _ _,by have:=lt_of_block h1;simpa using this,hne,Fr.refl _ _ _⟩
 show (W.setCell ⟨w.heap.size,0,none⟩ (.int .i64 k)).heap[w.heap.size]?=_
 have:=blk_set h.res.op 0 (.int .i64 k)
 simpa [zeroC,opCells] using this
theorem word_cells {o:sp.Op} {tv:Value} {B n:Nat} {W:World} {cs:List Value} (h:RowAt B W tv n cs):(opCells o tv).all (·.oneCell')=true:=by
 obtain ⟨a,cap,rfl⟩:=h.slice
 simp [opCells,Value.oneCell']
theorem rowAt_other {W:World} {B b n:Nat} {v x:Value} {cs:List Value} (h:RowAt B W v n cs) (hne:∀g,v.ownBlock=some g→g≠b) (o:Nat):RowAt B (W.setCell ⟨b,o,none⟩ x) v n cs:=by
 obtain ⟨a,cap,h1,h2,h3,h4⟩:=h
 refine ⟨a,cap,h1,h2,h3,h4.imp id fun ⟨x1,g,off,y1,y2,y3⟩=>⟨x1,g,off,y1,y2,range_other y3 (hne g (by rw [h1,y1];rfl)) _ _⟩⟩
theorem rowAt_row {W:World} {B b n:Nat} {v:Value} {cs:List Value} (h:RowAt B W v n cs) (hne:∀g,v.ownBlock=some g→g≠b) (xs:Array Value):RowAt B (W.setRow b xs) v n cs:=by
 obtain ⟨a,cap,h1,h2,h3,h4⟩:=h
 refine ⟨a,cap,h1,h2,h3,h4.imp id fun ⟨x1,g,off,y1,y2,y3⟩=>⟨x1,g,off,y1,y2,fun j u hu => ?_⟩⟩
 have hg:=hne g (by rw [h1,y1];rfl)
 have e:=y3 j u hu
 have e2:(W.setRow b xs).heap[g]?=W.heap[g]?:=setRow_far xs (Ne.symm hg)
 rw [←e]
 unfold World.cell?
 simp only [e2]
set_option maxRecDepth 100000 in
set_option maxHeartbeats 16000000 in
theorem line_known (s:List UInt8) (w:World) (h:10∉s) (h2:sp.silentB s=false) (p:List UInt8×Bool) (l:List (List UInt8×Bool)) (hp:p.2=false) (r:Rw) (hq:(p.1,r)∈rowsL) (hc:(l.length:Int)=r.n) (hw:sp.words s=some (p :: l)) (hn:s.length≤1099511627776):Calls Tryz.prog 9 #[.string (bstr s)] w fun e w'=>LineIs w.heap.size s w' e∧Below w.heap.size w w':=by
 have HLS:Hid (sp.lineS s=(sp.opS p.1 l).map some):=Lib.hid (by rw [line_words h h2,hw];obtain ⟨a,b⟩:=p;simp only at hp;subst hp;rfl)
 have HPX:Hid (sp.wPlain p=some p.1):=Lib.hid (by unfold sp.wPlain;rw [if_neg (by rw [hp];decide)])
 obtain ⟨K0,e0⟩:∃v,v=r.k:=⟨_,rfl⟩
 obtain ⟨N0,e1⟩:∃v,v=r.n:=⟨_,rfl⟩
 obtain ⟨F0,e2⟩:∃v,v=r.g:=⟨_,rfl⟩
 obtain ⟨okb,e3⟩:∃v,v=true:=⟨_,rfl⟩
 have HLK:Hid (∀W M,MapIs W M rowsL→(Instr.lookup 67 (.map (some M)) (.string (bstr p.1)) true).run Tryz.prog W=.ok (.tuple #[.agg #[.int .i64 K0,.int .i64 N0,.func (.func F0) #[] #[]],.bool okb]) W):=Lib.hid (fun W M hm=>by rw [e0,e1,e2,e3];exact hm.lookOk_some hq)
 have hrn:0≤N0∧N0≤5:=by rw [e1];exact row_range hq
 have hll:(l.length:Int)≤5:=by rw [hc,←e1];omega
 have ht:((l.length:Int)+1==N0+1)=true:=by simp;omega
 have HENT:Hid (∀args W,(callFunc F0 args).run Tryz.prog W=.ok (.enter F0 args) W):=Lib.hid (fun args W=>by rw [e2];exact row_enters hq args W)
 have HROW:Hid (∀(ad:Option Addr) (c:Nat) (w0 W:World) (g:Nat),(0<l.length→ad=some ⟨g,2,none⟩)→RowS w0 w.heap.size g l (zeroC K0) W→Calls Tryz.prog F0 #[.pointer (some ⟨w.heap.size,0,none⟩),.slice ad l.length c] W fun e w'=>RowIs w0 w.heap.size (sp.opS p.1 l) e w'):=Lib.hid (fun ad c w0 W g had hrs=>by
  rw [e2]
  rw [e0] at hrs
  refine row_any p.1 r hq l hc ad c w0 W _ g had (fun q hq' => ?_) hrs
  have:=(words_len _ s (Nat.le_refl _) _ hw).1 q (List.mem_cons_of_mem _ hq')
  omega)
 have E3:=Lib.hid e3
 clear hp hq hc e0 e1 e2 e3
 have hmf:∀(fn:Fn) (first cap:Array Value) (w:World),(Instr.makeFunc fn first cap).run Tryz.prog w=.ok (.func fn first cap) w:=fun _ _ _ _=>rfl
 obtain ⟨hr,hb,hsz⟩:=start_res w
 have HC:=Lib.hid (fun W=>contains_nl s W)
 rw [show decide (10∈s)=false by simpa using h] at HC
 have HS:=Lib.hid (fun W=>silent_any s W)
 rw [h2] at HS
 have HL:=Lib.hid (lineR_new (startL w) s)
 have HP:=Lib.hid (fun W=>wplain_any p W)
 have HW:=Lib.hid hw;have HN:=Lib.hid hn;have HSZ:=Lib.hid hsz
 clear hr hb h h2 hw hn hsz
 go_enter_defers Tryz.func9,Tryz.ntmps9
 go_wp2_with (first
  | (go_at_call 24;refine (HC.out _).mono ?_;rintro e w1 ⟨rfl,rfl⟩)
  | (go_at_call 23;refine (must_yes _).mono ?_;rintro e w1 ⟨rfl,rfl⟩)
  | (go_at_call 25;refine (HS.out _).mono ?_;rintro e w1 ⟨rfl,rfl⟩;rw [start_eq])
  | (go_at_call 26;refine (words_any _ (startL w).heap.size (bstr s) s HL.out (by rw [bstr_size];exact HN.out)).mono ?_;rintro e w2 ⟨he,hf⟩;unfold WordsIs at he;rw [HW.out] at he;obtain ⟨v,rfl,hown⟩:=he;obtain ⟨g,cap,rfl,hc1,hc2,hlw⟩:=lw_start hf hown (by simp);have H0:=Lib.hid hlw;have HC1:=Lib.hid hc1;have HC2:=Lib.hid hc2;clear hf hown hlw hc1 hc2))
 refine wp_cut (fun a W=>∃R M,a=actL w.heap.size g cap (l.length+1) (startL w).heap.size s p (.agg #[(.int .i64 K0),(.int .i64 N0),(.func (.func F0) #[] #[])]) okb R M∧W.heap[R]?=some (.cells #[(.int .i64 K0),(.int .i64 N0),(.func (.func F0) #[] #[])] 65 (0,0))∧LW w g (p :: l) W∧w.heap.size+2<R) (fun _ _ _=>False) (fun _ _ _ h=>h.elim) ?_ ?_
 ·have H0:=Lib.hid (H0.out.on (Below.refl _ _).drew)
  refine wp_region_held_drew (S:=fun W=>LW w g (p :: l) W) (by kernel_rfl) H0.out (fun hHeld => ?_)
  refine tk 1 (.slice (some ⟨g,0,none⟩) (l.length+1) cap) rfl hHeld (fun s hs=>by go_simp) ?_
  refine tk 2 (.pointer (some ⟨g,0,none⟩)) rfl hHeld (fun s hs=>by go_simp<;>omega) ?_
  refine tk 3 (.agg #[.string (bstr p.1),.bool p.2]) rfl hHeld (fun s hs=>by have e0:s.cell? ⟨g,0,none⟩=some (.string (bstr p.1)):=LW.cell hs rfl;have e1:s.cell? ⟨g,1,none⟩=some (.bool p.2):=LW.cell hs rfl;go_simp) ?_
  generalize w2.drew=u0 at *
  refine wpAnyH_ready (rs:=[0,9]) (by kernel_rfl) (by simp) ?_
  refine AllReadyH.cons rfl (fun K hK => ?_) (AllReadyH.cons rfl (fun K hK => ?_) AllReadyH.nil)
  ·rw [if_pos (by kernel_rfl)]
   go_simp
   refine (rows_any _).mono ?_
   rintro e u1 ⟨rfl,hm,hb⟩
   obtain ⟨M,hM⟩:∃M,M=u0.heap.size:=⟨_,rfl⟩
   rw [←hM] at hm ⊢
   have H1:=Lib.hid (H0.out.on hb)
   have HM1:=Lib.hid hm
   clear hm hb hM
   refine hK.out _ _ H1.out (fun hHeld => ?_)
   clear hK
   refine wpAnyH_ready (rs:=[4,9]) (by kernel_rfl) (by simp) ?_
   refine AllReadyH.cons rfl (fun K hK => ?_) (AllReadyH.cons rfl (fun K hK => ?_) AllReadyH.nil)
   ·rw [if_pos (by kernel_rfl)]
    go_simp
    refine (HP.out _).mono ?_
    rintro e u2 ⟨he,hb⟩
    unfold PlainIs at he
    rw [HPX.out] at he
    subst he
    have H2:=Lib.hid (H1.out.on hb)
    have HM2:=Lib.hid (HM1.out.below hb HM1.out.lt)
    clear hb
    refine hK.out _ _ H2.out (fun hHeld => ?_)
    clear hK
    refine wpAnyH_ready (rs:=[5,9]) (by kernel_rfl) (by simp) ?_
    refine AllReadyH.cons rfl (fun K hK => ?_) (AllReadyH.cons rfl (fun K hK => ?_) AllReadyH.nil)
    ·rw [if_pos (by kernel_rfl)]
     have hlk:=HLK.out _ _ HM2.out
     go_simp
     clear hlk
     refine hK.out _ _ H2.out (fun hHeld => ?_)
     clear hK
     refine tk 6 (.tuple #[.agg #[(.int .i64 K0),(.int .i64 N0),(.func (.func F0) #[] #[])],.bool okb]) rfl hHeld (fun s hs=>by go_simp) ?_
     refine tk 7 (.agg #[(.int .i64 K0),(.int .i64 N0),(.func (.func F0) #[] #[])]) rfl hHeld (fun s hs=>by go_simp) ?_
     refine tk 8 (.bool okb) rfl hHeld (fun s hs=>by go_simp) ?_
     refine rd1 9 rfl fun K hK => ?_
     go_simp
     have H3:=Lib.hid (H2.out.on (below_new _ (.cells zr 65)))
     obtain ⟨R,hR⟩:∃R,R=u2.heap.size:=⟨_,rfl⟩
     have HR3:=Lib.hid (heap_alloc_at u2 (.cells zr 65))
     have HRN:=Lib.hid (show w.heap.size+2<R by have:=lt_of_block H2.out.row.choose_spec.1;have:=H2.out.far;omega)
     have HM3:=Lib.hid (HM2.out.below (below_new _ (.cells zr 65)) HM2.out.lt)
     rw [←hR] at HR3 ⊢
     clear hR
     change K _ (u2.alloc (.cells zr 65))
     generalize u2.alloc (.cells zr 65)=u3 at H3 HR3 HM3 ⊢
     refine hK.out _ _ H3.out (fun hHeld => ?_)
     clear hK
     refine rd1 10 rfl fun K hK => ?_
     have r0:u3.cell? ⟨R,0,none⟩=some (.int .i64 0):=by rw [Lib.cell_of_heap HR3.out];rfl
     have r1:u3.cell? ⟨R,1,none⟩=some (.int .i64 0):=by rw [Lib.cell_of_heap HR3.out];rfl
     have r2:u3.cell? ⟨R,2,none⟩=some .nilFunc:=by rw [Lib.cell_of_heap HR3.out];rfl
     have f0:=blk_free HR3.out 0
     have f1:=blk_free HR3.out 1
     have f2:=blk_free HR3.out 2
     go_simp
     have HX:=H3.out.put HR3.out HRN.out (.int .i64 K0) (.int .i64 N0) (.func (.func F0) #[] #[])
     refine hK.out _ _ HX.1 (fun hHeld => ?_)
     refine tk 11 (.bool okb) rfl hHeld (fun s hs=>by go_simp) ?_
     refine wpAnyH_done (by kernel_rfl) ?_ _
     exact ⟨R,M,rfl,HX.2,HX.1,HRN.out⟩
    ·rw [if_pos (by kernel_rfl)]
     go_simp
     have H3:=Lib.hid (H2.out.on (below_new _ (.cells zr 65)))
     obtain ⟨R,hR⟩:∃R,R=u2.heap.size:=⟨_,rfl⟩
     have HR3:=Lib.hid (heap_alloc_at u2 (.cells zr 65))
     have HRN:=Lib.hid (show w.heap.size+2<R by have:=lt_of_block H2.out.row.choose_spec.1;have:=H2.out.far;omega)
     have HM3:=Lib.hid (HM2.out.below (below_new _ (.cells zr 65)) HM2.out.lt)
     rw [←hR] at HR3 ⊢
     clear hR
     change K _ (u2.alloc (.cells zr 65))
     generalize u2.alloc (.cells zr 65)=u3 at H3 HR3 HM3 ⊢
     refine hK.out _ _ H3.out (fun hHeld => ?_)
     clear hK
     refine rd1 5 rfl fun K hK => ?_
     have hlk:=HLK.out _ _ HM3.out
     go_simp
     clear hlk
     refine hK.out _ _ H3.out (fun hHeld => ?_)
     clear hK
     refine tk 6 (.tuple #[.agg #[(.int .i64 K0),(.int .i64 N0),(.func (.func F0) #[] #[])],.bool okb]) rfl hHeld (fun s hs=>by go_simp) ?_
     refine tk 7 (.agg #[(.int .i64 K0),(.int .i64 N0),(.func (.func F0) #[] #[])]) rfl hHeld (fun s hs=>by go_simp) ?_
     refine tk 8 (.bool okb) rfl hHeld (fun s hs=>by go_simp) ?_
     refine rd1 10 rfl fun K hK => ?_
     have r0:u3.cell? ⟨R,0,none⟩=some (.int .i64 0):=by rw [Lib.cell_of_heap HR3.out];rfl
     have r1:u3.cell? ⟨R,1,none⟩=some (.int .i64 0):=by rw [Lib.cell_of_heap HR3.out];rfl
     have r2:u3.cell? ⟨R,2,none⟩=some .nilFunc:=by rw [Lib.cell_of_heap HR3.out];rfl
     have f0:=blk_free HR3.out 0
     have f1:=blk_free HR3.out 1
     have f2:=blk_free HR3.out 2
     go_simp
     have HX:=H3.out.put HR3.out HRN.out (.int .i64 K0) (.int .i64 N0) (.func (.func F0) #[] #[])
     refine hK.out _ _ HX.1 (fun hHeld => ?_)
     refine tk 11 (.bool okb) rfl hHeld (fun s hs=>by go_simp) ?_
     refine wpAnyH_done (by kernel_rfl) ?_ _
     exact ⟨R,M,rfl,HX.2,HX.1,HRN.out⟩
   ·rw [if_pos (by kernel_rfl)]
    go_simp
    have H2:=Lib.hid (H1.out.on (below_new _ (.cells zr 65)))
    obtain ⟨R,hR⟩:∃R,R=u1.heap.size:=⟨_,rfl⟩
    have HR2:=Lib.hid (heap_alloc_at u1 (.cells zr 65))
    have HRN:=Lib.hid (show w.heap.size+2<R by have:=lt_of_block H1.out.row.choose_spec.1;have:=H1.out.far;omega)
    have HM2:=Lib.hid (HM1.out.below (below_new _ (.cells zr 65)) HM1.out.lt)
    rw [←hR] at HR2 ⊢
    clear hR
    change K _ (u1.alloc (.cells zr 65))
    generalize u1.alloc (.cells zr 65)=u2 at H2 HR2 HM2 ⊢
    refine hK.out _ _ H2.out (fun hHeld => ?_)
    clear hK
    refine rd1 4 rfl fun K hK => ?_
    go_simp
    refine (HP.out _).mono ?_
    rintro e u3 ⟨he,hb⟩
    unfold PlainIs at he
    rw [HPX.out] at he
    subst he
    have H3:=Lib.hid (H2.out.on hb)
    have HM3:=Lib.hid (HM2.out.below hb HM2.out.lt)
    have HR3:=Lib.hid ((hb.block _ (lt_of_block HR2.out)).trans HR2.out)
    clear hb
    refine hK.out _ _ H3.out (fun hHeld => ?_)
    clear hK
    refine rd1 5 rfl fun K hK => ?_
    have hlk:=HLK.out _ _ HM3.out
    go_simp
    clear hlk
    refine hK.out _ _ H3.out (fun hHeld => ?_)
    clear hK
    refine tk 6 (.tuple #[.agg #[(.int .i64 K0),(.int .i64 N0),(.func (.func F0) #[] #[])],.bool okb]) rfl hHeld (fun s hs=>by go_simp) ?_
    refine tk 7 (.agg #[(.int .i64 K0),(.int .i64 N0),(.func (.func F0) #[] #[])]) rfl hHeld (fun s hs=>by go_simp) ?_
    refine tk 8 (.bool okb) rfl hHeld (fun s hs=>by go_simp) ?_
    refine rd1 10 rfl fun K hK => ?_
    have r0:u3.cell? ⟨R,0,none⟩=some (.int .i64 0):=by rw [Lib.cell_of_heap HR3.out];rfl
    have r1:u3.cell? ⟨R,1,none⟩=some (.int .i64 0):=by rw [Lib.cell_of_heap HR3.out];rfl
    have r2:u3.cell? ⟨R,2,none⟩=some .nilFunc:=by rw [Lib.cell_of_heap HR3.out];rfl
    have f0:=blk_free HR3.out 0
    have f1:=blk_free HR3.out 1
    have f2:=blk_free HR3.out 2
    go_simp
    have HX:=H3.out.put HR3.out HRN.out (.int .i64 K0) (.int .i64 N0) (.func (.func F0) #[] #[])
    refine hK.out _ _ HX.1 (fun hHeld => ?_)
    refine tk 11 (.bool okb) rfl hHeld (fun s hs=>by go_simp) ?_
    refine wpAnyH_done (by kernel_rfl) ?_ _
    exact ⟨R,M,rfl,HX.2,HX.1,HRN.out⟩
  ·rw [if_pos (by kernel_rfl)]
   go_simp
   have H1:=Lib.hid (H0.out.on (below_new _ (.cells zr 65)))
   obtain ⟨R,hR⟩:∃R,R=u0.heap.size:=⟨_,rfl⟩
   have HR1:=Lib.hid (heap_alloc_at u0 (.cells zr 65))
   have HRN:=Lib.hid (show w.heap.size+2<R by have:=lt_of_block H0.out.row.choose_spec.1;have:=H0.out.far;omega)
   rw [←hR] at HR1 ⊢
   clear hR
   change K _ (u0.alloc (.cells zr 65))
   generalize u0.alloc (.cells zr 65)=u1 at H1 HR1 ⊢
   refine hK.out _ _ H1.out (fun hHeld => ?_)
   clear hK
   refine rd1 0 rfl fun K hK => ?_
   go_simp
   refine (rows_any _).mono ?_
   rintro e u2 ⟨rfl,hm,hb⟩
   obtain ⟨M,hM⟩:∃M,M=u1.heap.size:=⟨_,rfl⟩
   rw [←hM] at hm ⊢
   have H2:=Lib.hid (H1.out.on hb)
   have HM2:=Lib.hid hm
   have HR2:=Lib.hid ((hb.block _ (lt_of_block HR1.out)).trans HR1.out)
   clear hm hb hM
   refine hK.out _ _ H2.out (fun hHeld => ?_)
   clear hK
   refine rd1 4 rfl fun K hK => ?_
   go_simp
   refine (HP.out _).mono ?_
   rintro e u3 ⟨he,hb⟩
   unfold PlainIs at he
   rw [HPX.out] at he
   subst he
   have H3:=Lib.hid (H2.out.on hb)
   have HM3:=Lib.hid (HM2.out.below hb HM2.out.lt)
   have HR3:=Lib.hid ((hb.block _ (lt_of_block HR2.out)).trans HR2.out)
   clear hb
   refine hK.out _ _ H3.out (fun hHeld => ?_)
   clear hK
   refine rd1 5 rfl fun K hK => ?_
   have hlk:=HLK.out _ _ HM3.out
   go_simp
   clear hlk
   refine hK.out _ _ H3.out (fun hHeld => ?_)
   clear hK
   refine tk 6 (.tuple #[.agg #[(.int .i64 K0),(.int .i64 N0),(.func (.func F0) #[] #[])],.bool okb]) rfl hHeld (fun s hs=>by go_simp) ?_
   refine tk 7 (.agg #[(.int .i64 K0),(.int .i64 N0),(.func (.func F0) #[] #[])]) rfl hHeld (fun s hs=>by go_simp) ?_
   refine tk 8 (.bool okb) rfl hHeld (fun s hs=>by go_simp) ?_
   refine rd1 10 rfl fun K hK => ?_
   have r0:u3.cell? ⟨R,0,none⟩=some (.int .i64 0):=by rw [Lib.cell_of_heap HR3.out];rfl
   have r1:u3.cell? ⟨R,1,none⟩=some (.int .i64 0):=by rw [Lib.cell_of_heap HR3.out];rfl
   have r2:u3.cell? ⟨R,2,none⟩=some .nilFunc:=by rw [Lib.cell_of_heap HR3.out];rfl
   have f0:=blk_free HR3.out 0
   have f1:=blk_free HR3.out 1
   have f2:=blk_free HR3.out 2
   go_simp
   have HX:=H3.out.put HR3.out HRN.out (.int .i64 K0) (.int .i64 N0) (.func (.func F0) #[] #[])
   refine hK.out _ _ HX.1 (fun hHeld => ?_)
   refine tk 11 (.bool okb) rfl hHeld (fun s hs=>by go_simp) ?_
   refine wpAnyH_done (by kernel_rfl) ?_ _
   exact ⟨R,M,rfl,HX.2,HX.1,HRN.out⟩
 ·rintro a W ⟨R,M,rfl,hR,hlw,hRn⟩
  have HLW:=Lib.hid hlw
  have c0:W.cell? ⟨R,0,none⟩=some (.int .i64 K0):=by rw [Lib.cell_of_heap hR];rfl
  have c1:W.cell? ⟨R,1,none⟩=some (.int .i64 N0):=by rw [Lib.cell_of_heap hR];rfl
  have b0:W.cell? ⟨w.heap.size,0,none⟩=some (.int .i64 0):=by rw [Lib.cell_of_heap hlw.res.op];rfl
  have z0:W.frozen? ⟨w.heap.size,0,none⟩=false:=blk_free hlw.res.op 0
  have HRS:=Lib.hid (hlw.rowS K0)
  have hRB:R≠w.heap.size:=by omega
  have HR2:Hid ((W.setCell ⟨w.heap.size,0,none⟩ (.int .i64 K0)).drew.cell? ⟨R,2,none⟩=some (.func (.func F0) #[] #[])):=Lib.hid (by
   show (W.setCell ⟨w.heap.size,0,none⟩ (.int .i64 K0)).cell? ⟨R,2,none⟩=_
   rw [World.cell?_setCell_far W _ _ _ (by simpa using Ne.symm hRB),Lib.cell_of_heap hR]
   rfl)
  have HRES:Hid ((W.setCell ⟨w.heap.size,0,none⟩ (.int .i64 K0)).drew.heap[w.heap.size+1]?=some (.cells #[.bool false] 4 (0,0))∧(W.setCell ⟨w.heap.size,0,none⟩ (.int .i64 K0)).drew.heap[w.heap.size+2]?=some (.cells #[.int .i64 0] 29 (0,0))):=Lib.hid ⟨(heap_other (by omega) _ _).trans hlw.res.says,(heap_other (by omega) _ _).trans hlw.res.err⟩
  have HBEL:Hid (Below w.heap.size w (W.setCell ⟨w.heap.size,0,none⟩ (.int .i64 K0)).drew):=Lib.hid (hlw.bel.setCell (Nat.le_refl _) _).drew
  have HRB:=Lib.hid hRB
  have HRL:=Lib.hid (lt_of_block hR)
  have HRN:=Lib.hid hRn
  unfold actL
  rw [E3.out]
  clear hR hlw hRn
  go_wp2_with (first
   | (go_at_call 23;refine (must_yes _).mono ?_;rintro e w1 ⟨rfl,rfl⟩))
  refine wp_pan (PS:=fun c a W=>PanSt w.heap.size w c a W∧sp.opS p.1 l=none) ?_ ?_
  ·rintro c a W ⟨h,ho⟩
   obtain ⟨cs,sy,er,q1,q2⟩:=h.res
   rw [h.bar]
   show Leaves Tryz.prog Tryz.f9 a.tmps _ a.defers (.panicking bar) W
   rw [h.defers]
   exact leave_bar q2 q1 h.slots fun W' hW=>⟨lineIs_none (B:=w.heap.size) (by rw [HLS.out,ho];rfl) _,h.bel.trans hW⟩
  ·obtain ⟨ad,had⟩:∃ad,ad=(some (if cap=1 then (⟨g,0,none⟩:Addr) else ⟨g,2,none⟩)):=⟨_,rfl⟩
   have HAD:=Lib.hid (slice_cap (g:=g) HC1.out)
   rw [←had] at HAD
   have hsl:=fun W=>slice_rest W g l.length cap HC1.out HC2.out
   rw [←had] at hsl
   clear had
   have hent:=HENT.out
   refine wp_region_held_drew (S:=fun W=>W.cell? ⟨R,2,none⟩=some (.func (.func F0) #[] #[])) (by kernel_rfl) HR2.out (fun hHeld => ?_)
   refine wpAnyH_take (i:=0) (v:=.pointer (some ⟨R,2,none⟩)) rfl (by kernel_rfl) (by kernel_rfl) (by kernel_rfl) (fun _ _ _ h=>⟨PanSt.unput h.1 (by decide),h.2⟩) (Or.inl ⟨by kernel_rfl,fun s hs=>by have e0:=hs;go_simp⟩) hHeld ?_
   refine wpAnyH_take (i:=1) (v:=.func (.func F0) #[] #[]) rfl (by kernel_rfl) (by kernel_rfl) (by kernel_rfl) (fun _ _ _ h=>⟨PanSt.unput h.1 (by decide),h.2⟩) (Or.inl ⟨by kernel_rfl,fun s hs=>by have e0:=hs;go_simp⟩) hHeld ?_
   refine wpAnyH_take (i:=2) (v:=.slice (some ⟨g,0,none⟩) (l.length+1) cap) rfl (by kernel_rfl) (by kernel_rfl) (by kernel_rfl) (fun _ _ _ h=>⟨PanSt.unput h.1 (by decide),h.2⟩) (Or.inl ⟨by kernel_rfl,fun s hs=>by have e0:=hs;go_simp⟩) hHeld ?_
   refine wpAnyH_take (i:=3) (v:=.slice ad l.length (cap-1)) rfl (by kernel_rfl) (by kernel_rfl) (by kernel_rfl) (fun _ _ _ h=>⟨PanSt.unput h.1 (by decide),h.2⟩) (Or.inl ⟨by kernel_rfl,fun s hs=>by have e0:=hs;go_simp⟩) hHeld ?_
   refine rd1 4 rfl fun K hK => ?_
   go_simp
   refine (HROW.out _ (cap-1) _ _ g HAD.out HRS.out).mono ?_
   rintro e u3 he
   cases ho:sp.opS p.1 l with
   | none =>
    rw [ho] at he
    obtain ⟨rfl,hfr,cs,hcs,hsz⟩:=he
    refine ⟨⟨rfl,rfl,⟨rfl,rfl,rfl⟩,⟨cs,_,_,hsz,hcs,(hfr.block _ (lt_of_block HRES.out.1) (by omega) (fun e=>by cases e)).trans HRES.out.1,(hfr.block _ (lt_of_block HRES.out.2) (by omega) (fun e=>by cases e)).trans HRES.out.2⟩,HBEL.out.trans (hfr.below (Nat.le_refl _) (fun g hg=>by cases hg) HBEL.out.size)⟩,rfl⟩
   | some o =>
    rw [ho] at he
    obtain ⟨rfl,hfr,tv,hop,hrow,htv⟩:=he
    have hlt2:=lt_of_block HRES.out.2
    have HTV:Hid (∀g,tv.ownBlock=some g→w.heap.size+2<g):=Lib.hid fun g hg=>by have:=htv g hg;omega
    have HROWT:=Lib.hid hrow
    have HR3:Hid (Res w.heap.size (w.heap.size+1) (w.heap.size+2) (opCells o tv) false 0 u3):=Lib.hid ⟨hop,(hfr.block _ (lt_of_block HRES.out.1) (by omega) (fun e=>by cases e)).trans HRES.out.1,(hfr.block _ (lt_of_block HRES.out.2) (by omega) (fun e=>by cases e)).trans HRES.out.2⟩
    have HB3:=Lib.hid (HBEL.out.trans (hfr.below (b:=w.heap.size) (B:=w.heap.size) (Nat.le_refl _) (fun g hg=>by cases hg) HBEL.out.size))
    have HO:=Lib.hid ho
    have hc2:u3.cell? ⟨R,2,none⟩=some (.func (.func F0) #[] #[]):=by
     have e1:=HR2.out
     have e2:=hfr.block R (by simpa using HRL.out) HRB.out (fun e=>by cases e)
     rw [←e1]
     unfold World.cell?
     simp only [e2]
    refine hK.out _ _ hc2 (fun hHeld => ?_)
    refine wpAnyH_done (by kernel_rfl) ?_ _
    refine PanQ.normal ?_
    clear hHeld hK hop hrow htv hfr ho hc2 hlt2 hsl hent c0 c1 b0 z0
    have HONE:Hid ((opCells o tv).all (·.oneCell')=true):=Lib.hid (word_cells HROWT.out)
    have HS18:Hid ((opCells o tv).size=18):=Lib.hid rfl
    obtain ⟨oc,hoc⟩:∃oc,oc=opCells o tv:=⟨_,rfl⟩
    rw [←hoc] at HR3 HONE HS18
    have HS18':Hid ((Tryz.prog.info? 28).map (·.size)=some oc.size):=Lib.hid (by rw [HS18.out];exact size28')
    go_wp2_with (first
     | (refine wpList_load_row rfl 28 _ rfl w.heap.size rfl 28 oc (0,0) _ HR3.out.op Tryz.underlying28 rfl HS18'.out ?_)
     | (refine wpList_store_row rfl 28 _ _ rfl w.heap.size oc rfl rfl 28 oc HR3.out.op HS18'.out rfl HONE.out ?_;have HR4:=Lib.hid (HR3.out.row (cs':=oc)).1;have HB4:=Lib.hid (HB3.out.trans (HR3.out.row (cs':=oc)).2);have HT4:=Lib.hid ((rowAt_row HROWT.out (fun g hg=>by have:=HTV.out g hg;omega) oc (b:=w.heap.size)).mono (show u3.heap.size≤(u3.setRow w.heap.size oc).heap.size by simp [World.setRow]));generalize u3.setRow w.heap.size oc=W2 at HR4 HB4 HT4 ⊢; obtain ⟨k0,k1,y0,y1⟩:=HR4.out.cells))
    obtain ⟨n1,n2,n3⟩:=ne12 w.heap.size
    have HG:=HR4.out.fin n1 n2 n3 true 0
    refine leave_ok HG.1 HS18.out ⟨rfl,rfl,rfl⟩ ⟨?_,HB4.out.trans (HG.2 _ (Nat.le_succ _) (by omega))⟩
    unfold LineIs
    rw [HLS.out,HO.out]
    refine ⟨tv,by rw [hoc],?_,fun g hg=>by have:=HTV.out g hg;omega⟩
    have ht5:=rowAt_other (rowAt_other HT4.out (fun g hg=>by have:=HTV.out g hg;omega) 0 (x:=.bool true) (b:=w.heap.size+1)) (fun g hg=>by have:=HTV.out g hg;omega) 0 (x:=.int .i64 0) (b:=w.heap.size+2)
    exact ht5.mono (by simp)
theorem line_any (s:List UInt8) (w:World) (hn:s.length≤1099511627776):Calls Tryz.prog 9 #[.string (bstr s)] w fun e w'=>LineIs w.heap.size s w' e∧Below w.heap.size w w':=by
 by_cases h:10∈s
 ·exact line_has_nl s w h
 cases h2:sp.silentB s with
 | true=>exact line_nothing s w h h2
 | false =>
  cases hw:sp.words s with
  | none=>exact line_no_words s w h h2 hw hn
  | some m =>
   match m with
   | []=>exact absurd hw (words_some_ne h2)
   | p :: l =>
    cases hp:p.2 with
    | true=>exact line_quoted s w h h2 p l hp hw hn
    | false =>
     by_cases hq:p.1∈rowsL.map (·.1)
     ·obtain ⟨⟨x,r⟩,hm,hx⟩:=List.mem_map.1 hq
      simp only at hx
      subst hx
      by_cases hc:(l.length:Int)=r.n
      ·exact line_known s w h h2 p l hp r hm hc hw hn
      ·exact line_count s w h h2 p l hp r hm hc hw hn
     ·exact line_unknown s w h h2 p l hp hq hw hn
theorem lineIs_shape (s:List UInt8):∃(o:sp.Op) (y:Bool) (er:Int),∀B W e,LineIs B s W e→∃tv,e=.returned (.tuple #[.agg (opCells o tv),.bool y,.int .i64 er])∧RowAt W.heap.size W tv o.text.length (Lib.byteCells o.text):=by
 unfold LineIs
 cases sp.lineS s with
 | none=>exact ⟨{},false,12,fun B W e h=>⟨.slice none 0 0,h,rowAt_nil _ _⟩⟩
 | some x =>
  cases x with
  | none=>exact ⟨{},false,0,fun B W e h=>⟨.slice none 0 0,h,rowAt_nil _ _⟩⟩
  | some o=>exact ⟨o,true,0,fun B W e ⟨tv,h,hr,_⟩=>⟨tv,h,hr⟩⟩
set_option maxRecDepth 100000 in
set_option maxHeartbeats 4000000 in
theorem scriptLines_any (w:World) (s:List UInt8) (hn:s.length≤1099511627776)
  (haw:∀wx,Below w.heap.size w wx→Calls Tryz.prog 12 #[] wx fun e w'=>e=.returned (.bool true)∧Below wx.heap.size wx w') :
  Calls Tryz.prog 3 #[.string (bstr s)] w fun e w'=>e=.returned (.bool true)∧Below w.heap.size w w':=by
 obtain ⟨o,y,er,hs⟩:=lineIs_shape s
 have HS:=Lib.hid hs;have HAW:=Lib.hid haw
 have HC:=Lib.hid (line_any s w hn)
 have HR:=Lib.hid (fun W=>rline_any s W hn)
 clear hs haw hn
 go_enter Tryz.func3,Tryz.ntmps3
 go_wp2_with (first
  | (have hgd:=HC;clear hgd;go_at_call 9;refine HC.out.mono ?_;rintro e w1 ⟨ht,hb1⟩;obtain ⟨ta,rfl,hr1⟩:=HS.out _ _ _ ht;have HB:=Lib.hid hb1;have HT1:=Lib.hid hr1;have HO1:=Lib.hid (one_op' (o:=o) hr1);clear ht hr1 hb1 HC)
  | (have hgd:=HO1;clear hgd;refine wpl_st28' rfl _ _ rfl w1.heap.size (opCells o ta) rfl rfl _ (heap_alloc_at _ _) rfl rfl HO1.out ?_;intro w2 hW1;obtain ⟨q1,q2⟩:=st_new hW1;have HQ1:=Lib.hid q1;have HB2:=Lib.hid (HB.out.trans (q2.mono HB.out.size));have HT2:=Lib.hid ((HT1.out.keep q2).mono q2.size);clear hW1 q1 q2 HO1)
  | (have hgd:=HR;clear hgd;go_at_call 10;refine (HR.out _).mono ?_;rintro e w3 ⟨ht,hb1⟩;obtain ⟨tb,rfl,hr1⟩:=HS.out _ _ _ ht;have HB3:=Lib.hid (HB2.out.trans (hb1.mono HB2.out.size));have HT3:=Lib.hid ((HT2.out.keep hb1).mono hb1.size);have HQ3:=Lib.hid ((hb1.block _ (lt_of_block HQ1.out)).trans HQ1.out);have HU3:=Lib.hid hr1;have HO2:=Lib.hid (one_op' (o:=o) hr1);clear ht hr1 hb1 HR)
  | (have hgd:=HO2;clear hgd;refine wpl_st28' rfl _ _ rfl w3.heap.size (opCells o tb) rfl rfl _ (heap_alloc_at _ _) rfl rfl HO2.out ?_;intro w4 hW1;obtain ⟨q1,q2⟩:=st_new hW1;have HQ4:=Lib.hid q1;have HQ5:=Lib.hid ((q2.block _ (lt_of_block HQ3.out)).trans HQ3.out);have HB4:=Lib.hid (HB3.out.trans (q2.mono HB3.out.size));have HT4:=Lib.hid ((HT3.out.keep q2).mono q2.size);have HU4:=Lib.hid ((HU3.out.keep q2).mono q2.size);clear hW1 q1 q2 HO2)
  | (have hgd:=HQ5;clear hgd;refine wpList_load_row rfl 28 _ rfl w1.heap.size rfl 28 (opCells o ta) (0,0) _ HQ5.out Tryz.underlying28 rfl size28' ?_;clear HQ5)
  | (have hgd:=HQ4;clear hgd;refine wpList_load_row rfl 28 _ rfl w3.heap.size rfl 28 (opCells o tb) (0,0) _ HQ4.out Tryz.underlying28 rfl size28' ?_;clear HQ4)
  | (have hgd:=HU4;clear hgd;go_at_call 11;refine (sameOp_any _ o ta tb HT4.out HU4.out).mono ?_;rintro e w5 ⟨rfl,hb5⟩;have HB5:=Lib.hid (HB4.out.trans (hb5.mono HB4.out.size));clear hb5 HU4)
  | (have hgd:=HB5;clear hgd;go_at_call 12;refine (HAW.out _ HB5.out).mono ?_;rintro e w6 ⟨rfl,hb6⟩;have HB6:=Lib.hid (HB5.out.trans (hb6.mono HB5.out.size));clear hb6))
 go_ret
 exact ⟨rfl,HB6.out⟩
end Go.Proofs.YtihlneenajlhoaaGreatDoor
set_option linter.unusedSimpArgs false
set_option linter.unusedVariables false
namespace Go.Proofs.YtihlneenajlhoaaGreatDoor
open Go Go.RowKit Go.ChangeShapes Go.WideShapes
section
variable {H:Type} {enc:TypeId×Value→H} {w:World} {held:Bool}
def Bk (N:Nat) (d:DataW H):Prop:=Rows.uptoBulk d≤N
theorem bulk_mem:∀ {l:List (DataW H)} {d:DataW H},d∈l→Rows.uptoBulk d≤Rows.uptoBulkAll l
 | [],_,h=>by cases h
 | a :: l,d,h=>by
  rw [Rows.uptoBulkAll]
  rcases List.mem_cons.1 h with rfl | h
  ·omega
  ·have:=bulk_mem h;omega
theorem bulk_pos (d:DataW H):1≤Rows.uptoBulk d:=by
 unfold Rows.uptoBulk
 split<;>omega
theorem bulk_len:∀(l:List (DataW H)),l.length≤Rows.uptoBulkAll l
 | []=>Nat.zero_le _
 | a :: l=>by
  rw [Rows.uptoBulkAll,List.length_cons]
  have:=bulk_len l
  have:=bulk_pos a
  omega
theorem Bk.elem {N:Nat} {l s:List (DataW H)} (h:Bk N (.slice l s)) {d:DataW H} (hd:d∈l):Bk N d:=by
 unfold Bk at *
 rw [Rows.uptoBulk] at h
 have:=bulk_mem hd
 omega
theorem Bk.len {N:Nat} {l s:List (DataW H)} (h:Bk N (.slice l s)):l.length+s.length≤N:=by
 unfold Bk at h
 rw [Rows.uptoBulk] at h
 have:=bulk_len l
 have:=bulk_len s
 omega
theorem Bk.field {N:Nat} {l:List (DataW H)} (h:Bk N (.agg l)) {i:Nat} {d:DataW H} (hd:l[i]?=some d):Bk N d:=by
 unfold Bk at *
 rw [Rows.uptoBulk] at h
 have:=bulk_mem (List.mem_of_getElem? hd)
 omega
theorem Bk.str {N:Nat} {s:List UInt8} (h:Bk N (.lit (.string s):DataW H)):s.length≤N:=by
 unfold Bk at h
 rw [Rows.uptoBulk] at h
 omega
variable {n N:Nat} {cs:List Value} {y:DataW H×List MemPlace}
theorem one_str (h:DataW.trod enc Tryz.prog w 0 (fun _=>true) held n 9 cs=some y) (hb:Bk N y.1):∃s:ByteArray,cs = [.string s]∧s.size≤N:=by
 obtain ⟨s,rfl,hy,hw⟩:=DataW.trod_string Tryz.underlying9 h
 refine ⟨s,rfl,?_⟩
 rw [hy] at hb
 have:=hb.str
 rw [Array.length_toList] at this
 exact this
structure Opx where
 op:sp.Op
 tv:Value
def Opx.cells (x:Opx):List Value:=[.int .i64 x.op.kind,.int .i64 x.op.node,.int .i64 x.op.at_,.int .i64 x.op.origin,.string (bstr x.op.name),.string (bstr x.op.word),x.tv,.int .i64 x.op.w.1,.int .i64 x.op.w.2,.int .i64 x.op.h.1,.int .i64 x.op.h.2,.int .i64 x.op.bt,.string (bstr x.op.bn),.int .i64 x.op.bw.1,.int .i64 x.op.bw.2,.int .i64 x.op.bh.1,.int .i64 x.op.bh.2,.bool x.op.on]
instance:Inhabited Opx:=⟨⟨{},default⟩⟩
end
end Go.Proofs.YtihlneenajlhoaaGreatDoor
