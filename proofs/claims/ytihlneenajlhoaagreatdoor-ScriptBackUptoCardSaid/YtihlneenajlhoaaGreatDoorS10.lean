/-
 Contract, for a run of one goroutine, of jalousieref27.Line: any text as a line, as the plain law says. Condition: its length fits.
-/
import Derived.Test.YtihlneenajlhoaaGreatDoorS9
import Derived.Test.YtihlneenajlhoaaGreatDoorS6
import Derived.Test.YtihlneenajlhoaaGreatDoorS2
import Derived.Test.YtihlneenajlhoaaGreatDoorS7
import Derived.Test.YtihlneenajlhoaaGreatDoorS4
import Derived.Test.YtihlneenajlhoaaGreatDoorS3
set_option linter.unusedSimpArgs false
set_option linter.unusedVariables false
namespace Go.Proofs.YtihlneenajlhoaaGreatDoor
open Go Go.RowKit
structure LnR (w W0:World) (b g n cap q:Nat) (s:RSt) (o:sp.Op) (tv:Value) (W:World):Prop where
 rd:RdR W0 b g n cap s.1 s.2 W
 res:W.heap[w.heap.size]?=some (.cells (Ap 0) 28 (0,0))
 loc:W.heap[q]?=some (.cells (AQ o tv) 28 (0,0))
 row:BK W.heap.size W tv o.text.length (Lib.byteCells o.text)
 bel:Below w.heap.size w W
 own:∀x,tv.ownBlock=some x→w.heap.size<x
theorem LnR.start {w W0 W:World} {b g n cap:Nat} {s:RSt} {o:sp.Op} {tv:Value} (hm:W0.heap[w.heap.size]?=some (.cells (Ap 0) 28 (0,0))) (hb:w.heap.size<b) (hB:Below w.heap.size w W0) (hr:BK W.heap.size W tv o.text.length (Lib.byteCells o.text)) (h:RdR W0 b g n cap s.1 s.2 W) (ho:∀x,tv.ownBlock=some x→W0.heap.size≤x) :
  ∀W5,W5=(W.alloc (.cells (Ap 0) 28)).setRow W.heap.size (AQ o tv)→LnR w W0 b g n cap W.heap.size s o tv W5:=by
 rintro W5 rfl
 have hlt:=lt_of_block hm
 have hmW:W.heap[w.heap.size]?=some (.cells (Ap 0) 28 (0,0)):=(h.fr.block _ hlt (by omega) (by simp)).trans hm
 have hbW:=lt_of_block h.blk
 have hs:=h.fr.size
 have hg:=h.glt
 have hbel:Below w.heap.size w W:=hB.trans (h.fr.below (by omega) (by simp) (by omega))
 have hB2:Below W.heap.size W ((W.alloc (.cells (Ap 0) 28)).setRow W.heap.size (AQ o tv)):=below_setRow (AZ W _) (Nat.le_refl _) _
 refine ⟨(h.on (AZ W _)).row (by omega) (by omega) hs _,(hB2.block _ (by omega)).trans hmW,Ee (AX _ _) _,(hr.keep hB2).mono hB2.size,hbel.trans (hB2.mono (by omega)),fun x hx=>by have:=ho x hx;omega⟩
theorem UZ {o:sp.Op} {tv:Value} {B n:Nat} {W:World} {cs:List Value} (h:BK B W tv n cs):(AQ o tv).all (·.oneCell')=true:=by
 obtain ⟨a,cap,rfl⟩:=h.slice
 simp [AQ,Value.oneCell']
theorem rM {w:World} {base:Nat} {e:TypeId} {k:Nat} {v:Value} {xs:List Value} (h:w.ownsRow base e k v 0 xs):∃a cp,v=.slice a 0 cp:=by
 rcases h.2 with h | ⟨g,cap,cur,h,_⟩
 ·exact ⟨_,_,h.1⟩
 ·exact ⟨_,_,h⟩
theorem row_of {w:World} {base:Nat} {v:Value} {n:Nat} {xs:List Value} (h:w.ownsRow base 110 2 v n xs) (hn:0<n):∃g cap cur,v=.slice (some ⟨g,0,none⟩) n cap∧base≤g∧w.heap[g]?=some (.cells cur 110 (0,0))∧n≤cap∧cur.toList.take (n*2)=xs:=by
 rcases h.2 with h | ⟨g,cap,cur,h1,h2,h3,h4,_,_,h5⟩
 ·omega
 ·exact ⟨g,cap,cur,h1,h2,h3,h4,h5⟩
theorem rO {s:List UInt8} {l:List (List UInt8×Bool)} (h:10∉s) (h2:sp.Dx s=false) (hw:sp.words s=some l):sp.lineS s=(YM l).map some:=by
 rw [KQ h h2,hw]
 match l with
 | []=>rfl
 | (w,false) :: a=>rfl
 | (w,true) :: a=>rfl
theorem rP {res:Option sp.Op} {o:sp.Op} {r:List (List UInt8×Bool)} (h:Aq res (o,(r,true))):res=none:=by
 cases res with
 | none=>rfl
 | some x=>cases h
theorem rQ {res:Option sp.Op} {o:sp.Op} {x:List UInt8×Bool} {r:List (List UInt8×Bool)} {b:Bool} (h:Aq res (o,(x :: r,b))):res=none:=by
 cases res with
 | none=>rfl
 | some x=>cases h
theorem rU {res:Option sp.Op} {o:sp.Op} (h:Aq res (o,([],false))):res=some o:=by
 cases res with
 | none =>
  rcases h with h | h
  ·cases h
  ·exact absurd rfl h
 | some x=>cases h;rfl
section
variable {ops:Array Oper} {rest:List Oper} {op:Oper} {a:Act} {Q:Exit→Act→World→Prop} {W:World}
theorem Ua (hgd:op.guard=none) (x y:Operand) (hop:op.op=.store 28 x y) (g:Nat) (cells:Array Value) (hx:a.eval x=.pointer (some ⟨g,0,none⟩)) (hy:a.eval y=.agg cells) (old:Array Value) (hg:W.heap[g]?=some (.cells old 28 (0,0))) (ho:old.size=18) (hc:cells.size=18) (h1:cells.all (·.oneCell')=true)
  (h:∀W',W'=W.setRow g cells→wpList Tryz.prog ops Q rest (a.put op.dst undef) W'):wpList Tryz.prog ops Q (op :: rest) a W :=
 wpList_store_row hgd 28 x y hop g cells hx hy 28 old hg (by rw [hc];exact BU) (by rw [ho,hc]) h1 (h _ rfl)
end
theorem rV {B:Nat} {s:List UInt8} {o:sp.Op} {tv:Value} {W:World} (h:sp.lineS s=some (some o)) (hr:BK W.heap.size W tv o.text.length (Lib.byteCells o.text)) (ho:∀x,tv.ownBlock=some x→B≤x):Es B s W (.returned (.tuple #[.agg (AQ o tv),.bool true,.int .i64 0])):=by
 unfold Es
 rw [h]
 exact ⟨tv,rfl,hr,ho⟩
theorem rW {s:List UInt8} (h:10∉s) (h2:sp.Dx s=false) (hw:sp.words s=none):sp.lineS s=none:=by rw [KQ h h2,hw]
set_option maxRecDepth 100000 in
set_option maxHeartbeats 8000000 in
theorem rX (s:List UInt8) (w:World) (hn:s.length≤1099511627776):Calls Tryz.prog 10 #[.string (AA s)] w fun e w'=>Es w.heap.size s w' e∧Below w.heap.size w w':=by
 have HN:=Lib.hid hn
 have hsz:=Aa s
 have HM:Hid ((w.alloc (.cells (Ap 0) 28)).heap[w.heap.size]?=some (.cells (Ap 0) 28 (0,0))):=Lib.hid (AX _ _)
 have HB0:Hid (Below w.heap.size w (w.alloc (.cells (Ap 0) 28))):=Lib.hid (AZ w _)
 clear hn
 go_enter Tryz.func10,Tryz.ntmps10
 go_wp2
 go_loopw [5,13] (fun j i wr=>∃p r:List UInt8,s=p++r∧(10:UInt8)∉p∧i=.int .i64 (p.length:Nat)∧wr=w.alloc (.cells (Ap 0) 28)) (fun _ i _=>s.length-(intOf i).toNat)
 case atStart=>exact ⟨[],s,rfl,by simp,rfl,rfl⟩
 case round =>
  obtain ⟨p,r,hs,hno,rfl,rfl⟩:=hrel
  have hl1:=congrArg List.length hs
  rw [List.length_append] at hl1
  have hp1:(p.length:Int)≤1099511627776:=by have:=HN.out;omega
  have HS:=Lib.hid hs
  have HNO:=Lib.hid hno
  clear hs hno
  match r with
  | [] =>
   have t0:decide ((p.length:Int)<(s.length:Int))=false:=by simp at hl1;simp;omega
   have hnlt:¬p.length<s.length:=by simp at hl1;omega
   have H10:Hid ((10:UInt8)∉s):=Lib.hid (by rw [HS.out,List.append_nil];exact HNO.out)
   clear hl1
   go_wp2
   have HW:=Lib.hid (fun W=>rY s W HN.out)
   go_loopw [6,24] (fun j i wr=>∃p r:List UInt8,s=p++r∧(∀x∈p,x=32)∧i=.int .i64 (p.length:Nat)∧wr=w.alloc (.cells (Ap 0) 28)) (fun _ i _=>s.length-(intOf i).toNat)
   case atStart=>exact ⟨[],s,rfl,by simp,rfl,rfl⟩
   case round =>
    clear t0 hnlt hp1 HS HNO
    obtain ⟨p2,r3,hs,hno,rfl,rfl⟩:=hrel
    have hl1:=congrArg List.length hs
    rw [List.length_append] at hl1
    have hp1:(p2.length:Int)≤1099511627776:=by have:=HN.out;omega
    have HS:=Lib.hid hs
    have HNO:=Lib.hid hno
    clear hs hno
    match r3 with
    | [] =>
     have t0:decide ((p2.length:Int)<(s.length:Int))=false:=by simp at hl1;simp;omega
     have hnlt:¬p2.length<s.length:=by simp at hl1;omega
     have HP:Hid (s=p2):=Lib.hid (by rw [HS.out,List.append_nil])
     have HE:Hid (sp.words s=some []):=Lib.hid (by have:=rZ HNO.out [];rw [List.append_nil,sp.MC] at this;rw [HP.out];exact this)
     have HF:=Lib.hid (fun W=>Ub (B:=w.heap.size) (Uc H10.out (by rw [HP.out];exact sD HNO.out)) W)
     clear hl1
     go_wp2_with (first
      | (have hgd:=HW;clear hgd;go_at_call 29;refine (HW.out _).mono ?_;rintro e w2 ⟨he,hb2⟩;unfold IQ at he;rw [HE.out] at he;obtain ⟨v,rfl,hv⟩:=he;have hv2:=rM hv;obtain ⟨a,cp,rfl⟩:=hv2;have HB2:=Lib.hid (HB0.out.trans (hb2.mono HB0.out.size));have HM2:=Lib.hid ((hb2.block _ (lt_of_block HM.out)).trans HM.out);clear hv hb2 HW)
      | (refine wpList_store_row rfl 28 _ _ rfl w.heap.size (Ap 0) rfl rfl 28 _ HM2.out BU rfl IR ?_))
     exact KR rfl rfl rfl rfl (Ee HM2.out _) rfl ⟨HF.out _,below_setRow HB2.out (Nat.le_refl _) _⟩
    | c :: r4 =>
     have t0:decide ((p2.length:Int)<(s.length:Int))=true:=by simp at hl1;simp;omega
     have hlt:p2.length<s.length:=by simp at hl1;omega
     have ei:=I8 HS.out
     by_cases e35:c=35
     ·subst e35
      have HF:=Lib.hid (fun W=>Ub (B:=w.heap.size) (Uc H10.out (by rw [HS.out];exact sG HNO.out r4)) W)
      clear hl1
      go_wp2_with (refine wpList_store_row rfl 28 _ _ rfl w.heap.size (Ap 0) rfl rfl 28 _ HM.out BU rfl IR ?_)
      exact KR rfl rfl rfl rfl (Ee HM.out _) rfl ⟨HF.out _,below_setRow HB0.out (Nat.le_refl _) _⟩
     ·have t35:((c.toNat:Int)==35)=false:=Bo c 35 e35
      by_cases e32:c=32
      ·subst e32
       go_wp2
       refine ⟨⟨p2++[32],r4,by rw [HS.out,List.append_assoc];rfl,fun x hx => ?_,by simp,trivial⟩,?_⟩
       ·rcases List.mem_append.1 hx with h | h
        ·exact HNO.out x h
        ·simpa using h
       ·simp [intOf]
        omega
      ·have t32:((c.toNat:Int)==32)=false:=Bo c 32 e32
       have HSI:Hid (sp.Dx s=false):=Lib.hid (by rw [HS.out];exact sH HNO.out e32 e35 r4)
       clear hl1
       cases hw:sp.words s with
       | none =>
        have HE:=Lib.hid hw
        have HF:=Lib.hid (fun W=>IU (B:=w.heap.size) (rW H10.out HSI.out hw) W)
        clear hw
        go_wp2_with (first
         | (have hgd:=HW;clear hgd;go_at_call 29;refine (HW.out _).mono ?_;rintro e w2 ⟨he,hb2⟩;unfold IQ at he;rw [HE.out] at he;subst he;have HB2:=Lib.hid (HB0.out.trans (hb2.mono HB0.out.size));have HM2:=Lib.hid ((hb2.block _ (lt_of_block HM.out)).trans HM.out);clear hb2 HW)
         | (refine wpList_store_row rfl 28 _ _ rfl w.heap.size (Ap 0) rfl rfl 28 _ HM2.out BU rfl IR ?_))
        exact KR rfl rfl rfl rfl (Ee HM2.out _) rfl ⟨HF.out _,below_setRow HB2.out (Nat.le_refl _) _⟩
       | some l =>
        have HE:=Lib.hid hw
        have h0:l≠[]:=fun e=>YN HSI.out (by rw [hw,e])
        have HLL:=Lib.hid (QZ _ s (Nat.le_refl _) l hw)
        have hlen:0<l.length:=List.length_pos_iff.2 h0
        have hlen2:¬l.length=0:=by omega
        have hlen3:((l.length:Int)==0)=false:=by simp;omega
        have hO:=sJ l h0
        have HLR:=Lib.hid (rO H10.out HSI.out hw)
        obtain ⟨⟨o,r5,bd⟩,hx⟩:∃x,opR (l,false)=x:=⟨_,rfl⟩
        rw [hx] at hO
        have HO:=Lib.hid hO
        have HOP:Hid (∀(W0 W:World) (b g cap:Nat) (h:RdR W0 b g l.length cap l false W),Calls Tryz.prog 30 #[.pointer (some ⟨b,0,none⟩)] W fun e w'=>D6 W0 b g l.length cap o (r5,bd) e w'):=Lib.hid (fun W0 W b g cap h=>by
         have:=sO W0 W b g l.length cap (l,false) h
         rw [hx] at this
         exact this)
        clear hw hO hx
        cases bd with
        | true =>
         have HF:=Lib.hid (fun W=>IU (B:=w.heap.size) (s:=s) (by rw [HLR.out,rP HO.out];rfl) W)
         go_wp2_with (first
          | (have hgd:=HW;clear hgd;go_at_call 29;refine (HW.out _).mono ?_;rintro e w2 ⟨he,hb2⟩;unfold IQ at he;rw [HE.out] at he;obtain ⟨v,rfl,hv⟩:=he;obtain ⟨g,cap,cur,rfl,hg1,hg2,hg3,hg4⟩:=row_of hv hlen;have HB2:=Lib.hid (HB0.out.trans (hb2.mono HB0.out.size));have HM2:=Lib.hid ((hb2.block _ (lt_of_block HM.out)).trans HM.out);have HRD:=Lib.hid (Ud (cap:=cap) hg2 hg4 (Nat.le_trans HLL.out.2 HN.out) (fun p hp=>Nat.le_trans (HLL.out.1 p hp) HN.out));clear hv hb2 HW hg1 hg2 hg3 hg4)
          | (have hgd:=HRD;clear hgd;go_at_call 30;refine (HOP.out _ _ _ _ _ HRD.out).mono ?_;rintro e w4 ⟨tv,rfl,hr4,hd4,ho4⟩;have I9:=Lib.hid (UZ (o:=o) hr4);have HL:=Lib.hid (LnR.start (Dt _ _ _ HM2.out) (lt_of_block HM2.out) (HB2.out.alloc HB2.out.size _) hr4 hd4 ho4);clear hr4 hd4 ho4 HRD)
          | (have hgd:=HL;clear hgd;refine Ua rfl _ _ rfl w4.heap.size (AQ o tv) rfl rfl _ (AX _ _) rfl rfl I9.out ?_;intro W5 hW5;have H5:=Lib.hid (HL.out W5 hW5);have c2:=H5.out.rd.c2;have c1:=H5.out.rd.c1 rfl;clear hW5 HL)
          | (have hgd:=H5;clear hgd;refine wpList_store_row rfl 28 _ _ rfl w.heap.size (Ap 0) rfl rfl 28 _ H5.out.res BU rfl IR ?_))
         exact KR rfl rfl rfl rfl (Ee H5.out.res _) rfl ⟨HF.out _,below_setRow H5.out.bel (Nat.le_refl _) _⟩
        | false =>
        match r5 with
        | x :: r6 =>
         have HF:=Lib.hid (fun W=>IU (B:=w.heap.size) (s:=s) (by rw [HLR.out,rQ HO.out];rfl) W)
         have hk1:(((l.length-(x :: r6).length:Nat):Int)==(l.length:Int))=false:=by simp;omega
         have hk2:¬((l.length-(x :: r6).length:Nat):Int)=(l.length:Int):=by simp;omega
         have hk3:¬(l.length-(x :: r6).length:Nat)=l.length:=by simp;omega
         generalize l.length-(x :: r6).length=K at hk1 hk2 hk3
         go_wp2_with (first
          | (have hgd:=HW;clear hgd;go_at_call 29;refine (HW.out _).mono ?_;rintro e w2 ⟨he,hb2⟩;unfold IQ at he;rw [HE.out] at he;obtain ⟨v,rfl,hv⟩:=he;obtain ⟨g,cap,cur,rfl,hg1,hg2,hg3,hg4⟩:=row_of hv hlen;have HB2:=Lib.hid (HB0.out.trans (hb2.mono HB0.out.size));have HM2:=Lib.hid ((hb2.block _ (lt_of_block HM.out)).trans HM.out);have HRD:=Lib.hid (Ud (cap:=cap) hg2 hg4 (Nat.le_trans HLL.out.2 HN.out) (fun p hp=>Nat.le_trans (HLL.out.1 p hp) HN.out));clear hv hb2 HW hg1 hg2 hg3 hg4)
          | (have hgd:=HRD;clear hgd;go_at_call 30;refine (HOP.out _ _ _ _ _ HRD.out).mono ?_;rintro e w4 ⟨tv,rfl,hr4,hd4,ho4⟩;have I9:=Lib.hid (UZ (o:=o) hr4);have HL:=Lib.hid (LnR.start (Dt _ _ _ HM2.out) (lt_of_block HM2.out) (HB2.out.alloc HB2.out.size _) hr4 hd4 ho4);clear hr4 hd4 ho4 HRD)
          | (have hgd:=HL;clear hgd;refine Ua rfl _ _ rfl w4.heap.size (AQ o tv) rfl rfl _ (AX _ _) rfl rfl I9.out ?_;intro W5 hW5;have H5:=Lib.hid (HL.out W5 hW5);have c2:=H5.out.rd.c2;have c1:=H5.out.rd.c1 rfl;clear hW5 HL)
          | (have hgd:=H5;clear hgd;refine wpList_store_row rfl 28 _ _ rfl w.heap.size (Ap 0) rfl rfl 28 _ H5.out.res BU rfl IR ?_))
         exact KR rfl rfl rfl rfl (Ee H5.out.res _) rfl ⟨HF.out _,below_setRow H5.out.bel (Nat.le_refl _) _⟩
        | [] =>
         have HF:Hid (sp.lineS s=some (some o)):=Lib.hid (by rw [HLR.out,rU HO.out];rfl)
         go_wp2_with (first
          | (have hgd:=HW;clear hgd;go_at_call 29;refine (HW.out _).mono ?_;rintro e w2 ⟨he,hb2⟩;unfold IQ at he;rw [HE.out] at he;obtain ⟨v,rfl,hv⟩:=he;obtain ⟨g,cap,cur,rfl,hg1,hg2,hg3,hg4⟩:=row_of hv hlen;have HB2:=Lib.hid (HB0.out.trans (hb2.mono HB0.out.size));have HM2:=Lib.hid ((hb2.block _ (lt_of_block HM.out)).trans HM.out);have HRD:=Lib.hid (Ud (cap:=cap) hg2 hg4 (Nat.le_trans HLL.out.2 HN.out) (fun p hp=>Nat.le_trans (HLL.out.1 p hp) HN.out));clear hv hb2 HW hg1 hg2 hg3 hg4)
          | (have hgd:=HRD;clear hgd;go_at_call 30;refine (HOP.out _ _ _ _ _ HRD.out).mono ?_;rintro e w4 ⟨tv,rfl,hr4,hd4,ho4⟩;have I9:=Lib.hid (UZ (o:=o) hr4);have HL:=Lib.hid (LnR.start (Dt _ _ _ HM2.out) (lt_of_block HM2.out) (HB2.out.alloc HB2.out.size _) hr4 hd4 ho4);clear hr4 hd4 ho4 HRD)
          | (have hgd:=HL;clear hgd;refine Ua rfl _ _ rfl w4.heap.size (AQ o tv) rfl rfl _ (AX _ _) rfl rfl I9.out ?_;intro W5 hW5;have H5:=Lib.hid (HL.out W5 hW5);have c2:=H5.out.rd.c2;have c1:=H5.out.rd.c1 (k:=(l.length:Int)) rfl;clear hW5 HL)
          | (have hgd:=H5;clear hgd;refine wpList_load_row rfl 28 _ rfl w4.heap.size rfl 28 (AQ o tv) (0,0) _ H5.out.loc Tryz.underlying28 rfl BU ?_)
          | (have hgd:=H5;clear hgd;refine wpList_store_row rfl 28 _ _ rfl w.heap.size (AQ o tv) rfl rfl 28 _ H5.out.res BU rfl I9.out ?_))
         refine KR rfl rfl rfl rfl (Ee H5.out.res _) rfl ⟨rV HF.out ?_ (fun x hx=>Nat.le_of_lt (H5.out.own x hx)),below_setRow H5.out.bel (Nat.le_refl _) _⟩
         have:=Ue H5.out.row (b:=w.heap.size) (fun x hx=>Nat.ne_of_gt (H5.out.own x hx)) (AQ o tv)
         simpa [World.setRow] using this
  | c :: r2 =>
   have t0:decide ((p.length:Int)<(s.length:Int))=true:=by simp at hl1;simp;omega
   have hlt:p.length<s.length:=by simp at hl1;omega
   have ei:=I8 HS.out
   by_cases e10:c=10
   ·subst e10
    have HF:=Lib.hid (fun W=>IU (B:=w.heap.size) (Qa (s:=s) (by rw [HS.out];simp)) W)
    clear hl1
    go_wp2_with (refine wpList_store_row rfl 28 _ _ rfl w.heap.size (Ap 0) rfl rfl 28 _ HM.out BU rfl IR ?_)
    exact KR rfl rfl rfl rfl (Ee HM.out _) rfl ⟨HF.out _,below_setRow HB0.out (Nat.le_refl _) _⟩
   ·have t10:((c.toNat:Int)==10)=false:=Bo c 10 e10
    go_wp2
    refine ⟨⟨p++[c],r2,by rw [HS.out,List.append_assoc];rfl,by simp [HNO.out,Ne.symm e10],by simp,trivial⟩,?_⟩
    simp [intOf]
    omega
theorem YO {B:Nat} {w:World} {o:sp.Op} {tv:Value} (h:CQ B w o tv):o.ok:=⟨h.fw.1,h.fw.2,h.fh.1,h.fh.2,h.bw.1,h.bw.2,h.bh.1,h.bh.2⟩
set_option maxRecDepth 100000 in
set_option maxHeartbeats 4000000 in
theorem sQ (w:World) (o:sp.Op) (tv:Value) (h:CQ w.heap.size w o tv) (hp:Pow w) (s:List UInt8) (hs:sp.AU o=some s) :
  Calls Tryz.prog 21 #[.agg (AQ o tv)] w fun e w'=>∃t2,e=.returned (.agg (AQ (sp.AV o) t2))∧BK w'.heap.size w' t2 (sp.AV o).text.length (Lib.byteCells (sp.AV o).text)∧Below w.heap.size w w':=by
 have HL:=Lib.hid (sp.YP (YO h) hs).1
 have HO:=Lib.hid h;have HP:=Lib.hid hp;have HS:=Lib.hid hs
 clear h hp hs
 go_enter Tryz.func21,Tryz.ntmps21
 go_wp2_with (first
  | (have hgd:=HO;clear hgd;refine Uf rfl _ rfl (AQ o tv) rfl ?_;intro w1 p1 p2;have A1:=Lib.hid p1;have B1:=Lib.hid p2;have HO1:=Lib.hid ((HO.out.keep p2).wider p2.size);have HP1:=Lib.hid (HP.out.on p2);have A2:=Lib.hid (Dt w1 (.cells (Ap 0) 28) _ p1);have R2:=Lib.hid (AX w1 (.cells (Ap 0) 28));have B2:=Lib.hid (p2.alloc p2.size (.cells (Ap 0) 28));have N2:=Lib.hid (AZ w1 (.cells (Ap 0) 28));have BW:=Lib.hid p2.size;clear p1 p2 HO)
  | (have hgd:=A2;clear hgd;refine wpList_load_row rfl 28 _ rfl w.heap.size rfl 28 (AQ o tv) (0,0) _ A2.out Tryz.underlying28 rfl BU ?_;clear A2)
  | (have hgd:=HO1;clear hgd;go_at_call 43;refine (sS ((HO1.out.keep N2.out).wider N2.out.size) (HP1.out.on N2.out)).mono ?_;rintro e w3 ⟨s',ok,rfl,hone,hsl,hb3⟩;have hok:ok=true:=(by cases ok with | true=>rfl | false=>exact absurd (hone.2 rfl) (by rw [HS.out];simp));subst hok;have hse:s'=s:=Option.some.inj ((hone.1 rfl).symm.trans HS.out);subst hse;have B3:=Lib.hid (B2.out.trans (hb3.mono B2.out.size));have R3:=Lib.hid ((hb3.block _ (lt_of_block R2.out)).trans R2.out);have HSL:=Lib.hid hsl;clear hone hsl hb3 HO1 A1)
  | (have hgd:=HSL;clear hgd;go_at_call 10;refine (rX s' w3 (Nat.le_trans HSL.out (by decide))).mono ?_;rintro e w4 ⟨he,hb4⟩;unfold Es at he;rw [HL.out] at he;obtain ⟨t2,rfl,hr4,ho4⟩:=he;have HW4:=Lib.hid ho4;have HLT:=Lib.hid (lt_of_block R3.out);have B4:=Lib.hid (B3.out.trans (hb4.mono B3.out.size));have R4:=Lib.hid ((hb4.block _ (lt_of_block R3.out)).trans R3.out);have T4:=Lib.hid hr4;have O4:=Lib.hid (Qb (o:=sp.AV o) hr4);clear hr4 ho4 hb4 HSL)
  | (have hgd:=T4;clear hgd;refine MJ rfl _ _ rfl w4.heap.size (AQ (sp.AV o) t2) rfl rfl _ (AX _ _) rfl rfl O4.out ?_;intro w5 hW1;obtain ⟨q1,q2⟩:=MK hW1;have Q5:=Lib.hid q1;have B5:=Lib.hid (B4.out.trans (q2.mono B4.out.size));have R5:=Lib.hid ((q2.block _ (lt_of_block R4.out)).trans R4.out);have T5:=Lib.hid ((T4.out.keep q2).mono q2.size);clear hW1 q1 q2 T4)
  | (have hgd:=Q5;clear hgd;refine wpList_load_row rfl 28 _ rfl w4.heap.size rfl 28 (AQ (sp.AV o) t2) (0,0) _ Q5.out Tryz.underlying28 rfl BU ?_;clear Q5)
  | (have hgd:=R5;clear hgd;refine wpList_store_row rfl 28 _ _ rfl w1.heap.size (AQ (sp.AV o) t2) rfl rfl 28 _ R5.out BU rfl O4.out ?_))
 refine EU rfl rfl (Ee R5.out _) rfl ⟨t2,rfl,?_,below_setRow B5.out BW.out _⟩
 have:=Ue T5.out (b:=w1.heap.size) (fun x hx=>Nat.ne_of_gt (Nat.lt_of_lt_of_le HLT.out (HW4.out x hx))) (AQ (sp.AV o) t2)
 simpa [World.setRow] using this
set_option maxRecDepth 100000 in
set_option maxHeartbeats 4000000 in
theorem sU (w:World) (v:Value) (b:List UInt8) (h:BK w.heap.size w v b.length (Lib.byteCells b)) (hbig:65536<b.length):Calls Tryz.prog 13 #[v] w fun e w'=>e=.returned (.tuple #[.slice none 0 0,.int .i64 0,.int .i64 2])∧Below w.heap.size w w':=by
 obtain ⟨av,cv,rfl⟩:=h.slice
 have t6:decide ((65536:Int)<(b.length:Int))=true:=by simp;omega
 have t6n:(65536:Int)<(b.length:Int):=by omega
 have t6g:decide ((b.length:Int)>65536)=true:=by simp;omega
 clear hbig h
 go_enter Tryz.func13,Tryz.ntmps13
 go_wp2
 go_ret3
 exact ⟨rfl,Below.refl _ _⟩
theorem sV {B B':Nat} {w w':World} {o:sp.Op} {tv t2:Value} (h:CQ B w o tv) (hr:BK B' w' t2 (sp.AV o).text.length (Lib.byteCells (sp.AV o).text)):CQ B' w' (sp.AV o) t2:=by
 have z:I64 (0:Int):=⟨by decide,by decide⟩
 have y:I64 (0:Int)∧I64 (0:Int):=⟨z,z⟩
 have e:([]:List UInt8).length≤1048576:=Nat.zero_le _
 obtain ⟨a1,a2,a3,a4,a5,a6,_,a7,a8,a9,b1,b2⟩:=h
 by_cases k0:o.kind=1
 ·rw [show sp.AV o={ kind:=1,origin:=o.origin,text:=o.text } from by unfold sp.AV;rw [if_pos k0]] at hr ⊢
  exact ⟨z,z,a3,e,e,a6,hr,y,y,e,y,y⟩
 by_cases k1:o.kind=2
 ·rw [show sp.AV o={ kind:=2,w:=o.w,h:=o.h } from by unfold sp.AV;rw [if_neg k0,if_pos k1]] at hr ⊢
  exact ⟨z,z,z,e,e,e,hr,a7,a8,e,y,y⟩
 by_cases k2:o.kind=3
 ·rw [show sp.AV o={ kind:=3,w:=o.w } from by unfold sp.AV;rw [if_neg k0,if_neg k1,if_pos k2]] at hr ⊢
  exact ⟨z,z,z,e,e,e,hr,a7,y,e,y,y⟩
 by_cases k3:o.kind=13
 ·rw [show sp.AV o={ kind:=13,w:=o.w } from by unfold sp.AV;rw [if_neg k0,if_neg k1,if_neg k2,if_pos k3]] at hr ⊢
  exact ⟨z,z,z,e,e,e,hr,a7,y,e,y,y⟩
 by_cases k4:o.kind=14
 ·rw [show sp.AV o={ kind:=14,on:=o.on } from by unfold sp.AV;rw [if_neg k0,if_neg k1,if_neg k2,if_neg k3,if_pos k4]] at hr ⊢
  exact ⟨z,z,z,e,e,e,hr,y,y,e,y,y⟩
 by_cases k5:o.kind=4
 ·rw [show sp.AV o={ kind:=4,name:=o.name,word:=o.word } from by unfold sp.AV;rw [if_neg k0,if_neg k1,if_neg k2,if_neg k3,if_neg k4,if_pos k5]] at hr ⊢
  exact ⟨z,z,z,a4,a5,e,hr,y,y,e,y,y⟩
 by_cases k6:o.kind=5
 ·rw [show sp.AV o={ kind:=5,node:=o.node,at_:=o.at_,name:=o.name } from by unfold sp.AV;rw [if_neg k0,if_neg k1,if_neg k2,if_neg k3,if_neg k4,if_neg k5,if_pos k6]] at hr ⊢
  exact ⟨a1,a2,z,a4,e,e,hr,y,y,e,y,y⟩
 by_cases k7:o.kind=6
 ·rw [show sp.AV o={ kind:=6,node:=o.node } from by unfold sp.AV;rw [if_neg k0,if_neg k1,if_neg k2,if_neg k3,if_neg k4,if_neg k5,if_neg k6,if_pos k7]] at hr ⊢
  exact ⟨a1,z,z,e,e,e,hr,y,y,e,y,y⟩
 by_cases k8:o.kind=7
 ·rw [show sp.AV o={ kind:=7,node:=o.node,name:=o.name,word:=o.word } from by unfold sp.AV;rw [if_neg k0,if_neg k1,if_neg k2,if_neg k3,if_neg k4,if_neg k5,if_neg k6,if_neg k7,if_pos k8]] at hr ⊢
  exact ⟨a1,z,z,a4,a5,e,hr,y,y,e,y,y⟩
 by_cases k9:o.kind=8
 ·rw [show sp.AV o={ kind:=8,node:=o.node,name:=o.name } from by unfold sp.AV;rw [if_neg k0,if_neg k1,if_neg k2,if_neg k3,if_neg k4,if_neg k5,if_neg k6,if_neg k7,if_neg k8,if_pos k9]] at hr ⊢
  exact ⟨a1,z,z,a4,e,e,hr,y,y,e,y,y⟩
 by_cases k10:o.kind=9
 ·rw [show sp.AV o={ kind:=9,node:=o.node,bt:=o.bt,bn:=o.bn,bw:=o.bw,bh:=o.bh } from by unfold sp.AV;rw [if_neg k0,if_neg k1,if_neg k2,if_neg k3,if_neg k4,if_neg k5,if_neg k6,if_neg k7,if_neg k8,if_neg k9,if_pos k10]] at hr ⊢
  exact ⟨a1,z,z,e,e,e,hr,y,y,a9,b1,b2⟩
 by_cases k11:o.kind=10
 ·rw [show sp.AV o={ kind:=10,node:=o.node,name:=o.name } from by unfold sp.AV;rw [if_neg k0,if_neg k1,if_neg k2,if_neg k3,if_neg k4,if_neg k5,if_neg k6,if_neg k7,if_neg k8,if_neg k9,if_neg k10,if_pos k11]] at hr ⊢
  exact ⟨a1,z,z,a4,e,e,hr,y,y,e,y,y⟩
 by_cases k12:o.kind=11
 ·rw [show sp.AV o={ kind:=11,node:=o.node,name:=o.name } from by unfold sp.AV;rw [if_neg k0,if_neg k1,if_neg k2,if_neg k3,if_neg k4,if_neg k5,if_neg k6,if_neg k7,if_neg k8,if_neg k9,if_neg k10,if_neg k11,if_pos k12]] at hr ⊢
  exact ⟨a1,z,z,a4,e,e,hr,y,y,e,y,y⟩
 by_cases k13:o.kind=12
 ·rw [show sp.AV o={ kind:=12,node:=o.node } from by unfold sp.AV;rw [if_neg k0,if_neg k1,if_neg k2,if_neg k3,if_neg k4,if_neg k5,if_neg k6,if_neg k7,if_neg k8,if_neg k9,if_neg k10,if_neg k11,if_neg k12,if_pos k13]] at hr ⊢
  exact ⟨a1,z,z,e,e,e,hr,y,y,e,y,y⟩
 rw [show sp.AV o={ kind:=o.kind } from by unfold sp.AV;rw [if_neg k0,if_neg k1,if_neg k2,if_neg k3,if_neg k4,if_neg k5,if_neg k6,if_neg k7,if_neg k8,if_neg k9,if_neg k10,if_neg k11,if_neg k12,if_neg k13]] at hr ⊢
 exact ⟨z,z,z,e,e,e,hr,y,y,e,y,y⟩
theorem YQ:∀ {l:List sp.Op} {s:List UInt8},sp.textS l=some s→∀o∈l,∃a,sp.AU o=some a
 | [],_,_,o,ho=>by cases ho
 | p :: l,s,h,o,ho=>by
  unfold sp.textS at h
  obtain ⟨a,ha,h⟩:=Option.bind_eq_some_iff.1 h
  obtain ⟨t,ht,_⟩:=Option.map_eq_some_iff.1 h
  rcases List.mem_cons.1 ho with rfl | ho
  ·exact ⟨a,ha⟩
  ·exact YQ ht o ho
theorem YR {s:World} {g o:Nat} {cs:Array Value} (h:∀j u,cs.toList[j]?=some u→s.cell? ⟨g,o+j,none⟩=some u) (hc:cs.size=18) {ev:Operand→Value} {op:Oper} {z:Operand} (ho:op.op=.load 28 z) (hx:ev z=.pointer (some ⟨g,o,none⟩)):(execOp ev op).run Tryz.prog s=Result.ok (Next.value (.agg cs)) s:=by
 have e:=YS (P:=Tryz.prog) s g o 28 cs _ h Tryz.underlying28 rfl (by rw [hc];exact BU)
 unfold execOp
 simp only [ho,hx,Instr.loadAt,Instr.sureAddr,Sem.run_bind,Sem.run_pure,Result.andThen_ok,e]
def KT (s:World) (g o:Nat) (cs:Array Value):Prop:=∀j u,cs.toList[j]?=some u→s.cell? ⟨g,o+j,none⟩=some u
theorem KT.on {B:Nat} {s s':World} {g o:Nat} {cs:Array Value} (h:KT s g o cs) (hg:g<B) (hb:Below B s s'):KT s' g o cs:=fun j u hu=>(Ug (hb.block g hg) _).trans (h j u hu)
theorem IV.el {w wr:World} {a:Option Addr} {c:Nat} {L:List (sp.Op×Value)} (h:IV w.heap.size w (.slice a L.length c) L) (hb:Below w.heap.size w wr) {k:Nat} (hk:k<L.length):∃b off,a=some ⟨b,off,none⟩∧b<w.heap.size∧KT wr b (off+k*18) (AQ L[k].1 L[k].2)∧CQ w.heap.size wr L[k].1 L[k].2:=by
 obtain ⟨bx,off,rfl,hbx,hrg⟩:=h.1.place (by omega)
 refine ⟨bx,off,rfl,hbx,fun j u hj => ?_,(h.2.1 _ (List.getElem_mem hk)).keep hb⟩
 have OZ:j<18:=(List.getElem?_eq_some_iff.1 hj).1
 have:=KU hb hbx hrg (k*18+j) u (by rw [Uh YT L k hk j OZ];exact hj)
 rw [←Nat.add_assoc] at this
 exact this
theorem Ui (w:World) (t:List UInt8) (ht:t.length≤70368744177664):∃W v,(convert 9 22 (.string (AA t))).run Tryz.prog w=.ok v W∧Below w.heap.size w W∧BK W.heap.size W v t.length (Lib.byteCells t):=by
 obtain ⟨W,cp,h1,h2,h3,h4,h5,h6⟩:=Qc w t
 exact ⟨W,_,h1,h2,Uj h4 rfl h5 (h6 (by unfold maxLen;omega)) (by omega)⟩
theorem sZ {B:Nat} {w:World} {o:sp.Op} {tv:Value} {a:List UInt8} (h:CQ B w o tv) (ha:sp.AU o=some a):a.length≤20000000:=by
 have i1:(Lib.itoa o.node).length≤21:=by have:=IL h.node;rwa [Aa] at this
 have i2:(Lib.itoa o.at_).length≤21:=by have:=IL h.at_;rwa [Aa] at this
 have i3:(Lib.itoa o.origin).length≤21:=by have:=IL h.origin;rwa [Aa] at this
 have r1:=ET (r:=o.w) h.fw
 have r2:=ET (r:=o.h) h.fh
 have r3:=ET (r:=o.bw) h.bw
 have r4:=ET (r:=o.bh) h.bh
 have q1:=Oa o.text
 have q2:=Oa o.word
 have n1:=h.name;have n2:=h.word;have n3:=h.text
 have b1:(sp.FI o.bt).length≤6:=by
  unfold sp.FI
  repeat' split
  all_goals decide
 have b2:(sp.FK o.bn).length≤1048577:=by
  have:=h.bn
  unfold sp.FK
  split
  ·decide
  ·omega
 unfold sp.AU at ha
 by_cases k0:o.kind=1
 ·rw [if_pos k0] at ha
  split at ha
  ·cases ha
   simp only [List.length_append,List.length_cons,List.length_nil]
   omega
  ·cases ha
 by_cases k1:o.kind=2
 ·rw [if_neg k0,if_pos k1] at ha
  split at ha
  ·cases ha
   simp only [List.length_append,List.length_cons,List.length_nil]
   omega
  ·cases ha
 by_cases k2:o.kind=3
 ·rw [if_neg k0,if_neg k1,if_pos k2] at ha
  split at ha
  ·cases ha
   simp only [List.length_append,List.length_cons,List.length_nil]
   omega
  ·cases ha
 by_cases k3:o.kind=13
 ·rw [if_neg k0,if_neg k1,if_neg k2,if_pos k3] at ha
  split at ha
  ·cases ha
   simp only [List.length_append,List.length_cons,List.length_nil]
   omega
  ·cases ha
 by_cases k4:o.kind=14
 ·rw [if_neg k0,if_neg k1,if_neg k2,if_neg k3,if_pos k4] at ha
  cases ha
  cases o.on<;>decide
 by_cases k5:o.kind=4
 ·rw [if_neg k0,if_neg k1,if_neg k2,if_neg k3,if_neg k4,if_pos k5] at ha
  split at ha
  ·cases ha
   simp only [List.length_append,List.length_cons,List.length_nil]
   omega
  ·cases ha
 by_cases k6:o.kind=5
 ·rw [if_neg k0,if_neg k1,if_neg k2,if_neg k3,if_neg k4,if_neg k5,if_pos k6] at ha
  split at ha
  ·cases ha
   simp only [List.length_append,List.length_cons,List.length_nil]
   omega
  ·cases ha
 by_cases k7:o.kind=6
 ·rw [if_neg k0,if_neg k1,if_neg k2,if_neg k3,if_neg k4,if_neg k5,if_neg k6,if_pos k7] at ha
  split at ha
  ·cases ha
   simp only [List.length_append,List.length_cons,List.length_nil]
   omega
  ·cases ha
 by_cases k8:o.kind=7
 ·rw [if_neg k0,if_neg k1,if_neg k2,if_neg k3,if_neg k4,if_neg k5,if_neg k6,if_neg k7,if_pos k8] at ha
  split at ha
  ·cases ha
   simp only [List.length_append,List.length_cons,List.length_nil]
   omega
  ·cases ha
 by_cases k9:o.kind=8
 ·rw [if_neg k0,if_neg k1,if_neg k2,if_neg k3,if_neg k4,if_neg k5,if_neg k6,if_neg k7,if_neg k8,if_pos k9] at ha
  split at ha
  ·cases ha
   simp only [List.length_append,List.length_cons,List.length_nil]
   omega
  ·cases ha
 by_cases k10:o.kind=9
 ·rw [if_neg k0,if_neg k1,if_neg k2,if_neg k3,if_neg k4,if_neg k5,if_neg k6,if_neg k7,if_neg k8,if_neg k9,if_pos k10] at ha
  split at ha
  ·cases ha
   simp only [List.length_append,List.length_cons,List.length_nil]
   omega
  ·cases ha
 by_cases k11:o.kind=10
 ·rw [if_neg k0,if_neg k1,if_neg k2,if_neg k3,if_neg k4,if_neg k5,if_neg k6,if_neg k7,if_neg k8,if_neg k9,if_neg k10,if_pos k11] at ha
  split at ha
  ·cases ha
   simp only [List.length_append,List.length_cons,List.length_nil]
   omega
  ·cases ha
 by_cases k12:o.kind=11
 ·rw [if_neg k0,if_neg k1,if_neg k2,if_neg k3,if_neg k4,if_neg k5,if_neg k6,if_neg k7,if_neg k8,if_neg k9,if_neg k10,if_neg k11,if_pos k12] at ha
  split at ha
  ·cases ha
   simp only [List.length_append,List.length_cons,List.length_nil]
   omega
  ·cases ha
 by_cases k13:o.kind=12
 ·rw [if_neg k0,if_neg k1,if_neg k2,if_neg k3,if_neg k4,if_neg k5,if_neg k6,if_neg k7,if_neg k8,if_neg k9,if_neg k10,if_neg k11,if_neg k12,if_pos k13] at ha
  split at ha
  ·cases ha
   simp only [List.length_append,List.length_cons,List.length_nil]
   omega
  ·cases ha
 by_cases k14:o.kind=15
 ·rw [if_neg k0,if_neg k1,if_neg k2,if_neg k3,if_neg k4,if_neg k5,if_neg k6,if_neg k7,if_neg k8,if_neg k9,if_neg k10,if_neg k11,if_neg k12,if_neg k13,if_pos k14] at ha
  cases ha
  decide
 rw [if_neg k0,if_neg k1,if_neg k2,if_neg k3,if_neg k4,if_neg k5,if_neg k6,if_neg k7,if_neg k8,if_neg k9,if_neg k10,if_neg k11,if_neg k12,if_neg k13,if_neg k14] at ha
 cases ha
theorem YU:∀ {l:List sp.Op} {s:List UInt8},(∀o∈l,∀a,sp.AU o=some a→a.length≤20000000)→sp.textS l=some s→s.length≤l.length*20000001
 | [],s,_,h=>by unfold sp.textS at h;cases h;simp
 | p :: l,s,ha,h=>by
  unfold sp.textS at h
  obtain ⟨a,h1,h⟩:=Option.bind_eq_some_iff.1 h
  obtain ⟨t,h2,rfl⟩:=Option.map_eq_some_iff.1 h
  have i1:=ha p List.mem_cons_self a h1
  have i2:=YU (fun o ho=>ha o (List.mem_cons_of_mem _ ho)) h2
  simp only [List.length_append,List.length_cons]
  omega
set_option maxRecDepth 100000 in
set_option maxHeartbeats 8000000 in
theorem tC (w:World) (a:Option Addr) (c:Nat) (L:List (sp.Op×Value)) (h:IV w.heap.size w (.slice a L.length c) L) (hp:Pow w) (hm:Gt w) (ht:sp.textS (L.map (·.1))=none)
  (haw:∀wx,Below w.heap.size w wx→Calls Tryz.prog 12 #[] wx fun e w'=>e=.returned (.bool true)∧Below wx.heap.size wx w') :
  Calls Tryz.prog 8 #[.slice a L.length c] w fun e w'=>e=.returned (.bool true)∧Below w.heap.size w w':=by
 have HX:=Lib.hid (Ob w a L.length c L h hp)
 have HT:=Lib.hid ht;have HAW:=Lib.hid haw
 clear ht h hp haw hm
 go_enter Tryz.func8,Tryz.ntmps8
 go_wp2_with (first
  | (have hgd:=HX;clear hgd;go_at_call 18;refine HX.out.mono ?_;rintro e w1 ⟨he,hb1⟩;unfold Ja at he;rw [HT.out] at he;subst he;have HB1:=Lib.hid hb1;clear hb1 HX)
  | (have hgd:=HB1;clear hgd;go_at_call 12;refine (HAW.out _ HB1.out).mono ?_;rintro e w9 ⟨rfl,hb9⟩;have HB9:=Lib.hid (HB1.out.trans (hb9.mono HB1.out.size));clear hb9))
 go_ret
 exact ⟨rfl,HB9.out⟩
set_option maxRecDepth 100000 in
set_option maxHeartbeats 8000000 in
theorem tH (w:World) (a:Option Addr) (c:Nat) (L:List (sp.Op×Value)) (h:IV w.heap.size w (.slice a L.length c) L) (hp:Pow w) (hm:Gt w) (s:List UInt8) (ht:sp.textS (L.map (·.1))=some s) (hs:s.length≤70368744177664) (h1:65536<s.length)
  (haw:∀wx,Below w.heap.size w wx→Calls Tryz.prog 12 #[] wx fun e w'=>e=.returned (.bool true)∧Below wx.heap.size wx w') :
  Calls Tryz.prog 8 #[.slice a L.length c] w fun e w'=>e=.returned (.bool true)∧Below w.heap.size w w':=by
 have HX:=Lib.hid (Ob w a L.length c L h hp)
 have HT:=Lib.hid ht;have HAW:=Lib.hid haw;have Oc:=Lib.hid hs;have H1:=Lib.hid h1
 have t1:(s.length:Int)>65536:=by omega
 have t3:decide ((s.length:Int)>65536)=true:=by simp;omega
 have hsz:=Aa s
 clear ht h hp haw hm h1 hs
 go_enter Tryz.func8,Tryz.ntmps8
 go_wp2_with (first
  | (have hgd:=HX;clear hgd;go_at_call 18;refine HX.out.mono ?_;rintro e w1 ⟨he,hb1⟩;unfold Ja at he;rw [HT.out] at he;subst he;have HB1:=Lib.hid hb1;obtain ⟨W2,v2,hcv,hb2,hr2⟩:=Ui w1 s Oc.out;have HB2:=Lib.hid (HB1.out.trans (hb2.mono HB1.out.size));have HR2:=Lib.hid hr2;clear hb2 hr2;clear hb1 HX)
  | (have hgd:=HR2;clear hgd;go_at_call 13;refine (sU W2 v2 s HR2.out H1.out).mono ?_;rintro e w3 ⟨rfl,hb3⟩;have HB3:=Lib.hid (HB2.out.trans (hb3.mono HB2.out.size));clear hb3 HR2)
  | (have hgd:=HB3;clear hgd;go_at_call 12;refine (HAW.out _ HB3.out).mono ?_;rintro e w9 ⟨rfl,hb9⟩;have HB9:=Lib.hid (HB3.out.trans (hb9.mono HB3.out.size));clear hb9))
 go_ret
 exact ⟨rfl,HB9.out⟩
set_option maxRecDepth 100000 in
set_option maxHeartbeats 8000000 in
theorem tJ (w:World) (a:Option Addr) (c:Nat) (L:List (sp.Op×Value)) (h:IV w.heap.size w (.slice a L.length c) L) (hp:Pow w) (hm:Gt w) (s:List UInt8) (ht:sp.textS (L.map (·.1))=some s) (hok:∀o∈L.map (·.1),o.ok) (h1:s.length≤65536) (h2:2000<L.length)
  (haw:∀wx,Below w.heap.size w wx→Calls Tryz.prog 12 #[] wx fun e w'=>e=.returned (.bool true)∧Below wx.heap.size wx w') :
  Calls Tryz.prog 8 #[.slice a L.length c] w fun e w'=>e=.returned (.bool true)∧Below w.heap.size w w':=by
 have HX:=Lib.hid (Ob w a L.length c L h hp)
 have HPI:Hid (∀W e,Hq s W e→e=.returned (.tuple #[.slice none 0 0,.int .i64 0,.int .i64 2])):=Lib.hid (fun W e he=>by
  unfold Hq at he
  rwa [if_pos (.inr (by rw [(sp.YV _ hok s ht).1,List.length_map];exact h2))] at he)
 have HT:=Lib.hid ht;have HAW:=Lib.hid haw;have Oc:Hid (s.length≤70368744177664):=Lib.hid (by omega);have H1:=Lib.hid h1;have HMX:=Lib.hid hm
 have t1:¬(s.length:Int)>65536:=by omega
 have t3:decide ((s.length:Int)>65536)=false:=by simp;omega
 have t2:(L.length:Int)>2000:=by omega
 have t4:decide ((L.length:Int)>2000)=true:=by simp;omega
 have hsz:=Aa s
 clear ht h hp haw hm h1 h2 hok
 go_enter Tryz.func8,Tryz.ntmps8
 go_wp2_with (first
  | (have hgd:=HX;clear hgd;go_at_call 18;refine HX.out.mono ?_;rintro e w1 ⟨he,hb1⟩;unfold Ja at he;rw [HT.out] at he;subst he;have HB1:=Lib.hid hb1;obtain ⟨W2,v2,hcv,hb2,hr2⟩:=Ui w1 s Oc.out;have HB2:=Lib.hid (HB1.out.trans (hb2.mono HB1.out.size));have HR2:=Lib.hid hr2;clear hb2 hr2;clear hb1 HX)
  | (have hgd:=HR2;clear hgd;go_at_call 13;refine (YW W2 v2 s HR2.out (HMX.out.on HB2.out) (Nat.le_trans H1.out (by decide))).mono ?_;rintro e w3 ⟨he,hb3⟩;have he2:=HPI.out _ _ he;subst he2;have HB3:=Lib.hid (HB2.out.trans (hb3.mono HB2.out.size));clear he hb3 HR2)
  | (have hgd:=HB3;clear hgd;go_at_call 12;refine (HAW.out _ HB3.out).mono ?_;rintro e w9 ⟨rfl,hb9⟩;have HB9:=Lib.hid (HB3.out.trans (hb9.mono HB3.out.size));clear hb9))
 go_ret
 exact ⟨rfl,HB9.out⟩
set_option maxRecDepth 100000 in
set_option maxHeartbeats 8000000 in
theorem tK (w:World) (a:Option Addr) (c:Nat) (L:List (sp.Op×Value)) (h:IV w.heap.size w (.slice a L.length c) L) (hp:Pow w) (hm:Gt w) (s:List UInt8) (ht:sp.textS (L.map (·.1))=some s) (hok:∀o∈L.map (·.1),o.ok) (h1:s.length≤65536) (h2:L.length≤2000)
  (haw:∀wx,Below w.heap.size w wx→Calls Tryz.prog 12 #[] wx fun e w'=>e=.returned (.bool true)∧Below wx.heap.size wx w') :
  Calls Tryz.prog 8 #[.slice a L.length c] w fun e w'=>e=.returned (.bool true)∧Below w.heap.size w w':=by
 have HX:=Lib.hid (Ob w a L.length c L h hp)
 obtain ⟨b1,b2,b3⟩:=sp.YV _ hok s ht
 rw [List.length_map] at b1
 have HPI:Hid (∀W e,Hq s W e→∃v A,e=.returned (.tuple #[v,.int .i64 0,.int .i64 0])∧A.map (·.1)=(L.map (·.1)).map sp.AV∧Gf W v A):=Lib.hid (fun W e he=>by
  unfold Hq at he
  rw [if_neg (by omega),b2 0] at he
  obtain ⟨v,A,x,y,z⟩:=he
  exact ⟨v,A,y,x,z⟩)
 have HB3:=Lib.hid b3
 have HEA:=Lib.hid (fun o ho=>YQ ht o ho)
 have HT:=Lib.hid ht;have HAW:=Lib.hid haw;have Oc:Hid (s.length≤70368744177664):=Lib.hid (by omega);have H1:=Lib.hid h1;have HMX:=Lib.hid hm;have HOP:=Lib.hid h;have HPW:=Lib.hid hp;have H2:=Lib.hid h2
 have t1:¬(s.length:Int)>65536:=by omega
 have t3:decide ((s.length:Int)>65536)=false:=by simp;omega
 have t2:¬(L.length:Int)>2000:=by omega
 have t4:decide ((L.length:Int)>2000)=false:=by simp;omega
 have hsz:=Aa s
 have hl2:(L.length:Int)≤2000:=by omega
 clear ht h hp haw hm h1 h2 hok b1 b2 b3
 go_enter Tryz.func8,Tryz.ntmps8
 go_wp2_with (first
  | (have hgd:=HX;clear hgd;go_at_call 18;refine HX.out.mono ?_;rintro e w1 ⟨he,hb1⟩;unfold Ja at he;rw [HT.out] at he;subst he;have HB1:=Lib.hid hb1;obtain ⟨W2,v2,hcv,hb2,hr2⟩:=Ui w1 s Oc.out;have HB2:=Lib.hid (HB1.out.trans (hb2.mono HB1.out.size));have HR2:=Lib.hid hr2;clear hb2 hr2;clear hb1 HX)
  | (have hgd:=HR2;clear hgd;go_at_call 13;refine (YW W2 v2 s HR2.out (HMX.out.on HB2.out) (Nat.le_trans H1.out (by decide))).mono ?_;rintro e w3 ⟨he,hb3⟩;obtain ⟨va,A,rfl,hA,hra⟩:=HPI.out _ _ he;have HA:=Lib.hid hA;have HRA:=Lib.hid hra;obtain ⟨aa,ca,rfl⟩:=hra.row.slice;have HC3:=Lib.hid (HB2.out.trans (hb3.mono HB2.out.size));have hal:A.length=L.length:=(by have:=congrArg List.length hA;simpa using this);clear he hb3 HR2 hA hra))
 clear t1 t2 t3 t4
 go_loopw [8,58] (fun j i wr=>∃k:Nat,k≤L.length∧i=.int .i64 k∧Below w3.heap.size w3 wr) (fun _ i _=>L.length-(intOf i).toNat)
 case atStart=>exact ⟨0,Nat.zero_le _,rfl,Below.refl _ _⟩
 case round =>
  obtain ⟨k,hk,rfl,hbr⟩:=hrel
  have HBR:=Lib.hid hbr
  have hkb:(k:Int)≤2000:=by omega
  clear hbr
  by_cases hlt:k<L.length
  ·have t0:decide ((k:Int)<(L.length:Int))=true:=by simp;omega
   have KW:k<A.length:=by omega
   have HLT:=Lib.hid hlt
   have HWB:=Lib.hid (HC3.out.trans (HBR.out.mono HC3.out.size))
   have heq:A[k].1=sp.AV L[k].1:=by
    have h1:(A.map (·.1))[k]?=((L.map (·.1)).map sp.AV)[k]?:=by rw [HA.out]
    rw [List.getElem?_map,List.getElem?_map,List.getElem?_map,List.getElem?_eq_getElem KW,List.getElem?_eq_getElem hlt] at h1
    exact Option.some.inj h1
   obtain ⟨sk,hsk⟩:=HEA.out L[k].1 (List.mem_map_of_mem (List.getElem_mem hlt))
   obtain ⟨b1,o1,rfl,hx1,hc1,hr1⟩:=Gf.el HRA.out HBR.out KW
   obtain ⟨b2,o2,rfl,hx2,hc2,ho2⟩:=HOP.out.el HWB.out hlt
   rw [heq] at hc1 hr1
   generalize A[k].2=ta at hc1 hr1
   generalize L[k].1=o at hc1 hr1 hc2 ho2 hsk
   generalize L[k].2=tv at hc2 ho2
   have HSK:=Lib.hid hsk
   have HC1:Hid (KT wr b1 (o1+k*18) (AQ (sp.AV o) ta)):=Lib.hid hc1
   have HC2:=Lib.hid hc2
   have HR1:=Lib.hid (hr1.mono HBR.out.size);have HO2:=Lib.hid (ho2.wider HWB.out.size)
   have HX1:Hid (b1<wr.heap.size):=Lib.hid (Nat.lt_of_lt_of_le hx1 HBR.out.size)
   have HX2:Hid (b2<wr.heap.size):=Lib.hid (Nat.lt_of_lt_of_le hx2 HWB.out.size)
   have HPK:=Lib.hid (HPW.out.on HWB.out)
   clear hc1 hc2 hr1 ho2 hx1 hx2 heq hsk KW
   go_wp2
   have HD:Hid (Below wr.heap.size wr wr.drew):=Lib.hid (Below.refl _ _).drew
   refine wp_region_held_drew (S:=fun s=>KT s b1 (o1+k*18) (AQ (sp.AV o) ta)∧KT s b2 (o2+k*18) (AQ o tv)) (by kernel_rfl) ⟨HC1.out.on HX1.out HD.out,HC2.out.on HX2.out HD.out⟩ (fun hHeld => ?_)
   refine tk 0 (.slice (some ⟨b1,o1,none⟩) A.length ca) rfl hHeld (fun s hs=>by go_simp) ?_
   refine tk 1 (.int .i64 k) rfl hHeld (fun s hs=>by go_simp) ?_
   refine tk 2 (.pointer (some ⟨b1,o1+k*18,none⟩)) rfl hHeld (fun s hs=>by go_simp) ?_
   refine tk 3 (.agg (AQ (sp.AV o) ta)) rfl hHeld (fun s hs=>YR hs.1 rfl (z:=.tmp 63) (by kernel_rfl) (by kernel_rfl)) ?_
   refine tk 4 (.slice (some ⟨b2,o2,none⟩) L.length c) rfl hHeld (fun s hs=>by go_simp) ?_
   refine tk 5 (.int .i64 k) rfl hHeld (fun s hs=>by go_simp) ?_
   refine tk 6 (.pointer (some ⟨b2,o2+k*18,none⟩)) rfl hHeld (fun s hs=>by go_simp) ?_
   refine tk 7 (.agg (AQ o tv)) rfl hHeld (fun s hs=>YR hs.2 rfl (z:=.tmp 67) (by kernel_rfl) (by kernel_rfl)) ?_
   refine AY 8 rfl fun K hK => ?_
   go_simp
   refine (sQ _ o tv ((HO2.out.keep HD.out).wider HD.out.size) (HPK.out.on HD.out) sk HSK.out).mono ?_
   rintro e w5 ⟨t2,rfl,hr5,hb5⟩
   have HB5:=Lib.hid (HD.out.trans (hb5.mono HD.out.size))
   have HR5:=Lib.hid hr5
   refine hK.out _ _ ⟨HC1.out.on HX1.out HB5.out,HC2.out.on HX2.out HB5.out⟩ (fun hHeld => ?_)
   clear hK hr5 hb5
   refine AY 9 rfl fun K hK => ?_
   go_simp
   refine (tN _ (sp.AV o) ta t2 ((HR1.out.keep HB5.out).mono HB5.out.size) HR5.out).mono ?_
   rintro e w6 ⟨rfl,hb6⟩
   have HB6:=Lib.hid (HB5.out.trans (hb6.mono HB5.out.size))
   refine hK.out _ _ ⟨HC1.out.on HX1.out HB6.out,HC2.out.on HX2.out HB6.out⟩ (fun hHeld => ?_)
   clear hK hb6
   refine tk 10 (.bool false) rfl hHeld (fun s hs=>by go_simp) ?_
   refine wpAnyH_done (by kernel_rfl) ?_ _
   clear hHeld
   go_wp2
   exact ⟨⟨k+1,by omega,by go_num,HBR.out.trans (HB6.out.mono HBR.out.size)⟩,by have:=HLT.out;simp [intOf];omega⟩
  ·have t0:decide ((k:Int)<(L.length:Int))=false:=by simp;omega
   have HWB:=Lib.hid (HC3.out.trans (HBR.out.mono HC3.out.size))
   have hop:∀p∈A,CQ wr.heap.size wr p.1 p.2:=fun p hp=>by
    have hm:p.1∈(L.map (·.1)).map sp.AV:=by rw [←HA.out];exact List.mem_map_of_mem hp
    obtain ⟨o,ho,he⟩:=List.mem_map.1 hm
    obtain ⟨q,hq,rfl⟩:=List.mem_map.1 ho
    have hr:=(HRA.out.on HBR.out).texts p hp
    rw [←he] at hr ⊢
    exact sV (HOP.out.2.1 q hq) hr
   have tV:Hid (IV wr.heap.size wr (.slice aa L.length ca) A):=Lib.hid ⟨by have:=(HRA.out.on HBR.out).row;rw [hal] at this;rw [hal];exact this,hop,by rw [hal];have:=H2.out;omega⟩
   have HX2:=Lib.hid (Ob wr aa L.length ca A tV.out (HPW.out.on HWB.out))
   have HT2:Hid (sp.textS (A.map (·.1))=some s):=Lib.hid (by rw [HA.out];exact HB3.out)
   clear hop
   go_wp2_with (first
    | (have hgd:=HX2;clear hgd;go_at_call 18;refine HX2.out.mono ?_;rintro e w7 ⟨he,hb7⟩;unfold Ja at he;rw [HT2.out] at he;subst he;have HB7:=Lib.hid (HWB.out.trans (hb7.mono HWB.out.size));clear hb7 HX2)
    | (have hgd:=HB7;clear hgd;go_at_call 12;refine (HAW.out _ HB7.out).mono ?_;rintro e w9 ⟨rfl,hb9⟩;have HB9:=Lib.hid (HB7.out.trans (hb9.mono HB7.out.size));clear hb9))
   go_ret
   exact ⟨rfl,HB9.out⟩
theorem lX (w:World) (a:Option Addr) (n c:Nat) (L:List (sp.Op×Value)) (h:IV w.heap.size w (.slice a n c) L) (hp:Pow w) (hm:Gt w)
  (haw:∀wx,Below w.heap.size w wx→Calls Tryz.prog 12 #[] wx fun e w'=>e=.returned (.bool true)∧Below wx.heap.size wx w') :
  Calls Tryz.prog 8 #[.slice a n c] w fun e w'=>e=.returned (.bool true)∧Below w.heap.size w w':=by
 have hn:n=L.length:=by obtain ⟨⟨_,_,e,_⟩,_⟩:=h;cases e;rfl
 subst hn
 have hok:∀o∈L.map (·.1),o.ok:=fun o ho=>by
  obtain ⟨p,hp,rfl⟩:=List.mem_map.1 ho
  exact YO (h.2.1 p hp)
 cases ht:sp.textS (L.map (·.1)) with
 | none=>exact tC w a c L h hp hm ht haw
 | some s =>
  by_cases h1:s.length≤65536
  ·by_cases h2:L.length≤2000
   ·exact tK w a c L h hp hm s ht hok h1 h2 haw
   ·exact tJ w a c L h hp hm s ht hok h1 (by omega) haw
  ·have hs:s.length≤70368744177664:=by
    have:=YU (fun o ho a ha=>by
     obtain ⟨p,hp,rfl⟩:=List.mem_map.1 ho
     exact sZ (h.2.1 p hp) ha) ht
    rw [List.length_map] at this
    have:=h.2.2
    omega
   exact tH w a c L h hp hm s ht hs (by omega) haw
end Go.Proofs.YtihlneenajlhoaaGreatDoor
