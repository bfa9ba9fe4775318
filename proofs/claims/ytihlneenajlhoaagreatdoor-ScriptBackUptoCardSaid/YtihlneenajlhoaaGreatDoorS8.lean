/-
 Contract, for a run of one goroutine, of jalousieref1.Parse: the fraction of a text, as the plain law says. Condition: lengths that fit.
-/
import Derived.Test.YtihlneenajlhoaaGreatDoorS7
import Derived.Test.YtihlneenajlhoaaGreatDoorS4
import Derived.Deep.MidRow
set_option linter.unusedSimpArgs false
set_option linter.unusedVariables false
namespace Go.Proofs.YtihlneenajlhoaaGreatDoor
open Go Go.RowKit
theorem AAw {W:World} {g:Nat} {a b:Value} {fn:Func} {tmps:Array Value} {R:Ending→World→Prop} (hr:fn.results=#[.cell 0 24]) (hp:tmps.getD 0 undef=.pointer (some ⟨g,0,none⟩)) (hg:W.heap[g]?=some (.cells #[a,b] 24 (0,0)))
  (h:R (.returned (.agg #[a,b])) W):bodyPost Tryz.prog fn R .ret ⟨tmps,[]⟩ W :=
 bodyPost_ret (results_cell_row hr tmps W g 24 #[a,b] (0,0) _ hp hg Tryz.underlying24 rfl info24) rfl h
set_option maxRecDepth 100000 in
theorem EE (w:World):Calls Tryz.prog 125 #[] w fun e w'=>e=.returned (.agg #[.int .i64 0,.int .i64 0])∧Below w.heap.size w w':=by
 go_enter Tryz.func125,Tryz.ntmps125
 go_wp2
 exact AAw rfl rfl (AX _ _) ⟨rfl,AZ w _⟩
theorem NL {n d:Int} (h:sp.BM n d):Cj n d=true:=(Ze n d).2 h
theorem NM {n d:Int} (h:¬sp.BM n d):Cj n d=false:=by cases hb:Cj n d with | false=>rfl | true=>exact absurd ((Ze n d).1 hb) h
theorem NP {X:List UInt8} {n:Nat} (h:X.length≤n):(Ad X).length≤n:=by
 unfold Ad
 split
 ·rw [List.length_tail];omega
 ·exact h
structure R0 (w W:World):Prop where
 res:W.heap[w.heap.size]?=some (.cells #[.int .i64 0,.int .i64 0] 24 (0,0))
 bel:Below w.heap.size w W
theorem R0.on {w W W':World} (h:R0 w W) (hb:Below W.heap.size W W'):R0 w W':=⟨(hb.block _ (lt_of_block h.res)).trans h.res,h.bel.trans (hb.mono (by have:=lt_of_block h.res;omega))⟩
theorem R0.drew {w W:World} (h:R0 w W) (n:Nat):R0 w (W.drewN n):=⟨h.res,below_drewN h.bel n⟩
theorem VN {Bd top low:List UInt8} (h:Bd=top++47 :: low):∀q,(AA Bd)[top.length]'q=47:=fun q=>by
 have hk:top.length<Bd.length:=by rw [h];simp
 rw [Jd hk q,Ef hk]
 simp [h]
theorem R0.cells {w W:World} (h:R0 w W):W.cell? ⟨w.heap.size,0,none⟩=some (.int .i64 0)∧W.cell? ⟨w.heap.size,1,none⟩=some (.int .i64 0)∧W.frozen? ⟨w.heap.size,0,none⟩=false∧W.frozen? ⟨w.heap.size,1,none⟩=false :=
 ⟨by rw [Lib.cell_of_heap h.res];rfl,by rw [Lib.cell_of_heap h.res];rfl,Ag h.res 0,Ag h.res 1⟩
theorem R0.fin {w W:World} (h:R0 w W) (a b:Value):((W.setCell ⟨w.heap.size,0,none⟩ a).setCell ⟨w.heap.size,1,none⟩ b).heap[w.heap.size]?=some (.cells #[a,b] 24 (0,0))∧Below w.heap.size w ((W.setCell ⟨w.heap.size,0,none⟩ a).setCell ⟨w.heap.size,1,none⟩ b) :=
 ⟨Ht h.res a b,(h.bel.setCell (Nat.le_refl _) _).setCell (Nat.le_refl _) _⟩
set_option maxRecDepth 100000 in
set_option maxHeartbeats 16000000 in
theorem AAx (X:List UInt8) (w:World) (hn:X.length≤1099511627776) (hX:X≠sp.over) (hXe:X = []) (h47:(47:UInt8)∉Ad X) (hc:Cut X (Ad X) [49] false):Calls Tryz.prog 98 #[.string (AA X)] w fun e w'=>Cb X e∧Below w.heap.size w w':=by
 have hs:((AA X).toList==[111,118,101,114])=false:=AL hX
 have HX:=Lib.hid hX;have Bq:=Lib.hid hc
 have e1:(AA X).toList.isEmpty=true:=by rw [hXe,Lib.toList_data];rfl
 have EC:Hid (¬X.head?=some 45):=Lib.hid (by rw [hXe];simp)
 have hbx:AA X=AA (Ad X):=by rw [hXe];rfl
 obtain ⟨Bd,hB⟩:∃Bd,Bd=Ad X:=⟨_,rfl⟩
 have hlb:Bd.length≤1099511627776:=by rw [hB];exact NP hn
 rw [←hB] at hbx h47 Bq
 rw [hbx]
 rw [hbx] at hs e1
 have hsz:(AA Bd).size=Bd.length:=Aa Bd
 have HLB:=Lib.hid hlb
 have H0:Hid (R0 w (w.alloc (.cells #[.int .i64 0,.int .i64 0] 24))):=Lib.hid ⟨AX _ _,AZ w _⟩
 have HLT:Hid (Bd.length≤1099511627776):=Lib.hid hlb
 have HLL:Hid (([49]:List UInt8).length≤1099511627776):=Lib.hid (by simp)
 have H47:=Lib.hid h47
 clear hn hX hc hXe hB hlb h47
 go_enter Tryz.func98,Tryz.ntmps98
 go_wp2
 go_loopw [6,7,8,31] (fun a b c i wr=>a=.string (AA Bd)∧b=.string ⟨#[49]⟩∧c=.bool false∧∃k:Nat,k≤Bd.length∧i=.int .i64 k∧wr=w.alloc (.cells #[.int .i64 0,.int .i64 0] 24)) (fun _ _ _ i _=>Bd.length-(intOf i).toNat)
 case atStart=>exact ⟨rfl,rfl,rfl,0,Nat.zero_le _,rfl,rfl⟩
 case round =>
  obtain ⟨rfl,rfl,rfl,k,hk,rfl,rfl⟩:=hrel
  have hkb:(k:Int)≤1099511627776:=by have:=HLT.out;omega
  by_cases hkl:k<Bd.length
  ·have t0:decide ((k:Int)<(Bd.length:Int))=true:=by simp;omega
   have hat:=Jd hkl
   have hne:Bd.getD k 0≠47:=fun e=>H47.out (by rw [←e,Ef hkl];exact List.getElem_mem _)
   generalize Bd.getD k 0=K at hat hne
   have t47:((K.toNat:Int)==47)=false:=Bo K 47 hne
   go_wp2
   exact ⟨⟨rfl,rfl,rfl,k+1,by omega,by go_num,trivial⟩,by simp [intOf];omega⟩
  ·have t0:decide ((k:Int)<(Bd.length:Int))=false:=by simp;omega
   have HC1:=Lib.hid (fun W=>count_any Bd W HLT.out)
   have HC2:Hid (∀W,Calls Tryz.prog 126 #[.string ⟨#[49]⟩] W fun e w'=>Jh [49] e∧Below W.heap.size W w'):=Lib.hid (fun W=>count_any [49] W HLL.out)
   go_wp2_with (first
    | (have hgd:=HC1;clear hgd;go_at_call 126;refine (HC1.out _).mono ?_;rintro e w1 ⟨⟨v1,ok1,rfl,k1⟩,hb1⟩;refine Hid.out ?_))
   refine Lib.hid ?_
   have K1:=Lib.hid k1;have H1:=Lib.hid (H0.out.on hb1)
   clear k1 hb1 HC1
   go_wp2_with (first
    | (go_at_call 126;refine (HC2.out _).mono ?_;rintro e w2 ⟨⟨v2,ok2,rfl,k2⟩,hb2⟩;refine Hid.out ?_))
   refine Lib.hid ?_
   have K2:=Lib.hid k2;have H2:=Lib.hid (H1.out.on hb2)
   clear k2 hb2 HC2
   cases ok1 with
   | false =>
    have HF:=Lib.hid (EL HX.out Bq.out K1.out K2.out (Or.inl rfl))
    go_wp2_with (first
     | (go_at_call 125;refine (EE _).mono ?_;rintro e w3 ⟨rfl,hb3⟩;have H3:=Lib.hid (H2.out.on hb3);obtain ⟨d0,d1,z0,z1⟩:=H3.out.cells;clear hb3))
    exact BQ rfl rfl rfl (H3.out.fin _ _).1 ⟨HF.out,(H3.out.fin _ _).2⟩
   | true =>
    cases ok2 with
    | false =>
     have HF:=Lib.hid (EL HX.out Bq.out K1.out K2.out (Or.inr (Or.inl rfl)))
     go_wp2_with (first
      | (go_at_call 125;refine (EE _).mono ?_;rintro e w3 ⟨rfl,hb3⟩;have H3:=Lib.hid (H2.out.on hb3);obtain ⟨d0,d1,z0,z1⟩:=H3.out.cells;clear hb3))
     exact BQ rfl rfl rfl (H3.out.fin _ _).1 ⟨HF.out,(H3.out.fin _ _).2⟩
    | true =>
     have hr1:=K1.out.1.2
     have hr2:=K2.out.1.2
     have hp1:0≤v1:=by have:=K1.out.2;rw [if_pos rfl] at this;exact this.2
     have hp2:0≤v2:=by have:=K2.out.2;rw [if_pos rfl] at this;exact this.2
     have hsg:CV X v1=v1:=by unfold CV;rw [if_neg EC.out]
     by_cases hm:sp.BM (v1) v2
     ·have HF:=Lib.hid (NK HX.out Bq.out K1.out K2.out (fun h=>by cases h) (fun h=>absurd h EC.out) (by rw [hsg];exact hm))
      rw [hsg] at HF
      have q1:=NL hm
      clear hm
      go_wp2_with (first
       | (go_at_call 114;refine (Fb (v1) v2 _ ⟨by omega,by omega⟩ ⟨by omega,by omega⟩).mono ?_;rintro e w3 ⟨rfl,hb3⟩;have HP2:=Lib.hid ((PF.new H2.out.bel H2.out.res (v1) v2).on hb3);obtain ⟨r0,r1,k0,k1,y0,y1⟩:=HP2.out.cells;clear hb3))
      exact BQ rfl rfl rfl (HP2.out.fin _ _).1 ⟨HF.out,(HP2.out.fin _ _).2⟩
     ·have HF:=Lib.hid (EL HX.out Bq.out K1.out K2.out (Or.inr (Or.inr (Or.inr (Or.inr (by rw [hsg];exact hm))))))
      have q1:=NM hm
      clear hm
      go_wp2_with (first
       | (go_at_call 114;refine (Fb (v1) v2 _ ⟨by omega,by omega⟩ ⟨by omega,by omega⟩).mono ?_;rintro e w3 ⟨rfl,hb3⟩;have HP2:=Lib.hid ((PF.new H2.out.bel H2.out.res (v1) v2).on hb3);clear hb3)
       | (go_at_call 125;refine (EE _).mono ?_;rintro e w4 ⟨rfl,hb4⟩;have HP3:=Lib.hid (HP2.out.on hb4);obtain ⟨r0,r1,k0,k1,y0,y1⟩:=HP3.out.cells;clear hb4))
      exact BQ rfl rfl rfl (HP3.out.fin _ _).1 ⟨HF.out,(HP3.out.fin _ _).2⟩
set_option maxRecDepth 100000 in
set_option maxHeartbeats 16000000 in
theorem AAy (X:List UInt8) (w:World) (hn:X.length≤1099511627776) (hX:X≠sp.over) (hXe:X = []) (top low:List UInt8) (hBd:Ad X=top++47 :: low) (h47:(47:UInt8)∉top) (hc:Cut X top low true):Calls Tryz.prog 98 #[.string (AA X)] w fun e w'=>Cb X e∧Below w.heap.size w w':=by
 have hs:((AA X).toList==[111,118,101,114])=false:=AL hX
 have HX:=Lib.hid hX;have Bq:=Lib.hid hc
 have e1:(AA X).toList.isEmpty=true:=by rw [hXe,Lib.toList_data];rfl
 have EC:Hid (¬X.head?=some 45):=Lib.hid (by rw [hXe];simp)
 have hbx:AA X=AA (Ad X):=by rw [hXe];rfl
 obtain ⟨Bd,hB⟩:∃Bd,Bd=Ad X:=⟨_,rfl⟩
 have hlb:Bd.length≤1099511627776:=by rw [hB];exact NP hn
 rw [←hB] at hbx hBd
 rw [hbx]
 rw [hbx] at hs e1
 have hsz:(AA Bd).size=Bd.length:=Aa Bd
 have HLB:=Lib.hid hlb
 have H0:Hid (R0 w (w.alloc (.cells #[.int .i64 0,.int .i64 0] 24))):=Lib.hid ⟨AX _ _,AZ w _⟩
 have hlen:=congrArg List.length hBd
 rw [List.length_append,List.length_cons] at hlen
 have HLT:Hid (top.length≤1099511627776):=Lib.hid (by omega)
 have HLL:Hid (low.length≤1099511627776):=Lib.hid (by omega)
 have H47:=Lib.hid h47;have HBD:=Lib.hid hBd;have HLEN:=Lib.hid hlen
 clear hn hX hc hXe hB hlb h47 hBd hlen
 go_enter Tryz.func98,Tryz.ntmps98
 go_wp2
 go_loopw [6,7,8,31] (fun a b c i wr=>a=.string (AA Bd)∧b=.string ⟨#[49]⟩∧c=.bool false∧∃k:Nat,k≤top.length∧i=.int .i64 k∧wr=w.alloc (.cells #[.int .i64 0,.int .i64 0] 24)) (fun _ _ _ i _=>Bd.length-(intOf i).toNat)
 case atStart=>exact ⟨rfl,rfl,rfl,0,Nat.zero_le _,rfl,rfl⟩
 case round =>
  obtain ⟨rfl,rfl,rfl,k,hk,rfl,rfl⟩:=hrel
  have hkl:k<Bd.length:=by have:=HLEN.out;omega
  have hkb:(k:Int)≤1099511627776:=by have:=HLT.out;omega
  have t0:decide ((k:Int)<(Bd.length:Int))=true:=by simp;omega
  by_cases hke:k=top.length
  ·have ei2:∀q,(AA Bd)[k]'q=47:=by rw [hke];exact VN HBD.out
   have ex1:(AA Bd).extract 0 k=AA top:=by rw [Qk Bd k (by omega),HBD.out,hke];simp
   have ex2:(AA Bd).extract (k+1) Bd.length=AA low:=by rw [Je Bd (k+1) _ (by omega) rfl,HBD.out,hke];simp
   have hk1:(k:Int)≤(Bd.length:Int):=by omega
   have hk2:(k:Int)+1≤(Bd.length:Int):=by omega
   clear hke hk
   go_wp2
   go_quiet (fail)
   have HC1:=Lib.hid (fun W=>count_any top W HLT.out)
   have HC2:Hid (∀W,Calls Tryz.prog 126 #[.string (AA low)] W fun e w'=>Jh low e∧Below W.heap.size W w'):=Lib.hid (fun W=>count_any low W HLL.out)
   go_wp2_with (first
    | (have hgd:=HC1;clear hgd;go_at_call 126;refine (HC1.out _).mono ?_;rintro e w1 ⟨⟨v1,ok1,rfl,k1⟩,hb1⟩;refine Hid.out ?_))
   refine Lib.hid ?_
   have K1:=Lib.hid k1;have H1:=Lib.hid ((H0.out.drew _).on hb1)
   clear k1 hb1 HC1
   go_wp2_with (first
    | (go_at_call 126;refine (HC2.out _).mono ?_;rintro e w2 ⟨⟨v2,ok2,rfl,k2⟩,hb2⟩;refine Hid.out ?_))
   refine Lib.hid ?_
   have K2:=Lib.hid k2;have H2:=Lib.hid (H1.out.on hb2)
   clear k2 hb2 HC2
   cases ok1 with
   | false =>
    have HF:=Lib.hid (EL HX.out Bq.out K1.out K2.out (Or.inl rfl))
    go_wp2_with (first
     | (go_at_call 125;refine (EE _).mono ?_;rintro e w3 ⟨rfl,hb3⟩;have H3:=Lib.hid (H2.out.on hb3);obtain ⟨d0,d1,z0,z1⟩:=H3.out.cells;clear hb3))
    exact BQ rfl rfl rfl (H3.out.fin _ _).1 ⟨HF.out,(H3.out.fin _ _).2⟩
   | true =>
    cases ok2 with
    | false =>
     have HF:=Lib.hid (EL HX.out Bq.out K1.out K2.out (Or.inr (Or.inl rfl)))
     go_wp2_with (first
      | (go_at_call 125;refine (EE _).mono ?_;rintro e w3 ⟨rfl,hb3⟩;have H3:=Lib.hid (H2.out.on hb3);obtain ⟨d0,d1,z0,z1⟩:=H3.out.cells;clear hb3))
     exact BQ rfl rfl rfl (H3.out.fin _ _).1 ⟨HF.out,(H3.out.fin _ _).2⟩
    | true =>
     have hr1:=K1.out.1.2
     have hr2:=K2.out.1.2
     have hp1:0≤v1:=by have:=K1.out.2;rw [if_pos rfl] at this;exact this.2
     have hp2:0≤v2:=by have:=K2.out.2;rw [if_pos rfl] at this;exact this.2
     have hsg:CV X v1=v1:=by unfold CV;rw [if_neg EC.out]
     by_cases h2:v2<2
     ·have HF:=Lib.hid (EL HX.out Bq.out K1.out K2.out (Or.inr (Or.inr (Or.inl ⟨rfl,h2⟩))))
      have t2:decide (v2<2)=true:=by simpa using h2
      go_wp2_with (first
       | (go_at_call 125;refine (EE _).mono ?_;rintro e w3 ⟨rfl,hb3⟩;have H3:=Lib.hid (H2.out.on hb3);obtain ⟨d0,d1,z0,z1⟩:=H3.out.cells;clear hb3))
      exact BQ rfl rfl rfl (H3.out.fin _ _).1 ⟨HF.out,(H3.out.fin _ _).2⟩
     ·have t2:decide (v2<2)=false:=by simpa using h2
      by_cases hm:sp.BM (v1) v2
      ·have HF:=Lib.hid (NK HX.out Bq.out K1.out K2.out (fun _=>by omega) (fun h=>absurd h EC.out) (by rw [hsg];exact hm))
       rw [hsg] at HF
       have q1:=NL hm
       clear hm
       go_wp2_with (first
        | (go_at_call 114;refine (Fb (v1) v2 _ ⟨by omega,by omega⟩ ⟨by omega,by omega⟩).mono ?_;rintro e w3 ⟨rfl,hb3⟩;have HP2:=Lib.hid ((PF.new H2.out.bel H2.out.res (v1) v2).on hb3);obtain ⟨r0,r1,k0,k1,y0,y1⟩:=HP2.out.cells;clear hb3))
       exact BQ rfl rfl rfl (HP2.out.fin _ _).1 ⟨HF.out,(HP2.out.fin _ _).2⟩
      ·have HF:=Lib.hid (EL HX.out Bq.out K1.out K2.out (Or.inr (Or.inr (Or.inr (Or.inr (by rw [hsg];exact hm))))))
       have q1:=NM hm
       clear hm
       go_wp2_with (first
        | (go_at_call 114;refine (Fb (v1) v2 _ ⟨by omega,by omega⟩ ⟨by omega,by omega⟩).mono ?_;rintro e w3 ⟨rfl,hb3⟩;have HP2:=Lib.hid ((PF.new H2.out.bel H2.out.res (v1) v2).on hb3);clear hb3)
        | (go_at_call 125;refine (EE _).mono ?_;rintro e w4 ⟨rfl,hb4⟩;have HP3:=Lib.hid (HP2.out.on hb4);obtain ⟨r0,r1,k0,k1,y0,y1⟩:=HP3.out.cells;clear hb4))
       exact BQ rfl rfl rfl (HP3.out.fin _ _).1 ⟨HF.out,(HP3.out.fin _ _).2⟩
  ·have ht:k<top.length:=by omega
   have hat:=Jd hkl
   have hne:Bd.getD k 0≠47:=fun e=>H47.out (by
    have h1:Bd.getD k 0=top[k]:=by rw [Ef hkl];simp only [HBD.out];rw [List.getElem_append_left ht]
    rw [←e,h1]
    exact List.getElem_mem _)
   generalize Bd.getD k 0=K at hat hne
   have t47:((K.toNat:Int)==47)=false:=Bo K 47 hne
   go_wp2
   exact ⟨⟨rfl,rfl,rfl,k+1,by omega,by go_num,trivial⟩,by simp [intOf];omega⟩
set_option maxRecDepth 100000 in
set_option maxHeartbeats 16000000 in
theorem AAz (X:List UInt8) (c:UInt8) (r:List UInt8) (h45:c≠45) (w:World) (hn:X.length≤1099511627776) (hX:X≠sp.over) (hXe:X=c :: r) (h47:(47:UInt8)∉Ad X) (hc:Cut X (Ad X) [49] false):Calls Tryz.prog 98 #[.string (AA X)] w fun e w'=>Cb X e∧Below w.heap.size w w':=by
 have hs:((AA X).toList==[111,118,101,114])=false:=AL hX
 have HX:=Lib.hid hX;have Bq:=Lib.hid hc
 have e1:(AA X).toList.isEmpty=false:=by rw [hXe,Lib.toList_data,CY];rfl
 have e0:0<(AA X).size:=by rw [Aa,hXe];simp
 have ei:∀p,(AA X)[0]'p=c:=by rw [hXe];exact fun p=>rfl
 have t45:((c.toNat:Int)==45)=false:=Bo c 45 h45
 have EC:Hid (¬X.head?=some 45):=Lib.hid (by rw [hXe];simpa using h45)
 have hbx:AA X=AA (Ad X):=by unfold Ad;rw [if_neg EC.out]
 obtain ⟨Bd,hB⟩:∃Bd,Bd=Ad X:=⟨_,rfl⟩
 have hlb:Bd.length≤1099511627776:=by rw [hB];exact NP hn
 rw [←hB] at hbx h47 Bq
 rw [hbx]
 rw [hbx] at hs e1 e0 ei
 have hsz:(AA Bd).size=Bd.length:=Aa Bd
 have HLB:=Lib.hid hlb
 have H0:Hid (R0 w (w.alloc (.cells #[.int .i64 0,.int .i64 0] 24))):=Lib.hid ⟨AX _ _,AZ w _⟩
 have HLT:Hid (Bd.length≤1099511627776):=Lib.hid hlb
 have HLL:Hid (([49]:List UInt8).length≤1099511627776):=Lib.hid (by simp)
 have H47:=Lib.hid h47
 clear hn hX hc hXe hB hlb h47
 go_enter Tryz.func98,Tryz.ntmps98
 go_wp2
 go_loopw [6,7,8,31] (fun a b c i wr=>a=.string (AA Bd)∧b=.string ⟨#[49]⟩∧c=.bool false∧∃k:Nat,k≤Bd.length∧i=.int .i64 k∧wr=w.alloc (.cells #[.int .i64 0,.int .i64 0] 24)) (fun _ _ _ i _=>Bd.length-(intOf i).toNat)
 case atStart=>exact ⟨rfl,rfl,rfl,0,Nat.zero_le _,rfl,rfl⟩
 case round =>
  obtain ⟨rfl,rfl,rfl,k,hk,rfl,rfl⟩:=hrel
  have hkb:(k:Int)≤1099511627776:=by have:=HLT.out;omega
  by_cases hkl:k<Bd.length
  ·have t0:decide ((k:Int)<(Bd.length:Int))=true:=by simp;omega
   have hat:=Jd hkl
   have hne:Bd.getD k 0≠47:=fun e=>H47.out (by rw [←e,Ef hkl];exact List.getElem_mem _)
   generalize Bd.getD k 0=K at hat hne
   have t47:((K.toNat:Int)==47)=false:=Bo K 47 hne
   go_wp2
   exact ⟨⟨rfl,rfl,rfl,k+1,by omega,by go_num,trivial⟩,by simp [intOf];omega⟩
  ·have t0:decide ((k:Int)<(Bd.length:Int))=false:=by simp;omega
   have HC1:=Lib.hid (fun W=>count_any Bd W HLT.out)
   have HC2:Hid (∀W,Calls Tryz.prog 126 #[.string ⟨#[49]⟩] W fun e w'=>Jh [49] e∧Below W.heap.size W w'):=Lib.hid (fun W=>count_any [49] W HLL.out)
   go_wp2_with (first
    | (have hgd:=HC1;clear hgd;go_at_call 126;refine (HC1.out _).mono ?_;rintro e w1 ⟨⟨v1,ok1,rfl,k1⟩,hb1⟩;refine Hid.out ?_))
   refine Lib.hid ?_
   have K1:=Lib.hid k1;have H1:=Lib.hid (H0.out.on hb1)
   clear k1 hb1 HC1
   go_wp2_with (first
    | (go_at_call 126;refine (HC2.out _).mono ?_;rintro e w2 ⟨⟨v2,ok2,rfl,k2⟩,hb2⟩;refine Hid.out ?_))
   refine Lib.hid ?_
   have K2:=Lib.hid k2;have H2:=Lib.hid (H1.out.on hb2)
   clear k2 hb2 HC2
   cases ok1 with
   | false =>
    have HF:=Lib.hid (EL HX.out Bq.out K1.out K2.out (Or.inl rfl))
    go_wp2_with (first
     | (go_at_call 125;refine (EE _).mono ?_;rintro e w3 ⟨rfl,hb3⟩;have H3:=Lib.hid (H2.out.on hb3);obtain ⟨d0,d1,z0,z1⟩:=H3.out.cells;clear hb3))
    exact BQ rfl rfl rfl (H3.out.fin _ _).1 ⟨HF.out,(H3.out.fin _ _).2⟩
   | true =>
    cases ok2 with
    | false =>
     have HF:=Lib.hid (EL HX.out Bq.out K1.out K2.out (Or.inr (Or.inl rfl)))
     go_wp2_with (first
      | (go_at_call 125;refine (EE _).mono ?_;rintro e w3 ⟨rfl,hb3⟩;have H3:=Lib.hid (H2.out.on hb3);obtain ⟨d0,d1,z0,z1⟩:=H3.out.cells;clear hb3))
     exact BQ rfl rfl rfl (H3.out.fin _ _).1 ⟨HF.out,(H3.out.fin _ _).2⟩
    | true =>
     have hr1:=K1.out.1.2
     have hr2:=K2.out.1.2
     have hp1:0≤v1:=by have:=K1.out.2;rw [if_pos rfl] at this;exact this.2
     have hp2:0≤v2:=by have:=K2.out.2;rw [if_pos rfl] at this;exact this.2
     have hsg:CV X v1=v1:=by unfold CV;rw [if_neg EC.out]
     by_cases hm:sp.BM (v1) v2
     ·have HF:=Lib.hid (NK HX.out Bq.out K1.out K2.out (fun h=>by cases h) (fun h=>absurd h EC.out) (by rw [hsg];exact hm))
      rw [hsg] at HF
      have q1:=NL hm
      clear hm
      go_wp2_with (first
       | (go_at_call 114;refine (Fb (v1) v2 _ ⟨by omega,by omega⟩ ⟨by omega,by omega⟩).mono ?_;rintro e w3 ⟨rfl,hb3⟩;have HP2:=Lib.hid ((PF.new H2.out.bel H2.out.res (v1) v2).on hb3);obtain ⟨r0,r1,k0,k1,y0,y1⟩:=HP2.out.cells;clear hb3))
      exact BQ rfl rfl rfl (HP2.out.fin _ _).1 ⟨HF.out,(HP2.out.fin _ _).2⟩
     ·have HF:=Lib.hid (EL HX.out Bq.out K1.out K2.out (Or.inr (Or.inr (Or.inr (Or.inr (by rw [hsg];exact hm))))))
      have q1:=NM hm
      clear hm
      go_wp2_with (first
       | (go_at_call 114;refine (Fb (v1) v2 _ ⟨by omega,by omega⟩ ⟨by omega,by omega⟩).mono ?_;rintro e w3 ⟨rfl,hb3⟩;have HP2:=Lib.hid ((PF.new H2.out.bel H2.out.res (v1) v2).on hb3);clear hb3)
       | (go_at_call 125;refine (EE _).mono ?_;rintro e w4 ⟨rfl,hb4⟩;have HP3:=Lib.hid (HP2.out.on hb4);obtain ⟨r0,r1,k0,k1,y0,y1⟩:=HP3.out.cells;clear hb4))
      exact BQ rfl rfl rfl (HP3.out.fin _ _).1 ⟨HF.out,(HP3.out.fin _ _).2⟩
set_option maxRecDepth 100000 in
set_option maxHeartbeats 16000000 in
theorem AA0 (X:List UInt8) (c:UInt8) (r:List UInt8) (h45:c≠45) (w:World) (hn:X.length≤1099511627776) (hX:X≠sp.over) (hXe:X=c :: r) (top low:List UInt8) (hBd:Ad X=top++47 :: low) (h47:(47:UInt8)∉top) (hc:Cut X top low true):Calls Tryz.prog 98 #[.string (AA X)] w fun e w'=>Cb X e∧Below w.heap.size w w':=by
 have hs:((AA X).toList==[111,118,101,114])=false:=AL hX
 have HX:=Lib.hid hX;have Bq:=Lib.hid hc
 have e1:(AA X).toList.isEmpty=false:=by rw [hXe,Lib.toList_data,CY];rfl
 have e0:0<(AA X).size:=by rw [Aa,hXe];simp
 have ei:∀p,(AA X)[0]'p=c:=by rw [hXe];exact fun p=>rfl
 have t45:((c.toNat:Int)==45)=false:=Bo c 45 h45
 have EC:Hid (¬X.head?=some 45):=Lib.hid (by rw [hXe];simpa using h45)
 have hbx:AA X=AA (Ad X):=by unfold Ad;rw [if_neg EC.out]
 obtain ⟨Bd,hB⟩:∃Bd,Bd=Ad X:=⟨_,rfl⟩
 have hlb:Bd.length≤1099511627776:=by rw [hB];exact NP hn
 rw [←hB] at hbx hBd
 rw [hbx]
 rw [hbx] at hs e1 e0 ei
 have hsz:(AA Bd).size=Bd.length:=Aa Bd
 have HLB:=Lib.hid hlb
 have H0:Hid (R0 w (w.alloc (.cells #[.int .i64 0,.int .i64 0] 24))):=Lib.hid ⟨AX _ _,AZ w _⟩
 have hlen:=congrArg List.length hBd
 rw [List.length_append,List.length_cons] at hlen
 have HLT:Hid (top.length≤1099511627776):=Lib.hid (by omega)
 have HLL:Hid (low.length≤1099511627776):=Lib.hid (by omega)
 have H47:=Lib.hid h47;have HBD:=Lib.hid hBd;have HLEN:=Lib.hid hlen
 clear hn hX hc hXe hB hlb h47 hBd hlen
 go_enter Tryz.func98,Tryz.ntmps98
 go_wp2
 go_loopw [6,7,8,31] (fun a b c i wr=>a=.string (AA Bd)∧b=.string ⟨#[49]⟩∧c=.bool false∧∃k:Nat,k≤top.length∧i=.int .i64 k∧wr=w.alloc (.cells #[.int .i64 0,.int .i64 0] 24)) (fun _ _ _ i _=>Bd.length-(intOf i).toNat)
 case atStart=>exact ⟨rfl,rfl,rfl,0,Nat.zero_le _,rfl,rfl⟩
 case round =>
  obtain ⟨rfl,rfl,rfl,k,hk,rfl,rfl⟩:=hrel
  have hkl:k<Bd.length:=by have:=HLEN.out;omega
  have hkb:(k:Int)≤1099511627776:=by have:=HLT.out;omega
  have t0:decide ((k:Int)<(Bd.length:Int))=true:=by simp;omega
  by_cases hke:k=top.length
  ·have ei2:∀q,(AA Bd)[k]'q=47:=by rw [hke];exact VN HBD.out
   have ex1:(AA Bd).extract 0 k=AA top:=by rw [Qk Bd k (by omega),HBD.out,hke];simp
   have ex2:(AA Bd).extract (k+1) Bd.length=AA low:=by rw [Je Bd (k+1) _ (by omega) rfl,HBD.out,hke];simp
   have hk1:(k:Int)≤(Bd.length:Int):=by omega
   have hk2:(k:Int)+1≤(Bd.length:Int):=by omega
   clear hke hk
   go_wp2
   go_quiet (fail)
   have HC1:=Lib.hid (fun W=>count_any top W HLT.out)
   have HC2:Hid (∀W,Calls Tryz.prog 126 #[.string (AA low)] W fun e w'=>Jh low e∧Below W.heap.size W w'):=Lib.hid (fun W=>count_any low W HLL.out)
   go_wp2_with (first
    | (have hgd:=HC1;clear hgd;go_at_call 126;refine (HC1.out _).mono ?_;rintro e w1 ⟨⟨v1,ok1,rfl,k1⟩,hb1⟩;refine Hid.out ?_))
   refine Lib.hid ?_
   have K1:=Lib.hid k1;have H1:=Lib.hid ((H0.out.drew _).on hb1)
   clear k1 hb1 HC1
   go_wp2_with (first
    | (go_at_call 126;refine (HC2.out _).mono ?_;rintro e w2 ⟨⟨v2,ok2,rfl,k2⟩,hb2⟩;refine Hid.out ?_))
   refine Lib.hid ?_
   have K2:=Lib.hid k2;have H2:=Lib.hid (H1.out.on hb2)
   clear k2 hb2 HC2
   cases ok1 with
   | false =>
    have HF:=Lib.hid (EL HX.out Bq.out K1.out K2.out (Or.inl rfl))
    go_wp2_with (first
     | (go_at_call 125;refine (EE _).mono ?_;rintro e w3 ⟨rfl,hb3⟩;have H3:=Lib.hid (H2.out.on hb3);obtain ⟨d0,d1,z0,z1⟩:=H3.out.cells;clear hb3))
    exact BQ rfl rfl rfl (H3.out.fin _ _).1 ⟨HF.out,(H3.out.fin _ _).2⟩
   | true =>
    cases ok2 with
    | false =>
     have HF:=Lib.hid (EL HX.out Bq.out K1.out K2.out (Or.inr (Or.inl rfl)))
     go_wp2_with (first
      | (go_at_call 125;refine (EE _).mono ?_;rintro e w3 ⟨rfl,hb3⟩;have H3:=Lib.hid (H2.out.on hb3);obtain ⟨d0,d1,z0,z1⟩:=H3.out.cells;clear hb3))
     exact BQ rfl rfl rfl (H3.out.fin _ _).1 ⟨HF.out,(H3.out.fin _ _).2⟩
    | true =>
     have hr1:=K1.out.1.2
     have hr2:=K2.out.1.2
     have hp1:0≤v1:=by have:=K1.out.2;rw [if_pos rfl] at this;exact this.2
     have hp2:0≤v2:=by have:=K2.out.2;rw [if_pos rfl] at this;exact this.2
     have hsg:CV X v1=v1:=by unfold CV;rw [if_neg EC.out]
     by_cases h2:v2<2
     ·have HF:=Lib.hid (EL HX.out Bq.out K1.out K2.out (Or.inr (Or.inr (Or.inl ⟨rfl,h2⟩))))
      have t2:decide (v2<2)=true:=by simpa using h2
      go_wp2_with (first
       | (go_at_call 125;refine (EE _).mono ?_;rintro e w3 ⟨rfl,hb3⟩;have H3:=Lib.hid (H2.out.on hb3);obtain ⟨d0,d1,z0,z1⟩:=H3.out.cells;clear hb3))
      exact BQ rfl rfl rfl (H3.out.fin _ _).1 ⟨HF.out,(H3.out.fin _ _).2⟩
     ·have t2:decide (v2<2)=false:=by simpa using h2
      by_cases hm:sp.BM (v1) v2
      ·have HF:=Lib.hid (NK HX.out Bq.out K1.out K2.out (fun _=>by omega) (fun h=>absurd h EC.out) (by rw [hsg];exact hm))
       rw [hsg] at HF
       have q1:=NL hm
       clear hm
       go_wp2_with (first
        | (go_at_call 114;refine (Fb (v1) v2 _ ⟨by omega,by omega⟩ ⟨by omega,by omega⟩).mono ?_;rintro e w3 ⟨rfl,hb3⟩;have HP2:=Lib.hid ((PF.new H2.out.bel H2.out.res (v1) v2).on hb3);obtain ⟨r0,r1,k0,k1,y0,y1⟩:=HP2.out.cells;clear hb3))
       exact BQ rfl rfl rfl (HP2.out.fin _ _).1 ⟨HF.out,(HP2.out.fin _ _).2⟩
      ·have HF:=Lib.hid (EL HX.out Bq.out K1.out K2.out (Or.inr (Or.inr (Or.inr (Or.inr (by rw [hsg];exact hm))))))
       have q1:=NM hm
       clear hm
       go_wp2_with (first
        | (go_at_call 114;refine (Fb (v1) v2 _ ⟨by omega,by omega⟩ ⟨by omega,by omega⟩).mono ?_;rintro e w3 ⟨rfl,hb3⟩;have HP2:=Lib.hid ((PF.new H2.out.bel H2.out.res (v1) v2).on hb3);clear hb3)
        | (go_at_call 125;refine (EE _).mono ?_;rintro e w4 ⟨rfl,hb4⟩;have HP3:=Lib.hid (HP2.out.on hb4);obtain ⟨r0,r1,k0,k1,y0,y1⟩:=HP3.out.cells;clear hb4))
       exact BQ rfl rfl rfl (HP3.out.fin _ _).1 ⟨HF.out,(HP3.out.fin _ _).2⟩
  ·have ht:k<top.length:=by omega
   have hat:=Jd hkl
   have hne:Bd.getD k 0≠47:=fun e=>H47.out (by
    have h1:Bd.getD k 0=top[k]:=by rw [Ef hkl];simp only [HBD.out];rw [List.getElem_append_left ht]
    rw [←e,h1]
    exact List.getElem_mem _)
   generalize Bd.getD k 0=K at hat hne
   have t47:((K.toNat:Int)==47)=false:=Bo K 47 hne
   go_wp2
   exact ⟨⟨rfl,rfl,rfl,k+1,by omega,by go_num,trivial⟩,by simp [intOf];omega⟩
set_option maxRecDepth 100000 in
set_option maxHeartbeats 16000000 in
theorem AA1 (X:List UInt8) (r:List UInt8) (w:World) (hn:X.length≤1099511627776) (hX:X≠sp.over) (hXe:X=45 :: r) (h47:(47:UInt8)∉Ad X) (hc:Cut X (Ad X) [49] false):Calls Tryz.prog 98 #[.string (AA X)] w fun e w'=>Cb X e∧Below w.heap.size w w':=by
 have hs:((AA X).toList==[111,118,101,114])=false:=AL hX
 have HX:=Lib.hid hX;have Bq:=Lib.hid hc
 have e1:(AA X).toList.isEmpty=false:=by rw [hXe,Lib.toList_data,CY];rfl
 have e0:0<(AA X).size:=by rw [Aa,hXe];simp
 have ei:∀p,(AA X)[0]'p=45:=by rw [hXe];exact fun p=>rfl
 have es1:(1:Int)≤(AA X).size:=by rw [Aa,hXe];simp;omega
 have ex:(AA X).extract 1 (AA X).size=AA (Ad X):=by rw [hXe];exact Je (45 :: r) 1 _ (by simp) (Aa _)
 have EC:Hid (X.head?=some 45):=Lib.hid (by rw [hXe];rfl)
 obtain ⟨Bd,hB⟩:∃Bd,Bd=Ad X:=⟨_,rfl⟩
 have hlb:Bd.length≤1099511627776:=by rw [hB];exact NP hn
 rw [←hB] at ex h47 Bq
 generalize hSX:AA X=SX at hs e1 e0 ei es1 ex ⊢
 have hsz:(AA Bd).size=Bd.length:=Aa Bd
 have HLB:=Lib.hid hlb
 have H0:Hid (R0 w (w.alloc (.cells #[.int .i64 0,.int .i64 0] 24))):=Lib.hid ⟨AX _ _,AZ w _⟩
 have HLT:Hid (Bd.length≤1099511627776):=Lib.hid hlb
 have HLL:Hid (([49]:List UInt8).length≤1099511627776):=Lib.hid (by simp)
 have H47:=Lib.hid h47
 clear hn hX hc hXe hB hlb h47
 go_enter Tryz.func98,Tryz.ntmps98
 go_wp2
 go_loopw [6,7,8,31] (fun a b c i wr=>a=.string (AA Bd)∧b=.string ⟨#[49]⟩∧c=.bool false∧∃k:Nat,k≤Bd.length∧i=.int .i64 k∧wr=w.alloc (.cells #[.int .i64 0,.int .i64 0] 24)) (fun _ _ _ i _=>Bd.length-(intOf i).toNat)
 case atStart=>exact ⟨rfl,rfl,rfl,0,Nat.zero_le _,rfl,rfl⟩
 case round =>
  obtain ⟨rfl,rfl,rfl,k,hk,rfl,rfl⟩:=hrel
  have hkb:(k:Int)≤1099511627776:=by have:=HLT.out;omega
  by_cases hkl:k<Bd.length
  ·have t0:decide ((k:Int)<(Bd.length:Int))=true:=by simp;omega
   have hat:=Jd hkl
   have hne:Bd.getD k 0≠47:=fun e=>H47.out (by rw [←e,Ef hkl];exact List.getElem_mem _)
   generalize Bd.getD k 0=K at hat hne
   have t47:((K.toNat:Int)==47)=false:=Bo K 47 hne
   go_wp2
   exact ⟨⟨rfl,rfl,rfl,k+1,by omega,by go_num,trivial⟩,by simp [intOf];omega⟩
  ·have t0:decide ((k:Int)<(Bd.length:Int))=false:=by simp;omega
   have HC1:=Lib.hid (fun W=>count_any Bd W HLT.out)
   have HC2:Hid (∀W,Calls Tryz.prog 126 #[.string ⟨#[49]⟩] W fun e w'=>Jh [49] e∧Below W.heap.size W w'):=Lib.hid (fun W=>count_any [49] W HLL.out)
   go_wp2_with (first
    | (have hgd:=HC1;clear hgd;go_at_call 126;refine (HC1.out _).mono ?_;rintro e w1 ⟨⟨v1,ok1,rfl,k1⟩,hb1⟩;refine Hid.out ?_))
   refine Lib.hid ?_
   have K1:=Lib.hid k1;have H1:=Lib.hid (H0.out.on hb1)
   clear k1 hb1 HC1
   go_wp2_with (first
    | (go_at_call 126;refine (HC2.out _).mono ?_;rintro e w2 ⟨⟨v2,ok2,rfl,k2⟩,hb2⟩;refine Hid.out ?_))
   refine Lib.hid ?_
   have K2:=Lib.hid k2;have H2:=Lib.hid (H1.out.on hb2)
   clear k2 hb2 HC2
   cases ok1 with
   | false =>
    have HF:=Lib.hid (EL HX.out Bq.out K1.out K2.out (Or.inl rfl))
    go_wp2_with (first
     | (go_at_call 125;refine (EE _).mono ?_;rintro e w3 ⟨rfl,hb3⟩;have H3:=Lib.hid (H2.out.on hb3);obtain ⟨d0,d1,z0,z1⟩:=H3.out.cells;clear hb3))
    exact BQ rfl rfl rfl (H3.out.fin _ _).1 ⟨HF.out,(H3.out.fin _ _).2⟩
   | true =>
    cases ok2 with
    | false =>
     have HF:=Lib.hid (EL HX.out Bq.out K1.out K2.out (Or.inr (Or.inl rfl)))
     go_wp2_with (first
      | (go_at_call 125;refine (EE _).mono ?_;rintro e w3 ⟨rfl,hb3⟩;have H3:=Lib.hid (H2.out.on hb3);obtain ⟨d0,d1,z0,z1⟩:=H3.out.cells;clear hb3))
     exact BQ rfl rfl rfl (H3.out.fin _ _).1 ⟨HF.out,(H3.out.fin _ _).2⟩
    | true =>
     have hr1:=K1.out.1.2
     have hr2:=K2.out.1.2
     have hp1:0≤v1:=by have:=K1.out.2;rw [if_pos rfl] at this;exact this.2
     have hp2:0≤v2:=by have:=K2.out.2;rw [if_pos rfl] at this;exact this.2
     have hsg:CV X v1 = -v1:=by unfold CV;rw [if_pos EC.out]
     by_cases hz:v1=0
     ·have HF:=Lib.hid (EL HX.out Bq.out K1.out K2.out (Or.inr (Or.inr (Or.inr (Or.inl ⟨EC.out,hz⟩)))))
      have tz:(v1==0)=true:=by simpa using hz
      go_wp2_with (first
       | (go_at_call 125;refine (EE _).mono ?_;rintro e w3 ⟨rfl,hb3⟩;have H3:=Lib.hid (H2.out.on hb3);obtain ⟨d0,d1,z0,z1⟩:=H3.out.cells;clear hb3))
      exact BQ rfl rfl rfl (H3.out.fin _ _).1 ⟨HF.out,(H3.out.fin _ _).2⟩
     ·have tz:(v1==0)=false:=by simpa using hz
      by_cases hm:sp.BM (-v1) v2
      ·have HF:=Lib.hid (NK HX.out Bq.out K1.out K2.out (fun h=>by cases h) (fun _=>hz) (by rw [hsg];exact hm))
       rw [hsg] at HF
       have q1:=NL hm
       clear hm
       go_wp2_with (first
        | (go_at_call 114;refine (Fb (-v1) v2 _ ⟨by omega,by omega⟩ ⟨by omega,by omega⟩).mono ?_;rintro e w3 ⟨rfl,hb3⟩;have HP2:=Lib.hid ((PF.new H2.out.bel H2.out.res (-v1) v2).on hb3);obtain ⟨r0,r1,k0,k1,y0,y1⟩:=HP2.out.cells;clear hb3))
       exact BQ rfl rfl rfl (HP2.out.fin _ _).1 ⟨HF.out,(HP2.out.fin _ _).2⟩
      ·have HF:=Lib.hid (EL HX.out Bq.out K1.out K2.out (Or.inr (Or.inr (Or.inr (Or.inr (by rw [hsg];exact hm))))))
       have q1:=NM hm
       clear hm
       go_wp2_with (first
        | (go_at_call 114;refine (Fb (-v1) v2 _ ⟨by omega,by omega⟩ ⟨by omega,by omega⟩).mono ?_;rintro e w3 ⟨rfl,hb3⟩;have HP2:=Lib.hid ((PF.new H2.out.bel H2.out.res (-v1) v2).on hb3);clear hb3)
        | (go_at_call 125;refine (EE _).mono ?_;rintro e w4 ⟨rfl,hb4⟩;have HP3:=Lib.hid (HP2.out.on hb4);obtain ⟨r0,r1,k0,k1,y0,y1⟩:=HP3.out.cells;clear hb4))
       exact BQ rfl rfl rfl (HP3.out.fin _ _).1 ⟨HF.out,(HP3.out.fin _ _).2⟩
set_option maxRecDepth 100000 in
set_option maxHeartbeats 16000000 in
theorem AA2 (X:List UInt8) (r:List UInt8) (w:World) (hn:X.length≤1099511627776) (hX:X≠sp.over) (hXe:X=45 :: r) (top low:List UInt8) (hBd:Ad X=top++47 :: low) (h47:(47:UInt8)∉top) (hc:Cut X top low true):Calls Tryz.prog 98 #[.string (AA X)] w fun e w'=>Cb X e∧Below w.heap.size w w':=by
 have hs:((AA X).toList==[111,118,101,114])=false:=AL hX
 have HX:=Lib.hid hX;have Bq:=Lib.hid hc
 have e1:(AA X).toList.isEmpty=false:=by rw [hXe,Lib.toList_data,CY];rfl
 have e0:0<(AA X).size:=by rw [Aa,hXe];simp
 have ei:∀p,(AA X)[0]'p=45:=by rw [hXe];exact fun p=>rfl
 have es1:(1:Int)≤(AA X).size:=by rw [Aa,hXe];simp;omega
 have ex:(AA X).extract 1 (AA X).size=AA (Ad X):=by rw [hXe];exact Je (45 :: r) 1 _ (by simp) (Aa _)
 have EC:Hid (X.head?=some 45):=Lib.hid (by rw [hXe];rfl)
 obtain ⟨Bd,hB⟩:∃Bd,Bd=Ad X:=⟨_,rfl⟩
 have hlb:Bd.length≤1099511627776:=by rw [hB];exact NP hn
 rw [←hB] at ex hBd
 generalize hSX:AA X=SX at hs e1 e0 ei es1 ex ⊢
 have hsz:(AA Bd).size=Bd.length:=Aa Bd
 have HLB:=Lib.hid hlb
 have H0:Hid (R0 w (w.alloc (.cells #[.int .i64 0,.int .i64 0] 24))):=Lib.hid ⟨AX _ _,AZ w _⟩
 have hlen:=congrArg List.length hBd
 rw [List.length_append,List.length_cons] at hlen
 have HLT:Hid (top.length≤1099511627776):=Lib.hid (by omega)
 have HLL:Hid (low.length≤1099511627776):=Lib.hid (by omega)
 have H47:=Lib.hid h47;have HBD:=Lib.hid hBd;have HLEN:=Lib.hid hlen
 clear hn hX hc hXe hB hlb h47 hBd hlen
 go_enter Tryz.func98,Tryz.ntmps98
 go_wp2
 go_loopw [6,7,8,31] (fun a b c i wr=>a=.string (AA Bd)∧b=.string ⟨#[49]⟩∧c=.bool false∧∃k:Nat,k≤top.length∧i=.int .i64 k∧wr=w.alloc (.cells #[.int .i64 0,.int .i64 0] 24)) (fun _ _ _ i _=>Bd.length-(intOf i).toNat)
 case atStart=>exact ⟨rfl,rfl,rfl,0,Nat.zero_le _,rfl,rfl⟩
 case round =>
  obtain ⟨rfl,rfl,rfl,k,hk,rfl,rfl⟩:=hrel
  have hkl:k<Bd.length:=by have:=HLEN.out;omega
  have hkb:(k:Int)≤1099511627776:=by have:=HLT.out;omega
  have t0:decide ((k:Int)<(Bd.length:Int))=true:=by simp;omega
  by_cases hke:k=top.length
  ·have ei2:∀q,(AA Bd)[k]'q=47:=by rw [hke];exact VN HBD.out
   have ex1:(AA Bd).extract 0 k=AA top:=by rw [Qk Bd k (by omega),HBD.out,hke];simp
   have ex2:(AA Bd).extract (k+1) Bd.length=AA low:=by rw [Je Bd (k+1) _ (by omega) rfl,HBD.out,hke];simp
   have hk1:(k:Int)≤(Bd.length:Int):=by omega
   have hk2:(k:Int)+1≤(Bd.length:Int):=by omega
   clear hke hk
   go_wp2
   go_quiet (fail)
   have HC1:=Lib.hid (fun W=>count_any top W HLT.out)
   have HC2:Hid (∀W,Calls Tryz.prog 126 #[.string (AA low)] W fun e w'=>Jh low e∧Below W.heap.size W w'):=Lib.hid (fun W=>count_any low W HLL.out)
   go_wp2_with (first
    | (have hgd:=HC1;clear hgd;go_at_call 126;refine (HC1.out _).mono ?_;rintro e w1 ⟨⟨v1,ok1,rfl,k1⟩,hb1⟩;refine Hid.out ?_))
   refine Lib.hid ?_
   have K1:=Lib.hid k1;have H1:=Lib.hid ((H0.out.drew _).on hb1)
   clear k1 hb1 HC1
   go_wp2_with (first
    | (go_at_call 126;refine (HC2.out _).mono ?_;rintro e w2 ⟨⟨v2,ok2,rfl,k2⟩,hb2⟩;refine Hid.out ?_))
   refine Lib.hid ?_
   have K2:=Lib.hid k2;have H2:=Lib.hid (H1.out.on hb2)
   clear k2 hb2 HC2
   cases ok1 with
   | false =>
    have HF:=Lib.hid (EL HX.out Bq.out K1.out K2.out (Or.inl rfl))
    go_wp2_with (first
     | (go_at_call 125;refine (EE _).mono ?_;rintro e w3 ⟨rfl,hb3⟩;have H3:=Lib.hid (H2.out.on hb3);obtain ⟨d0,d1,z0,z1⟩:=H3.out.cells;clear hb3))
    exact BQ rfl rfl rfl (H3.out.fin _ _).1 ⟨HF.out,(H3.out.fin _ _).2⟩
   | true =>
    cases ok2 with
    | false =>
     have HF:=Lib.hid (EL HX.out Bq.out K1.out K2.out (Or.inr (Or.inl rfl)))
     go_wp2_with (first
      | (go_at_call 125;refine (EE _).mono ?_;rintro e w3 ⟨rfl,hb3⟩;have H3:=Lib.hid (H2.out.on hb3);obtain ⟨d0,d1,z0,z1⟩:=H3.out.cells;clear hb3))
     exact BQ rfl rfl rfl (H3.out.fin _ _).1 ⟨HF.out,(H3.out.fin _ _).2⟩
    | true =>
     have hr1:=K1.out.1.2
     have hr2:=K2.out.1.2
     have hp1:0≤v1:=by have:=K1.out.2;rw [if_pos rfl] at this;exact this.2
     have hp2:0≤v2:=by have:=K2.out.2;rw [if_pos rfl] at this;exact this.2
     have hsg:CV X v1 = -v1:=by unfold CV;rw [if_pos EC.out]
     by_cases h2:v2<2
     ·have HF:=Lib.hid (EL HX.out Bq.out K1.out K2.out (Or.inr (Or.inr (Or.inl ⟨rfl,h2⟩))))
      have t2:decide (v2<2)=true:=by simpa using h2
      go_wp2_with (first
       | (go_at_call 125;refine (EE _).mono ?_;rintro e w3 ⟨rfl,hb3⟩;have H3:=Lib.hid (H2.out.on hb3);obtain ⟨d0,d1,z0,z1⟩:=H3.out.cells;clear hb3))
      exact BQ rfl rfl rfl (H3.out.fin _ _).1 ⟨HF.out,(H3.out.fin _ _).2⟩
     ·have t2:decide (v2<2)=false:=by simpa using h2
      by_cases hz:v1=0
      ·have HF:=Lib.hid (EL HX.out Bq.out K1.out K2.out (Or.inr (Or.inr (Or.inr (Or.inl ⟨EC.out,hz⟩)))))
       have tz:(v1==0)=true:=by simpa using hz
       go_wp2_with (first
        | (go_at_call 125;refine (EE _).mono ?_;rintro e w3 ⟨rfl,hb3⟩;have H3:=Lib.hid (H2.out.on hb3);obtain ⟨d0,d1,z0,z1⟩:=H3.out.cells;clear hb3))
       exact BQ rfl rfl rfl (H3.out.fin _ _).1 ⟨HF.out,(H3.out.fin _ _).2⟩
      ·have tz:(v1==0)=false:=by simpa using hz
       by_cases hm:sp.BM (-v1) v2
       ·have HF:=Lib.hid (NK HX.out Bq.out K1.out K2.out (fun _=>by omega) (fun _=>hz) (by rw [hsg];exact hm))
        rw [hsg] at HF
        have q1:=NL hm
        clear hm
        go_wp2_with (first
         | (go_at_call 114;refine (Fb (-v1) v2 _ ⟨by omega,by omega⟩ ⟨by omega,by omega⟩).mono ?_;rintro e w3 ⟨rfl,hb3⟩;have HP2:=Lib.hid ((PF.new H2.out.bel H2.out.res (-v1) v2).on hb3);obtain ⟨r0,r1,k0,k1,y0,y1⟩:=HP2.out.cells;clear hb3))
        exact BQ rfl rfl rfl (HP2.out.fin _ _).1 ⟨HF.out,(HP2.out.fin _ _).2⟩
       ·have HF:=Lib.hid (EL HX.out Bq.out K1.out K2.out (Or.inr (Or.inr (Or.inr (Or.inr (by rw [hsg];exact hm))))))
        have q1:=NM hm
        clear hm
        go_wp2_with (first
         | (go_at_call 114;refine (Fb (-v1) v2 _ ⟨by omega,by omega⟩ ⟨by omega,by omega⟩).mono ?_;rintro e w3 ⟨rfl,hb3⟩;have HP2:=Lib.hid ((PF.new H2.out.bel H2.out.res (-v1) v2).on hb3);clear hb3)
         | (go_at_call 125;refine (EE _).mono ?_;rintro e w4 ⟨rfl,hb4⟩;have HP3:=Lib.hid (HP2.out.on hb4);obtain ⟨r0,r1,k0,k1,y0,y1⟩:=HP3.out.cells;clear hb4))
        exact BQ rfl rfl rfl (HP3.out.fin _ _).1 ⟨HF.out,(HP3.out.fin _ _).2⟩
  ·have ht:k<top.length:=by omega
   have hat:=Jd hkl
   have hne:Bd.getD k 0≠47:=fun e=>H47.out (by
    have h1:Bd.getD k 0=top[k]:=by rw [Ef hkl];simp only [HBD.out];rw [List.getElem_append_left ht]
    rw [←e,h1]
    exact List.getElem_mem _)
   generalize Bd.getD k 0=K at hat hne
   have t47:((K.toNat:Int)==47)=false:=Bo K 47 hne
   go_wp2
   exact ⟨⟨rfl,rfl,rfl,k+1,by omega,by go_num,trivial⟩,by simp [intOf];omega⟩
set_option maxRecDepth 100000 in
set_option maxHeartbeats 4000000 in
theorem AA3 (X:List UInt8) (w:World) (hX:X=sp.over):Calls Tryz.prog 98 #[.string (AA X)] w fun e w'=>Cb X e∧Below w.heap.size w w':=by
 have hs:=str_eq hX
 have HF:Hid (Cb X (.returned (.tuple #[.agg #[.int .i64 0,.int .i64 0],.int .i64 0]))):=Lib.hid (by unfold Cb;rw [hX,Yv])
 have H2:Hid (R0 w (w.alloc (.cells #[.int .i64 0,.int .i64 0] 24))):=Lib.hid ⟨AX _ _,AZ w _⟩
 clear hX
 go_enter Tryz.func98,Tryz.ntmps98
 go_wp2_with (first
  | (go_at_call 125;refine (EE _).mono ?_;rintro e w3 ⟨rfl,hb3⟩;have H3:=Lib.hid (H2.out.on hb3);obtain ⟨d0,d1,z0,z1⟩:=H3.out.cells;clear hb3))
 exact BQ rfl rfl rfl (H3.out.fin _ _).1 ⟨HF.out,(H3.out.fin _ _).2⟩
theorem AA4 (X:List UInt8) (w:World) (hn:X.length≤1099511627776):Calls Tryz.prog 98 #[.string (AA X)] w fun e w'=>Cb X e∧Below w.heap.size w w':=by
 by_cases hX:X=sp.over
 ·exact AA3 X w hX
 rcases AAv X with ⟨h47,hc⟩ | ⟨top,low,hB,h47,hc⟩
 ·match hXe:X with
  | []=>exact AAx [] w hn hX rfl h47 hc
  | c :: r =>
   by_cases h45:c=45
   ·subst h45;exact AA1 _ r w hn hX rfl h47 hc
   ·exact AAz _ c r h45 w hn hX rfl h47 hc
 ·match hXe:X with
  | []=>exact AAy [] w hn hX rfl top low hB h47 hc
  | c :: r =>
   by_cases h45:c=45
   ·subst h45;exact AA2 _ r w hn hX rfl top low hB h47 hc
   ·exact AA0 _ c r h45 w hn hX rfl top low hB h47 hc
theorem Zg:(Tryz.prog.info? 110).map (·.size)=some 2:=by kernel_rfl
theorem Zh {w1:World} {g:Nat} {x y:Value} {T:TypeId} (h:w1.heap[g]?=some (.cells #[x,y] T (0,0))) (a b:Value):((w1.setCell ⟨g,0,none⟩ a).setCell ⟨g,1,none⟩ b).heap[g]?=some (.cells #[a,b] T (0,0)):=by
 have:=D9 (D9 h 0 a) 1 b
 simpa using this
set_option maxRecDepth 100000 in
theorem Zi {W:World} {g:Nat} {a b:Value} {fn:Func} {tmps:Array Value} {R:Ending→World→Prop} (hr:fn.results=#[.cell 2 110]) (hp:tmps.getD 2 undef=.pointer (some ⟨g,0,none⟩)) (hg:W.heap[g]?=some (.cells #[a,b] 110 (0,0)))
  (h:R (.returned (.agg #[a,b])) W):bodyPost Tryz.prog fn R .ret ⟨tmps,[]⟩ W :=
 bodyPost_ret (results_cell_row hr tmps W g 110 #[a,b] (0,0) _ hp hg Tryz.underlying110 rfl Zg) rfl h
structure RdR (w:World) (b g n cap:Nat) (r:List (List UInt8×Bool)) (bad:Bool) (W:World):Prop where
 blk:W.heap[b]?=some (.cells #[.slice (some ⟨g,0,none⟩) n cap,.int .i64 ((n-r.length:Nat):Int),.bool bad] 78 (0,0))
 len:r.length≤n
 words:W.rangeAt g (2*(n-r.length)) (Dc r)
 glt:g<W.heap.size
 ne:g≠b
 blt:b<w.heap.size
 fr:Fr w W b none
 n63:n≤1099511627776
 short:∀p∈r,p.1.length≤1099511627776
section
variable {w W W':World} {b g n cap:Nat} {r:List (List UInt8×Bool)} {bad:Bool} {x:List UInt8×Bool}
theorem RdR.on (h:RdR w b g n cap r bad W) (hb:Below W.heap.size W W'):RdR w b g n cap r bad W' :=
 ⟨(hb.block _ (lt_of_block h.blk)).trans h.blk,h.len,KU hb h.glt h.words,by have:=hb.size;have:=h.glt;omega,h.ne,h.blt,h.fr.trans (Fr.of_below hb) (Own.refl _ _),h.n63,h.short⟩
theorem RdR.base (h:RdR w b g n cap r bad W):RdR W b g n cap r bad W:={ h with blt:=lt_of_block h.blk,fr:=Fr.refl _ _ _ }
theorem RdR.back {w0:World} (h:RdR w0 b g n cap r bad w) {r':List (List UInt8×Bool)} {bad':Bool} (h2:RdR w b g n cap r' bad' W):RdR w0 b g n cap r' bad' W:={ h2 with blt:=h.blt,fr:=h.fr.trans h2.fr (Own.refl _ _) }
theorem RdR.c0 (h:RdR w b g n cap r bad W):W.cell? ⟨b,0,none⟩=some (.slice (some ⟨g,0,none⟩) n cap):=Am h.blk 0 _ rfl
theorem RdR.c1 (h:RdR w b g n cap r bad W) {k:Int} (hk:((n-r.length:Nat):Int)=k):W.cell? ⟨b,1,none⟩=some (.int .i64 k):=hk ▸ Am h.blk 1 _ rfl
theorem RdR.c2 (h:RdR w b g n cap r bad W):W.cell? ⟨b,2,none⟩=some (.bool bad):=Am h.blk 2 _ rfl
theorem RdR.z (h:RdR w b g n cap r bad W) (k:Nat):W.frozen? ⟨b,k,none⟩=false:=Ag h.blk k
theorem RdR.Bi (h:RdR w b g n cap r bad W) (bad':Bool):RdR w b g n cap r bad' (W.setCell ⟨b,2,none⟩ (.bool bad')) :=
 ⟨D9 h.blk 2 _,h.len,G5 h.words h.ne 2 _,by simpa using h.glt,h.ne,h.blt,h.fr.trans (Fr.set 2 _) (Own.refl _ _),h.n63,h.short⟩
theorem RdR.step (h:RdR w b g n cap (x :: r) bad W) {k:Int} (hk:((n-r.length:Nat):Int)=k):RdR w b g n cap r bad (W.setCell ⟨b,1,none⟩ (.int .i64 k)) :=
 ⟨by rw [hk];exact D9 h.blk 1 _,by have:=h.len;simp at this;omega,G5 (fun j u hu=>by
   have:=h.words (2+j) u (by rw [show Dc (x :: r)=.string (AA x.1) :: .bool x.2 :: Dc r from rfl,Nat.add_comm 2 j];exact hu)
   have hl:=h.len
   simp only [List.length_cons] at this hl
   rw [show 2*(n-r.length)+j=2*(n-(r.length+1))+(2+j) by omega]
   exact this) h.ne 1 _,by simpa using h.glt,h.ne,h.blt,h.fr.trans (Fr.set 1 _) (Own.refl _ _),h.n63,fun p hp=>h.short p (List.mem_cons_of_mem _ hp)⟩
theorem RdR.drew (h:RdR w b g n cap r bad W) (k:Nat):RdR w b g n cap r bad (W.drewN k):={ h with fr:=⟨h.fr.os,h.fr.tape,h.fr.output,h.fr.size,h.fr.block⟩ }
theorem RdR.other (h:RdR w b g n cap r bad W) {m:Nat} (hm:m≠b) (hg:m≠g) (hw:w.heap.size≤m) (k:Nat) (v:Value):RdR w b g n cap r bad (W.setCell ⟨m,k,none⟩ v) :=
 ⟨(Below.heap_setCell _ _ _ _ (Ne.symm hm)).trans h.blk,h.len,G5 h.words (Ne.symm hg) k v,by simpa using h.glt,h.ne,h.blt,⟨h.fr.os,h.fr.tape,h.fr.output,by simpa using h.fr.size,fun j hj hb ho=>(Below.heap_setCell _ _ _ _ (show j≠m by omega)).trans (h.fr.block j hj hb ho)⟩,h.n63,h.short⟩
theorem RdR.word (h:RdR w b g n cap (x :: r) bad W) {o:Nat} (ho:o=2*(n-(r.length+1))):W.rangeAt g o [.string (AA x.1),.bool x.2]:=fun j u hu=>by
 subst ho
 refine h.words j u ?_
 match j,hu with
 | 0,hu=>exact hu
 | 1,hu=>exact hu
end
def AC:List (List UInt8×Bool)→List UInt8×Bool
 | []=>([],false)
 | x :: _=>x
theorem AA5 {s:World} {g o:Nat} {x y:Value} (h:s.rangeAt g o [x,y]) {ev:Operand→Value} {op:Oper} {z:Operand} (ho:op.op=.load 110 z) (hx:ev z=.pointer (some ⟨g,o,none⟩)):(execOp ev op).run Tryz.prog s=Result.ok (Next.value (.agg #[x,y])) s:=by
 have e:=run_loadVar_mid (P:=Tryz.prog) s g o 110 [x,y] _ h Tryz.underlying110 rfl Zg
 unfold execOp
 simp only [ho,hx,Instr.loadAt,Instr.sureAddr,Sem.run_bind,Sem.run_pure,Result.andThen_ok,e]
set_option maxRecDepth 100000 in
set_option maxHeartbeats 4000000 in
theorem AA6 (w0 w:World) (b g n cap:Nat) (bad:Bool) (h:RdR w0 b g n cap [] bad w):Calls Tryz.prog 96 #[.pointer (some ⟨b,0,none⟩)] w fun e w'=>e=.returned (.agg #[.string (AA []),.bool false])∧RdR w0 b g n cap [] true w':=by
 have hbl:=lt_of_block h.blk
 have H1:=Lib.hid (h.on (AZ w (.cells #[.string ⟨#[]⟩,.bool false] 110)))
 have c0:=H1.out.c0
 have c1:=H1.out.c1 (k:=n) rfl
 have c2:=H1.out.c2
 have z2:=H1.out.z 2
 have hge:((n:Int)≥(n:Int)):=Int.le_refl _
 have HB:=Lib.hid hbl
 have HN:Hid (w.heap.size≠b∧w.heap.size≠g∧w0.heap.size≤w.heap.size):=Lib.hid ⟨by omega,by have:=h.glt;omega,h.fr.size⟩
 clear h hbl
 go_enter Tryz.func96,Tryz.ntmps96
 go_wp2
 go_quiet (fail)
 go_wp2
 have H2:=Lib.hid ((H1.out.drew nq).Bi true)
 have hm:(((w.alloc (.cells #[.string ⟨#[]⟩,.bool false] 110)).drewN nq).setCell ⟨b,2,none⟩ (.bool true)).heap[w.heap.size]?=some (.cells #[.string ⟨#[]⟩,.bool false] 110 (0,0)):=by
  exact (Below.heap_setCell _ _ _ _ HN.out.1).trans (AX _ _)
 refine Zi rfl rfl (Zh hm _ _) ⟨rfl,?_⟩
 exact (H2.out.other HN.out.1 HN.out.2.1 HN.out.2.2 0 _).other HN.out.1 HN.out.2.1 HN.out.2.2 1 _
set_option maxRecDepth 100000 in
set_option maxHeartbeats 4000000 in
theorem AA7 (w0 w:World) (b g n cap:Nat) (x:List UInt8×Bool) (r:List (List UInt8×Bool)) (bad:Bool) (h:RdR w0 b g n cap (x :: r) bad w):Calls Tryz.prog 96 #[.pointer (some ⟨b,0,none⟩)] w fun e w'=>e=.returned (.agg #[.string (AA x.1),.bool x.2])∧RdR w0 b g n cap r bad w':=by
 have hbl:=lt_of_block h.blk
 have HG:Hid (g<w.heap.size):=Lib.hid h.glt
 have H1:=Lib.hid (h.on (AZ w (.cells #[.string ⟨#[]⟩,.bool false] 110)))
 have hl:=h.len
 simp only [List.length_cons] at hl
 obtain ⟨k,hk⟩:∃k:Nat,n-(r.length+1)=k:=⟨_,rfl⟩
 have HK:=Lib.hid hk
 have hkn:k<n:=by omega
 have hge:¬((k:Int)≥(n:Int)):=by omega
 have ACS:¬n≤k:=by omega
 have hn63:(n:Int)≤1099511627776:=by have:=h.n63;omega
 have c0:=H1.out.c0
 have c1:=H1.out.c1 (k:=k) (by simp [hk])
 have z1:=H1.out.z 1
 have HB:=Lib.hid hbl
 have HN:Hid (w.heap.size≠b∧w.heap.size≠g∧w0.heap.size≤w.heap.size):=Lib.hid ⟨by omega,by have:=h.glt;omega,h.fr.size⟩
 have HS:Hid (((n-r.length:Nat):Int)=(k:Int)+1):=Lib.hid (by omega)
 clear h hbl hk hl
 go_enter Tryz.func96,Tryz.ntmps96
 go_wp2
 go_quiet (fail)
 go_wp2
 have H2:=Lib.hid ((H1.out.drew nq).step HS.out)
 have hm:(((w.alloc (.cells #[.string ⟨#[]⟩,.bool false] 110)).drewN nq).setCell ⟨b,1,none⟩ (.int .i64 ((k:Int)+1))).heap[w.heap.size]?=some (.cells #[.string ⟨#[]⟩,.bool false] 110 (0,0)):=(Below.heap_setCell _ _ _ _ HN.out.1).trans (AX _ _)
 have HM:=Lib.hid hm
 have HW:=Lib.hid (G5 ((H1.out.drew nq).word (o:=2*k) (by rw [HK.out])) H1.out.ne 1 (.int .i64 ((k:Int)+1)))
 clear c0 c1 z1 hm H1
 generalize (((w.alloc (.cells #[.string ⟨#[]⟩,.bool false] 110)).drewN nq).setCell ⟨b,1,none⟩ (.int .i64 ((k:Int)+1)))=W3 at H2 HM HW ⊢
 have H4:Hid (RdR w0 b g n cap r bad W3.drew):=Lib.hid (H2.out.drew 1)
 have HM4:Hid (W3.drew.heap[w.heap.size]?=_):=Lib.hid HM.out
 have HW4:Hid (W3.drew.rangeAt g (2*k) _):=Lib.hid HW.out
 refine wp_region_held_drew (S:=fun s=>s.cell? ⟨b,0,none⟩=some (.slice (some ⟨g,0,none⟩) n cap)∧s.cell? ⟨b,1,none⟩=some (.int .i64 ((k:Int)+1))∧s.rangeAt g (2*k) [.string (AA x.1),.bool x.2]) (by kernel_rfl) ⟨H4.out.c0,H4.out.c1 HS.out,HW4.out⟩ (fun hHeld => ?_)
 refine tk 0 (.pointer (some ⟨b,0,none⟩)) rfl hHeld (fun s hs=>by obtain ⟨q0,q1,q2⟩:=hs;go_simp) ?_
 refine tk 1 (.pointer (some ⟨b,0,none⟩)) rfl hHeld (fun s hs=>by obtain ⟨q0,q1,q2⟩:=hs;go_simp) ?_
 refine tk 2 (.pointer (some ⟨b,0,none⟩)) rfl hHeld (fun s hs=>by obtain ⟨q0,q1,q2⟩:=hs;go_simp) ?_
 refine tk 3 (.slice (some ⟨g,0,none⟩) n cap) rfl hHeld (fun s hs=>by obtain ⟨q0,q1,q2⟩:=hs;go_simp) ?_
 refine tk 4 (.pointer (some ⟨b,0,none⟩)) rfl hHeld (fun s hs=>by obtain ⟨q0,q1,q2⟩:=hs;go_simp) ?_
 refine tk 5 (.pointer (some ⟨b,0,none⟩)) rfl hHeld (fun s hs=>by obtain ⟨q0,q1,q2⟩:=hs;go_simp) ?_
 refine tk 6 (.pointer (some ⟨b,1,none⟩)) rfl hHeld (fun s hs=>by obtain ⟨q0,q1,q2⟩:=hs;go_simp) ?_
 refine tk 7 (.int .i64 ((k:Int)+1)) rfl hHeld (fun s hs=>by obtain ⟨q0,q1,q2⟩:=hs;go_simp) ?_
 refine tk 8 (.int .i64 k) rfl hHeld (fun s hs=>by have hw:IntKind.i64.wrap ((k:Int)+1-1)=(k:Int):=(by rw [Int.add_sub_cancel];exact QG ⟨by omega,by omega⟩);have hw2:IntKind.i64.wrap (k:Int)=(k:Int):=QG ⟨by omega,by omega⟩;go_simp) ?_
 refine tk 9 (.pointer (some ⟨g,2*k,none⟩)) rfl hHeld (fun s hs=>by obtain ⟨q0,q1,q2⟩:=hs;go_simp) ?_
 have HY:∀s:World,s.rangeAt g (2*k) [.string (AA x.1),.bool x.2]→∀(ev:Operand→Value) (op:Oper) (z:Operand),op.op=.load 110 z→ev z=.pointer (some ⟨g,2*k,none⟩)→(execOp ev op).run Tryz.prog s=Result.ok (Next.value (.agg #[.string (AA x.1),.bool x.2])) s:=fun s h ev op z ho hx=>AA5 h ho hx
 refine wpAnyH_take (i:=10) (v:=.agg #[.string (AA x.1),.bool x.2]) rfl (by kernel_rfl) (by kernel_rfl) (by kernel_rfl) (fun _ _ _ h=>h) (Or.inl ⟨by kernel_rfl,fun s hs => ?_⟩) hHeld ?_
 ·have q2:=hs.2.2
  refine HY s q2 _ _ (.tmp 33) ?_ ?_
  ·kernel_rfl
  ·kernel_rfl
 clear HY
 have a0:W3.cell? ⟨w.heap.size,0,none⟩=some (.string ⟨#[]⟩):=Am HM.out 0 _ rfl
 have a1:W3.cell? ⟨w.heap.size,1,none⟩=some (.bool false):=Am HM.out 1 _ rfl
 have y0:=Ag HM.out 0
 have y1:=Ag HM.out 1
 refine AY 11 rfl fun K hK => ?_
 go_simp
 have H5:Hid (RdR w0 b g n cap r bad ((W3.setCell ⟨w.heap.size,0,none⟩ (.string (AA x.1))).setCell ⟨w.heap.size,1,none⟩ (.bool x.2)).drew):=Lib.hid (((H2.out.other HN.out.1 HN.out.2.1 HN.out.2.2 0 _).other HN.out.1 HN.out.2.1 HN.out.2.2 1 _).drew 1)
 have HM5:Hid (((W3.setCell ⟨w.heap.size,0,none⟩ (.string (AA x.1))).setCell ⟨w.heap.size,1,none⟩ (.bool x.2)).drew.heap[w.heap.size]?=some (.cells #[.string (AA x.1),.bool x.2] 110 (0,0))):=Lib.hid (Zh HM.out _ _)
 refine hK _ _ ⟨H5.out.c0,H5.out.c1 HS.out,G5 (G5 HW.out (Ne.symm HN.out.2.1) 0 _) (Ne.symm HN.out.2.1) 1 _⟩ (fun AA8 => ?_)
 clear hK hHeld AA8
 refine wpAnyH_done (by kernel_rfl) ?_ _
 go_wp2
 exact Zi rfl rfl HM5.out ⟨rfl,H5.out⟩
theorem next_any (w0 w:World) (b g n cap:Nat) (r:List (List UInt8×Bool)) (bad:Bool) (h:RdR w0 b g n cap r bad w):Calls Tryz.prog 96 #[.pointer (some ⟨b,0,none⟩)] w fun e w'=>e=.returned (.agg #[.string (AA (AC r).1),.bool (AC r).2])∧RdR w0 b g n cap r.tail (bad||r.isEmpty) w':=by
 match r with
 | []=>exact (AA6 w0 w b g n cap bad h).mono fun e w' q=>⟨q.1,by rw [show (bad||([]:List (List UInt8×Bool)).isEmpty)=true by simp];exact q.2⟩
 | x :: r=>exact (AA7 w0 w b g n cap x r bad h).mono fun e w' q=>⟨q.1,by rw [show (bad||(x :: r).isEmpty)=bad by simp];exact q.2⟩
set_option maxRecDepth 100000 in
set_option maxHeartbeats 4000000 in
theorem FH (w0 w:World) (b g n cap:Nat) (r:List (List UInt8×Bool)) (bad:Bool) (h:RdR w0 b g n cap r bad w):Calls Tryz.prog 64 #[.pointer (some ⟨b,0,none⟩)] w fun e w'=>e=.returned (.string (AA (AC r).1))∧RdR w0 b g n cap r.tail (bad||r.isEmpty||(AC r).2) w':=by
 have hN:=next_any w0 w b g n cap r bad h
 obtain ⟨⟨t,q⟩,hx⟩:∃x,AC r=x:=⟨_,rfl⟩
 rw [hx] at hN ⊢
 obtain ⟨bd,hbd⟩:∃bd,(bad||r.isEmpty)=bd:=⟨_,rfl⟩
 rw [hbd] at hN ⊢
 obtain ⟨rt,hrt⟩:∃rt,r.tail=rt:=⟨_,rfl⟩
 rw [hrt] at hN ⊢
 simp only at hN ⊢
 have HN:=Lib.hid hN
 clear hN h hx hbd hrt
 cases bd with
 | false =>
  cases q with
  | false =>
   show Calls Tryz.prog 64 #[.pointer (some ⟨b,0,none⟩)] w fun e w'=>e=.returned (.string (AA t))∧RdR w0 b g n cap rt false w'
   go_enter Tryz.func64,Tryz.ntmps64
   go_wp2_with (go_at_call 96;refine HN.out.mono ?_;rintro e w1 ⟨rfl,h1⟩;have H1:=Lib.hid (h1.on (AZ w1 (.cells #[.string (AA t),.bool false] 110)));have c2:=H1.out.c2;have z2:=H1.out.z 2;have hne:w1.heap.size≠b:=(Nat.ne_of_gt (lt_of_block h1.blk));clear h1)
   go_ret
   exact ⟨rfl,H1.out.Bi _⟩
  | true =>
   show Calls Tryz.prog 64 #[.pointer (some ⟨b,0,none⟩)] w fun e w'=>e=.returned (.string (AA t))∧RdR w0 b g n cap rt true w'
   go_enter Tryz.func64,Tryz.ntmps64
   go_wp2_with (go_at_call 96;refine HN.out.mono ?_;rintro e w1 ⟨rfl,h1⟩;have H1:=Lib.hid (h1.on (AZ w1 (.cells #[.string (AA t),.bool true] 110)));have c2:=H1.out.c2;have z2:=H1.out.z 2;have hne:w1.heap.size≠b:=(Nat.ne_of_gt (lt_of_block h1.blk));clear h1)
   go_ret
   exact ⟨rfl,H1.out.Bi _⟩
 | true =>
  cases q with
  | false =>
   show Calls Tryz.prog 64 #[.pointer (some ⟨b,0,none⟩)] w fun e w'=>e=.returned (.string (AA t))∧RdR w0 b g n cap rt true w'
   go_enter Tryz.func64,Tryz.ntmps64
   go_wp2_with (go_at_call 96;refine HN.out.mono ?_;rintro e w1 ⟨rfl,h1⟩;have H1:=Lib.hid (h1.on (AZ w1 (.cells #[.string (AA t),.bool false] 110)));have c2:=H1.out.c2;have z2:=H1.out.z 2;have hne:w1.heap.size≠b:=(Nat.ne_of_gt (lt_of_block h1.blk));clear h1)
   go_ret
   exact ⟨rfl,H1.out.Bi _⟩
  | true =>
   show Calls Tryz.prog 64 #[.pointer (some ⟨b,0,none⟩)] w fun e w'=>e=.returned (.string (AA t))∧RdR w0 b g n cap rt true w'
   go_enter Tryz.func64,Tryz.ntmps64
   go_wp2_with (go_at_call 96;refine HN.out.mono ?_;rintro e w1 ⟨rfl,h1⟩;have H1:=Lib.hid (h1.on (AZ w1 (.cells #[.string (AA t),.bool true] 110)));have c2:=H1.out.c2;have z2:=H1.out.z 2;have hne:w1.heap.size≠b:=(Nat.ne_of_gt (lt_of_block h1.blk));clear h1)
   go_ret
   exact ⟨rfl,H1.out.Bi _⟩
set_option maxRecDepth 100000 in
set_option maxHeartbeats 4000000 in
theorem AA9 (w0 w:World) (b g n cap:Nat) (r:List (List UInt8×Bool)) (bad:Bool) (h:RdR w0 b g n cap r bad w):Calls Tryz.prog 66 #[.pointer (some ⟨b,0,none⟩)] w fun e w'=>e=.returned (.string (AA (AC r).1))∧RdR w0 b g n cap r.tail (bad||r.isEmpty || !(AC r).2) w':=by
 have hN:=next_any w0 w b g n cap r bad h
 obtain ⟨⟨t,q⟩,hx⟩:∃x,AC r=x:=⟨_,rfl⟩
 rw [hx] at hN ⊢
 obtain ⟨bd,hbd⟩:∃bd,(bad||r.isEmpty)=bd:=⟨_,rfl⟩
 rw [hbd] at hN ⊢
 obtain ⟨rt,hrt⟩:∃rt,r.tail=rt:=⟨_,rfl⟩
 rw [hrt] at hN ⊢
 simp only at hN ⊢
 have HN:=Lib.hid hN
 clear hN h hx hbd hrt
 cases bd with
 | false =>
  cases q with
  | false =>
   show Calls Tryz.prog 66 #[.pointer (some ⟨b,0,none⟩)] w fun e w'=>e=.returned (.string (AA t))∧RdR w0 b g n cap rt true w'
   go_enter Tryz.func66,Tryz.ntmps66
   go_wp2_with (go_at_call 96;refine HN.out.mono ?_;rintro e w1 ⟨rfl,h1⟩;have H1:=Lib.hid (h1.on (AZ w1 (.cells #[.string (AA t),.bool false] 110)));have c2:=H1.out.c2;have z2:=H1.out.z 2;have hne:w1.heap.size≠b:=(Nat.ne_of_gt (lt_of_block h1.blk));clear h1)
   go_ret
   exact ⟨rfl,H1.out.Bi _⟩
  | true =>
   show Calls Tryz.prog 66 #[.pointer (some ⟨b,0,none⟩)] w fun e w'=>e=.returned (.string (AA t))∧RdR w0 b g n cap rt false w'
   go_enter Tryz.func66,Tryz.ntmps66
   go_wp2_with (go_at_call 96;refine HN.out.mono ?_;rintro e w1 ⟨rfl,h1⟩;have H1:=Lib.hid (h1.on (AZ w1 (.cells #[.string (AA t),.bool true] 110)));have c2:=H1.out.c2;have z2:=H1.out.z 2;have hne:w1.heap.size≠b:=(Nat.ne_of_gt (lt_of_block h1.blk));clear h1)
   go_ret
   exact ⟨rfl,H1.out.Bi _⟩
 | true =>
  cases q with
  | false =>
   show Calls Tryz.prog 66 #[.pointer (some ⟨b,0,none⟩)] w fun e w'=>e=.returned (.string (AA t))∧RdR w0 b g n cap rt true w'
   go_enter Tryz.func66,Tryz.ntmps66
   go_wp2_with (go_at_call 96;refine HN.out.mono ?_;rintro e w1 ⟨rfl,h1⟩;have H1:=Lib.hid (h1.on (AZ w1 (.cells #[.string (AA t),.bool false] 110)));have c2:=H1.out.c2;have z2:=H1.out.z 2;have hne:w1.heap.size≠b:=(Nat.ne_of_gt (lt_of_block h1.blk));clear h1)
   go_ret
   exact ⟨rfl,H1.out.Bi _⟩
  | true =>
   show Calls Tryz.prog 66 #[.pointer (some ⟨b,0,none⟩)] w fun e w'=>e=.returned (.string (AA t))∧RdR w0 b g n cap rt true w'
   go_enter Tryz.func66,Tryz.ntmps66
   go_wp2_with (go_at_call 96;refine HN.out.mono ?_;rintro e w1 ⟨rfl,h1⟩;have H1:=Lib.hid (h1.on (AZ w1 (.cells #[.string (AA t),.bool true] 110)));have c2:=H1.out.c2;have z2:=H1.out.z 2;have hne:w1.heap.size≠b:=(Nat.ne_of_gt (lt_of_block h1.blk));clear h1)
   go_ret
   exact ⟨rfl,H1.out.Bi _⟩
theorem Qv {W:World} {g:Nat} {a b:Value} {fn:Func} {tmps:Array Value} {R:Ending→World→Prop} (hr:fn.results=#[.cell 2 24]) (hp:tmps.getD 2 undef=.pointer (some ⟨g,0,none⟩)) (hg:W.heap[g]?=some (.cells #[a,b] 24 (0,0)))
  (h:R (.returned (.agg #[a,b])) W):bodyPost Tryz.prog fn R .ret ⟨tmps,[]⟩ W :=
 bodyPost_ret (results_cell_row hr tmps W g 24 #[a,b] (0,0) _ hp hg Tryz.underlying24 rfl info24) rfl h
theorem Zj {w W:World} {b g n cap:Nat} {r:List (List UInt8×Bool)} {bad:Bool} (h:RdR w b g n cap r bad W):(AC r).1.length≤1099511627776:=by
 match r,h with
 | [],_=>simp [AC]
 | x :: r,h=>exact h.short x List.mem_cons_self
def LH (t:List UInt8):Int:=match sp.num t with
 | some n=>n
 | none=>0
noncomputable def AO (t:List UInt8):Int×Int:=match sp.Cc t with
 | some p=>p
 | none=>(0,0)
set_option maxRecDepth 100000 in
set_option maxHeartbeats 4000000 in
theorem ABA (w0 w:World) (b g n cap:Nat) (r:List (List UInt8×Bool)) (bad:Bool) (h:RdR w0 b g n cap r bad w):Calls Tryz.prog 65 #[.pointer (some ⟨b,0,none⟩)] w fun e w'=>e=.returned (.int .i64 (LH (AC r).1))∧RdR w0 b g n cap r.tail (bad||r.isEmpty||(AC r).2||(sp.num (AC r).1).isNone) w':=by
 have hN:=FH w0 w b g n cap r bad h
 have hs:=Zj h
 obtain ⟨t,hx⟩:∃t,(AC r).1=t:=⟨_,rfl⟩
 rw [hx] at hN hs ⊢
 obtain ⟨bd,hbd⟩:∃bd,(bad||r.isEmpty||(AC r).2)=bd:=⟨_,rfl⟩
 rw [hbd] at hN ⊢
 obtain ⟨rt,hrt⟩:∃rt,r.tail=rt:=⟨_,rfl⟩
 rw [hrt] at hN ⊢
 have HN:=Lib.hid hN
 have HM:=Lib.hid (fun W=>AAr t W hs)
 clear hN h hx hbd hrt hs
 cases hq:sp.num t with
 | none =>
  have hv:LH t=0:=by unfold LH;rw [hq]
  have hr:FU t=.tuple #[.int .i64 0,.bool false]:=by unfold FU;rw [hq]
  rw [hr] at HM
  rw [hv]
  clear hv hr hq
  cases bd with
  | false =>
   show Calls Tryz.prog 65 #[.pointer (some ⟨b,0,none⟩)] w fun e w'=>e=.returned (.int .i64 0)∧RdR w0 b g n cap rt true w'
   go_enter Tryz.func65,Tryz.ntmps65
   go_wp2_with (first
    | (go_at_call 64;refine HN.out.mono ?_;rintro e w1 ⟨rfl,h1⟩;have H0:=Lib.hid h1;clear h1)
    | (go_at_call 97;refine (HM.out _).mono ?_;rintro e w2 ⟨rfl,hb2⟩;have H1:=Lib.hid (H0.out.on hb2);have c2:=H1.out.c2;have z2:=H1.out.z 2;clear hb2))
   go_ret
   exact ⟨rfl,H1.out.Bi _⟩
  | true =>
   show Calls Tryz.prog 65 #[.pointer (some ⟨b,0,none⟩)] w fun e w'=>e=.returned (.int .i64 0)∧RdR w0 b g n cap rt true w'
   go_enter Tryz.func65,Tryz.ntmps65
   go_wp2_with (first
    | (go_at_call 64;refine HN.out.mono ?_;rintro e w1 ⟨rfl,h1⟩;have H0:=Lib.hid h1;clear h1)
    | (go_at_call 97;refine (HM.out _).mono ?_;rintro e w2 ⟨rfl,hb2⟩;have H1:=Lib.hid (H0.out.on hb2);have c2:=H1.out.c2;have z2:=H1.out.z 2;clear hb2))
   go_ret
   exact ⟨rfl,H1.out.Bi _⟩
 | some m =>
  have hv:LH t=m:=by unfold LH;rw [hq]
  have hr:FU t=.tuple #[.int .i64 m,.bool true]:=by unfold FU;rw [hq]
  rw [hr] at HM
  rw [hv]
  clear hv hr hq
  cases bd with
  | false =>
   show Calls Tryz.prog 65 #[.pointer (some ⟨b,0,none⟩)] w fun e w'=>e=.returned (.int .i64 m)∧RdR w0 b g n cap rt false w'
   go_enter Tryz.func65,Tryz.ntmps65
   go_wp2_with (first
    | (go_at_call 64;refine HN.out.mono ?_;rintro e w1 ⟨rfl,h1⟩;have H0:=Lib.hid h1;clear h1)
    | (go_at_call 97;refine (HM.out _).mono ?_;rintro e w2 ⟨rfl,hb2⟩;have H1:=Lib.hid (H0.out.on hb2);have c2:=H1.out.c2;have z2:=H1.out.z 2;clear hb2))
   go_ret
   exact ⟨rfl,H1.out.Bi _⟩
  | true =>
   show Calls Tryz.prog 65 #[.pointer (some ⟨b,0,none⟩)] w fun e w'=>e=.returned (.int .i64 m)∧RdR w0 b g n cap rt true w'
   go_enter Tryz.func65,Tryz.ntmps65
   go_wp2_with (first
    | (go_at_call 64;refine HN.out.mono ?_;rintro e w1 ⟨rfl,h1⟩;have H0:=Lib.hid h1;clear h1)
    | (go_at_call 97;refine (HM.out _).mono ?_;rintro e w2 ⟨rfl,hb2⟩;have H1:=Lib.hid (H0.out.on hb2);have c2:=H1.out.c2;have z2:=H1.out.z 2;clear hb2))
   go_ret
   exact ⟨rfl,H1.out.Bi _⟩
set_option maxRecDepth 100000 in
set_option maxHeartbeats 4000000 in
theorem FV (w0 w:World) (b g n cap:Nat) (r:List (List UInt8×Bool)) (bad:Bool) (h:RdR w0 b g n cap r bad w):Calls Tryz.prog 67 #[.pointer (some ⟨b,0,none⟩)] w fun e w'=>e=.returned (.agg #[.int .i64 (AO (AC r).1).1,.int .i64 (AO (AC r).1).2])∧RdR w0 b g n cap r.tail (bad||r.isEmpty||(AC r).2||(sp.Cc (AC r).1).isNone) w':=by
 have HB0:=Lib.hid (h.on (AZ w (.cells #[.int .i64 0,.int .i64 0] 24)))
 have HGL:Hid (w.heap.size≠b∧w.heap.size≠g∧w0.heap.size≤w.heap.size∧w.heap.size<(w.alloc (.cells #[.int .i64 0,.int .i64 0] 24)).heap.size):=Lib.hid ⟨Nat.ne_of_gt (lt_of_block h.blk),Nat.ne_of_gt h.glt,h.fr.size,by simp⟩
 have hN:=FH _ _ b g n cap r bad HB0.out.base
 have hs:=Zj h
 obtain ⟨t,hx⟩:∃t,(AC r).1=t:=⟨_,rfl⟩
 rw [hx] at hN hs ⊢
 obtain ⟨bd,hbd⟩:∃bd,(bad||r.isEmpty||(AC r).2)=bd:=⟨_,rfl⟩
 rw [hbd] at hN ⊢
 obtain ⟨rt,hrt⟩:∃rt,r.tail=rt:=⟨_,rfl⟩
 rw [hrt] at hN ⊢
 have HN:=Lib.hid hN
 have HM:=Lib.hid (fun W=>AA4 t W hs)
 have HP:Hid (w0.heap.size≤w.heap.size):=Lib.hid h.fr.size
 clear hN h hx hbd hrt hs
 cases hq:sp.Cc t with
 | none =>
  have hv:AO t=(0,0):=by unfold AO;rw [hq]
  have HR:Hid (∀e,Cb t e→e=.returned (.tuple #[.agg #[.int .i64 0,.int .i64 0],.int .i64 3])):=Lib.hid (fun e he=>by unfold Cb at he;rw [hq] at he;exact he)
  rw [hv]
  clear hv hq
  cases bd with
  | false =>
   show Calls Tryz.prog 67 #[.pointer (some ⟨b,0,none⟩)] w fun e w'=>e=.returned (.agg #[.int .i64 0,.int .i64 0])∧RdR w0 b g n cap rt true w'
   go_enter Tryz.func67,Tryz.ntmps67
   go_wp2_with (first
    | (go_at_call 64;refine HN.out.mono ?_;rintro e w1 ⟨rfl,h1⟩;have H0:=Lib.hid h1;have HM0:=Lib.hid ((h1.fr.block _ HGL.out.2.2.2 HGL.out.1 (by simp)).trans (AX w _));clear h1)
    | (go_at_call 98;refine (HM.out _).mono ?_;rintro e w2 ⟨he,hb2⟩;have he2:=HR.out _ he;clear he;subst he2;have H1:=Lib.hid (H0.out.on (hb2.alloc hb2.size (.cells #[.int .i64 0,.int .i64 0] 24)));have c2:=H1.out.c2;have z2:=H1.out.z 2;have hm2:=Dt w2 (.cells #[.int .i64 0,.int .i64 0] 24) _ ((hb2.block _ (lt_of_block HM0.out)).trans HM0.out);have HM2:=Lib.hid hm2;have d0:=Am hm2 0 _ rfl;have d1:=Am hm2 1 _ rfl;have y0:=Ag hm2 0;have y1:=Ag hm2 1;have n1:=HGL.out.1;clear hb2 hm2))
   have hq2:((w2.alloc (.cells #[.int .i64 0,.int .i64 0] 24)).setCell ⟨b,2,none⟩ (.bool true)).heap[w.heap.size]?=some (.cells #[.int .i64 0,.int .i64 0] 24 (0,0)):=(Below.heap_setCell _ _ _ _ n1).trans HM2.out
   have hr2:=((HB0.out.back (H1.out.Bi true)).other HGL.out.1 HGL.out.2.1 HGL.out.2.2.1 0 (.int .i64 0)).other HGL.out.1 HGL.out.2.1 HGL.out.2.2.1 1 (.int .i64 0)
   exact Qv rfl rfl (Ht hq2 _ _) ⟨rfl,hr2⟩
  | true =>
   show Calls Tryz.prog 67 #[.pointer (some ⟨b,0,none⟩)] w fun e w'=>e=.returned (.agg #[.int .i64 0,.int .i64 0])∧RdR w0 b g n cap rt true w'
   go_enter Tryz.func67,Tryz.ntmps67
   go_wp2_with (first
    | (go_at_call 64;refine HN.out.mono ?_;rintro e w1 ⟨rfl,h1⟩;have H0:=Lib.hid h1;have HM0:=Lib.hid ((h1.fr.block _ HGL.out.2.2.2 HGL.out.1 (by simp)).trans (AX w _));clear h1)
    | (go_at_call 98;refine (HM.out _).mono ?_;rintro e w2 ⟨he,hb2⟩;have he2:=HR.out _ he;clear he;subst he2;have H1:=Lib.hid (H0.out.on (hb2.alloc hb2.size (.cells #[.int .i64 0,.int .i64 0] 24)));have c2:=H1.out.c2;have z2:=H1.out.z 2;have hm2:=Dt w2 (.cells #[.int .i64 0,.int .i64 0] 24) _ ((hb2.block _ (lt_of_block HM0.out)).trans HM0.out);have HM2:=Lib.hid hm2;have d0:=Am hm2 0 _ rfl;have d1:=Am hm2 1 _ rfl;have y0:=Ag hm2 0;have y1:=Ag hm2 1;have n1:=HGL.out.1;clear hb2 hm2))
   have hq2:((w2.alloc (.cells #[.int .i64 0,.int .i64 0] 24)).setCell ⟨b,2,none⟩ (.bool true)).heap[w.heap.size]?=some (.cells #[.int .i64 0,.int .i64 0] 24 (0,0)):=(Below.heap_setCell _ _ _ _ n1).trans HM2.out
   have hr2:=((HB0.out.back (H1.out.Bi true)).other HGL.out.1 HGL.out.2.1 HGL.out.2.2.1 0 (.int .i64 0)).other HGL.out.1 HGL.out.2.1 HGL.out.2.2.1 1 (.int .i64 0)
   exact Qv rfl rfl (Ht hq2 _ _) ⟨rfl,hr2⟩
 | some p =>
  have hv:AO t=p:=by unfold AO;rw [hq]
  have HR:Hid (∀e,Cb t e→e=.returned (.tuple #[.agg #[.int .i64 p.1,.int .i64 p.2],.int .i64 0])):=Lib.hid (fun e he=>by unfold Cb at he;rw [hq] at he;exact he)
  rw [hv]
  clear hv hq
  cases bd with
  | false =>
   show Calls Tryz.prog 67 #[.pointer (some ⟨b,0,none⟩)] w fun e w'=>e=.returned (.agg #[.int .i64 p.1,.int .i64 p.2])∧RdR w0 b g n cap rt false w'
   go_enter Tryz.func67,Tryz.ntmps67
   go_wp2_with (first
    | (go_at_call 64;refine HN.out.mono ?_;rintro e w1 ⟨rfl,h1⟩;have H0:=Lib.hid h1;have HM0:=Lib.hid ((h1.fr.block _ HGL.out.2.2.2 HGL.out.1 (by simp)).trans (AX w _));clear h1)
    | (go_at_call 98;refine (HM.out _).mono ?_;rintro e w2 ⟨he,hb2⟩;have he2:=HR.out _ he;clear he;subst he2;have H1:=Lib.hid (H0.out.on (hb2.alloc hb2.size (.cells #[.int .i64 p.1,.int .i64 p.2] 24)));have c2:=H1.out.c2;have z2:=H1.out.z 2;have hm2:=Dt w2 (.cells #[.int .i64 p.1,.int .i64 p.2] 24) _ ((hb2.block _ (lt_of_block HM0.out)).trans HM0.out);have HM2:=Lib.hid hm2;have d0:=Am hm2 0 _ rfl;have d1:=Am hm2 1 _ rfl;have y0:=Ag hm2 0;have y1:=Ag hm2 1;have n1:=HGL.out.1;clear hb2 hm2))
   have hq2:((w2.alloc (.cells #[.int .i64 p.1,.int .i64 p.2] 24)).setCell ⟨b,2,none⟩ (.bool false)).heap[w.heap.size]?=some (.cells #[.int .i64 0,.int .i64 0] 24 (0,0)):=(Below.heap_setCell _ _ _ _ n1).trans HM2.out
   have hr2:=((HB0.out.back (H1.out.Bi false)).other HGL.out.1 HGL.out.2.1 HGL.out.2.2.1 0 (.int .i64 p.1)).other HGL.out.1 HGL.out.2.1 HGL.out.2.2.1 1 (.int .i64 p.2)
   exact Qv rfl rfl (Ht hq2 _ _) ⟨rfl,hr2⟩
  | true =>
   show Calls Tryz.prog 67 #[.pointer (some ⟨b,0,none⟩)] w fun e w'=>e=.returned (.agg #[.int .i64 p.1,.int .i64 p.2])∧RdR w0 b g n cap rt true w'
   go_enter Tryz.func67,Tryz.ntmps67
   go_wp2_with (first
    | (go_at_call 64;refine HN.out.mono ?_;rintro e w1 ⟨rfl,h1⟩;have H0:=Lib.hid h1;have HM0:=Lib.hid ((h1.fr.block _ HGL.out.2.2.2 HGL.out.1 (by simp)).trans (AX w _));clear h1)
    | (go_at_call 98;refine (HM.out _).mono ?_;rintro e w2 ⟨he,hb2⟩;have he2:=HR.out _ he;clear he;subst he2;have H1:=Lib.hid (H0.out.on (hb2.alloc hb2.size (.cells #[.int .i64 p.1,.int .i64 p.2] 24)));have c2:=H1.out.c2;have z2:=H1.out.z 2;have hm2:=Dt w2 (.cells #[.int .i64 p.1,.int .i64 p.2] 24) _ ((hb2.block _ (lt_of_block HM0.out)).trans HM0.out);have HM2:=Lib.hid hm2;have d0:=Am hm2 0 _ rfl;have d1:=Am hm2 1 _ rfl;have y0:=Ag hm2 0;have y1:=Ag hm2 1;have n1:=HGL.out.1;clear hb2 hm2))
   have hq2:((w2.alloc (.cells #[.int .i64 p.1,.int .i64 p.2] 24)).setCell ⟨b,2,none⟩ (.bool true)).heap[w.heap.size]?=some (.cells #[.int .i64 0,.int .i64 0] 24 (0,0)):=(Below.heap_setCell _ _ _ _ n1).trans HM2.out
   have hr2:=((HB0.out.back (H1.out.Bi true)).other HGL.out.1 HGL.out.2.1 HGL.out.2.2.1 0 (.int .i64 p.1)).other HGL.out.1 HGL.out.2.1 HGL.out.2.2.1 1 (.int .i64 p.2)
   exact Qv rfl rfl (Ht hq2 _ _) ⟨rfl,hr2⟩
theorem Zk {W W':World} {g:Nat} (h:W'.heap[g]?=W.heap[g]?) (k:Nat):W'.cell? ⟨g,k,none⟩=W.cell? ⟨g,k,none⟩:=by unfold World.cell?;rw [h]
theorem RdR.row {w W:World} {b g n cap:Nat} {r:List (List UInt8×Bool)} {bad:Bool} (h:RdR w b g n cap r bad W) {m:Nat} (hm:m≠b) (hg:m≠g) (hw:w.heap.size≤m) (xs:Array Value):RdR w b g n cap r bad (W.setRow m xs) :=
 ⟨(JD xs hm).trans h.blk,h.len,fun j u hu=>(Zk (JD xs hg) _).trans (h.words j u hu),by simpa [World.setRow] using h.glt,h.ne,h.blt,⟨h.fr.os,h.fr.tape,h.fr.output,by simpa [World.setRow] using h.fr.size,fun j hj hb ho=>(JD xs (show m≠j by omega)).trans (h.fr.block j hj hb ho)⟩,h.n63,h.short⟩
structure BxR (w0:World) (m b g n cap:Nat) (cs:Array Value) (r:List (List UInt8×Bool)) (bad:Bool) (W:World):Prop where
 rd:RdR w0 b g n cap r bad W
 res:W.heap[m]?=some (.cells #[.int .i64 0,.string ⟨#[]⟩,.int .i64 0,.int .i64 0,.int .i64 0,.int .i64 0] 26 (0,0))
 loc:W.heap[m+1]?=some (.cells cs 26 (0,0))
 n1:m≠b
 n2:m+1≠b
 n3:m≠g
 n4:m+1≠g
 lo:w0.heap.size≤m
section
variable {w0 W W':World} {m b g n cap:Nat} {cs:Array Value} {r r':List (List UInt8×Bool)} {bad bad':Bool}
theorem BxR.read (h:BxR w0 m b g n cap cs r bad W) (h2:RdR W b g n cap r' bad' W'):BxR w0 m b g n cap cs r' bad' W' :=
 ⟨h.rd.back h2,(h2.fr.block _ (lt_of_block h.res) h.n1 (by simp)).trans h.res,(h2.fr.block _ (lt_of_block h.loc) h.n2 (by simp)).trans h.loc,h.n1,h.n2,h.n3,h.n4,h.lo⟩
theorem BxR.set (h:BxR w0 m b g n cap cs r bad W) (k:Nat) (v:Value):BxR w0 m b g n cap (cs.setIfInBounds k v) r bad (W.setCell ⟨m+1,k,none⟩ v) :=
 ⟨h.rd.other h.n2 h.n4 (by have:=h.lo;omega) k v,(Below.heap_setCell _ _ _ _ (show m≠m+1 by omega)).trans h.res,D9 h.loc k v,h.n1,h.n2,h.n3,h.n4,h.lo⟩
theorem BxR.Bi (h:BxR w0 m b g n cap cs r bad W) (v:Bool):BxR w0 m b g n cap cs r v (W.setCell ⟨b,2,none⟩ (.bool v)) :=
 ⟨h.rd.Bi v,(Below.heap_setCell _ _ _ _ (show m≠b from h.n1)).trans h.res,(Below.heap_setCell _ _ _ _ (show m+1≠b from h.n2)).trans h.loc,h.n1,h.n2,h.n3,h.n4,h.lo⟩
end
section
variable {w0 W W':World} {m b g n cap:Nat} {c0 c1 c2 c3 c4 c5:Value} {r r':List (List UInt8×Bool)} {bad bad':Bool}
theorem BxR.set0 (h:BxR w0 m b g n cap #[c0,c1,c2,c3,c4,c5] r bad W) (v:Value):BxR w0 m b g n cap #[v,c1,c2,c3,c4,c5] r bad (W.setCell ⟨m+1,0,none⟩ v):=by simpa using h.set 0 v
theorem BxR.set1 (h:BxR w0 m b g n cap #[c0,c1,c2,c3,c4,c5] r bad W) (v:Value):BxR w0 m b g n cap #[c0,v,c2,c3,c4,c5] r bad (W.setCell ⟨m+1,1,none⟩ v):=by simpa using h.set 1 v
theorem BxR.ABB (h:BxR w0 m b g n cap #[c0,c1,c2,c3,c4,c5] r bad W) (x y:Value):BxR w0 m b g n cap #[c0,c1,x,y,c4,c5] r bad ((W.setCell ⟨m+1,2,none⟩ x).setCell ⟨m+1,3,none⟩ y):=by simpa using (h.set 2 x).set 3 y
theorem BxR.ABC (h:BxR w0 m b g n cap #[c0,c1,c2,c3,c4,c5] r bad W) (x y:Value):BxR w0 m b g n cap #[c0,c1,c2,c3,x,y] r bad ((W.setCell ⟨m+1,4,none⟩ x).setCell ⟨m+1,5,none⟩ y):=by simpa using (h.set 4 x).set 5 y
end
theorem Zl {W:World} {g:Nat} {cs:Array Value} {t:TypeId} (h:W.heap[g]?=some (.cells cs t (0,0))) {o k:Nat} (hk:o+k≤cs.size):W.there g o k:=fun j hj=>by
 have hc:W.cell? ⟨g,o+j,none⟩=some (cs[o+j]'(by omega)):=Am h _ _ (Array.getElem?_eq_getElem (by omega))
 exact ⟨by rw [hc];rfl,Ag h _⟩
section
variable {ops:Array Oper} {rest:List Oper} {op:Oper} {a:Act} {Q:Exit→Act→World→Prop} {w0 W:World} {m b g n cap:Nat} {c0 c1 c2 c3 c4 c5:Value} {r:List (List UInt8×Bool)} {bad:Bool}
theorem Ji (hgd:op.guard=none) (x y:Operand) (hop:op.op=.store 24 x y) (H:BxR w0 m b g n cap #[c0,c1,c2,c3,c4,c5] r bad W) (p q:Int) (hx:a.eval x=.pointer (some ⟨m+1,2,none⟩)) (hy:a.eval y=.agg #[.int .i64 p,.int .i64 q])
  (h:∀W',BxR w0 m b g n cap #[c0,c1,.int .i64 p,.int .i64 q,c4,c5] r bad W'→wpList Tryz.prog ops Q rest (a.put op.dst undef) W'):wpList Tryz.prog ops Q (op :: rest) a W :=
 wpList_store_mid hgd 24 x y hop (m+1) 2 _ hx hy (Zl H.loc (show 2+2≤6 by decide)) info24 (by simp [Value.oneCell']) (h _ (H.ABB _ _))
theorem Jj (hgd:op.guard=none) (x y:Operand) (hop:op.op=.store 24 x y) (H:BxR w0 m b g n cap #[c0,c1,c2,c3,c4,c5] r bad W) (p q:Int) (hx:a.eval x=.pointer (some ⟨m+1,4,none⟩)) (hy:a.eval y=.agg #[.int .i64 p,.int .i64 q])
  (h:∀W',BxR w0 m b g n cap #[c0,c1,c2,c3,.int .i64 p,.int .i64 q] r bad W'→wpList Tryz.prog ops Q rest (a.put op.dst undef) W'):wpList Tryz.prog ops Q (op :: rest) a W :=
 wpList_store_mid hgd 24 x y hop (m+1) 4 _ hx hy (Zl H.loc (show 4+2≤6 by decide)) info24 (by simp [Value.oneCell']) (h _ (H.ABC _ _))
end
theorem BxR.start {w0 w:World} {b g n cap:Nat} {r:List (List UInt8×Bool)} {bad:Bool} (h:RdR w0 b g n cap r bad w):BxR w0 w.heap.size b g n cap #[.int .i64 0,.string ⟨#[]⟩,.int .i64 0,.int .i64 0,.int .i64 0,.int .i64 0] r bad ((w.alloc (.cells #[.int .i64 0,.string ⟨#[]⟩,.int .i64 0,.int .i64 0,.int .i64 0,.int .i64 0] 26)).alloc (.cells #[.int .i64 0,.string ⟨#[]⟩,.int .i64 0,.int .i64 0,.int .i64 0,.int .i64 0] 26)):=by
 have h1:=AX w (.cells #[.int .i64 0,.string ⟨#[]⟩,.int .i64 0,.int .i64 0,.int .i64 0,.int .i64 0] 26)
 have h2:=AX (w.alloc (.cells #[.int .i64 0,.string ⟨#[]⟩,.int .i64 0,.int .i64 0,.int .i64 0,.int .i64 0] 26)) (.cells #[.int .i64 0,.string ⟨#[]⟩,.int .i64 0,.int .i64 0,.int .i64 0,.int .i64 0] 26)
 have e1:(w.alloc (.cells #[.int .i64 0,.string ⟨#[]⟩,.int .i64 0,.int .i64 0,.int .i64 0,.int .i64 0] 26)).heap.size=w.heap.size+1:=by simp
 rw [e1] at h2
 have hb:=lt_of_block h.blk
 have hg:=h.glt
 exact ⟨h.on ((AZ w _).alloc (by simp) _),Dt _ _ _ h1,h2,by omega,by omega,by omega,by omega,h.fr.size⟩
def Jk (bt:Int) (bn:List UInt8) (p q:Int×Int):Array Value:=#[.int .i64 bt,.string (AA bn),.int .i64 p.1,.int .i64 p.2,.int .i64 q.1,.int .i64 q.2]
theorem FW:(Tryz.prog.info? 26).map (·.size)=some 6:=by kernel_rfl
theorem Jl {W:World} {g:Nat} {cs:Array Value} {fn:Func} {tmps:Array Value} {R:Ending→World→Prop} (hr:fn.results=#[.cell 2 26]) (hp:tmps.getD 2 undef=.pointer (some ⟨g,0,none⟩)) (hg:W.heap[g]?=some (.cells cs 26 (0,0))) (hc:cs.size=6)
  (h:R (.returned (.agg cs)) W):bodyPost Tryz.prog fn R .ret ⟨tmps,[]⟩ W :=
 bodyPost_ret (results_cell_row hr tmps W g 26 cs (0,0) _ hp hg Tryz.underlying26 rfl (by rw [hc];exact FW)) rfl h
set_option maxRecDepth 100000 in
set_option maxHeartbeats 4000000 in
theorem ABD (w0 w:World) (b g n cap:Nat) (r:List (List UInt8×Bool)) (bad:Bool) (h:RdR w0 b g n cap r bad w) (h1:(AC r).1=sp.Gv) (hd:(AC r.tail).1 = [45]):Calls Tryz.prog 68 #[.pointer (some ⟨b,0,none⟩)] w fun e w'=>e=.returned (.agg (Jk 0 [] (AO (AC r.tail.tail).1) (AO (AC r.tail.tail.tail).1)))∧RdR w0 b g n cap r.tail.tail.tail.tail ((bad||r.isEmpty||(AC r).2)||r.tail.isEmpty||(AC r.tail).2||r.tail.tail.isEmpty||(AC r.tail.tail).2||(sp.Cc (AC r.tail.tail).1).isNone||r.tail.tail.tail.isEmpty||(AC r.tail.tail.tail).2||(sp.Cc (AC r.tail.tail.tail).1).isNone) w':=by
 have H0:=Lib.hid (BxR.start h)
 have HC1:=Lib.hid (FH _ _ b g n cap r bad H0.out.rd.base)
 have s0:((AA (AC r).1).toList==[110,111,110,101])=true:=str_eq h1
 have sd:((AA (AC r.tail).1).toList==[45])=true:=str_eq hd
 clear h hd h1
 generalize hT1:(AC r).1=t1 at HC1 s0
 generalize hT2:(AC r.tail).1=t2 at sd ⊢
 have HT2:=Lib.hid hT2
 clear hT1 hT2
 go_enter Tryz.func68,Tryz.ntmps68
 go_wp2_with (first
  | (have hgd:=HC1;clear hgd;go_at_call 64;refine HC1.out.mono ?_;rintro e w1 ⟨rfl,h1⟩;have H1:=Lib.hid (H0.out.read h1);have l0:=Am H1.out.loc 0 _ rfl;have f0:=Ag H1.out.loc 0;have c2:=H1.out.rd.c2;have z2:=H1.out.rd.z 2;have HQ:=Lib.hid (H1.out);clear h1 HC1)
  | (have hgd:=HQ;clear hgd;go_at_call 64;refine (FH _ _ b g n cap _ _ HQ.out.rd.base).mono ?_;rw [HT2.out];rintro e w2 ⟨rfl,h2⟩;have H2:=Lib.hid (HQ.out.read h2);have l1:=Am H2.out.loc 1 (.string ⟨#[]⟩) rfl;have f1:=Ag H2.out.loc 1;have HP:=Lib.hid ((H2.out.set1 (.string (AA t2))).set1 (.string ⟨#[]⟩));clear h2 HQ)
  | (have hgd:=HP;clear hgd;go_at_call 67;refine (FV _ _ b g n cap _ _ HP.out.rd.base).mono ?_;rintro e w3 ⟨rfl,h3⟩;have H3:=Lib.hid (HP.out.read h3);clear h3 HP)
  | (have hgd:=H3;clear hgd;go_at_call 67;refine (FV _ _ b g n cap _ _ H3.out.rd.base).mono ?_;rintro e w4 ⟨rfl,h4⟩;have H4:=Lib.hid (H3.out.read h4);clear h4 H3)
  | (have hgd:=H4;clear hgd;refine Ji rfl _ _ rfl H4.out (AO (AC r.tail.tail).1).1 (AO (AC r.tail.tail).1).2 rfl rfl ?_;intro w5 h5;have H5:=Lib.hid h5;clear h5 H4)
  | (have hgd:=H5;clear hgd;refine Jj rfl _ _ rfl H5.out (AO (AC r.tail.tail.tail).1).1 (AO (AC r.tail.tail.tail).1).2 rfl rfl ?_;intro w6 h6;have H6:=Lib.hid h6;clear h6 H5)
  | (have hgd:=H6;clear hgd;refine wpList_load_row rfl 26 _ rfl (w.heap.size+1) rfl 26 #[.int .i64 0,.string ⟨#[]⟩,.int .i64 (AO (AC r.tail.tail).1).1,.int .i64 (AO (AC r.tail.tail).1).2,.int .i64 (AO (AC r.tail.tail.tail).1).1,.int .i64 (AO (AC r.tail.tail.tail).1).2] (0,0) _ H6.out.loc Tryz.underlying26 rfl FW ?_)
  | (have hgd:=H6;clear hgd;refine wpList_store_row rfl 26 _ _ rfl w.heap.size #[.int .i64 0,.string ⟨#[]⟩,.int .i64 (AO (AC r.tail.tail).1).1,.int .i64 (AO (AC r.tail.tail).1).2,.int .i64 (AO (AC r.tail.tail.tail).1).1,.int .i64 (AO (AC r.tail.tail.tail).1).2] rfl rfl 26 _ H6.out.res FW rfl (by simp [Value.oneCell']) ?_))
 exact Jl (cs:=#[.int .i64 0,.string ⟨#[]⟩,.int .i64 (AO (AC r.tail.tail).1).1,.int .i64 (AO (AC r.tail.tail).1).2,.int .i64 (AO (AC r.tail.tail.tail).1).1,.int .i64 (AO (AC r.tail.tail.tail).1).2]) rfl rfl (Ee H6.out.res _) rfl ⟨rfl,H6.out.rd.row H6.out.n1 H6.out.n3 H6.out.lo _⟩
set_option maxRecDepth 100000 in
set_option maxHeartbeats 4000000 in
theorem ABE (w0 w:World) (b g n cap:Nat) (r:List (List UInt8×Bool)) (bad:Bool) (h:RdR w0 b g n cap r bad w) (h1:(AC r).1=sp.Gv) (hd:(AC r.tail).1≠[45]):Calls Tryz.prog 68 #[.pointer (some ⟨b,0,none⟩)] w fun e w'=>e=.returned (.agg (Jk 0 (AC r.tail).1 (AO (AC r.tail.tail).1) (AO (AC r.tail.tail.tail).1)))∧RdR w0 b g n cap r.tail.tail.tail.tail ((bad||r.isEmpty||(AC r).2)||r.tail.isEmpty||(AC r.tail).2||r.tail.tail.isEmpty||(AC r.tail.tail).2||(sp.Cc (AC r.tail.tail).1).isNone||r.tail.tail.tail.isEmpty||(AC r.tail.tail.tail).2||(sp.Cc (AC r.tail.tail.tail).1).isNone) w':=by
 have H0:=Lib.hid (BxR.start h)
 have HC1:=Lib.hid (FH _ _ b g n cap r bad H0.out.rd.base)
 have s0:((AA (AC r).1).toList==[110,111,110,101])=true:=str_eq h1
 have sd:((AA (AC r.tail).1).toList==[45])=false:=AL hd
 clear h hd h1
 generalize hT1:(AC r).1=t1 at HC1 s0
 generalize hT2:(AC r.tail).1=t2 at sd ⊢
 have HT2:=Lib.hid hT2
 clear hT1 hT2
 go_enter Tryz.func68,Tryz.ntmps68
 go_wp2_with (first
  | (have hgd:=HC1;clear hgd;go_at_call 64;refine HC1.out.mono ?_;rintro e w1 ⟨rfl,h1⟩;have H1:=Lib.hid (H0.out.read h1);have l0:=Am H1.out.loc 0 _ rfl;have f0:=Ag H1.out.loc 0;have c2:=H1.out.rd.c2;have z2:=H1.out.rd.z 2;have HQ:=Lib.hid (H1.out);clear h1 HC1)
  | (have hgd:=HQ;clear hgd;go_at_call 64;refine (FH _ _ b g n cap _ _ HQ.out.rd.base).mono ?_;rw [HT2.out];rintro e w2 ⟨rfl,h2⟩;have H2:=Lib.hid (HQ.out.read h2);have l1:=Am H2.out.loc 1 (.string ⟨#[]⟩) rfl;have f1:=Ag H2.out.loc 1;have HP:=Lib.hid (H2.out.set1 (.string (AA t2)));clear h2 HQ)
  | (have hgd:=HP;clear hgd;go_at_call 67;refine (FV _ _ b g n cap _ _ HP.out.rd.base).mono ?_;rintro e w3 ⟨rfl,h3⟩;have H3:=Lib.hid (HP.out.read h3);clear h3 HP)
  | (have hgd:=H3;clear hgd;go_at_call 67;refine (FV _ _ b g n cap _ _ H3.out.rd.base).mono ?_;rintro e w4 ⟨rfl,h4⟩;have H4:=Lib.hid (H3.out.read h4);clear h4 H3)
  | (have hgd:=H4;clear hgd;refine Ji rfl _ _ rfl H4.out (AO (AC r.tail.tail).1).1 (AO (AC r.tail.tail).1).2 rfl rfl ?_;intro w5 h5;have H5:=Lib.hid h5;clear h5 H4)
  | (have hgd:=H5;clear hgd;refine Jj rfl _ _ rfl H5.out (AO (AC r.tail.tail.tail).1).1 (AO (AC r.tail.tail.tail).1).2 rfl rfl ?_;intro w6 h6;have H6:=Lib.hid h6;clear h6 H5)
  | (have hgd:=H6;clear hgd;refine wpList_load_row rfl 26 _ rfl (w.heap.size+1) rfl 26 #[.int .i64 0,.string (AA t2),.int .i64 (AO (AC r.tail.tail).1).1,.int .i64 (AO (AC r.tail.tail).1).2,.int .i64 (AO (AC r.tail.tail.tail).1).1,.int .i64 (AO (AC r.tail.tail.tail).1).2] (0,0) _ H6.out.loc Tryz.underlying26 rfl FW ?_)
  | (have hgd:=H6;clear hgd;refine wpList_store_row rfl 26 _ _ rfl w.heap.size #[.int .i64 0,.string (AA t2),.int .i64 (AO (AC r.tail.tail).1).1,.int .i64 (AO (AC r.tail.tail).1).2,.int .i64 (AO (AC r.tail.tail.tail).1).1,.int .i64 (AO (AC r.tail.tail.tail).1).2] rfl rfl 26 _ H6.out.res FW rfl (by simp [Value.oneCell']) ?_))
 exact Jl (cs:=#[.int .i64 0,.string (AA t2),.int .i64 (AO (AC r.tail.tail).1).1,.int .i64 (AO (AC r.tail.tail).1).2,.int .i64 (AO (AC r.tail.tail.tail).1).1,.int .i64 (AO (AC r.tail.tail.tail).1).2]) rfl rfl (Ee H6.out.res _) rfl ⟨rfl,H6.out.rd.row H6.out.n1 H6.out.n3 H6.out.lo _⟩
set_option maxRecDepth 100000 in
set_option maxHeartbeats 4000000 in
theorem ABF (w0 w:World) (b g n cap:Nat) (r:List (List UInt8×Bool)) (bad:Bool) (h:RdR w0 b g n cap r bad w) (h1:(AC r).1=sp.Gw) (hd:(AC r.tail).1 = [45]):Calls Tryz.prog 68 #[.pointer (some ⟨b,0,none⟩)] w fun e w'=>e=.returned (.agg (Jk 1 [] (AO (AC r.tail.tail).1) (AO (AC r.tail.tail.tail).1)))∧RdR w0 b g n cap r.tail.tail.tail.tail ((bad||r.isEmpty||(AC r).2)||r.tail.isEmpty||(AC r.tail).2||r.tail.tail.isEmpty||(AC r.tail.tail).2||(sp.Cc (AC r.tail.tail).1).isNone||r.tail.tail.tail.isEmpty||(AC r.tail.tail.tail).2||(sp.Cc (AC r.tail.tail.tail).1).isNone) w':=by
 have H0:=Lib.hid (BxR.start h)
 have HC1:=Lib.hid (FH _ _ b g n cap r bad H0.out.rd.base)
 have s0:((AA (AC r).1).toList==[110,111,110,101])=false:=AL (by rw [h1];decide)
 have s1:((AA (AC r).1).toList==[105,110,108,105,110,101])=true:=str_eq h1
 have sd:((AA (AC r.tail).1).toList==[45])=true:=str_eq hd
 clear h hd h1
 generalize hT1:(AC r).1=t1 at HC1 s0 s1
 generalize hT2:(AC r.tail).1=t2 at sd ⊢
 have HT2:=Lib.hid hT2
 clear hT1 hT2
 go_enter Tryz.func68,Tryz.ntmps68
 go_wp2_with (first
  | (have hgd:=HC1;clear hgd;go_at_call 64;refine HC1.out.mono ?_;rintro e w1 ⟨rfl,h1⟩;have H1:=Lib.hid (H0.out.read h1);have l0:=Am H1.out.loc 0 _ rfl;have f0:=Ag H1.out.loc 0;have c2:=H1.out.rd.c2;have z2:=H1.out.rd.z 2;have HQ:=Lib.hid (H1.out.set0 (.int .i64 1));clear h1 HC1)
  | (have hgd:=HQ;clear hgd;go_at_call 64;refine (FH _ _ b g n cap _ _ HQ.out.rd.base).mono ?_;rw [HT2.out];rintro e w2 ⟨rfl,h2⟩;have H2:=Lib.hid (HQ.out.read h2);have l1:=Am H2.out.loc 1 (.string ⟨#[]⟩) rfl;have f1:=Ag H2.out.loc 1;have HP:=Lib.hid ((H2.out.set1 (.string (AA t2))).set1 (.string ⟨#[]⟩));clear h2 HQ)
  | (have hgd:=HP;clear hgd;go_at_call 67;refine (FV _ _ b g n cap _ _ HP.out.rd.base).mono ?_;rintro e w3 ⟨rfl,h3⟩;have H3:=Lib.hid (HP.out.read h3);clear h3 HP)
  | (have hgd:=H3;clear hgd;go_at_call 67;refine (FV _ _ b g n cap _ _ H3.out.rd.base).mono ?_;rintro e w4 ⟨rfl,h4⟩;have H4:=Lib.hid (H3.out.read h4);clear h4 H3)
  | (have hgd:=H4;clear hgd;refine Ji rfl _ _ rfl H4.out (AO (AC r.tail.tail).1).1 (AO (AC r.tail.tail).1).2 rfl rfl ?_;intro w5 h5;have H5:=Lib.hid h5;clear h5 H4)
  | (have hgd:=H5;clear hgd;refine Jj rfl _ _ rfl H5.out (AO (AC r.tail.tail.tail).1).1 (AO (AC r.tail.tail.tail).1).2 rfl rfl ?_;intro w6 h6;have H6:=Lib.hid h6;clear h6 H5)
  | (have hgd:=H6;clear hgd;refine wpList_load_row rfl 26 _ rfl (w.heap.size+1) rfl 26 #[.int .i64 1,.string ⟨#[]⟩,.int .i64 (AO (AC r.tail.tail).1).1,.int .i64 (AO (AC r.tail.tail).1).2,.int .i64 (AO (AC r.tail.tail.tail).1).1,.int .i64 (AO (AC r.tail.tail.tail).1).2] (0,0) _ H6.out.loc Tryz.underlying26 rfl FW ?_)
  | (have hgd:=H6;clear hgd;refine wpList_store_row rfl 26 _ _ rfl w.heap.size #[.int .i64 1,.string ⟨#[]⟩,.int .i64 (AO (AC r.tail.tail).1).1,.int .i64 (AO (AC r.tail.tail).1).2,.int .i64 (AO (AC r.tail.tail.tail).1).1,.int .i64 (AO (AC r.tail.tail.tail).1).2] rfl rfl 26 _ H6.out.res FW rfl (by simp [Value.oneCell']) ?_))
 exact Jl (cs:=#[.int .i64 1,.string ⟨#[]⟩,.int .i64 (AO (AC r.tail.tail).1).1,.int .i64 (AO (AC r.tail.tail).1).2,.int .i64 (AO (AC r.tail.tail.tail).1).1,.int .i64 (AO (AC r.tail.tail.tail).1).2]) rfl rfl (Ee H6.out.res _) rfl ⟨rfl,H6.out.rd.row H6.out.n1 H6.out.n3 H6.out.lo _⟩
set_option maxRecDepth 100000 in
set_option maxHeartbeats 4000000 in
theorem ABG (w0 w:World) (b g n cap:Nat) (r:List (List UInt8×Bool)) (bad:Bool) (h:RdR w0 b g n cap r bad w) (h1:(AC r).1=sp.Gw) (hd:(AC r.tail).1≠[45]):Calls Tryz.prog 68 #[.pointer (some ⟨b,0,none⟩)] w fun e w'=>e=.returned (.agg (Jk 1 (AC r.tail).1 (AO (AC r.tail.tail).1) (AO (AC r.tail.tail.tail).1)))∧RdR w0 b g n cap r.tail.tail.tail.tail ((bad||r.isEmpty||(AC r).2)||r.tail.isEmpty||(AC r.tail).2||r.tail.tail.isEmpty||(AC r.tail.tail).2||(sp.Cc (AC r.tail.tail).1).isNone||r.tail.tail.tail.isEmpty||(AC r.tail.tail.tail).2||(sp.Cc (AC r.tail.tail.tail).1).isNone) w':=by
 have H0:=Lib.hid (BxR.start h)
 have HC1:=Lib.hid (FH _ _ b g n cap r bad H0.out.rd.base)
 have s0:((AA (AC r).1).toList==[110,111,110,101])=false:=AL (by rw [h1];decide)
 have s1:((AA (AC r).1).toList==[105,110,108,105,110,101])=true:=str_eq h1
 have sd:((AA (AC r.tail).1).toList==[45])=false:=AL hd
 clear h hd h1
 generalize hT1:(AC r).1=t1 at HC1 s0 s1
 generalize hT2:(AC r.tail).1=t2 at sd ⊢
 have HT2:=Lib.hid hT2
 clear hT1 hT2
 go_enter Tryz.func68,Tryz.ntmps68
 go_wp2_with (first
  | (have hgd:=HC1;clear hgd;go_at_call 64;refine HC1.out.mono ?_;rintro e w1 ⟨rfl,h1⟩;have H1:=Lib.hid (H0.out.read h1);have l0:=Am H1.out.loc 0 _ rfl;have f0:=Ag H1.out.loc 0;have c2:=H1.out.rd.c2;have z2:=H1.out.rd.z 2;have HQ:=Lib.hid (H1.out.set0 (.int .i64 1));clear h1 HC1)
  | (have hgd:=HQ;clear hgd;go_at_call 64;refine (FH _ _ b g n cap _ _ HQ.out.rd.base).mono ?_;rw [HT2.out];rintro e w2 ⟨rfl,h2⟩;have H2:=Lib.hid (HQ.out.read h2);have l1:=Am H2.out.loc 1 (.string ⟨#[]⟩) rfl;have f1:=Ag H2.out.loc 1;have HP:=Lib.hid (H2.out.set1 (.string (AA t2)));clear h2 HQ)
  | (have hgd:=HP;clear hgd;go_at_call 67;refine (FV _ _ b g n cap _ _ HP.out.rd.base).mono ?_;rintro e w3 ⟨rfl,h3⟩;have H3:=Lib.hid (HP.out.read h3);clear h3 HP)
  | (have hgd:=H3;clear hgd;go_at_call 67;refine (FV _ _ b g n cap _ _ H3.out.rd.base).mono ?_;rintro e w4 ⟨rfl,h4⟩;have H4:=Lib.hid (H3.out.read h4);clear h4 H3)
  | (have hgd:=H4;clear hgd;refine Ji rfl _ _ rfl H4.out (AO (AC r.tail.tail).1).1 (AO (AC r.tail.tail).1).2 rfl rfl ?_;intro w5 h5;have H5:=Lib.hid h5;clear h5 H4)
  | (have hgd:=H5;clear hgd;refine Jj rfl _ _ rfl H5.out (AO (AC r.tail.tail.tail).1).1 (AO (AC r.tail.tail.tail).1).2 rfl rfl ?_;intro w6 h6;have H6:=Lib.hid h6;clear h6 H5)
  | (have hgd:=H6;clear hgd;refine wpList_load_row rfl 26 _ rfl (w.heap.size+1) rfl 26 #[.int .i64 1,.string (AA t2),.int .i64 (AO (AC r.tail.tail).1).1,.int .i64 (AO (AC r.tail.tail).1).2,.int .i64 (AO (AC r.tail.tail.tail).1).1,.int .i64 (AO (AC r.tail.tail.tail).1).2] (0,0) _ H6.out.loc Tryz.underlying26 rfl FW ?_)
  | (have hgd:=H6;clear hgd;refine wpList_store_row rfl 26 _ _ rfl w.heap.size #[.int .i64 1,.string (AA t2),.int .i64 (AO (AC r.tail.tail).1).1,.int .i64 (AO (AC r.tail.tail).1).2,.int .i64 (AO (AC r.tail.tail.tail).1).1,.int .i64 (AO (AC r.tail.tail.tail).1).2] rfl rfl 26 _ H6.out.res FW rfl (by simp [Value.oneCell']) ?_))
 exact Jl (cs:=#[.int .i64 1,.string (AA t2),.int .i64 (AO (AC r.tail.tail).1).1,.int .i64 (AO (AC r.tail.tail).1).2,.int .i64 (AO (AC r.tail.tail.tail).1).1,.int .i64 (AO (AC r.tail.tail.tail).1).2]) rfl rfl (Ee H6.out.res _) rfl ⟨rfl,H6.out.rd.row H6.out.n1 H6.out.n3 H6.out.lo _⟩
set_option maxRecDepth 100000 in
set_option maxHeartbeats 4000000 in
theorem ABH (w0 w:World) (b g n cap:Nat) (r:List (List UInt8×Bool)) (bad:Bool) (h:RdR w0 b g n cap r bad w) (h1:(AC r).1=sp.Gx) (hd:(AC r.tail).1 = [45]):Calls Tryz.prog 68 #[.pointer (some ⟨b,0,none⟩)] w fun e w'=>e=.returned (.agg (Jk 2 [] (AO (AC r.tail.tail).1) (AO (AC r.tail.tail.tail).1)))∧RdR w0 b g n cap r.tail.tail.tail.tail ((bad||r.isEmpty||(AC r).2)||r.tail.isEmpty||(AC r.tail).2||r.tail.tail.isEmpty||(AC r.tail.tail).2||(sp.Cc (AC r.tail.tail).1).isNone||r.tail.tail.tail.isEmpty||(AC r.tail.tail.tail).2||(sp.Cc (AC r.tail.tail.tail).1).isNone) w':=by
 have H0:=Lib.hid (BxR.start h)
 have HC1:=Lib.hid (FH _ _ b g n cap r bad H0.out.rd.base)
 have s0:((AA (AC r).1).toList==[110,111,110,101])=false:=AL (by rw [h1];decide)
 have s1:((AA (AC r).1).toList==[105,110,108,105,110,101])=false:=AL (by rw [h1];decide)
 have s2:((AA (AC r).1).toList==[115,105,122,101])=true:=str_eq h1
 have sd:((AA (AC r.tail).1).toList==[45])=true:=str_eq hd
 clear h hd h1
 generalize hT1:(AC r).1=t1 at HC1 s0 s1 s2
 generalize hT2:(AC r.tail).1=t2 at sd ⊢
 have HT2:=Lib.hid hT2
 clear hT1 hT2
 go_enter Tryz.func68,Tryz.ntmps68
 go_wp2_with (first
  | (have hgd:=HC1;clear hgd;go_at_call 64;refine HC1.out.mono ?_;rintro e w1 ⟨rfl,h1⟩;have H1:=Lib.hid (H0.out.read h1);have l0:=Am H1.out.loc 0 _ rfl;have f0:=Ag H1.out.loc 0;have c2:=H1.out.rd.c2;have z2:=H1.out.rd.z 2;have HQ:=Lib.hid (H1.out.set0 (.int .i64 2));clear h1 HC1)
  | (have hgd:=HQ;clear hgd;go_at_call 64;refine (FH _ _ b g n cap _ _ HQ.out.rd.base).mono ?_;rw [HT2.out];rintro e w2 ⟨rfl,h2⟩;have H2:=Lib.hid (HQ.out.read h2);have l1:=Am H2.out.loc 1 (.string ⟨#[]⟩) rfl;have f1:=Ag H2.out.loc 1;have HP:=Lib.hid ((H2.out.set1 (.string (AA t2))).set1 (.string ⟨#[]⟩));clear h2 HQ)
  | (have hgd:=HP;clear hgd;go_at_call 67;refine (FV _ _ b g n cap _ _ HP.out.rd.base).mono ?_;rintro e w3 ⟨rfl,h3⟩;have H3:=Lib.hid (HP.out.read h3);clear h3 HP)
  | (have hgd:=H3;clear hgd;go_at_call 67;refine (FV _ _ b g n cap _ _ H3.out.rd.base).mono ?_;rintro e w4 ⟨rfl,h4⟩;have H4:=Lib.hid (H3.out.read h4);clear h4 H3)
  | (have hgd:=H4;clear hgd;refine Ji rfl _ _ rfl H4.out (AO (AC r.tail.tail).1).1 (AO (AC r.tail.tail).1).2 rfl rfl ?_;intro w5 h5;have H5:=Lib.hid h5;clear h5 H4)
  | (have hgd:=H5;clear hgd;refine Jj rfl _ _ rfl H5.out (AO (AC r.tail.tail.tail).1).1 (AO (AC r.tail.tail.tail).1).2 rfl rfl ?_;intro w6 h6;have H6:=Lib.hid h6;clear h6 H5)
  | (have hgd:=H6;clear hgd;refine wpList_load_row rfl 26 _ rfl (w.heap.size+1) rfl 26 #[.int .i64 2,.string ⟨#[]⟩,.int .i64 (AO (AC r.tail.tail).1).1,.int .i64 (AO (AC r.tail.tail).1).2,.int .i64 (AO (AC r.tail.tail.tail).1).1,.int .i64 (AO (AC r.tail.tail.tail).1).2] (0,0) _ H6.out.loc Tryz.underlying26 rfl FW ?_)
  | (have hgd:=H6;clear hgd;refine wpList_store_row rfl 26 _ _ rfl w.heap.size #[.int .i64 2,.string ⟨#[]⟩,.int .i64 (AO (AC r.tail.tail).1).1,.int .i64 (AO (AC r.tail.tail).1).2,.int .i64 (AO (AC r.tail.tail.tail).1).1,.int .i64 (AO (AC r.tail.tail.tail).1).2] rfl rfl 26 _ H6.out.res FW rfl (by simp [Value.oneCell']) ?_))
 exact Jl (cs:=#[.int .i64 2,.string ⟨#[]⟩,.int .i64 (AO (AC r.tail.tail).1).1,.int .i64 (AO (AC r.tail.tail).1).2,.int .i64 (AO (AC r.tail.tail.tail).1).1,.int .i64 (AO (AC r.tail.tail.tail).1).2]) rfl rfl (Ee H6.out.res _) rfl ⟨rfl,H6.out.rd.row H6.out.n1 H6.out.n3 H6.out.lo _⟩
set_option maxRecDepth 100000 in
set_option maxHeartbeats 4000000 in
theorem ABJ (w0 w:World) (b g n cap:Nat) (r:List (List UInt8×Bool)) (bad:Bool) (h:RdR w0 b g n cap r bad w) (h1:(AC r).1=sp.Gx) (hd:(AC r.tail).1≠[45]):Calls Tryz.prog 68 #[.pointer (some ⟨b,0,none⟩)] w fun e w'=>e=.returned (.agg (Jk 2 (AC r.tail).1 (AO (AC r.tail.tail).1) (AO (AC r.tail.tail.tail).1)))∧RdR w0 b g n cap r.tail.tail.tail.tail ((bad||r.isEmpty||(AC r).2)||r.tail.isEmpty||(AC r.tail).2||r.tail.tail.isEmpty||(AC r.tail.tail).2||(sp.Cc (AC r.tail.tail).1).isNone||r.tail.tail.tail.isEmpty||(AC r.tail.tail.tail).2||(sp.Cc (AC r.tail.tail.tail).1).isNone) w':=by
 have H0:=Lib.hid (BxR.start h)
 have HC1:=Lib.hid (FH _ _ b g n cap r bad H0.out.rd.base)
 have s0:((AA (AC r).1).toList==[110,111,110,101])=false:=AL (by rw [h1];decide)
 have s1:((AA (AC r).1).toList==[105,110,108,105,110,101])=false:=AL (by rw [h1];decide)
 have s2:((AA (AC r).1).toList==[115,105,122,101])=true:=str_eq h1
 have sd:((AA (AC r.tail).1).toList==[45])=false:=AL hd
 clear h hd h1
 generalize hT1:(AC r).1=t1 at HC1 s0 s1 s2
 generalize hT2:(AC r.tail).1=t2 at sd ⊢
 have HT2:=Lib.hid hT2
 clear hT1 hT2
 go_enter Tryz.func68,Tryz.ntmps68
 go_wp2_with (first
  | (have hgd:=HC1;clear hgd;go_at_call 64;refine HC1.out.mono ?_;rintro e w1 ⟨rfl,h1⟩;have H1:=Lib.hid (H0.out.read h1);have l0:=Am H1.out.loc 0 _ rfl;have f0:=Ag H1.out.loc 0;have c2:=H1.out.rd.c2;have z2:=H1.out.rd.z 2;have HQ:=Lib.hid (H1.out.set0 (.int .i64 2));clear h1 HC1)
  | (have hgd:=HQ;clear hgd;go_at_call 64;refine (FH _ _ b g n cap _ _ HQ.out.rd.base).mono ?_;rw [HT2.out];rintro e w2 ⟨rfl,h2⟩;have H2:=Lib.hid (HQ.out.read h2);have l1:=Am H2.out.loc 1 (.string ⟨#[]⟩) rfl;have f1:=Ag H2.out.loc 1;have HP:=Lib.hid (H2.out.set1 (.string (AA t2)));clear h2 HQ)
  | (have hgd:=HP;clear hgd;go_at_call 67;refine (FV _ _ b g n cap _ _ HP.out.rd.base).mono ?_;rintro e w3 ⟨rfl,h3⟩;have H3:=Lib.hid (HP.out.read h3);clear h3 HP)
  | (have hgd:=H3;clear hgd;go_at_call 67;refine (FV _ _ b g n cap _ _ H3.out.rd.base).mono ?_;rintro e w4 ⟨rfl,h4⟩;have H4:=Lib.hid (H3.out.read h4);clear h4 H3)
  | (have hgd:=H4;clear hgd;refine Ji rfl _ _ rfl H4.out (AO (AC r.tail.tail).1).1 (AO (AC r.tail.tail).1).2 rfl rfl ?_;intro w5 h5;have H5:=Lib.hid h5;clear h5 H4)
  | (have hgd:=H5;clear hgd;refine Jj rfl _ _ rfl H5.out (AO (AC r.tail.tail.tail).1).1 (AO (AC r.tail.tail.tail).1).2 rfl rfl ?_;intro w6 h6;have H6:=Lib.hid h6;clear h6 H5)
  | (have hgd:=H6;clear hgd;refine wpList_load_row rfl 26 _ rfl (w.heap.size+1) rfl 26 #[.int .i64 2,.string (AA t2),.int .i64 (AO (AC r.tail.tail).1).1,.int .i64 (AO (AC r.tail.tail).1).2,.int .i64 (AO (AC r.tail.tail.tail).1).1,.int .i64 (AO (AC r.tail.tail.tail).1).2] (0,0) _ H6.out.loc Tryz.underlying26 rfl FW ?_)
  | (have hgd:=H6;clear hgd;refine wpList_store_row rfl 26 _ _ rfl w.heap.size #[.int .i64 2,.string (AA t2),.int .i64 (AO (AC r.tail.tail).1).1,.int .i64 (AO (AC r.tail.tail).1).2,.int .i64 (AO (AC r.tail.tail.tail).1).1,.int .i64 (AO (AC r.tail.tail.tail).1).2] rfl rfl 26 _ H6.out.res FW rfl (by simp [Value.oneCell']) ?_))
 exact Jl (cs:=#[.int .i64 2,.string (AA t2),.int .i64 (AO (AC r.tail.tail).1).1,.int .i64 (AO (AC r.tail.tail).1).2,.int .i64 (AO (AC r.tail.tail.tail).1).1,.int .i64 (AO (AC r.tail.tail.tail).1).2]) rfl rfl (Ee H6.out.res _) rfl ⟨rfl,H6.out.rd.row H6.out.n1 H6.out.n3 H6.out.lo _⟩
set_option maxRecDepth 100000 in
set_option maxHeartbeats 4000000 in
theorem ABK (w0 w:World) (b g n cap:Nat) (r:List (List UInt8×Bool)) (bad:Bool) (h:RdR w0 b g n cap r bad w) (h1:(AC r).1≠sp.Gv) (h2:(AC r).1≠sp.Gw) (h3:(AC r).1≠sp.Gx) (hd:(AC r.tail).1 = [45]):Calls Tryz.prog 68 #[.pointer (some ⟨b,0,none⟩)] w fun e w'=>e=.returned (.agg (Jk 0 [] (AO (AC r.tail.tail).1) (AO (AC r.tail.tail.tail).1)))∧RdR w0 b g n cap r.tail.tail.tail.tail (true||r.tail.isEmpty||(AC r.tail).2||r.tail.tail.isEmpty||(AC r.tail.tail).2||(sp.Cc (AC r.tail.tail).1).isNone||r.tail.tail.tail.isEmpty||(AC r.tail.tail.tail).2||(sp.Cc (AC r.tail.tail.tail).1).isNone) w':=by
 have H0:=Lib.hid (BxR.start h)
 have HC1:=Lib.hid (FH _ _ b g n cap r bad H0.out.rd.base)
 have s0:((AA (AC r).1).toList==[110,111,110,101])=false:=AL h1
 have s1:((AA (AC r).1).toList==[105,110,108,105,110,101])=false:=AL h2
 have s2:((AA (AC r).1).toList==[115,105,122,101])=false:=AL h3
 have sd:((AA (AC r.tail).1).toList==[45])=true:=str_eq hd
 clear h hd h1 h2 h3
 generalize hT1:(AC r).1=t1 at HC1 s0 s1 s2
 generalize hT2:(AC r.tail).1=t2 at sd ⊢
 have HT2:=Lib.hid hT2
 clear hT1 hT2
 go_enter Tryz.func68,Tryz.ntmps68
 go_wp2_with (first
  | (have hgd:=HC1;clear hgd;go_at_call 64;refine HC1.out.mono ?_;rintro e w1 ⟨rfl,h1⟩;have H1:=Lib.hid (H0.out.read h1);have l0:=Am H1.out.loc 0 _ rfl;have f0:=Ag H1.out.loc 0;have c2:=H1.out.rd.c2;have z2:=H1.out.rd.z 2;have HQ:=Lib.hid (H1.out.Bi true);clear h1 HC1)
  | (have hgd:=HQ;clear hgd;go_at_call 64;refine (FH _ _ b g n cap _ _ HQ.out.rd.base).mono ?_;rw [HT2.out];rintro e w2 ⟨rfl,h2⟩;have H2:=Lib.hid (HQ.out.read h2);have l1:=Am H2.out.loc 1 (.string ⟨#[]⟩) rfl;have f1:=Ag H2.out.loc 1;have HP:=Lib.hid ((H2.out.set1 (.string (AA t2))).set1 (.string ⟨#[]⟩));clear h2 HQ)
  | (have hgd:=HP;clear hgd;go_at_call 67;refine (FV _ _ b g n cap _ _ HP.out.rd.base).mono ?_;rintro e w3 ⟨rfl,h3⟩;have H3:=Lib.hid (HP.out.read h3);clear h3 HP)
  | (have hgd:=H3;clear hgd;go_at_call 67;refine (FV _ _ b g n cap _ _ H3.out.rd.base).mono ?_;rintro e w4 ⟨rfl,h4⟩;have H4:=Lib.hid (H3.out.read h4);clear h4 H3)
  | (have hgd:=H4;clear hgd;refine Ji rfl _ _ rfl H4.out (AO (AC r.tail.tail).1).1 (AO (AC r.tail.tail).1).2 rfl rfl ?_;intro w5 h5;have H5:=Lib.hid h5;clear h5 H4)
  | (have hgd:=H5;clear hgd;refine Jj rfl _ _ rfl H5.out (AO (AC r.tail.tail.tail).1).1 (AO (AC r.tail.tail.tail).1).2 rfl rfl ?_;intro w6 h6;have H6:=Lib.hid h6;clear h6 H5)
  | (have hgd:=H6;clear hgd;refine wpList_load_row rfl 26 _ rfl (w.heap.size+1) rfl 26 #[.int .i64 0,.string ⟨#[]⟩,.int .i64 (AO (AC r.tail.tail).1).1,.int .i64 (AO (AC r.tail.tail).1).2,.int .i64 (AO (AC r.tail.tail.tail).1).1,.int .i64 (AO (AC r.tail.tail.tail).1).2] (0,0) _ H6.out.loc Tryz.underlying26 rfl FW ?_)
  | (have hgd:=H6;clear hgd;refine wpList_store_row rfl 26 _ _ rfl w.heap.size #[.int .i64 0,.string ⟨#[]⟩,.int .i64 (AO (AC r.tail.tail).1).1,.int .i64 (AO (AC r.tail.tail).1).2,.int .i64 (AO (AC r.tail.tail.tail).1).1,.int .i64 (AO (AC r.tail.tail.tail).1).2] rfl rfl 26 _ H6.out.res FW rfl (by simp [Value.oneCell']) ?_))
 exact Jl (cs:=#[.int .i64 0,.string ⟨#[]⟩,.int .i64 (AO (AC r.tail.tail).1).1,.int .i64 (AO (AC r.tail.tail).1).2,.int .i64 (AO (AC r.tail.tail.tail).1).1,.int .i64 (AO (AC r.tail.tail.tail).1).2]) rfl rfl (Ee H6.out.res _) rfl ⟨rfl,H6.out.rd.row H6.out.n1 H6.out.n3 H6.out.lo _⟩
set_option maxRecDepth 100000 in
set_option maxHeartbeats 4000000 in
theorem ABL (w0 w:World) (b g n cap:Nat) (r:List (List UInt8×Bool)) (bad:Bool) (h:RdR w0 b g n cap r bad w) (h1:(AC r).1≠sp.Gv) (h2:(AC r).1≠sp.Gw) (h3:(AC r).1≠sp.Gx) (hd:(AC r.tail).1≠[45]):Calls Tryz.prog 68 #[.pointer (some ⟨b,0,none⟩)] w fun e w'=>e=.returned (.agg (Jk 0 (AC r.tail).1 (AO (AC r.tail.tail).1) (AO (AC r.tail.tail.tail).1)))∧RdR w0 b g n cap r.tail.tail.tail.tail (true||r.tail.isEmpty||(AC r.tail).2||r.tail.tail.isEmpty||(AC r.tail.tail).2||(sp.Cc (AC r.tail.tail).1).isNone||r.tail.tail.tail.isEmpty||(AC r.tail.tail.tail).2||(sp.Cc (AC r.tail.tail.tail).1).isNone) w':=by
 have H0:=Lib.hid (BxR.start h)
 have HC1:=Lib.hid (FH _ _ b g n cap r bad H0.out.rd.base)
 have s0:((AA (AC r).1).toList==[110,111,110,101])=false:=AL h1
 have s1:((AA (AC r).1).toList==[105,110,108,105,110,101])=false:=AL h2
 have s2:((AA (AC r).1).toList==[115,105,122,101])=false:=AL h3
 have sd:((AA (AC r.tail).1).toList==[45])=false:=AL hd
 clear h hd h1 h2 h3
 generalize hT1:(AC r).1=t1 at HC1 s0 s1 s2
 generalize hT2:(AC r.tail).1=t2 at sd ⊢
 have HT2:=Lib.hid hT2
 clear hT1 hT2
 go_enter Tryz.func68,Tryz.ntmps68
 go_wp2_with (first
  | (have hgd:=HC1;clear hgd;go_at_call 64;refine HC1.out.mono ?_;rintro e w1 ⟨rfl,h1⟩;have H1:=Lib.hid (H0.out.read h1);have l0:=Am H1.out.loc 0 _ rfl;have f0:=Ag H1.out.loc 0;have c2:=H1.out.rd.c2;have z2:=H1.out.rd.z 2;have HQ:=Lib.hid (H1.out.Bi true);clear h1 HC1)
  | (have hgd:=HQ;clear hgd;go_at_call 64;refine (FH _ _ b g n cap _ _ HQ.out.rd.base).mono ?_;rw [HT2.out];rintro e w2 ⟨rfl,h2⟩;have H2:=Lib.hid (HQ.out.read h2);have l1:=Am H2.out.loc 1 (.string ⟨#[]⟩) rfl;have f1:=Ag H2.out.loc 1;have HP:=Lib.hid (H2.out.set1 (.string (AA t2)));clear h2 HQ)
  | (have hgd:=HP;clear hgd;go_at_call 67;refine (FV _ _ b g n cap _ _ HP.out.rd.base).mono ?_;rintro e w3 ⟨rfl,h3⟩;have H3:=Lib.hid (HP.out.read h3);clear h3 HP)
  | (have hgd:=H3;clear hgd;go_at_call 67;refine (FV _ _ b g n cap _ _ H3.out.rd.base).mono ?_;rintro e w4 ⟨rfl,h4⟩;have H4:=Lib.hid (H3.out.read h4);clear h4 H3)
  | (have hgd:=H4;clear hgd;refine Ji rfl _ _ rfl H4.out (AO (AC r.tail.tail).1).1 (AO (AC r.tail.tail).1).2 rfl rfl ?_;intro w5 h5;have H5:=Lib.hid h5;clear h5 H4)
  | (have hgd:=H5;clear hgd;refine Jj rfl _ _ rfl H5.out (AO (AC r.tail.tail.tail).1).1 (AO (AC r.tail.tail.tail).1).2 rfl rfl ?_;intro w6 h6;have H6:=Lib.hid h6;clear h6 H5)
  | (have hgd:=H6;clear hgd;refine wpList_load_row rfl 26 _ rfl (w.heap.size+1) rfl 26 #[.int .i64 0,.string (AA t2),.int .i64 (AO (AC r.tail.tail).1).1,.int .i64 (AO (AC r.tail.tail).1).2,.int .i64 (AO (AC r.tail.tail.tail).1).1,.int .i64 (AO (AC r.tail.tail.tail).1).2] (0,0) _ H6.out.loc Tryz.underlying26 rfl FW ?_)
  | (have hgd:=H6;clear hgd;refine wpList_store_row rfl 26 _ _ rfl w.heap.size #[.int .i64 0,.string (AA t2),.int .i64 (AO (AC r.tail.tail).1).1,.int .i64 (AO (AC r.tail.tail).1).2,.int .i64 (AO (AC r.tail.tail.tail).1).1,.int .i64 (AO (AC r.tail.tail.tail).1).2] rfl rfl 26 _ H6.out.res FW rfl (by simp [Value.oneCell']) ?_))
 exact Jl (cs:=#[.int .i64 0,.string (AA t2),.int .i64 (AO (AC r.tail.tail).1).1,.int .i64 (AO (AC r.tail.tail).1).2,.int .i64 (AO (AC r.tail.tail.tail).1).1,.int .i64 (AO (AC r.tail.tail.tail).1).2]) rfl rfl (Ee H6.out.res _) rfl ⟨rfl,H6.out.rd.row H6.out.n1 H6.out.n3 H6.out.lo _⟩
end Go.Proofs.YtihlneenajlhoaaGreatDoor
