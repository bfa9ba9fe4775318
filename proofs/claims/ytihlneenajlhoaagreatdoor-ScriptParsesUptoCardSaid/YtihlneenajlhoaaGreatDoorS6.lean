/-
 Contract, for a run of one goroutine, of jalousieref1.Parse: the fraction of a text, as the plain law says. Condition: lengths that fit.
-/
import Derived.Test.YtihlneenajlhoaaGreatDoorS5
import Derived.Test.YtihlneenajlhoaaGreatDoorS2
import Derived.Deep.MidRow
import Derived.Test.YtihlneenajlhoaaGreatDoorS3
set_option linter.unusedSimpArgs false
set_option linter.unusedVariables false
namespace Go.Proofs.YtihlneenajlhoaaGreatDoor
open Go Go.RowKit
theorem ret_over {W:World} {g:Nat} {a b:Value} {fn:Func} {tmps:Array Value} {R:Ending→World→Prop} (hr:fn.results=#[.cell 0 24]) (hp:tmps.getD 0 undef=.pointer (some ⟨g,0,none⟩)) (hg:W.heap[g]?=some (.cells #[a,b] 24 (0,0)))
  (h:R (.returned (.agg #[a,b])) W):bodyPost Tryz.prog fn R .ret ⟨tmps,[]⟩ W :=
 bodyPost_ret (results_cell_row hr tmps W g 24 #[a,b] (0,0) _ hp hg Tryz.underlying24 rfl info24) rfl h
set_option maxRecDepth 100000 in
theorem over_any (w:World):Calls Tryz.prog 125 #[] w fun e w'=>e=.returned (.agg #[.int .i64 0,.int .i64 0])∧Below w.heap.size w w':=by
 go_enter Tryz.func125,Tryz.ntmps125
 go_wp2
 exact ret_over rfl rfl (heap_alloc_at _ _) ⟨rfl,below_new w _⟩
theorem mayB_yes {n d:Int} (h:sp.MayP n d):mayB n d=true:=(mayB_iff n d).2 h
theorem mayB_no {n d:Int} (h:¬sp.MayP n d):mayB n d=false:=by cases hb:mayB n d with | false=>rfl | true=>exact absurd ((mayB_iff n d).1 hb) h
theorem body_len {X:List UInt8} {n:Nat} (h:X.length≤n):(bodyOf X).length≤n:=by
 unfold bodyOf
 split
 ·rw [List.length_tail];omega
 ·exact h
structure R0 (w W:World):Prop where
 res:W.heap[w.heap.size]?=some (.cells #[.int .i64 0,.int .i64 0] 24 (0,0))
 bel:Below w.heap.size w W
theorem R0.on {w W W':World} (h:R0 w W) (hb:Below W.heap.size W W'):R0 w W':=⟨(hb.block _ (lt_of_block h.res)).trans h.res,h.bel.trans (hb.mono (by have:=lt_of_block h.res;omega))⟩
theorem R0.drew {w W:World} (h:R0 w W) (n:Nat):R0 w (W.drewN n):=⟨h.res,below_drewN h.bel n⟩
theorem bstr_mid {Bd top low:List UInt8} (h:Bd=top++47 :: low):∀q,(bstr Bd)[top.length]'q=47:=fun q=>by
 have hk:top.length<Bd.length:=by rw [h];simp
 rw [bstr_at hk q,getD_get hk]
 simp [h]
theorem R0.cells {w W:World} (h:R0 w W):W.cell? ⟨w.heap.size,0,none⟩=some (.int .i64 0)∧W.cell? ⟨w.heap.size,1,none⟩=some (.int .i64 0)∧W.frozen? ⟨w.heap.size,0,none⟩=false∧W.frozen? ⟨w.heap.size,1,none⟩=false :=
 ⟨by rw [Lib.cell_of_heap h.res];rfl,by rw [Lib.cell_of_heap h.res];rfl,blk_free h.res 0,blk_free h.res 1⟩
theorem R0.fin {w W:World} (h:R0 w W) (a b:Value):((W.setCell ⟨w.heap.size,0,none⟩ a).setCell ⟨w.heap.size,1,none⟩ b).heap[w.heap.size]?=some (.cells #[a,b] 24 (0,0))∧Below w.heap.size w ((W.setCell ⟨w.heap.size,0,none⟩ a).setCell ⟨w.heap.size,1,none⟩ b) :=
 ⟨two_set h.res a b,(h.bel.setCell (Nat.le_refl _) _).setCell (Nat.le_refl _) _⟩
set_option maxRecDepth 100000 in
set_option maxHeartbeats 16000000 in
theorem rp_nil_one (X:List UInt8) (w:World) (hn:X.length≤1099511627776) (hX:X≠sp.over) (hXe:X = []) (h47:(47:UInt8)∉bodyOf X) (hc:Cut X (bodyOf X) [49] false):Calls Tryz.prog 98 #[.string (bstr X)] w fun e w'=>FracIs X e∧Below w.heap.size w w':=by
 have hs:((bstr X).toList==[111,118,101,114])=false:=str_ne hX
 have HX:=Lib.hid hX;have HCUT:=Lib.hid hc
 have e1:(bstr X).toList.isEmpty=true:=by rw [hXe,Lib.toList_data];rfl
 have HNEG:Hid (¬X.head?=some 45):=Lib.hid (by rw [hXe];simp)
 have hbx:bstr X=bstr (bodyOf X):=by rw [hXe];rfl
 obtain ⟨Bd,hB⟩:∃Bd,Bd=bodyOf X:=⟨_,rfl⟩
 have hlb:Bd.length≤1099511627776:=by rw [hB];exact body_len hn
 rw [←hB] at hbx h47 HCUT
 rw [hbx]
 rw [hbx] at hs e1
 have hsz:(bstr Bd).size=Bd.length:=bstr_size Bd
 have HLB:=Lib.hid hlb
 have H0:Hid (R0 w (w.alloc (.cells #[.int .i64 0,.int .i64 0] 24))):=Lib.hid ⟨heap_alloc_at _ _,below_new w _⟩
 have HLT:Hid (Bd.length≤1099511627776):=Lib.hid hlb
 have HLL:Hid (([49]:List UInt8).length≤1099511627776):=Lib.hid (by simp)
 have H47:=Lib.hid h47
 clear hn hX hc hXe hB hlb h47
 go_enter Tryz.func98,Tryz.ntmps98
 go_wp2
 go_loopw [6,7,8,31] (fun a b c i wr=>a=.string (bstr Bd)∧b=.string ⟨#[49]⟩∧c=.bool false∧∃k:Nat,k≤Bd.length∧i=.int .i64 k∧wr=w.alloc (.cells #[.int .i64 0,.int .i64 0] 24)) (fun _ _ _ i _=>Bd.length-(intOf i).toNat)
 case atStart=>exact ⟨rfl,rfl,rfl,0,Nat.zero_le _,rfl,rfl⟩
 case round =>
  obtain ⟨rfl,rfl,rfl,k,hk,rfl,rfl⟩:=hrel
  have hkb:(k:Int)≤1099511627776:=by have:=HLT.out;omega
  by_cases hkl:k<Bd.length
  ·have t0:decide ((k:Int)<(Bd.length:Int))=true:=by simp;omega
   have hat:=bstr_at hkl
   have hne:Bd.getD k 0≠47:=fun e=>H47.out (by rw [←e,getD_get hkl];exact List.getElem_mem _)
   generalize Bd.getD k 0=K at hat hne
   have t47:((K.toNat:Int)==47)=false:=u8ne K 47 hne
   go_wp2
   exact ⟨⟨rfl,rfl,rfl,k+1,by omega,by go_num,trivial⟩,by simp [intOf];omega⟩
  ·have t0:decide ((k:Int)<(Bd.length:Int))=false:=by simp;omega
   have HC1:=Lib.hid (fun W=>count_any Bd W HLT.out)
   have HC2:Hid (∀W,Calls Tryz.prog 126 #[.string ⟨#[49]⟩] W fun e w'=>CountIs [49] e∧Below W.heap.size W w'):=Lib.hid (fun W=>count_any [49] W HLL.out)
   go_wp2_with (first
    | (have hgd:=HC1;clear hgd;go_at_call 126;refine (HC1.out _).mono ?_;rintro e w1 ⟨⟨v1,ok1,rfl,k1⟩,hb1⟩;refine Hid.out ?_))
   refine Lib.hid ?_
   have K1:=Lib.hid k1;have H1:=Lib.hid (H0.out.on hb1)
   clear k1 hb1 HC1
   go_wp2_with (first
    | (go_at_call 126;refine (HC2.out _).mono ?_;rintro e w2 ⟨⟨v2,ok2,rfl,k2⟩,hb2⟩;refine Hid.out ?_))
   refine Lib.hid ?_
   have K2:=Lib.hid k2;have H2:=Lib.hid (H1.out.on hb2)
   clear k2 hb2 HC2
   cases ok1 with
   | false =>
    have HF:=Lib.hid (rfrac_err HX.out HCUT.out K1.out K2.out (Or.inl rfl))
    go_wp2_with (first
     | (go_at_call 125;refine (over_any _).mono ?_;rintro e w3 ⟨rfl,hb3⟩;have H3:=Lib.hid (H2.out.on hb3);obtain ⟨d0,d1,z0,z1⟩:=H3.out.cells;clear hb3))
    exact ret_frac rfl rfl rfl (H3.out.fin _ _).1 ⟨HF.out,(H3.out.fin _ _).2⟩
   | true =>
    cases ok2 with
    | false =>
     have HF:=Lib.hid (rfrac_err HX.out HCUT.out K1.out K2.out (Or.inr (Or.inl rfl)))
     go_wp2_with (first
      | (go_at_call 125;refine (over_any _).mono ?_;rintro e w3 ⟨rfl,hb3⟩;have H3:=Lib.hid (H2.out.on hb3);obtain ⟨d0,d1,z0,z1⟩:=H3.out.cells;clear hb3))
     exact ret_frac rfl rfl rfl (H3.out.fin _ _).1 ⟨HF.out,(H3.out.fin _ _).2⟩
    | true =>
     have hr1:=K1.out.1.2
     have hr2:=K2.out.1.2
     have hp1:0≤v1:=by have:=K1.out.2;rw [if_pos rfl] at this;exact this.2
     have hp2:0≤v2:=by have:=K2.out.2;rw [if_pos rfl] at this;exact this.2
     have hsg:sgn X v1=v1:=by unfold sgn;rw [if_neg HNEG.out]
     by_cases hm:sp.MayP (v1) v2
     ·have HF:=Lib.hid (rfrac_ok HX.out HCUT.out K1.out K2.out (fun h=>by cases h) (fun h=>absurd h HNEG.out) (by rw [hsg];exact hm))
      rw [hsg] at HF
      have q1:=mayB_yes hm
      clear hm
      go_wp2_with (first
       | (go_at_call 114;refine (rmay_any (v1) v2 _ ⟨by omega,by omega⟩ ⟨by omega,by omega⟩).mono ?_;rintro e w3 ⟨rfl,hb3⟩;have HP2:=Lib.hid ((PF.new H2.out.bel H2.out.res (v1) v2).on hb3);obtain ⟨r0,r1,k0,k1,y0,y1⟩:=HP2.out.cells;clear hb3))
      exact ret_frac rfl rfl rfl (HP2.out.fin _ _).1 ⟨HF.out,(HP2.out.fin _ _).2⟩
     ·have HF:=Lib.hid (rfrac_err HX.out HCUT.out K1.out K2.out (Or.inr (Or.inr (Or.inr (Or.inr (by rw [hsg];exact hm))))))
      have q1:=mayB_no hm
      clear hm
      go_wp2_with (first
       | (go_at_call 114;refine (rmay_any (v1) v2 _ ⟨by omega,by omega⟩ ⟨by omega,by omega⟩).mono ?_;rintro e w3 ⟨rfl,hb3⟩;have HP2:=Lib.hid ((PF.new H2.out.bel H2.out.res (v1) v2).on hb3);clear hb3)
       | (go_at_call 125;refine (over_any _).mono ?_;rintro e w4 ⟨rfl,hb4⟩;have HP3:=Lib.hid (HP2.out.on hb4);obtain ⟨r0,r1,k0,k1,y0,y1⟩:=HP3.out.cells;clear hb4))
      exact ret_frac rfl rfl rfl (HP3.out.fin _ _).1 ⟨HF.out,(HP3.out.fin _ _).2⟩
set_option maxRecDepth 100000 in
set_option maxHeartbeats 16000000 in
theorem rp_nil_two (X:List UInt8) (w:World) (hn:X.length≤1099511627776) (hX:X≠sp.over) (hXe:X = []) (top low:List UInt8) (hBd:bodyOf X=top++47 :: low) (h47:(47:UInt8)∉top) (hc:Cut X top low true):Calls Tryz.prog 98 #[.string (bstr X)] w fun e w'=>FracIs X e∧Below w.heap.size w w':=by
 have hs:((bstr X).toList==[111,118,101,114])=false:=str_ne hX
 have HX:=Lib.hid hX;have HCUT:=Lib.hid hc
 have e1:(bstr X).toList.isEmpty=true:=by rw [hXe,Lib.toList_data];rfl
 have HNEG:Hid (¬X.head?=some 45):=Lib.hid (by rw [hXe];simp)
 have hbx:bstr X=bstr (bodyOf X):=by rw [hXe];rfl
 obtain ⟨Bd,hB⟩:∃Bd,Bd=bodyOf X:=⟨_,rfl⟩
 have hlb:Bd.length≤1099511627776:=by rw [hB];exact body_len hn
 rw [←hB] at hbx hBd
 rw [hbx]
 rw [hbx] at hs e1
 have hsz:(bstr Bd).size=Bd.length:=bstr_size Bd
 have HLB:=Lib.hid hlb
 have H0:Hid (R0 w (w.alloc (.cells #[.int .i64 0,.int .i64 0] 24))):=Lib.hid ⟨heap_alloc_at _ _,below_new w _⟩
 have hlen:=congrArg List.length hBd
 rw [List.length_append,List.length_cons] at hlen
 have HLT:Hid (top.length≤1099511627776):=Lib.hid (by omega)
 have HLL:Hid (low.length≤1099511627776):=Lib.hid (by omega)
 have H47:=Lib.hid h47;have HBD:=Lib.hid hBd;have HLEN:=Lib.hid hlen
 clear hn hX hc hXe hB hlb h47 hBd hlen
 go_enter Tryz.func98,Tryz.ntmps98
 go_wp2
 go_loopw [6,7,8,31] (fun a b c i wr=>a=.string (bstr Bd)∧b=.string ⟨#[49]⟩∧c=.bool false∧∃k:Nat,k≤top.length∧i=.int .i64 k∧wr=w.alloc (.cells #[.int .i64 0,.int .i64 0] 24)) (fun _ _ _ i _=>Bd.length-(intOf i).toNat)
 case atStart=>exact ⟨rfl,rfl,rfl,0,Nat.zero_le _,rfl,rfl⟩
 case round =>
  obtain ⟨rfl,rfl,rfl,k,hk,rfl,rfl⟩:=hrel
  have hkl:k<Bd.length:=by have:=HLEN.out;omega
  have hkb:(k:Int)≤1099511627776:=by have:=HLT.out;omega
  have t0:decide ((k:Int)<(Bd.length:Int))=true:=by simp;omega
  by_cases hke:k=top.length
  ·have ei2:∀q,(bstr Bd)[k]'q=47:=by rw [hke];exact bstr_mid HBD.out
   have ex1:(bstr Bd).extract 0 k=bstr top:=by rw [ext_take Bd k (by omega),HBD.out,hke];simp
   have ex2:(bstr Bd).extract (k+1) Bd.length=bstr low:=by rw [ext_drop Bd (k+1) _ (by omega) rfl,HBD.out,hke];simp
   have hk1:(k:Int)≤(Bd.length:Int):=by omega
   have hk2:(k:Int)+1≤(Bd.length:Int):=by omega
   clear hke hk
   go_wp2
   go_quiet (fail)
   have HC1:=Lib.hid (fun W=>count_any top W HLT.out)
   have HC2:Hid (∀W,Calls Tryz.prog 126 #[.string (bstr low)] W fun e w'=>CountIs low e∧Below W.heap.size W w'):=Lib.hid (fun W=>count_any low W HLL.out)
   go_wp2_with (first
    | (have hgd:=HC1;clear hgd;go_at_call 126;refine (HC1.out _).mono ?_;rintro e w1 ⟨⟨v1,ok1,rfl,k1⟩,hb1⟩;refine Hid.out ?_))
   refine Lib.hid ?_
   have K1:=Lib.hid k1;have H1:=Lib.hid ((H0.out.drew _).on hb1)
   clear k1 hb1 HC1
   go_wp2_with (first
    | (go_at_call 126;refine (HC2.out _).mono ?_;rintro e w2 ⟨⟨v2,ok2,rfl,k2⟩,hb2⟩;refine Hid.out ?_))
   refine Lib.hid ?_
   have K2:=Lib.hid k2;have H2:=Lib.hid (H1.out.on hb2)
   clear k2 hb2 HC2
   cases ok1 with
   | false =>
    have HF:=Lib.hid (rfrac_err HX.out HCUT.out K1.out K2.out (Or.inl rfl))
    go_wp2_with (first
     | (go_at_call 125;refine (over_any _).mono ?_;rintro e w3 ⟨rfl,hb3⟩;have H3:=Lib.hid (H2.out.on hb3);obtain ⟨d0,d1,z0,z1⟩:=H3.out.cells;clear hb3))
    exact ret_frac rfl rfl rfl (H3.out.fin _ _).1 ⟨HF.out,(H3.out.fin _ _).2⟩
   | true =>
    cases ok2 with
    | false =>
     have HF:=Lib.hid (rfrac_err HX.out HCUT.out K1.out K2.out (Or.inr (Or.inl rfl)))
     go_wp2_with (first
      | (go_at_call 125;refine (over_any _).mono ?_;rintro e w3 ⟨rfl,hb3⟩;have H3:=Lib.hid (H2.out.on hb3);obtain ⟨d0,d1,z0,z1⟩:=H3.out.cells;clear hb3))
     exact ret_frac rfl rfl rfl (H3.out.fin _ _).1 ⟨HF.out,(H3.out.fin _ _).2⟩
    | true =>
     have hr1:=K1.out.1.2
     have hr2:=K2.out.1.2
     have hp1:0≤v1:=by have:=K1.out.2;rw [if_pos rfl] at this;exact this.2
     have hp2:0≤v2:=by have:=K2.out.2;rw [if_pos rfl] at this;exact this.2
     have hsg:sgn X v1=v1:=by unfold sgn;rw [if_neg HNEG.out]
     by_cases h2:v2<2
     ·have HF:=Lib.hid (rfrac_err HX.out HCUT.out K1.out K2.out (Or.inr (Or.inr (Or.inl ⟨rfl,h2⟩))))
      have t2:decide (v2<2)=true:=by simpa using h2
      go_wp2_with (first
       | (go_at_call 125;refine (over_any _).mono ?_;rintro e w3 ⟨rfl,hb3⟩;have H3:=Lib.hid (H2.out.on hb3);obtain ⟨d0,d1,z0,z1⟩:=H3.out.cells;clear hb3))
      exact ret_frac rfl rfl rfl (H3.out.fin _ _).1 ⟨HF.out,(H3.out.fin _ _).2⟩
     ·have t2:decide (v2<2)=false:=by simpa using h2
      by_cases hm:sp.MayP (v1) v2
      ·have HF:=Lib.hid (rfrac_ok HX.out HCUT.out K1.out K2.out (fun _=>by omega) (fun h=>absurd h HNEG.out) (by rw [hsg];exact hm))
       rw [hsg] at HF
       have q1:=mayB_yes hm
       clear hm
       go_wp2_with (first
        | (go_at_call 114;refine (rmay_any (v1) v2 _ ⟨by omega,by omega⟩ ⟨by omega,by omega⟩).mono ?_;rintro e w3 ⟨rfl,hb3⟩;have HP2:=Lib.hid ((PF.new H2.out.bel H2.out.res (v1) v2).on hb3);obtain ⟨r0,r1,k0,k1,y0,y1⟩:=HP2.out.cells;clear hb3))
       exact ret_frac rfl rfl rfl (HP2.out.fin _ _).1 ⟨HF.out,(HP2.out.fin _ _).2⟩
      ·have HF:=Lib.hid (rfrac_err HX.out HCUT.out K1.out K2.out (Or.inr (Or.inr (Or.inr (Or.inr (by rw [hsg];exact hm))))))
       have q1:=mayB_no hm
       clear hm
       go_wp2_with (first
        | (go_at_call 114;refine (rmay_any (v1) v2 _ ⟨by omega,by omega⟩ ⟨by omega,by omega⟩).mono ?_;rintro e w3 ⟨rfl,hb3⟩;have HP2:=Lib.hid ((PF.new H2.out.bel H2.out.res (v1) v2).on hb3);clear hb3)
        | (go_at_call 125;refine (over_any _).mono ?_;rintro e w4 ⟨rfl,hb4⟩;have HP3:=Lib.hid (HP2.out.on hb4);obtain ⟨r0,r1,k0,k1,y0,y1⟩:=HP3.out.cells;clear hb4))
       exact ret_frac rfl rfl rfl (HP3.out.fin _ _).1 ⟨HF.out,(HP3.out.fin _ _).2⟩
  ·have ht:k<top.length:=by omega
   have hat:=bstr_at hkl
   have hne:Bd.getD k 0≠47:=fun e=>H47.out (by
    have h1:Bd.getD k 0=top[k]:=by rw [getD_get hkl];simp only [HBD.out];rw [List.getElem_append_left ht]
    rw [←e,h1]
    exact List.getElem_mem _)
   generalize Bd.getD k 0=K at hat hne
   have t47:((K.toNat:Int)==47)=false:=u8ne K 47 hne
   go_wp2
   exact ⟨⟨rfl,rfl,rfl,k+1,by omega,by go_num,trivial⟩,by simp [intOf];omega⟩
set_option maxRecDepth 100000 in
set_option maxHeartbeats 16000000 in
theorem rp_pos_one (X:List UInt8) (c:UInt8) (r:List UInt8) (h45:c≠45) (w:World) (hn:X.length≤1099511627776) (hX:X≠sp.over) (hXe:X=c :: r) (h47:(47:UInt8)∉bodyOf X) (hc:Cut X (bodyOf X) [49] false):Calls Tryz.prog 98 #[.string (bstr X)] w fun e w'=>FracIs X e∧Below w.heap.size w w':=by
 have hs:((bstr X).toList==[111,118,101,114])=false:=str_ne hX
 have HX:=Lib.hid hX;have HCUT:=Lib.hid hc
 have e1:(bstr X).toList.isEmpty=false:=by rw [hXe,Lib.toList_data,bstr_toList];rfl
 have e0:0<(bstr X).size:=by rw [bstr_size,hXe];simp
 have ei:∀p,(bstr X)[0]'p=c:=by rw [hXe];exact fun p=>rfl
 have t45:((c.toNat:Int)==45)=false:=u8ne c 45 h45
 have HNEG:Hid (¬X.head?=some 45):=Lib.hid (by rw [hXe];simpa using h45)
 have hbx:bstr X=bstr (bodyOf X):=by unfold bodyOf;rw [if_neg HNEG.out]
 obtain ⟨Bd,hB⟩:∃Bd,Bd=bodyOf X:=⟨_,rfl⟩
 have hlb:Bd.length≤1099511627776:=by rw [hB];exact body_len hn
 rw [←hB] at hbx h47 HCUT
 rw [hbx]
 rw [hbx] at hs e1 e0 ei
 have hsz:(bstr Bd).size=Bd.length:=bstr_size Bd
 have HLB:=Lib.hid hlb
 have H0:Hid (R0 w (w.alloc (.cells #[.int .i64 0,.int .i64 0] 24))):=Lib.hid ⟨heap_alloc_at _ _,below_new w _⟩
 have HLT:Hid (Bd.length≤1099511627776):=Lib.hid hlb
 have HLL:Hid (([49]:List UInt8).length≤1099511627776):=Lib.hid (by simp)
 have H47:=Lib.hid h47
 clear hn hX hc hXe hB hlb h47
 go_enter Tryz.func98,Tryz.ntmps98
 go_wp2
 go_loopw [6,7,8,31] (fun a b c i wr=>a=.string (bstr Bd)∧b=.string ⟨#[49]⟩∧c=.bool false∧∃k:Nat,k≤Bd.length∧i=.int .i64 k∧wr=w.alloc (.cells #[.int .i64 0,.int .i64 0] 24)) (fun _ _ _ i _=>Bd.length-(intOf i).toNat)
 case atStart=>exact ⟨rfl,rfl,rfl,0,Nat.zero_le _,rfl,rfl⟩
 case round =>
  obtain ⟨rfl,rfl,rfl,k,hk,rfl,rfl⟩:=hrel
  have hkb:(k:Int)≤1099511627776:=by have:=HLT.out;omega
  by_cases hkl:k<Bd.length
  ·have t0:decide ((k:Int)<(Bd.length:Int))=true:=by simp;omega
   have hat:=bstr_at hkl
   have hne:Bd.getD k 0≠47:=fun e=>H47.out (by rw [←e,getD_get hkl];exact List.getElem_mem _)
   generalize Bd.getD k 0=K at hat hne
   have t47:((K.toNat:Int)==47)=false:=u8ne K 47 hne
   go_wp2
   exact ⟨⟨rfl,rfl,rfl,k+1,by omega,by go_num,trivial⟩,by simp [intOf];omega⟩
  ·have t0:decide ((k:Int)<(Bd.length:Int))=false:=by simp;omega
   have HC1:=Lib.hid (fun W=>count_any Bd W HLT.out)
   have HC2:Hid (∀W,Calls Tryz.prog 126 #[.string ⟨#[49]⟩] W fun e w'=>CountIs [49] e∧Below W.heap.size W w'):=Lib.hid (fun W=>count_any [49] W HLL.out)
   go_wp2_with (first
    | (have hgd:=HC1;clear hgd;go_at_call 126;refine (HC1.out _).mono ?_;rintro e w1 ⟨⟨v1,ok1,rfl,k1⟩,hb1⟩;refine Hid.out ?_))
   refine Lib.hid ?_
   have K1:=Lib.hid k1;have H1:=Lib.hid (H0.out.on hb1)
   clear k1 hb1 HC1
   go_wp2_with (first
    | (go_at_call 126;refine (HC2.out _).mono ?_;rintro e w2 ⟨⟨v2,ok2,rfl,k2⟩,hb2⟩;refine Hid.out ?_))
   refine Lib.hid ?_
   have K2:=Lib.hid k2;have H2:=Lib.hid (H1.out.on hb2)
   clear k2 hb2 HC2
   cases ok1 with
   | false =>
    have HF:=Lib.hid (rfrac_err HX.out HCUT.out K1.out K2.out (Or.inl rfl))
    go_wp2_with (first
     | (go_at_call 125;refine (over_any _).mono ?_;rintro e w3 ⟨rfl,hb3⟩;have H3:=Lib.hid (H2.out.on hb3);obtain ⟨d0,d1,z0,z1⟩:=H3.out.cells;clear hb3))
    exact ret_frac rfl rfl rfl (H3.out.fin _ _).1 ⟨HF.out,(H3.out.fin _ _).2⟩
   | true =>
    cases ok2 with
    | false =>
     have HF:=Lib.hid (rfrac_err HX.out HCUT.out K1.out K2.out (Or.inr (Or.inl rfl)))
     go_wp2_with (first
      | (go_at_call 125;refine (over_any _).mono ?_;rintro e w3 ⟨rfl,hb3⟩;have H3:=Lib.hid (H2.out.on hb3);obtain ⟨d0,d1,z0,z1⟩:=H3.out.cells;clear hb3))
     exact ret_frac rfl rfl rfl (H3.out.fin _ _).1 ⟨HF.out,(H3.out.fin _ _).2⟩
    | true =>
     have hr1:=K1.out.1.2
     have hr2:=K2.out.1.2
     have hp1:0≤v1:=by have:=K1.out.2;rw [if_pos rfl] at this;exact this.2
     have hp2:0≤v2:=by have:=K2.out.2;rw [if_pos rfl] at this;exact this.2
     have hsg:sgn X v1=v1:=by unfold sgn;rw [if_neg HNEG.out]
     by_cases hm:sp.MayP (v1) v2
     ·have HF:=Lib.hid (rfrac_ok HX.out HCUT.out K1.out K2.out (fun h=>by cases h) (fun h=>absurd h HNEG.out) (by rw [hsg];exact hm))
      rw [hsg] at HF
      have q1:=mayB_yes hm
      clear hm
      go_wp2_with (first
       | (go_at_call 114;refine (rmay_any (v1) v2 _ ⟨by omega,by omega⟩ ⟨by omega,by omega⟩).mono ?_;rintro e w3 ⟨rfl,hb3⟩;have HP2:=Lib.hid ((PF.new H2.out.bel H2.out.res (v1) v2).on hb3);obtain ⟨r0,r1,k0,k1,y0,y1⟩:=HP2.out.cells;clear hb3))
      exact ret_frac rfl rfl rfl (HP2.out.fin _ _).1 ⟨HF.out,(HP2.out.fin _ _).2⟩
     ·have HF:=Lib.hid (rfrac_err HX.out HCUT.out K1.out K2.out (Or.inr (Or.inr (Or.inr (Or.inr (by rw [hsg];exact hm))))))
      have q1:=mayB_no hm
      clear hm
      go_wp2_with (first
       | (go_at_call 114;refine (rmay_any (v1) v2 _ ⟨by omega,by omega⟩ ⟨by omega,by omega⟩).mono ?_;rintro e w3 ⟨rfl,hb3⟩;have HP2:=Lib.hid ((PF.new H2.out.bel H2.out.res (v1) v2).on hb3);clear hb3)
       | (go_at_call 125;refine (over_any _).mono ?_;rintro e w4 ⟨rfl,hb4⟩;have HP3:=Lib.hid (HP2.out.on hb4);obtain ⟨r0,r1,k0,k1,y0,y1⟩:=HP3.out.cells;clear hb4))
      exact ret_frac rfl rfl rfl (HP3.out.fin _ _).1 ⟨HF.out,(HP3.out.fin _ _).2⟩
set_option maxRecDepth 100000 in
set_option maxHeartbeats 16000000 in
theorem rp_pos_two (X:List UInt8) (c:UInt8) (r:List UInt8) (h45:c≠45) (w:World) (hn:X.length≤1099511627776) (hX:X≠sp.over) (hXe:X=c :: r) (top low:List UInt8) (hBd:bodyOf X=top++47 :: low) (h47:(47:UInt8)∉top) (hc:Cut X top low true):Calls Tryz.prog 98 #[.string (bstr X)] w fun e w'=>FracIs X e∧Below w.heap.size w w':=by
 have hs:((bstr X).toList==[111,118,101,114])=false:=str_ne hX
 have HX:=Lib.hid hX;have HCUT:=Lib.hid hc
 have e1:(bstr X).toList.isEmpty=false:=by rw [hXe,Lib.toList_data,bstr_toList];rfl
 have e0:0<(bstr X).size:=by rw [bstr_size,hXe];simp
 have ei:∀p,(bstr X)[0]'p=c:=by rw [hXe];exact fun p=>rfl
 have t45:((c.toNat:Int)==45)=false:=u8ne c 45 h45
 have HNEG:Hid (¬X.head?=some 45):=Lib.hid (by rw [hXe];simpa using h45)
 have hbx:bstr X=bstr (bodyOf X):=by unfold bodyOf;rw [if_neg HNEG.out]
 obtain ⟨Bd,hB⟩:∃Bd,Bd=bodyOf X:=⟨_,rfl⟩
 have hlb:Bd.length≤1099511627776:=by rw [hB];exact body_len hn
 rw [←hB] at hbx hBd
 rw [hbx]
 rw [hbx] at hs e1 e0 ei
 have hsz:(bstr Bd).size=Bd.length:=bstr_size Bd
 have HLB:=Lib.hid hlb
 have H0:Hid (R0 w (w.alloc (.cells #[.int .i64 0,.int .i64 0] 24))):=Lib.hid ⟨heap_alloc_at _ _,below_new w _⟩
 have hlen:=congrArg List.length hBd
 rw [List.length_append,List.length_cons] at hlen
 have HLT:Hid (top.length≤1099511627776):=Lib.hid (by omega)
 have HLL:Hid (low.length≤1099511627776):=Lib.hid (by omega)
 have H47:=Lib.hid h47;have HBD:=Lib.hid hBd;have HLEN:=Lib.hid hlen
 clear hn hX hc hXe hB hlb h47 hBd hlen
 go_enter Tryz.func98,Tryz.ntmps98
 go_wp2
 go_loopw [6,7,8,31] (fun a b c i wr=>a=.string (bstr Bd)∧b=.string ⟨#[49]⟩∧c=.bool false∧∃k:Nat,k≤top.length∧i=.int .i64 k∧wr=w.alloc (.cells #[.int .i64 0,.int .i64 0] 24)) (fun _ _ _ i _=>Bd.length-(intOf i).toNat)
 case atStart=>exact ⟨rfl,rfl,rfl,0,Nat.zero_le _,rfl,rfl⟩
 case round =>
  obtain ⟨rfl,rfl,rfl,k,hk,rfl,rfl⟩:=hrel
  have hkl:k<Bd.length:=by have:=HLEN.out;omega
  have hkb:(k:Int)≤1099511627776:=by have:=HLT.out;omega
  have t0:decide ((k:Int)<(Bd.length:Int))=true:=by simp;omega
  by_cases hke:k=top.length
  ·have ei2:∀q,(bstr Bd)[k]'q=47:=by rw [hke];exact bstr_mid HBD.out
   have ex1:(bstr Bd).extract 0 k=bstr top:=by rw [ext_take Bd k (by omega),HBD.out,hke];simp
   have ex2:(bstr Bd).extract (k+1) Bd.length=bstr low:=by rw [ext_drop Bd (k+1) _ (by omega) rfl,HBD.out,hke];simp
   have hk1:(k:Int)≤(Bd.length:Int):=by omega
   have hk2:(k:Int)+1≤(Bd.length:Int):=by omega
   clear hke hk
   go_wp2
   go_quiet (fail)
   have HC1:=Lib.hid (fun W=>count_any top W HLT.out)
   have HC2:Hid (∀W,Calls Tryz.prog 126 #[.string (bstr low)] W fun e w'=>CountIs low e∧Below W.heap.size W w'):=Lib.hid (fun W=>count_any low W HLL.out)
   go_wp2_with (first
    | (have hgd:=HC1;clear hgd;go_at_call 126;refine (HC1.out _).mono ?_;rintro e w1 ⟨⟨v1,ok1,rfl,k1⟩,hb1⟩;refine Hid.out ?_))
   refine Lib.hid ?_
   have K1:=Lib.hid k1;have H1:=Lib.hid ((H0.out.drew _).on hb1)
   clear k1 hb1 HC1
   go_wp2_with (first
    | (go_at_call 126;refine (HC2.out _).mono ?_;rintro e w2 ⟨⟨v2,ok2,rfl,k2⟩,hb2⟩;refine Hid.out ?_))
   refine Lib.hid ?_
   have K2:=Lib.hid k2;have H2:=Lib.hid (H1.out.on hb2)
   clear k2 hb2 HC2
   cases ok1 with
   | false =>
    have HF:=Lib.hid (rfrac_err HX.out HCUT.out K1.out K2.out (Or.inl rfl))
    go_wp2_with (first
     | (go_at_call 125;refine (over_any _).mono ?_;rintro e w3 ⟨rfl,hb3⟩;have H3:=Lib.hid (H2.out.on hb3);obtain ⟨d0,d1,z0,z1⟩:=H3.out.cells;clear hb3))
    exact ret_frac rfl rfl rfl (H3.out.fin _ _).1 ⟨HF.out,(H3.out.fin _ _).2⟩
   | true =>
    cases ok2 with
    | false =>
     have HF:=Lib.hid (rfrac_err HX.out HCUT.out K1.out K2.out (Or.inr (Or.inl rfl)))
     go_wp2_with (first
      | (go_at_call 125;refine (over_any _).mono ?_;rintro e w3 ⟨rfl,hb3⟩;have H3:=Lib.hid (H2.out.on hb3);obtain ⟨d0,d1,z0,z1⟩:=H3.out.cells;clear hb3))
     exact ret_frac rfl rfl rfl (H3.out.fin _ _).1 ⟨HF.out,(H3.out.fin _ _).2⟩
    | true =>
     have hr1:=K1.out.1.2
     have hr2:=K2.out.1.2
     have hp1:0≤v1:=by have:=K1.out.2;rw [if_pos rfl] at this;exact this.2
     have hp2:0≤v2:=by have:=K2.out.2;rw [if_pos rfl] at this;exact this.2
     have hsg:sgn X v1=v1:=by unfold sgn;rw [if_neg HNEG.out]
     by_cases h2:v2<2
     ·have HF:=Lib.hid (rfrac_err HX.out HCUT.out K1.out K2.out (Or.inr (Or.inr (Or.inl ⟨rfl,h2⟩))))
      have t2:decide (v2<2)=true:=by simpa using h2
      go_wp2_with (first
       | (go_at_call 125;refine (over_any _).mono ?_;rintro e w3 ⟨rfl,hb3⟩;have H3:=Lib.hid (H2.out.on hb3);obtain ⟨d0,d1,z0,z1⟩:=H3.out.cells;clear hb3))
      exact ret_frac rfl rfl rfl (H3.out.fin _ _).1 ⟨HF.out,(H3.out.fin _ _).2⟩
     ·have t2:decide (v2<2)=false:=by simpa using h2
      by_cases hm:sp.MayP (v1) v2
      ·have HF:=Lib.hid (rfrac_ok HX.out HCUT.out K1.out K2.out (fun _=>by omega) (fun h=>absurd h HNEG.out) (by rw [hsg];exact hm))
       rw [hsg] at HF
       have q1:=mayB_yes hm
       clear hm
       go_wp2_with (first
        | (go_at_call 114;refine (rmay_any (v1) v2 _ ⟨by omega,by omega⟩ ⟨by omega,by omega⟩).mono ?_;rintro e w3 ⟨rfl,hb3⟩;have HP2:=Lib.hid ((PF.new H2.out.bel H2.out.res (v1) v2).on hb3);obtain ⟨r0,r1,k0,k1,y0,y1⟩:=HP2.out.cells;clear hb3))
       exact ret_frac rfl rfl rfl (HP2.out.fin _ _).1 ⟨HF.out,(HP2.out.fin _ _).2⟩
      ·have HF:=Lib.hid (rfrac_err HX.out HCUT.out K1.out K2.out (Or.inr (Or.inr (Or.inr (Or.inr (by rw [hsg];exact hm))))))
       have q1:=mayB_no hm
       clear hm
       go_wp2_with (first
        | (go_at_call 114;refine (rmay_any (v1) v2 _ ⟨by omega,by omega⟩ ⟨by omega,by omega⟩).mono ?_;rintro e w3 ⟨rfl,hb3⟩;have HP2:=Lib.hid ((PF.new H2.out.bel H2.out.res (v1) v2).on hb3);clear hb3)
        | (go_at_call 125;refine (over_any _).mono ?_;rintro e w4 ⟨rfl,hb4⟩;have HP3:=Lib.hid (HP2.out.on hb4);obtain ⟨r0,r1,k0,k1,y0,y1⟩:=HP3.out.cells;clear hb4))
       exact ret_frac rfl rfl rfl (HP3.out.fin _ _).1 ⟨HF.out,(HP3.out.fin _ _).2⟩
  ·have ht:k<top.length:=by omega
   have hat:=bstr_at hkl
   have hne:Bd.getD k 0≠47:=fun e=>H47.out (by
    have h1:Bd.getD k 0=top[k]:=by rw [getD_get hkl];simp only [HBD.out];rw [List.getElem_append_left ht]
    rw [←e,h1]
    exact List.getElem_mem _)
   generalize Bd.getD k 0=K at hat hne
   have t47:((K.toNat:Int)==47)=false:=u8ne K 47 hne
   go_wp2
   exact ⟨⟨rfl,rfl,rfl,k+1,by omega,by go_num,trivial⟩,by simp [intOf];omega⟩
set_option maxRecDepth 100000 in
set_option maxHeartbeats 16000000 in
theorem rp_neg_one (X:List UInt8) (r:List UInt8) (w:World) (hn:X.length≤1099511627776) (hX:X≠sp.over) (hXe:X=45 :: r) (h47:(47:UInt8)∉bodyOf X) (hc:Cut X (bodyOf X) [49] false):Calls Tryz.prog 98 #[.string (bstr X)] w fun e w'=>FracIs X e∧Below w.heap.size w w':=by
 have hs:((bstr X).toList==[111,118,101,114])=false:=str_ne hX
 have HX:=Lib.hid hX;have HCUT:=Lib.hid hc
 have e1:(bstr X).toList.isEmpty=false:=by rw [hXe,Lib.toList_data,bstr_toList];rfl
 have e0:0<(bstr X).size:=by rw [bstr_size,hXe];simp
 have ei:∀p,(bstr X)[0]'p=45:=by rw [hXe];exact fun p=>rfl
 have es1:(1:Int)≤(bstr X).size:=by rw [bstr_size,hXe];simp;omega
 have ex:(bstr X).extract 1 (bstr X).size=bstr (bodyOf X):=by rw [hXe];exact ext_drop (45 :: r) 1 _ (by simp) (bstr_size _)
 have HNEG:Hid (X.head?=some 45):=Lib.hid (by rw [hXe];rfl)
 obtain ⟨Bd,hB⟩:∃Bd,Bd=bodyOf X:=⟨_,rfl⟩
 have hlb:Bd.length≤1099511627776:=by rw [hB];exact body_len hn
 rw [←hB] at ex h47 HCUT
 generalize hSX:bstr X=SX at hs e1 e0 ei es1 ex ⊢
 have hsz:(bstr Bd).size=Bd.length:=bstr_size Bd
 have HLB:=Lib.hid hlb
 have H0:Hid (R0 w (w.alloc (.cells #[.int .i64 0,.int .i64 0] 24))):=Lib.hid ⟨heap_alloc_at _ _,below_new w _⟩
 have HLT:Hid (Bd.length≤1099511627776):=Lib.hid hlb
 have HLL:Hid (([49]:List UInt8).length≤1099511627776):=Lib.hid (by simp)
 have H47:=Lib.hid h47
 clear hn hX hc hXe hB hlb h47
 go_enter Tryz.func98,Tryz.ntmps98
 go_wp2
 go_loopw [6,7,8,31] (fun a b c i wr=>a=.string (bstr Bd)∧b=.string ⟨#[49]⟩∧c=.bool false∧∃k:Nat,k≤Bd.length∧i=.int .i64 k∧wr=w.alloc (.cells #[.int .i64 0,.int .i64 0] 24)) (fun _ _ _ i _=>Bd.length-(intOf i).toNat)
 case atStart=>exact ⟨rfl,rfl,rfl,0,Nat.zero_le _,rfl,rfl⟩
 case round =>
  obtain ⟨rfl,rfl,rfl,k,hk,rfl,rfl⟩:=hrel
  have hkb:(k:Int)≤1099511627776:=by have:=HLT.out;omega
  by_cases hkl:k<Bd.length
  ·have t0:decide ((k:Int)<(Bd.length:Int))=true:=by simp;omega
   have hat:=bstr_at hkl
   have hne:Bd.getD k 0≠47:=fun e=>H47.out (by rw [←e,getD_get hkl];exact List.getElem_mem _)
   generalize Bd.getD k 0=K at hat hne
   have t47:((K.toNat:Int)==47)=false:=u8ne K 47 hne
   go_wp2
   exact ⟨⟨rfl,rfl,rfl,k+1,by omega,by go_num,trivial⟩,by simp [intOf];omega⟩
  ·have t0:decide ((k:Int)<(Bd.length:Int))=false:=by simp;omega
   have HC1:=Lib.hid (fun W=>count_any Bd W HLT.out)
   have HC2:Hid (∀W,Calls Tryz.prog 126 #[.string ⟨#[49]⟩] W fun e w'=>CountIs [49] e∧Below W.heap.size W w'):=Lib.hid (fun W=>count_any [49] W HLL.out)
   go_wp2_with (first
    | (have hgd:=HC1;clear hgd;go_at_call 126;refine (HC1.out _).mono ?_;rintro e w1 ⟨⟨v1,ok1,rfl,k1⟩,hb1⟩;refine Hid.out ?_))
   refine Lib.hid ?_
   have K1:=Lib.hid k1;have H1:=Lib.hid (H0.out.on hb1)
   clear k1 hb1 HC1
   go_wp2_with (first
    | (go_at_call 126;refine (HC2.out _).mono ?_;rintro e w2 ⟨⟨v2,ok2,rfl,k2⟩,hb2⟩;refine Hid.out ?_))
   refine Lib.hid ?_
   have K2:=Lib.hid k2;have H2:=Lib.hid (H1.out.on hb2)
   clear k2 hb2 HC2
   cases ok1 with
   | false =>
    have HF:=Lib.hid (rfrac_err HX.out HCUT.out K1.out K2.out (Or.inl rfl))
    go_wp2_with (first
     | (go_at_call 125;refine (over_any _).mono ?_;rintro e w3 ⟨rfl,hb3⟩;have H3:=Lib.hid (H2.out.on hb3);obtain ⟨d0,d1,z0,z1⟩:=H3.out.cells;clear hb3))
    exact ret_frac rfl rfl rfl (H3.out.fin _ _).1 ⟨HF.out,(H3.out.fin _ _).2⟩
   | true =>
    cases ok2 with
    | false =>
     have HF:=Lib.hid (rfrac_err HX.out HCUT.out K1.out K2.out (Or.inr (Or.inl rfl)))
     go_wp2_with (first
      | (go_at_call 125;refine (over_any _).mono ?_;rintro e w3 ⟨rfl,hb3⟩;have H3:=Lib.hid (H2.out.on hb3);obtain ⟨d0,d1,z0,z1⟩:=H3.out.cells;clear hb3))
     exact ret_frac rfl rfl rfl (H3.out.fin _ _).1 ⟨HF.out,(H3.out.fin _ _).2⟩
    | true =>
     have hr1:=K1.out.1.2
     have hr2:=K2.out.1.2
     have hp1:0≤v1:=by have:=K1.out.2;rw [if_pos rfl] at this;exact this.2
     have hp2:0≤v2:=by have:=K2.out.2;rw [if_pos rfl] at this;exact this.2
     have hsg:sgn X v1 = -v1:=by unfold sgn;rw [if_pos HNEG.out]
     by_cases hz:v1=0
     ·have HF:=Lib.hid (rfrac_err HX.out HCUT.out K1.out K2.out (Or.inr (Or.inr (Or.inr (Or.inl ⟨HNEG.out,hz⟩)))))
      have tz:(v1==0)=true:=by simpa using hz
      go_wp2_with (first
       | (go_at_call 125;refine (over_any _).mono ?_;rintro e w3 ⟨rfl,hb3⟩;have H3:=Lib.hid (H2.out.on hb3);obtain ⟨d0,d1,z0,z1⟩:=H3.out.cells;clear hb3))
      exact ret_frac rfl rfl rfl (H3.out.fin _ _).1 ⟨HF.out,(H3.out.fin _ _).2⟩
     ·have tz:(v1==0)=false:=by simpa using hz
      by_cases hm:sp.MayP (-v1) v2
      ·have HF:=Lib.hid (rfrac_ok HX.out HCUT.out K1.out K2.out (fun h=>by cases h) (fun _=>hz) (by rw [hsg];exact hm))
       rw [hsg] at HF
       have q1:=mayB_yes hm
       clear hm
       go_wp2_with (first
        | (go_at_call 114;refine (rmay_any (-v1) v2 _ ⟨by omega,by omega⟩ ⟨by omega,by omega⟩).mono ?_;rintro e w3 ⟨rfl,hb3⟩;have HP2:=Lib.hid ((PF.new H2.out.bel H2.out.res (-v1) v2).on hb3);obtain ⟨r0,r1,k0,k1,y0,y1⟩:=HP2.out.cells;clear hb3))
       exact ret_frac rfl rfl rfl (HP2.out.fin _ _).1 ⟨HF.out,(HP2.out.fin _ _).2⟩
      ·have HF:=Lib.hid (rfrac_err HX.out HCUT.out K1.out K2.out (Or.inr (Or.inr (Or.inr (Or.inr (by rw [hsg];exact hm))))))
       have q1:=mayB_no hm
       clear hm
       go_wp2_with (first
        | (go_at_call 114;refine (rmay_any (-v1) v2 _ ⟨by omega,by omega⟩ ⟨by omega,by omega⟩).mono ?_;rintro e w3 ⟨rfl,hb3⟩;have HP2:=Lib.hid ((PF.new H2.out.bel H2.out.res (-v1) v2).on hb3);clear hb3)
        | (go_at_call 125;refine (over_any _).mono ?_;rintro e w4 ⟨rfl,hb4⟩;have HP3:=Lib.hid (HP2.out.on hb4);obtain ⟨r0,r1,k0,k1,y0,y1⟩:=HP3.out.cells;clear hb4))
       exact ret_frac rfl rfl rfl (HP3.out.fin _ _).1 ⟨HF.out,(HP3.out.fin _ _).2⟩
set_option maxRecDepth 100000 in
set_option maxHeartbeats 16000000 in
theorem rp_neg_two (X:List UInt8) (r:List UInt8) (w:World) (hn:X.length≤1099511627776) (hX:X≠sp.over) (hXe:X=45 :: r) (top low:List UInt8) (hBd:bodyOf X=top++47 :: low) (h47:(47:UInt8)∉top) (hc:Cut X top low true):Calls Tryz.prog 98 #[.string (bstr X)] w fun e w'=>FracIs X e∧Below w.heap.size w w':=by
 have hs:((bstr X).toList==[111,118,101,114])=false:=str_ne hX
 have HX:=Lib.hid hX;have HCUT:=Lib.hid hc
 have e1:(bstr X).toList.isEmpty=false:=by rw [hXe,Lib.toList_data,bstr_toList];rfl
 have e0:0<(bstr X).size:=by rw [bstr_size,hXe];simp
 have ei:∀p,(bstr X)[0]'p=45:=by rw [hXe];exact fun p=>rfl
 have es1:(1:Int)≤(bstr X).size:=by rw [bstr_size,hXe];simp;omega
 have ex:(bstr X).extract 1 (bstr X).size=bstr (bodyOf X):=by rw [hXe];exact ext_drop (45 :: r) 1 _ (by simp) (bstr_size _)
 have HNEG:Hid (X.head?=some 45):=Lib.hid (by rw [hXe];rfl)
 obtain ⟨Bd,hB⟩:∃Bd,Bd=bodyOf X:=⟨_,rfl⟩
 have hlb:Bd.length≤1099511627776:=by rw [hB];exact body_len hn
 rw [←hB] at ex hBd
 generalize hSX:bstr X=SX at hs e1 e0 ei es1 ex ⊢
 have hsz:(bstr Bd).size=Bd.length:=bstr_size Bd
 have HLB:=Lib.hid hlb
 have H0:Hid (R0 w (w.alloc (.cells #[.int .i64 0,.int .i64 0] 24))):=Lib.hid ⟨heap_alloc_at _ _,below_new w _⟩
 have hlen:=congrArg List.length hBd
 rw [List.length_append,List.length_cons] at hlen
 have HLT:Hid (top.length≤1099511627776):=Lib.hid (by omega)
 have HLL:Hid (low.length≤1099511627776):=Lib.hid (by omega)
 have H47:=Lib.hid h47;have HBD:=Lib.hid hBd;have HLEN:=Lib.hid hlen
 clear hn hX hc hXe hB hlb h47 hBd hlen
 go_enter Tryz.func98,Tryz.ntmps98
 go_wp2
 go_loopw [6,7,8,31] (fun a b c i wr=>a=.string (bstr Bd)∧b=.string ⟨#[49]⟩∧c=.bool false∧∃k:Nat,k≤top.length∧i=.int .i64 k∧wr=w.alloc (.cells #[.int .i64 0,.int .i64 0] 24)) (fun _ _ _ i _=>Bd.length-(intOf i).toNat)
 case atStart=>exact ⟨rfl,rfl,rfl,0,Nat.zero_le _,rfl,rfl⟩
 case round =>
  obtain ⟨rfl,rfl,rfl,k,hk,rfl,rfl⟩:=hrel
  have hkl:k<Bd.length:=by have:=HLEN.out;omega
  have hkb:(k:Int)≤1099511627776:=by have:=HLT.out;omega
  have t0:decide ((k:Int)<(Bd.length:Int))=true:=by simp;omega
  by_cases hke:k=top.length
  ·have ei2:∀q,(bstr Bd)[k]'q=47:=by rw [hke];exact bstr_mid HBD.out
   have ex1:(bstr Bd).extract 0 k=bstr top:=by rw [ext_take Bd k (by omega),HBD.out,hke];simp
   have ex2:(bstr Bd).extract (k+1) Bd.length=bstr low:=by rw [ext_drop Bd (k+1) _ (by omega) rfl,HBD.out,hke];simp
   have hk1:(k:Int)≤(Bd.length:Int):=by omega
   have hk2:(k:Int)+1≤(Bd.length:Int):=by omega
   clear hke hk
   go_wp2
   go_quiet (fail)
   have HC1:=Lib.hid (fun W=>count_any top W HLT.out)
   have HC2:Hid (∀W,Calls Tryz.prog 126 #[.string (bstr low)] W fun e w'=>CountIs low e∧Below W.heap.size W w'):=Lib.hid (fun W=>count_any low W HLL.out)
   go_wp2_with (first
    | (have hgd:=HC1;clear hgd;go_at_call 126;refine (HC1.out _).mono ?_;rintro e w1 ⟨⟨v1,ok1,rfl,k1⟩,hb1⟩;refine Hid.out ?_))
   refine Lib.hid ?_
   have K1:=Lib.hid k1;have H1:=Lib.hid ((H0.out.drew _).on hb1)
   clear k1 hb1 HC1
   go_wp2_with (first
    | (go_at_call 126;refine (HC2.out _).mono ?_;rintro e w2 ⟨⟨v2,ok2,rfl,k2⟩,hb2⟩;refine Hid.out ?_))
   refine Lib.hid ?_
   have K2:=Lib.hid k2;have H2:=Lib.hid (H1.out.on hb2)
   clear k2 hb2 HC2
   cases ok1 with
   | false =>
    have HF:=Lib.hid (rfrac_err HX.out HCUT.out K1.out K2.out (Or.inl rfl))
    go_wp2_with (first
     | (go_at_call 125;refine (over_any _).mono ?_;rintro e w3 ⟨rfl,hb3⟩;have H3:=Lib.hid (H2.out.on hb3);obtain ⟨d0,d1,z0,z1⟩:=H3.out.cells;clear hb3))
    exact ret_frac rfl rfl rfl (H3.out.fin _ _).1 ⟨HF.out,(H3.out.fin _ _).2⟩
   | true =>
    cases ok2 with
    | false =>
     have HF:=Lib.hid (rfrac_err HX.out HCUT.out K1.out K2.out (Or.inr (Or.inl rfl)))
     go_wp2_with (first
      | (go_at_call 125;refine (over_any _).mono ?_;rintro e w3 ⟨rfl,hb3⟩;have H3:=Lib.hid (H2.out.on hb3);obtain ⟨d0,d1,z0,z1⟩:=H3.out.cells;clear hb3))
     exact ret_frac rfl rfl rfl (H3.out.fin _ _).1 ⟨HF.out,(H3.out.fin _ _).2⟩
    | true =>
     have hr1:=K1.out.1.2
     have hr2:=K2.out.1.2
     have hp1:0≤v1:=by have:=K1.out.2;rw [if_pos rfl] at this;exact this.2
     have hp2:0≤v2:=by have:=K2.out.2;rw [if_pos rfl] at this;exact this.2
     have hsg:sgn X v1 = -v1:=by unfold sgn;rw [if_pos HNEG.out]
     by_cases h2:v2<2
     ·have HF:=Lib.hid (rfrac_err HX.out HCUT.out K1.out K2.out (Or.inr (Or.inr (Or.inl ⟨rfl,h2⟩))))
      have t2:decide (v2<2)=true:=by simpa using h2
      go_wp2_with (first
       | (go_at_call 125;refine (over_any _).mono ?_;rintro e w3 ⟨rfl,hb3⟩;have H3:=Lib.hid (H2.out.on hb3);obtain ⟨d0,d1,z0,z1⟩:=H3.out.cells;clear hb3))
      exact ret_frac rfl rfl rfl (H3.out.fin _ _).1 ⟨HF.out,(H3.out.fin _ _).2⟩
     ·have t2:decide (v2<2)=false:=by simpa using h2
      by_cases hz:v1=0
      ·have HF:=Lib.hid (rfrac_err HX.out HCUT.out K1.out K2.out (Or.inr (Or.inr (Or.inr (Or.inl ⟨HNEG.out,hz⟩)))))
       have tz:(v1==0)=true:=by simpa using hz
       go_wp2_with (first
        | (go_at_call 125;refine (over_any _).mono ?_;rintro e w3 ⟨rfl,hb3⟩;have H3:=Lib.hid (H2.out.on hb3);obtain ⟨d0,d1,z0,z1⟩:=H3.out.cells;clear hb3))
       exact ret_frac rfl rfl rfl (H3.out.fin _ _).1 ⟨HF.out,(H3.out.fin _ _).2⟩
      ·have tz:(v1==0)=false:=by simpa using hz
       by_cases hm:sp.MayP (-v1) v2
       ·have HF:=Lib.hid (rfrac_ok HX.out HCUT.out K1.out K2.out (fun _=>by omega) (fun _=>hz) (by rw [hsg];exact hm))
        rw [hsg] at HF
        have q1:=mayB_yes hm
        clear hm
        go_wp2_with (first
         | (go_at_call 114;refine (rmay_any (-v1) v2 _ ⟨by omega,by omega⟩ ⟨by omega,by omega⟩).mono ?_;rintro e w3 ⟨rfl,hb3⟩;have HP2:=Lib.hid ((PF.new H2.out.bel H2.out.res (-v1) v2).on hb3);obtain ⟨r0,r1,k0,k1,y0,y1⟩:=HP2.out.cells;clear hb3))
        exact ret_frac rfl rfl rfl (HP2.out.fin _ _).1 ⟨HF.out,(HP2.out.fin _ _).2⟩
       ·have HF:=Lib.hid (rfrac_err HX.out HCUT.out K1.out K2.out (Or.inr (Or.inr (Or.inr (Or.inr (by rw [hsg];exact hm))))))
        have q1:=mayB_no hm
        clear hm
        go_wp2_with (first
         | (go_at_call 114;refine (rmay_any (-v1) v2 _ ⟨by omega,by omega⟩ ⟨by omega,by omega⟩).mono ?_;rintro e w3 ⟨rfl,hb3⟩;have HP2:=Lib.hid ((PF.new H2.out.bel H2.out.res (-v1) v2).on hb3);clear hb3)
         | (go_at_call 125;refine (over_any _).mono ?_;rintro e w4 ⟨rfl,hb4⟩;have HP3:=Lib.hid (HP2.out.on hb4);obtain ⟨r0,r1,k0,k1,y0,y1⟩:=HP3.out.cells;clear hb4))
        exact ret_frac rfl rfl rfl (HP3.out.fin _ _).1 ⟨HF.out,(HP3.out.fin _ _).2⟩
  ·have ht:k<top.length:=by omega
   have hat:=bstr_at hkl
   have hne:Bd.getD k 0≠47:=fun e=>H47.out (by
    have h1:Bd.getD k 0=top[k]:=by rw [getD_get hkl];simp only [HBD.out];rw [List.getElem_append_left ht]
    rw [←e,h1]
    exact List.getElem_mem _)
   generalize Bd.getD k 0=K at hat hne
   have t47:((K.toNat:Int)==47)=false:=u8ne K 47 hne
   go_wp2
   exact ⟨⟨rfl,rfl,rfl,k+1,by omega,by go_num,trivial⟩,by simp [intOf];omega⟩
set_option maxRecDepth 100000 in
set_option maxHeartbeats 4000000 in
theorem rp_over (X:List UInt8) (w:World) (hX:X=sp.over):Calls Tryz.prog 98 #[.string (bstr X)] w fun e w'=>FracIs X e∧Below w.heap.size w w':=by
 have hs:=str_eq hX
 have HF:Hid (FracIs X (.returned (.tuple #[.agg #[.int .i64 0,.int .i64 0],.int .i64 0]))):=Lib.hid (by unfold FracIs;rw [hX,frac_over])
 have H2:Hid (R0 w (w.alloc (.cells #[.int .i64 0,.int .i64 0] 24))):=Lib.hid ⟨heap_alloc_at _ _,below_new w _⟩
 clear hX
 go_enter Tryz.func98,Tryz.ntmps98
 go_wp2_with (first
  | (go_at_call 125;refine (over_any _).mono ?_;rintro e w3 ⟨rfl,hb3⟩;have H3:=Lib.hid (H2.out.on hb3);obtain ⟨d0,d1,z0,z1⟩:=H3.out.cells;clear hb3))
 exact ret_frac rfl rfl rfl (H3.out.fin _ _).1 ⟨HF.out,(H3.out.fin _ _).2⟩
theorem rparse_any (X:List UInt8) (w:World) (hn:X.length≤1099511627776):Calls Tryz.prog 98 #[.string (bstr X)] w fun e w'=>FracIs X e∧Below w.heap.size w w':=by
 by_cases hX:X=sp.over
 ·exact rp_over X w hX
 rcases cut_ex X with ⟨h47,hc⟩ | ⟨top,low,hB,h47,hc⟩
 ·match hXe:X with
  | []=>exact rp_nil_one [] w hn hX rfl h47 hc
  | c :: r =>
   by_cases h45:c=45
   ·subst h45;exact rp_neg_one _ r w hn hX rfl h47 hc
   ·exact rp_pos_one _ c r h45 w hn hX rfl h47 hc
 ·match hXe:X with
  | []=>exact rp_nil_two [] w hn hX rfl top low hB h47 hc
  | c :: r =>
   by_cases h45:c=45
   ·subst h45;exact rp_neg_two _ r w hn hX rfl top low hB h47 hc
   ·exact rp_pos_two _ c r h45 w hn hX rfl top low hB h47 hc
theorem size110:(Tryz.prog.info? 110).map (·.size)=some 2:=by kernel_rfl
theorem two_set' {w1:World} {g:Nat} {x y:Value} {T:TypeId} (h:w1.heap[g]?=some (.cells #[x,y] T (0,0))) (a b:Value):((w1.setCell ⟨g,0,none⟩ a).setCell ⟨g,1,none⟩ b).heap[g]?=some (.cells #[a,b] T (0,0)):=by
 have:=blk_set (blk_set h 0 a) 1 b
 simpa using this
set_option maxRecDepth 100000 in
theorem ret_word {W:World} {g:Nat} {a b:Value} {fn:Func} {tmps:Array Value} {R:Ending→World→Prop} (hr:fn.results=#[.cell 2 110]) (hp:tmps.getD 2 undef=.pointer (some ⟨g,0,none⟩)) (hg:W.heap[g]?=some (.cells #[a,b] 110 (0,0)))
  (h:R (.returned (.agg #[a,b])) W):bodyPost Tryz.prog fn R .ret ⟨tmps,[]⟩ W :=
 bodyPost_ret (results_cell_row hr tmps W g 110 #[a,b] (0,0) _ hp hg Tryz.underlying110 rfl size110) rfl h
structure RdR (w:World) (b g n cap:Nat) (r:List (List UInt8×Bool)) (bad:Bool) (W:World):Prop where
 blk:W.heap[b]?=some (.cells #[.slice (some ⟨g,0,none⟩) n cap,.int .i64 ((n-r.length:Nat):Int),.bool bad] 78 (0,0))
 len:r.length≤n
 words:W.rangeAt g (2*(n-r.length)) (wdCells r)
 glt:g<W.heap.size
 ne:g≠b
 blt:b<w.heap.size
 fr:Fr w W b none
 n63:n≤1099511627776
 short:∀p∈r,p.1.length≤1099511627776
section
variable {w W W':World} {b g n cap:Nat} {r:List (List UInt8×Bool)} {bad:Bool} {x:List UInt8×Bool}
theorem RdR.on (h:RdR w b g n cap r bad W) (hb:Below W.heap.size W W'):RdR w b g n cap r bad W' :=
 ⟨(hb.block _ (lt_of_block h.blk)).trans h.blk,h.len,rangeAt_below hb h.glt h.words,by have:=hb.size;have:=h.glt;omega,h.ne,h.blt,h.fr.trans (Fr.of_below hb) (Own.refl _ _),h.n63,h.short⟩
theorem RdR.base (h:RdR w b g n cap r bad W):RdR W b g n cap r bad W:={ h with blt:=lt_of_block h.blk,fr:=Fr.refl _ _ _ }
theorem RdR.back {w0:World} (h:RdR w0 b g n cap r bad w) {r':List (List UInt8×Bool)} {bad':Bool} (h2:RdR w b g n cap r' bad' W):RdR w0 b g n cap r' bad' W:={ h2 with blt:=h.blt,fr:=h.fr.trans h2.fr (Own.refl _ _) }
theorem RdR.c0 (h:RdR w b g n cap r bad W):W.cell? ⟨b,0,none⟩=some (.slice (some ⟨g,0,none⟩) n cap):=blk_cell h.blk 0 _ rfl
theorem RdR.c1 (h:RdR w b g n cap r bad W) {k:Int} (hk:((n-r.length:Nat):Int)=k):W.cell? ⟨b,1,none⟩=some (.int .i64 k):=hk ▸ blk_cell h.blk 1 _ rfl
theorem RdR.c2 (h:RdR w b g n cap r bad W):W.cell? ⟨b,2,none⟩=some (.bool bad):=blk_cell h.blk 2 _ rfl
theorem RdR.z (h:RdR w b g n cap r bad W) (k:Nat):W.frozen? ⟨b,k,none⟩=false:=blk_free h.blk k
theorem RdR.setBad (h:RdR w b g n cap r bad W) (bad':Bool):RdR w b g n cap r bad' (W.setCell ⟨b,2,none⟩ (.bool bad')) :=
 ⟨blk_set h.blk 2 _,h.len,range_other h.words h.ne 2 _,by simpa using h.glt,h.ne,h.blt,h.fr.trans (Fr.set 2 _) (Own.refl _ _),h.n63,h.short⟩
theorem RdR.step (h:RdR w b g n cap (x :: r) bad W) {k:Int} (hk:((n-r.length:Nat):Int)=k):RdR w b g n cap r bad (W.setCell ⟨b,1,none⟩ (.int .i64 k)) :=
 ⟨by rw [hk];exact blk_set h.blk 1 _,by have:=h.len;simp at this;omega,range_other (fun j u hu=>by
   have:=h.words (2+j) u (by rw [show wdCells (x :: r)=.string (bstr x.1) :: .bool x.2 :: wdCells r from rfl,Nat.add_comm 2 j];exact hu)
   have hl:=h.len
   simp only [List.length_cons] at this hl
   rw [show 2*(n-r.length)+j=2*(n-(r.length+1))+(2+j) by omega]
   exact this) h.ne 1 _,by simpa using h.glt,h.ne,h.blt,h.fr.trans (Fr.set 1 _) (Own.refl _ _),h.n63,fun p hp=>h.short p (List.mem_cons_of_mem _ hp)⟩
theorem RdR.drew (h:RdR w b g n cap r bad W) (k:Nat):RdR w b g n cap r bad (W.drewN k):={ h with fr:=⟨h.fr.os,h.fr.tape,h.fr.output,h.fr.size,h.fr.block⟩ }
theorem RdR.other (h:RdR w b g n cap r bad W) {m:Nat} (hm:m≠b) (hg:m≠g) (hw:w.heap.size≤m) (k:Nat) (v:Value):RdR w b g n cap r bad (W.setCell ⟨m,k,none⟩ v) :=
 ⟨(Below.heap_setCell _ _ _ _ (Ne.symm hm)).trans h.blk,h.len,range_other h.words (Ne.symm hg) k v,by simpa using h.glt,h.ne,h.blt,⟨h.fr.os,h.fr.tape,h.fr.output,by simpa using h.fr.size,fun j hj hb ho=>(Below.heap_setCell _ _ _ _ (show j≠m by omega)).trans (h.fr.block j hj hb ho)⟩,h.n63,h.short⟩
theorem RdR.word (h:RdR w b g n cap (x :: r) bad W) {o:Nat} (ho:o=2*(n-(r.length+1))):W.rangeAt g o [.string (bstr x.1),.bool x.2]:=fun j u hu=>by
 subst ho
 refine h.words j u ?_
 match j,hu with
 | 0,hu=>exact hu
 | 1,hu=>exact hu
end
def nextW:List (List UInt8×Bool)→List UInt8×Bool
 | []=>([],false)
 | x :: _=>x
theorem load_word {s:World} {g o:Nat} {x y:Value} (h:s.rangeAt g o [x,y]) {ev:Operand→Value} {op:Oper} {z:Operand} (ho:op.op=.load 110 z) (hx:ev z=.pointer (some ⟨g,o,none⟩)):(execOp ev op).run Tryz.prog s=Result.ok (Next.value (.agg #[x,y])) s:=by
 have e:=run_loadVar_mid (P:=Tryz.prog) s g o 110 [x,y] _ h Tryz.underlying110 rfl size110
 unfold execOp
 simp only [ho,hx,Instr.loadAt,Instr.sureAddr,Sem.run_bind,Sem.run_pure,Result.andThen_ok,e]
set_option maxRecDepth 100000 in
set_option maxHeartbeats 4000000 in
theorem next_nil (w0 w:World) (b g n cap:Nat) (bad:Bool) (h:RdR w0 b g n cap [] bad w):Calls Tryz.prog 96 #[.pointer (some ⟨b,0,none⟩)] w fun e w'=>e=.returned (.agg #[.string (bstr []),.bool false])∧RdR w0 b g n cap [] true w':=by
 have hbl:=lt_of_block h.blk
 have H1:=Lib.hid (h.on (below_new w (.cells #[.string ⟨#[]⟩,.bool false] 110)))
 have c0:=H1.out.c0
 have c1:=H1.out.c1 (k:=n) rfl
 have c2:=H1.out.c2
 have z2:=H1.out.z 2
 have hge:((n:Int)≥(n:Int)):=Int.le_refl _
 have HB:=Lib.hid hbl
 have HN:Hid (w.heap.size≠b∧w.heap.size≠g∧w0.heap.size≤w.heap.size):=Lib.hid ⟨by omega,by have:=h.glt;omega,h.fr.size⟩
 clear h hbl
 go_enter Tryz.func96,Tryz.ntmps96
 go_wp2
 go_quiet (fail)
 go_wp2
 have H2:=Lib.hid ((H1.out.drew nq).setBad true)
 have hm:(((w.alloc (.cells #[.string ⟨#[]⟩,.bool false] 110)).drewN nq).setCell ⟨b,2,none⟩ (.bool true)).heap[w.heap.size]?=some (.cells #[.string ⟨#[]⟩,.bool false] 110 (0,0)):=by
  exact (Below.heap_setCell _ _ _ _ HN.out.1).trans (heap_alloc_at _ _)
 refine ret_word rfl rfl (two_set' hm _ _) ⟨rfl,?_⟩
 exact (H2.out.other HN.out.1 HN.out.2.1 HN.out.2.2 0 _).other HN.out.1 HN.out.2.1 HN.out.2.2 1 _
set_option maxRecDepth 100000 in
set_option maxHeartbeats 4000000 in
theorem next_cons (w0 w:World) (b g n cap:Nat) (x:List UInt8×Bool) (r:List (List UInt8×Bool)) (bad:Bool) (h:RdR w0 b g n cap (x :: r) bad w):Calls Tryz.prog 96 #[.pointer (some ⟨b,0,none⟩)] w fun e w'=>e=.returned (.agg #[.string (bstr x.1),.bool x.2])∧RdR w0 b g n cap r bad w':=by
 have hbl:=lt_of_block h.blk
 have HG:Hid (g<w.heap.size):=Lib.hid h.glt
 have H1:=Lib.hid (h.on (below_new w (.cells #[.string ⟨#[]⟩,.bool false] 110)))
 have hl:=h.len
 simp only [List.length_cons] at hl
 obtain ⟨k,hk⟩:∃k:Nat,n-(r.length+1)=k:=⟨_,rfl⟩
 have HK:=Lib.hid hk
 have hkn:k<n:=by omega
 have hge:¬((k:Int)≥(n:Int)):=by omega
 have hge2:¬n≤k:=by omega
 have hn63:(n:Int)≤1099511627776:=by have:=h.n63;omega
 have c0:=H1.out.c0
 have c1:=H1.out.c1 (k:=k) (by simp [hk])
 have z1:=H1.out.z 1
 have HB:=Lib.hid hbl
 have HN:Hid (w.heap.size≠b∧w.heap.size≠g∧w0.heap.size≤w.heap.size):=Lib.hid ⟨by omega,by have:=h.glt;omega,h.fr.size⟩
 have HS:Hid (((n-r.length:Nat):Int)=(k:Int)+1):=Lib.hid (by omega)
 clear h hbl hk hl
 go_enter Tryz.func96,Tryz.ntmps96
 go_wp2
 go_quiet (fail)
 go_wp2
 have H2:=Lib.hid ((H1.out.drew nq).step HS.out)
 have hm:(((w.alloc (.cells #[.string ⟨#[]⟩,.bool false] 110)).drewN nq).setCell ⟨b,1,none⟩ (.int .i64 ((k:Int)+1))).heap[w.heap.size]?=some (.cells #[.string ⟨#[]⟩,.bool false] 110 (0,0)):=(Below.heap_setCell _ _ _ _ HN.out.1).trans (heap_alloc_at _ _)
 have HM:=Lib.hid hm
 have HW:=Lib.hid (range_other ((H1.out.drew nq).word (o:=2*k) (by rw [HK.out])) H1.out.ne 1 (.int .i64 ((k:Int)+1)))
 clear c0 c1 z1 hm H1
 generalize (((w.alloc (.cells #[.string ⟨#[]⟩,.bool false] 110)).drewN nq).setCell ⟨b,1,none⟩ (.int .i64 ((k:Int)+1)))=W3 at H2 HM HW ⊢
 have H4:Hid (RdR w0 b g n cap r bad W3.drew):=Lib.hid (H2.out.drew 1)
 have HM4:Hid (W3.drew.heap[w.heap.size]?=_):=Lib.hid HM.out
 have HW4:Hid (W3.drew.rangeAt g (2*k) _):=Lib.hid HW.out
 refine wp_region_held_drew (S:=fun s=>s.cell? ⟨b,0,none⟩=some (.slice (some ⟨g,0,none⟩) n cap)∧s.cell? ⟨b,1,none⟩=some (.int .i64 ((k:Int)+1))∧s.rangeAt g (2*k) [.string (bstr x.1),.bool x.2]) (by kernel_rfl) ⟨H4.out.c0,H4.out.c1 HS.out,HW4.out⟩ (fun hHeld => ?_)
 refine tk 0 (.pointer (some ⟨b,0,none⟩)) rfl hHeld (fun s hs=>by obtain ⟨q0,q1,q2⟩:=hs;go_simp) ?_
 refine tk 1 (.pointer (some ⟨b,0,none⟩)) rfl hHeld (fun s hs=>by obtain ⟨q0,q1,q2⟩:=hs;go_simp) ?_
 refine tk 2 (.pointer (some ⟨b,0,none⟩)) rfl hHeld (fun s hs=>by obtain ⟨q0,q1,q2⟩:=hs;go_simp) ?_
 refine tk 3 (.slice (some ⟨g,0,none⟩) n cap) rfl hHeld (fun s hs=>by obtain ⟨q0,q1,q2⟩:=hs;go_simp) ?_
 refine tk 4 (.pointer (some ⟨b,0,none⟩)) rfl hHeld (fun s hs=>by obtain ⟨q0,q1,q2⟩:=hs;go_simp) ?_
 refine tk 5 (.pointer (some ⟨b,0,none⟩)) rfl hHeld (fun s hs=>by obtain ⟨q0,q1,q2⟩:=hs;go_simp) ?_
 refine tk 6 (.pointer (some ⟨b,1,none⟩)) rfl hHeld (fun s hs=>by obtain ⟨q0,q1,q2⟩:=hs;go_simp) ?_
 refine tk 7 (.int .i64 ((k:Int)+1)) rfl hHeld (fun s hs=>by obtain ⟨q0,q1,q2⟩:=hs;go_simp) ?_
 refine tk 8 (.int .i64 k) rfl hHeld (fun s hs=>by have hw:IntKind.i64.wrap ((k:Int)+1-1)=(k:Int):=(by rw [Int.add_sub_cancel];exact wrap_i64_in ⟨by omega,by omega⟩);have hw2:IntKind.i64.wrap (k:Int)=(k:Int):=wrap_i64_in ⟨by omega,by omega⟩;go_simp) ?_
 refine tk 9 (.pointer (some ⟨g,2*k,none⟩)) rfl hHeld (fun s hs=>by obtain ⟨q0,q1,q2⟩:=hs;go_simp) ?_
 have HY:∀s:World,s.rangeAt g (2*k) [.string (bstr x.1),.bool x.2]→∀(ev:Operand→Value) (op:Oper) (z:Operand),op.op=.load 110 z→ev z=.pointer (some ⟨g,2*k,none⟩)→(execOp ev op).run Tryz.prog s=Result.ok (Next.value (.agg #[.string (bstr x.1),.bool x.2])) s:=fun s h ev op z ho hx=>load_word h ho hx
 refine wpAnyH_take (i:=10) (v:=.agg #[.string (bstr x.1),.bool x.2]) rfl (by kernel_rfl) (by kernel_rfl) (by kernel_rfl) (fun _ _ _ h=>h) (Or.inl ⟨by kernel_rfl,fun s hs => ?_⟩) hHeld ?_
 ·have q2:=hs.2.2
  refine HY s q2 _ _ (.tmp 33) ?_ ?_
  ·kernel_rfl
  ·kernel_rfl
 clear HY
 have a0:W3.cell? ⟨w.heap.size,0,none⟩=some (.string ⟨#[]⟩):=blk_cell HM.out 0 _ rfl
 have a1:W3.cell? ⟨w.heap.size,1,none⟩=some (.bool false):=blk_cell HM.out 1 _ rfl
 have y0:=blk_free HM.out 0
 have y1:=blk_free HM.out 1
 refine rd1 11 rfl fun K hK => ?_
 go_simp
 have H5:Hid (RdR w0 b g n cap r bad ((W3.setCell ⟨w.heap.size,0,none⟩ (.string (bstr x.1))).setCell ⟨w.heap.size,1,none⟩ (.bool x.2)).drew):=Lib.hid (((H2.out.other HN.out.1 HN.out.2.1 HN.out.2.2 0 _).other HN.out.1 HN.out.2.1 HN.out.2.2 1 _).drew 1)
 have HM5:Hid (((W3.setCell ⟨w.heap.size,0,none⟩ (.string (bstr x.1))).setCell ⟨w.heap.size,1,none⟩ (.bool x.2)).drew.heap[w.heap.size]?=some (.cells #[.string (bstr x.1),.bool x.2] 110 (0,0))):=Lib.hid (two_set' HM.out _ _)
 refine hK _ _ ⟨H5.out.c0,H5.out.c1 HS.out,range_other (range_other HW.out (Ne.symm HN.out.2.1) 0 _) (Ne.symm HN.out.2.1) 1 _⟩ (fun hHeld2 => ?_)
 clear hK hHeld hHeld2
 refine wpAnyH_done (by kernel_rfl) ?_ _
 go_wp2
 exact ret_word rfl rfl HM5.out ⟨rfl,H5.out⟩
theorem next_any (w0 w:World) (b g n cap:Nat) (r:List (List UInt8×Bool)) (bad:Bool) (h:RdR w0 b g n cap r bad w):Calls Tryz.prog 96 #[.pointer (some ⟨b,0,none⟩)] w fun e w'=>e=.returned (.agg #[.string (bstr (nextW r).1),.bool (nextW r).2])∧RdR w0 b g n cap r.tail (bad||r.isEmpty) w':=by
 match r with
 | []=>exact (next_nil w0 w b g n cap bad h).mono fun e w' q=>⟨q.1,by rw [show (bad||([]:List (List UInt8×Bool)).isEmpty)=true by simp];exact q.2⟩
 | x :: r=>exact (next_cons w0 w b g n cap x r bad h).mono fun e w' q=>⟨q.1,by rw [show (bad||(x :: r).isEmpty)=bad by simp];exact q.2⟩
set_option maxRecDepth 100000 in
set_option maxHeartbeats 4000000 in
theorem rword_any (w0 w:World) (b g n cap:Nat) (r:List (List UInt8×Bool)) (bad:Bool) (h:RdR w0 b g n cap r bad w):Calls Tryz.prog 64 #[.pointer (some ⟨b,0,none⟩)] w fun e w'=>e=.returned (.string (bstr (nextW r).1))∧RdR w0 b g n cap r.tail (bad||r.isEmpty||(nextW r).2) w':=by
 have hN:=next_any w0 w b g n cap r bad h
 obtain ⟨⟨t,q⟩,hx⟩:∃x,nextW r=x:=⟨_,rfl⟩
 rw [hx] at hN ⊢
 obtain ⟨bd,hbd⟩:∃bd,(bad||r.isEmpty)=bd:=⟨_,rfl⟩
 rw [hbd] at hN ⊢
 obtain ⟨rt,hrt⟩:∃rt,r.tail=rt:=⟨_,rfl⟩
 rw [hrt] at hN ⊢
 simp only at hN ⊢
 have HN:=Lib.hid hN
 clear hN h hx hbd hrt
 cases bd with
 | false =>
  cases q with
  | false =>
   show Calls Tryz.prog 64 #[.pointer (some ⟨b,0,none⟩)] w fun e w'=>e=.returned (.string (bstr t))∧RdR w0 b g n cap rt false w'
   go_enter Tryz.func64,Tryz.ntmps64
   go_wp2_with (go_at_call 96;refine HN.out.mono ?_;rintro e w1 ⟨rfl,h1⟩;have H1:=Lib.hid (h1.on (below_new w1 (.cells #[.string (bstr t),.bool false] 110)));have c2:=H1.out.c2;have z2:=H1.out.z 2;have hne:w1.heap.size≠b:=(Nat.ne_of_gt (lt_of_block h1.blk));clear h1)
   go_ret
   exact ⟨rfl,H1.out.setBad _⟩
  | true =>
   show Calls Tryz.prog 64 #[.pointer (some ⟨b,0,none⟩)] w fun e w'=>e=.returned (.string (bstr t))∧RdR w0 b g n cap rt true w'
   go_enter Tryz.func64,Tryz.ntmps64
   go_wp2_with (go_at_call 96;refine HN.out.mono ?_;rintro e w1 ⟨rfl,h1⟩;have H1:=Lib.hid (h1.on (below_new w1 (.cells #[.string (bstr t),.bool true] 110)));have c2:=H1.out.c2;have z2:=H1.out.z 2;have hne:w1.heap.size≠b:=(Nat.ne_of_gt (lt_of_block h1.blk));clear h1)
   go_ret
   exact ⟨rfl,H1.out.setBad _⟩
 | true =>
  cases q with
  | false =>
   show Calls Tryz.prog 64 #[.pointer (some ⟨b,0,none⟩)] w fun e w'=>e=.returned (.string (bstr t))∧RdR w0 b g n cap rt true w'
   go_enter Tryz.func64,Tryz.ntmps64
   go_wp2_with (go_at_call 96;refine HN.out.mono ?_;rintro e w1 ⟨rfl,h1⟩;have H1:=Lib.hid (h1.on (below_new w1 (.cells #[.string (bstr t),.bool false] 110)));have c2:=H1.out.c2;have z2:=H1.out.z 2;have hne:w1.heap.size≠b:=(Nat.ne_of_gt (lt_of_block h1.blk));clear h1)
   go_ret
   exact ⟨rfl,H1.out.setBad _⟩
  | true =>
   show Calls Tryz.prog 64 #[.pointer (some ⟨b,0,none⟩)] w fun e w'=>e=.returned (.string (bstr t))∧RdR w0 b g n cap rt true w'
   go_enter Tryz.func64,Tryz.ntmps64
   go_wp2_with (go_at_call 96;refine HN.out.mono ?_;rintro e w1 ⟨rfl,h1⟩;have H1:=Lib.hid (h1.on (below_new w1 (.cells #[.string (bstr t),.bool true] 110)));have c2:=H1.out.c2;have z2:=H1.out.z 2;have hne:w1.heap.size≠b:=(Nat.ne_of_gt (lt_of_block h1.blk));clear h1)
   go_ret
   exact ⟨rfl,H1.out.setBad _⟩
set_option maxRecDepth 100000 in
set_option maxHeartbeats 4000000 in
theorem rtext_word (w0 w:World) (b g n cap:Nat) (r:List (List UInt8×Bool)) (bad:Bool) (h:RdR w0 b g n cap r bad w):Calls Tryz.prog 66 #[.pointer (some ⟨b,0,none⟩)] w fun e w'=>e=.returned (.string (bstr (nextW r).1))∧RdR w0 b g n cap r.tail (bad||r.isEmpty || !(nextW r).2) w':=by
 have hN:=next_any w0 w b g n cap r bad h
 obtain ⟨⟨t,q⟩,hx⟩:∃x,nextW r=x:=⟨_,rfl⟩
 rw [hx] at hN ⊢
 obtain ⟨bd,hbd⟩:∃bd,(bad||r.isEmpty)=bd:=⟨_,rfl⟩
 rw [hbd] at hN ⊢
 obtain ⟨rt,hrt⟩:∃rt,r.tail=rt:=⟨_,rfl⟩
 rw [hrt] at hN ⊢
 simp only at hN ⊢
 have HN:=Lib.hid hN
 clear hN h hx hbd hrt
 cases bd with
 | false =>
  cases q with
  | false =>
   show Calls Tryz.prog 66 #[.pointer (some ⟨b,0,none⟩)] w fun e w'=>e=.returned (.string (bstr t))∧RdR w0 b g n cap rt true w'
   go_enter Tryz.func66,Tryz.ntmps66
   go_wp2_with (go_at_call 96;refine HN.out.mono ?_;rintro e w1 ⟨rfl,h1⟩;have H1:=Lib.hid (h1.on (below_new w1 (.cells #[.string (bstr t),.bool false] 110)));have c2:=H1.out.c2;have z2:=H1.out.z 2;have hne:w1.heap.size≠b:=(Nat.ne_of_gt (lt_of_block h1.blk));clear h1)
   go_ret
   exact ⟨rfl,H1.out.setBad _⟩
  | true =>
   show Calls Tryz.prog 66 #[.pointer (some ⟨b,0,none⟩)] w fun e w'=>e=.returned (.string (bstr t))∧RdR w0 b g n cap rt false w'
   go_enter Tryz.func66,Tryz.ntmps66
   go_wp2_with (go_at_call 96;refine HN.out.mono ?_;rintro e w1 ⟨rfl,h1⟩;have H1:=Lib.hid (h1.on (below_new w1 (.cells #[.string (bstr t),.bool true] 110)));have c2:=H1.out.c2;have z2:=H1.out.z 2;have hne:w1.heap.size≠b:=(Nat.ne_of_gt (lt_of_block h1.blk));clear h1)
   go_ret
   exact ⟨rfl,H1.out.setBad _⟩
 | true =>
  cases q with
  | false =>
   show Calls Tryz.prog 66 #[.pointer (some ⟨b,0,none⟩)] w fun e w'=>e=.returned (.string (bstr t))∧RdR w0 b g n cap rt true w'
   go_enter Tryz.func66,Tryz.ntmps66
   go_wp2_with (go_at_call 96;refine HN.out.mono ?_;rintro e w1 ⟨rfl,h1⟩;have H1:=Lib.hid (h1.on (below_new w1 (.cells #[.string (bstr t),.bool false] 110)));have c2:=H1.out.c2;have z2:=H1.out.z 2;have hne:w1.heap.size≠b:=(Nat.ne_of_gt (lt_of_block h1.blk));clear h1)
   go_ret
   exact ⟨rfl,H1.out.setBad _⟩
  | true =>
   show Calls Tryz.prog 66 #[.pointer (some ⟨b,0,none⟩)] w fun e w'=>e=.returned (.string (bstr t))∧RdR w0 b g n cap rt true w'
   go_enter Tryz.func66,Tryz.ntmps66
   go_wp2_with (go_at_call 96;refine HN.out.mono ?_;rintro e w1 ⟨rfl,h1⟩;have H1:=Lib.hid (h1.on (below_new w1 (.cells #[.string (bstr t),.bool true] 110)));have c2:=H1.out.c2;have z2:=H1.out.z 2;have hne:w1.heap.size≠b:=(Nat.ne_of_gt (lt_of_block h1.blk));clear h1)
   go_ret
   exact ⟨rfl,H1.out.setBad _⟩
theorem ret_rat {W:World} {g:Nat} {a b:Value} {fn:Func} {tmps:Array Value} {R:Ending→World→Prop} (hr:fn.results=#[.cell 2 24]) (hp:tmps.getD 2 undef=.pointer (some ⟨g,0,none⟩)) (hg:W.heap[g]?=some (.cells #[a,b] 24 (0,0)))
  (h:R (.returned (.agg #[a,b])) W):bodyPost Tryz.prog fn R .ret ⟨tmps,[]⟩ W :=
 bodyPost_ret (results_cell_row hr tmps W g 24 #[a,b] (0,0) _ hp hg Tryz.underlying24 rfl info24) rfl h
theorem nextW_short {w W:World} {b g n cap:Nat} {r:List (List UInt8×Bool)} {bad:Bool} (h:RdR w b g n cap r bad W):(nextW r).1.length≤1099511627776:=by
 match r,h with
 | [],_=>simp [nextW]
 | x :: r,h=>exact h.short x List.mem_cons_self
def numOr (t:List UInt8):Int:=match sp.num t with
 | some n=>n
 | none=>0
noncomputable def fracOr (t:List UInt8):Int×Int:=match sp.fracS t with
 | some p=>p
 | none=>(0,0)
set_option maxRecDepth 100000 in
set_option maxHeartbeats 4000000 in
theorem rnum_word (w0 w:World) (b g n cap:Nat) (r:List (List UInt8×Bool)) (bad:Bool) (h:RdR w0 b g n cap r bad w):Calls Tryz.prog 65 #[.pointer (some ⟨b,0,none⟩)] w fun e w'=>e=.returned (.int .i64 (numOr (nextW r).1))∧RdR w0 b g n cap r.tail (bad||r.isEmpty||(nextW r).2||(sp.num (nextW r).1).isNone) w':=by
 have hN:=rword_any w0 w b g n cap r bad h
 have hs:=nextW_short h
 obtain ⟨t,hx⟩:∃t,(nextW r).1=t:=⟨_,rfl⟩
 rw [hx] at hN hs ⊢
 obtain ⟨bd,hbd⟩:∃bd,(bad||r.isEmpty||(nextW r).2)=bd:=⟨_,rfl⟩
 rw [hbd] at hN ⊢
 obtain ⟨rt,hrt⟩:∃rt,r.tail=rt:=⟨_,rfl⟩
 rw [hrt] at hN ⊢
 have HN:=Lib.hid hN
 have HM:=Lib.hid (fun W=>rnumber_any t W hs)
 clear hN h hx hbd hrt hs
 cases hq:sp.num t with
 | none =>
  have hv:numOr t=0:=by unfold numOr;rw [hq]
  have hr:rnumV t=.tuple #[.int .i64 0,.bool false]:=by unfold rnumV;rw [hq]
  rw [hr] at HM
  rw [hv]
  clear hv hr hq
  cases bd with
  | false =>
   show Calls Tryz.prog 65 #[.pointer (some ⟨b,0,none⟩)] w fun e w'=>e=.returned (.int .i64 0)∧RdR w0 b g n cap rt true w'
   go_enter Tryz.func65,Tryz.ntmps65
   go_wp2_with (first
    | (go_at_call 64;refine HN.out.mono ?_;rintro e w1 ⟨rfl,h1⟩;have H0:=Lib.hid h1;clear h1)
    | (go_at_call 97;refine (HM.out _).mono ?_;rintro e w2 ⟨rfl,hb2⟩;have H1:=Lib.hid (H0.out.on hb2);have c2:=H1.out.c2;have z2:=H1.out.z 2;clear hb2))
   go_ret
   exact ⟨rfl,H1.out.setBad _⟩
  | true =>
   show Calls Tryz.prog 65 #[.pointer (some ⟨b,0,none⟩)] w fun e w'=>e=.returned (.int .i64 0)∧RdR w0 b g n cap rt true w'
   go_enter Tryz.func65,Tryz.ntmps65
   go_wp2_with (first
    | (go_at_call 64;refine HN.out.mono ?_;rintro e w1 ⟨rfl,h1⟩;have H0:=Lib.hid h1;clear h1)
    | (go_at_call 97;refine (HM.out _).mono ?_;rintro e w2 ⟨rfl,hb2⟩;have H1:=Lib.hid (H0.out.on hb2);have c2:=H1.out.c2;have z2:=H1.out.z 2;clear hb2))
   go_ret
   exact ⟨rfl,H1.out.setBad _⟩
 | some m =>
  have hv:numOr t=m:=by unfold numOr;rw [hq]
  have hr:rnumV t=.tuple #[.int .i64 m,.bool true]:=by unfold rnumV;rw [hq]
  rw [hr] at HM
  rw [hv]
  clear hv hr hq
  cases bd with
  | false =>
   show Calls Tryz.prog 65 #[.pointer (some ⟨b,0,none⟩)] w fun e w'=>e=.returned (.int .i64 m)∧RdR w0 b g n cap rt false w'
   go_enter Tryz.func65,Tryz.ntmps65
   go_wp2_with (first
    | (go_at_call 64;refine HN.out.mono ?_;rintro e w1 ⟨rfl,h1⟩;have H0:=Lib.hid h1;clear h1)
    | (go_at_call 97;refine (HM.out _).mono ?_;rintro e w2 ⟨rfl,hb2⟩;have H1:=Lib.hid (H0.out.on hb2);have c2:=H1.out.c2;have z2:=H1.out.z 2;clear hb2))
   go_ret
   exact ⟨rfl,H1.out.setBad _⟩
  | true =>
   show Calls Tryz.prog 65 #[.pointer (some ⟨b,0,none⟩)] w fun e w'=>e=.returned (.int .i64 m)∧RdR w0 b g n cap rt true w'
   go_enter Tryz.func65,Tryz.ntmps65
   go_wp2_with (first
    | (go_at_call 64;refine HN.out.mono ?_;rintro e w1 ⟨rfl,h1⟩;have H0:=Lib.hid h1;clear h1)
    | (go_at_call 97;refine (HM.out _).mono ?_;rintro e w2 ⟨rfl,hb2⟩;have H1:=Lib.hid (H0.out.on hb2);have c2:=H1.out.c2;have z2:=H1.out.z 2;clear hb2))
   go_ret
   exact ⟨rfl,H1.out.setBad _⟩
set_option maxRecDepth 100000 in
set_option maxHeartbeats 4000000 in
theorem rrat_word (w0 w:World) (b g n cap:Nat) (r:List (List UInt8×Bool)) (bad:Bool) (h:RdR w0 b g n cap r bad w):Calls Tryz.prog 67 #[.pointer (some ⟨b,0,none⟩)] w fun e w'=>e=.returned (.agg #[.int .i64 (fracOr (nextW r).1).1,.int .i64 (fracOr (nextW r).1).2])∧RdR w0 b g n cap r.tail (bad||r.isEmpty||(nextW r).2||(sp.fracS (nextW r).1).isNone) w':=by
 have HB0:=Lib.hid (h.on (below_new w (.cells #[.int .i64 0,.int .i64 0] 24)))
 have HGL:Hid (w.heap.size≠b∧w.heap.size≠g∧w0.heap.size≤w.heap.size∧w.heap.size<(w.alloc (.cells #[.int .i64 0,.int .i64 0] 24)).heap.size):=Lib.hid ⟨Nat.ne_of_gt (lt_of_block h.blk),Nat.ne_of_gt h.glt,h.fr.size,by simp⟩
 have hN:=rword_any _ _ b g n cap r bad HB0.out.base
 have hs:=nextW_short h
 obtain ⟨t,hx⟩:∃t,(nextW r).1=t:=⟨_,rfl⟩
 rw [hx] at hN hs ⊢
 obtain ⟨bd,hbd⟩:∃bd,(bad||r.isEmpty||(nextW r).2)=bd:=⟨_,rfl⟩
 rw [hbd] at hN ⊢
 obtain ⟨rt,hrt⟩:∃rt,r.tail=rt:=⟨_,rfl⟩
 rw [hrt] at hN ⊢
 have HN:=Lib.hid hN
 have HM:=Lib.hid (fun W=>rparse_any t W hs)
 have HP:Hid (w0.heap.size≤w.heap.size):=Lib.hid h.fr.size
 clear hN h hx hbd hrt hs
 cases hq:sp.fracS t with
 | none =>
  have hv:fracOr t=(0,0):=by unfold fracOr;rw [hq]
  have HR:Hid (∀e,FracIs t e→e=.returned (.tuple #[.agg #[.int .i64 0,.int .i64 0],.int .i64 3])):=Lib.hid (fun e he=>by unfold FracIs at he;rw [hq] at he;exact he)
  rw [hv]
  clear hv hq
  cases bd with
  | false =>
   show Calls Tryz.prog 67 #[.pointer (some ⟨b,0,none⟩)] w fun e w'=>e=.returned (.agg #[.int .i64 0,.int .i64 0])∧RdR w0 b g n cap rt true w'
   go_enter Tryz.func67,Tryz.ntmps67
   go_wp2_with (first
    | (go_at_call 64;refine HN.out.mono ?_;rintro e w1 ⟨rfl,h1⟩;have H0:=Lib.hid h1;have HM0:=Lib.hid ((h1.fr.block _ HGL.out.2.2.2 HGL.out.1 (by simp)).trans (heap_alloc_at w _));clear h1)
    | (go_at_call 98;refine (HM.out _).mono ?_;rintro e w2 ⟨he,hb2⟩;have he2:=HR.out _ he;clear he;subst he2;have H1:=Lib.hid (H0.out.on (hb2.alloc hb2.size (.cells #[.int .i64 0,.int .i64 0] 24)));have c2:=H1.out.c2;have z2:=H1.out.z 2;have hm2:=heap_old w2 (.cells #[.int .i64 0,.int .i64 0] 24) _ ((hb2.block _ (lt_of_block HM0.out)).trans HM0.out);have HM2:=Lib.hid hm2;have d0:=blk_cell hm2 0 _ rfl;have d1:=blk_cell hm2 1 _ rfl;have y0:=blk_free hm2 0;have y1:=blk_free hm2 1;have n1:=HGL.out.1;clear hb2 hm2))
   have hq2:((w2.alloc (.cells #[.int .i64 0,.int .i64 0] 24)).setCell ⟨b,2,none⟩ (.bool true)).heap[w.heap.size]?=some (.cells #[.int .i64 0,.int .i64 0] 24 (0,0)):=(Below.heap_setCell _ _ _ _ n1).trans HM2.out
   have hr2:=((HB0.out.back (H1.out.setBad true)).other HGL.out.1 HGL.out.2.1 HGL.out.2.2.1 0 (.int .i64 0)).other HGL.out.1 HGL.out.2.1 HGL.out.2.2.1 1 (.int .i64 0)
   exact ret_rat rfl rfl (two_set hq2 _ _) ⟨rfl,hr2⟩
  | true =>
   show Calls Tryz.prog 67 #[.pointer (some ⟨b,0,none⟩)] w fun e w'=>e=.returned (.agg #[.int .i64 0,.int .i64 0])∧RdR w0 b g n cap rt true w'
   go_enter Tryz.func67,Tryz.ntmps67
   go_wp2_with (first
    | (go_at_call 64;refine HN.out.mono ?_;rintro e w1 ⟨rfl,h1⟩;have H0:=Lib.hid h1;have HM0:=Lib.hid ((h1.fr.block _ HGL.out.2.2.2 HGL.out.1 (by simp)).trans (heap_alloc_at w _));clear h1)
    | (go_at_call 98;refine (HM.out _).mono ?_;rintro e w2 ⟨he,hb2⟩;have he2:=HR.out _ he;clear he;subst he2;have H1:=Lib.hid (H0.out.on (hb2.alloc hb2.size (.cells #[.int .i64 0,.int .i64 0] 24)));have c2:=H1.out.c2;have z2:=H1.out.z 2;have hm2:=heap_old w2 (.cells #[.int .i64 0,.int .i64 0] 24) _ ((hb2.block _ (lt_of_block HM0.out)).trans HM0.out);have HM2:=Lib.hid hm2;have d0:=blk_cell hm2 0 _ rfl;have d1:=blk_cell hm2 1 _ rfl;have y0:=blk_free hm2 0;have y1:=blk_free hm2 1;have n1:=HGL.out.1;clear hb2 hm2))
   have hq2:((w2.alloc (.cells #[.int .i64 0,.int .i64 0] 24)).setCell ⟨b,2,none⟩ (.bool true)).heap[w.heap.size]?=some (.cells #[.int .i64 0,.int .i64 0] 24 (0,0)):=(Below.heap_setCell _ _ _ _ n1).trans HM2.out
   have hr2:=((HB0.out.back (H1.out.setBad true)).other HGL.out.1 HGL.out.2.1 HGL.out.2.2.1 0 (.int .i64 0)).other HGL.out.1 HGL.out.2.1 HGL.out.2.2.1 1 (.int .i64 0)
   exact ret_rat rfl rfl (two_set hq2 _ _) ⟨rfl,hr2⟩
 | some p =>
  have hv:fracOr t=p:=by unfold fracOr;rw [hq]
  have HR:Hid (∀e,FracIs t e→e=.returned (.tuple #[.agg #[.int .i64 p.1,.int .i64 p.2],.int .i64 0])):=Lib.hid (fun e he=>by unfold FracIs at he;rw [hq] at he;exact he)
  rw [hv]
  clear hv hq
  cases bd with
  | false =>
   show Calls Tryz.prog 67 #[.pointer (some ⟨b,0,none⟩)] w fun e w'=>e=.returned (.agg #[.int .i64 p.1,.int .i64 p.2])∧RdR w0 b g n cap rt false w'
   go_enter Tryz.func67,Tryz.ntmps67
   go_wp2_with (first
    | (go_at_call 64;refine HN.out.mono ?_;rintro e w1 ⟨rfl,h1⟩;have H0:=Lib.hid h1;have HM0:=Lib.hid ((h1.fr.block _ HGL.out.2.2.2 HGL.out.1 (by simp)).trans (heap_alloc_at w _));clear h1)
    | (go_at_call 98;refine (HM.out _).mono ?_;rintro e w2 ⟨he,hb2⟩;have he2:=HR.out _ he;clear he;subst he2;have H1:=Lib.hid (H0.out.on (hb2.alloc hb2.size (.cells #[.int .i64 p.1,.int .i64 p.2] 24)));have c2:=H1.out.c2;have z2:=H1.out.z 2;have hm2:=heap_old w2 (.cells #[.int .i64 p.1,.int .i64 p.2] 24) _ ((hb2.block _ (lt_of_block HM0.out)).trans HM0.out);have HM2:=Lib.hid hm2;have d0:=blk_cell hm2 0 _ rfl;have d1:=blk_cell hm2 1 _ rfl;have y0:=blk_free hm2 0;have y1:=blk_free hm2 1;have n1:=HGL.out.1;clear hb2 hm2))
   have hq2:((w2.alloc (.cells #[.int .i64 p.1,.int .i64 p.2] 24)).setCell ⟨b,2,none⟩ (.bool false)).heap[w.heap.size]?=some (.cells #[.int .i64 0,.int .i64 0] 24 (0,0)):=(Below.heap_setCell _ _ _ _ n1).trans HM2.out
   have hr2:=((HB0.out.back (H1.out.setBad false)).other HGL.out.1 HGL.out.2.1 HGL.out.2.2.1 0 (.int .i64 p.1)).other HGL.out.1 HGL.out.2.1 HGL.out.2.2.1 1 (.int .i64 p.2)
   exact ret_rat rfl rfl (two_set hq2 _ _) ⟨rfl,hr2⟩
  | true =>
   show Calls Tryz.prog 67 #[.pointer (some ⟨b,0,none⟩)] w fun e w'=>e=.returned (.agg #[.int .i64 p.1,.int .i64 p.2])∧RdR w0 b g n cap rt true w'
   go_enter Tryz.func67,Tryz.ntmps67
   go_wp2_with (first
    | (go_at_call 64;refine HN.out.mono ?_;rintro e w1 ⟨rfl,h1⟩;have H0:=Lib.hid h1;have HM0:=Lib.hid ((h1.fr.block _ HGL.out.2.2.2 HGL.out.1 (by simp)).trans (heap_alloc_at w _));clear h1)
    | (go_at_call 98;refine (HM.out _).mono ?_;rintro e w2 ⟨he,hb2⟩;have he2:=HR.out _ he;clear he;subst he2;have H1:=Lib.hid (H0.out.on (hb2.alloc hb2.size (.cells #[.int .i64 p.1,.int .i64 p.2] 24)));have c2:=H1.out.c2;have z2:=H1.out.z 2;have hm2:=heap_old w2 (.cells #[.int .i64 p.1,.int .i64 p.2] 24) _ ((hb2.block _ (lt_of_block HM0.out)).trans HM0.out);have HM2:=Lib.hid hm2;have d0:=blk_cell hm2 0 _ rfl;have d1:=blk_cell hm2 1 _ rfl;have y0:=blk_free hm2 0;have y1:=blk_free hm2 1;have n1:=HGL.out.1;clear hb2 hm2))
   have hq2:((w2.alloc (.cells #[.int .i64 p.1,.int .i64 p.2] 24)).setCell ⟨b,2,none⟩ (.bool true)).heap[w.heap.size]?=some (.cells #[.int .i64 0,.int .i64 0] 24 (0,0)):=(Below.heap_setCell _ _ _ _ n1).trans HM2.out
   have hr2:=((HB0.out.back (H1.out.setBad true)).other HGL.out.1 HGL.out.2.1 HGL.out.2.2.1 0 (.int .i64 p.1)).other HGL.out.1 HGL.out.2.1 HGL.out.2.2.1 1 (.int .i64 p.2)
   exact ret_rat rfl rfl (two_set hq2 _ _) ⟨rfl,hr2⟩
theorem cell_heap {W W':World} {g:Nat} (h:W'.heap[g]?=W.heap[g]?) (k:Nat):W'.cell? ⟨g,k,none⟩=W.cell? ⟨g,k,none⟩:=by unfold World.cell?;rw [h]
theorem RdR.row {w W:World} {b g n cap:Nat} {r:List (List UInt8×Bool)} {bad:Bool} (h:RdR w b g n cap r bad W) {m:Nat} (hm:m≠b) (hg:m≠g) (hw:w.heap.size≤m) (xs:Array Value):RdR w b g n cap r bad (W.setRow m xs) :=
 ⟨(setRow_far xs hm).trans h.blk,h.len,fun j u hu=>(cell_heap (setRow_far xs hg) _).trans (h.words j u hu),by simpa [World.setRow] using h.glt,h.ne,h.blt,⟨h.fr.os,h.fr.tape,h.fr.output,by simpa [World.setRow] using h.fr.size,fun j hj hb ho=>(setRow_far xs (show m≠j by omega)).trans (h.fr.block j hj hb ho)⟩,h.n63,h.short⟩
structure BxR (w0:World) (m b g n cap:Nat) (cs:Array Value) (r:List (List UInt8×Bool)) (bad:Bool) (W:World):Prop where
 rd:RdR w0 b g n cap r bad W
 res:W.heap[m]?=some (.cells #[.int .i64 0,.string ⟨#[]⟩,.int .i64 0,.int .i64 0,.int .i64 0,.int .i64 0] 26 (0,0))
 loc:W.heap[m+1]?=some (.cells cs 26 (0,0))
 n1:m≠b
 n2:m+1≠b
 n3:m≠g
 n4:m+1≠g
 lo:w0.heap.size≤m
section
variable {w0 W W':World} {m b g n cap:Nat} {cs:Array Value} {r r':List (List UInt8×Bool)} {bad bad':Bool}
theorem BxR.read (h:BxR w0 m b g n cap cs r bad W) (h2:RdR W b g n cap r' bad' W'):BxR w0 m b g n cap cs r' bad' W' :=
 ⟨h.rd.back h2,(h2.fr.block _ (lt_of_block h.res) h.n1 (by simp)).trans h.res,(h2.fr.block _ (lt_of_block h.loc) h.n2 (by simp)).trans h.loc,h.n1,h.n2,h.n3,h.n4,h.lo⟩
theorem BxR.set (h:BxR w0 m b g n cap cs r bad W) (k:Nat) (v:Value):BxR w0 m b g n cap (cs.setIfInBounds k v) r bad (W.setCell ⟨m+1,k,none⟩ v) :=
 ⟨h.rd.other h.n2 h.n4 (by have:=h.lo;omega) k v,(Below.heap_setCell _ _ _ _ (show m≠m+1 by omega)).trans h.res,blk_set h.loc k v,h.n1,h.n2,h.n3,h.n4,h.lo⟩
theorem BxR.setBad (h:BxR w0 m b g n cap cs r bad W) (v:Bool):BxR w0 m b g n cap cs r v (W.setCell ⟨b,2,none⟩ (.bool v)) :=
 ⟨h.rd.setBad v,(Below.heap_setCell _ _ _ _ (show m≠b from h.n1)).trans h.res,(Below.heap_setCell _ _ _ _ (show m+1≠b from h.n2)).trans h.loc,h.n1,h.n2,h.n3,h.n4,h.lo⟩
end
section
variable {w0 W W':World} {m b g n cap:Nat} {c0 c1 c2 c3 c4 c5:Value} {r r':List (List UInt8×Bool)} {bad bad':Bool}
theorem BxR.set0 (h:BxR w0 m b g n cap #[c0,c1,c2,c3,c4,c5] r bad W) (v:Value):BxR w0 m b g n cap #[v,c1,c2,c3,c4,c5] r bad (W.setCell ⟨m+1,0,none⟩ v):=by simpa using h.set 0 v
theorem BxR.set1 (h:BxR w0 m b g n cap #[c0,c1,c2,c3,c4,c5] r bad W) (v:Value):BxR w0 m b g n cap #[c0,v,c2,c3,c4,c5] r bad (W.setCell ⟨m+1,1,none⟩ v):=by simpa using h.set 1 v
theorem BxR.set23 (h:BxR w0 m b g n cap #[c0,c1,c2,c3,c4,c5] r bad W) (x y:Value):BxR w0 m b g n cap #[c0,c1,x,y,c4,c5] r bad ((W.setCell ⟨m+1,2,none⟩ x).setCell ⟨m+1,3,none⟩ y):=by simpa using (h.set 2 x).set 3 y
theorem BxR.set45 (h:BxR w0 m b g n cap #[c0,c1,c2,c3,c4,c5] r bad W) (x y:Value):BxR w0 m b g n cap #[c0,c1,c2,c3,x,y] r bad ((W.setCell ⟨m+1,4,none⟩ x).setCell ⟨m+1,5,none⟩ y):=by simpa using (h.set 4 x).set 5 y
end
theorem there_block {W:World} {g:Nat} {cs:Array Value} {t:TypeId} (h:W.heap[g]?=some (.cells cs t (0,0))) {o k:Nat} (hk:o+k≤cs.size):W.there g o k:=fun j hj=>by
 have hc:W.cell? ⟨g,o+j,none⟩=some (cs[o+j]'(by omega)):=blk_cell h _ _ (Array.getElem?_eq_getElem (by omega))
 exact ⟨by rw [hc];rfl,blk_free h _⟩
section
variable {ops:Array Oper} {rest:List Oper} {op:Oper} {a:Act} {Q:Exit→Act→World→Prop} {w0 W:World} {m b g n cap:Nat} {c0 c1 c2 c3 c4 c5:Value} {r:List (List UInt8×Bool)} {bad:Bool}
theorem wpl_bx2 (hgd:op.guard=none) (x y:Operand) (hop:op.op=.store 24 x y) (H:BxR w0 m b g n cap #[c0,c1,c2,c3,c4,c5] r bad W) (p q:Int) (hx:a.eval x=.pointer (some ⟨m+1,2,none⟩)) (hy:a.eval y=.agg #[.int .i64 p,.int .i64 q])
  (h:∀W',BxR w0 m b g n cap #[c0,c1,.int .i64 p,.int .i64 q,c4,c5] r bad W'→wpList Tryz.prog ops Q rest (a.put op.dst undef) W'):wpList Tryz.prog ops Q (op :: rest) a W :=
 wpList_store_mid hgd 24 x y hop (m+1) 2 _ hx hy (there_block H.loc (show 2+2≤6 by decide)) info24 (by simp [Value.oneCell']) (h _ (H.set23 _ _))
theorem wpl_bx4 (hgd:op.guard=none) (x y:Operand) (hop:op.op=.store 24 x y) (H:BxR w0 m b g n cap #[c0,c1,c2,c3,c4,c5] r bad W) (p q:Int) (hx:a.eval x=.pointer (some ⟨m+1,4,none⟩)) (hy:a.eval y=.agg #[.int .i64 p,.int .i64 q])
  (h:∀W',BxR w0 m b g n cap #[c0,c1,c2,c3,.int .i64 p,.int .i64 q] r bad W'→wpList Tryz.prog ops Q rest (a.put op.dst undef) W'):wpList Tryz.prog ops Q (op :: rest) a W :=
 wpList_store_mid hgd 24 x y hop (m+1) 4 _ hx hy (there_block H.loc (show 4+2≤6 by decide)) info24 (by simp [Value.oneCell']) (h _ (H.set45 _ _))
end
theorem BxR.start {w0 w:World} {b g n cap:Nat} {r:List (List UInt8×Bool)} {bad:Bool} (h:RdR w0 b g n cap r bad w):BxR w0 w.heap.size b g n cap #[.int .i64 0,.string ⟨#[]⟩,.int .i64 0,.int .i64 0,.int .i64 0,.int .i64 0] r bad ((w.alloc (.cells #[.int .i64 0,.string ⟨#[]⟩,.int .i64 0,.int .i64 0,.int .i64 0,.int .i64 0] 26)).alloc (.cells #[.int .i64 0,.string ⟨#[]⟩,.int .i64 0,.int .i64 0,.int .i64 0,.int .i64 0] 26)):=by
 have h1:=heap_alloc_at w (.cells #[.int .i64 0,.string ⟨#[]⟩,.int .i64 0,.int .i64 0,.int .i64 0,.int .i64 0] 26)
 have h2:=heap_alloc_at (w.alloc (.cells #[.int .i64 0,.string ⟨#[]⟩,.int .i64 0,.int .i64 0,.int .i64 0,.int .i64 0] 26)) (.cells #[.int .i64 0,.string ⟨#[]⟩,.int .i64 0,.int .i64 0,.int .i64 0,.int .i64 0] 26)
 have e1:(w.alloc (.cells #[.int .i64 0,.string ⟨#[]⟩,.int .i64 0,.int .i64 0,.int .i64 0,.int .i64 0] 26)).heap.size=w.heap.size+1:=by simp
 rw [e1] at h2
 have hb:=lt_of_block h.blk
 have hg:=h.glt
 exact ⟨h.on ((below_new w _).alloc (by simp) _),heap_old _ _ _ h1,h2,by omega,by omega,by omega,by omega,h.fr.size⟩
def boxC (bt:Int) (bn:List UInt8) (p q:Int×Int):Array Value:=#[.int .i64 bt,.string (bstr bn),.int .i64 p.1,.int .i64 p.2,.int .i64 q.1,.int .i64 q.2]
theorem size26:(Tryz.prog.info? 26).map (·.size)=some 6:=by kernel_rfl
theorem ret_box {W:World} {g:Nat} {cs:Array Value} {fn:Func} {tmps:Array Value} {R:Ending→World→Prop} (hr:fn.results=#[.cell 2 26]) (hp:tmps.getD 2 undef=.pointer (some ⟨g,0,none⟩)) (hg:W.heap[g]?=some (.cells cs 26 (0,0))) (hc:cs.size=6)
  (h:R (.returned (.agg cs)) W):bodyPost Tryz.prog fn R .ret ⟨tmps,[]⟩ W :=
 bodyPost_ret (results_cell_row hr tmps W g 26 cs (0,0) _ hp hg Tryz.underlying26 rfl (by rw [hc];exact size26)) rfl h
set_option maxRecDepth 100000 in
set_option maxHeartbeats 4000000 in
theorem rbox_none_dash (w0 w:World) (b g n cap:Nat) (r:List (List UInt8×Bool)) (bad:Bool) (h:RdR w0 b g n cap r bad w) (h1:(nextW r).1=sp.kNone) (hd:(nextW r.tail).1 = [45]):Calls Tryz.prog 68 #[.pointer (some ⟨b,0,none⟩)] w fun e w'=>e=.returned (.agg (boxC 0 [] (fracOr (nextW r.tail.tail).1) (fracOr (nextW r.tail.tail.tail).1)))∧RdR w0 b g n cap r.tail.tail.tail.tail ((bad||r.isEmpty||(nextW r).2)||r.tail.isEmpty||(nextW r.tail).2||r.tail.tail.isEmpty||(nextW r.tail.tail).2||(sp.fracS (nextW r.tail.tail).1).isNone||r.tail.tail.tail.isEmpty||(nextW r.tail.tail.tail).2||(sp.fracS (nextW r.tail.tail.tail).1).isNone) w':=by
 have H0:=Lib.hid (BxR.start h)
 have HC1:=Lib.hid (rword_any _ _ b g n cap r bad H0.out.rd.base)
 have s0:((bstr (nextW r).1).toList==[110,111,110,101])=true:=str_eq h1
 have sd:((bstr (nextW r.tail).1).toList==[45])=true:=str_eq hd
 clear h hd h1
 generalize hT1:(nextW r).1=t1 at HC1 s0
 generalize hT2:(nextW r.tail).1=t2 at sd ⊢
 have HT2:=Lib.hid hT2
 clear hT1 hT2
 go_enter Tryz.func68,Tryz.ntmps68
 go_wp2_with (first
  | (have hgd:=HC1;clear hgd;go_at_call 64;refine HC1.out.mono ?_;rintro e w1 ⟨rfl,h1⟩;have H1:=Lib.hid (H0.out.read h1);have l0:=blk_cell H1.out.loc 0 _ rfl;have f0:=blk_free H1.out.loc 0;have c2:=H1.out.rd.c2;have z2:=H1.out.rd.z 2;have HQ:=Lib.hid (H1.out);clear h1 HC1)
  | (have hgd:=HQ;clear hgd;go_at_call 64;refine (rword_any _ _ b g n cap _ _ HQ.out.rd.base).mono ?_;rw [HT2.out];rintro e w2 ⟨rfl,h2⟩;have H2:=Lib.hid (HQ.out.read h2);have l1:=blk_cell H2.out.loc 1 (.string ⟨#[]⟩) rfl;have f1:=blk_free H2.out.loc 1;have HP:=Lib.hid ((H2.out.set1 (.string (bstr t2))).set1 (.string ⟨#[]⟩));clear h2 HQ)
  | (have hgd:=HP;clear hgd;go_at_call 67;refine (rrat_word _ _ b g n cap _ _ HP.out.rd.base).mono ?_;rintro e w3 ⟨rfl,h3⟩;have H3:=Lib.hid (HP.out.read h3);clear h3 HP)
  | (have hgd:=H3;clear hgd;go_at_call 67;refine (rrat_word _ _ b g n cap _ _ H3.out.rd.base).mono ?_;rintro e w4 ⟨rfl,h4⟩;have H4:=Lib.hid (H3.out.read h4);clear h4 H3)
  | (have hgd:=H4;clear hgd;refine wpl_bx2 rfl _ _ rfl H4.out (fracOr (nextW r.tail.tail).1).1 (fracOr (nextW r.tail.tail).1).2 rfl rfl ?_;intro w5 h5;have H5:=Lib.hid h5;clear h5 H4)
  | (have hgd:=H5;clear hgd;refine wpl_bx4 rfl _ _ rfl H5.out (fracOr (nextW r.tail.tail.tail).1).1 (fracOr (nextW r.tail.tail.tail).1).2 rfl rfl ?_;intro w6 h6;have H6:=Lib.hid h6;clear h6 H5)
  | (have hgd:=H6;clear hgd;refine wpList_load_row rfl 26 _ rfl (w.heap.size+1) rfl 26 #[.int .i64 0,.string ⟨#[]⟩,.int .i64 (fracOr (nextW r.tail.tail).1).1,.int .i64 (fracOr (nextW r.tail.tail).1).2,.int .i64 (fracOr (nextW r.tail.tail.tail).1).1,.int .i64 (fracOr (nextW r.tail.tail.tail).1).2] (0,0) _ H6.out.loc Tryz.underlying26 rfl size26 ?_)
  | (have hgd:=H6;clear hgd;refine wpList_store_row rfl 26 _ _ rfl w.heap.size #[.int .i64 0,.string ⟨#[]⟩,.int .i64 (fracOr (nextW r.tail.tail).1).1,.int .i64 (fracOr (nextW r.tail.tail).1).2,.int .i64 (fracOr (nextW r.tail.tail.tail).1).1,.int .i64 (fracOr (nextW r.tail.tail.tail).1).2] rfl rfl 26 _ H6.out.res size26 rfl (by simp [Value.oneCell']) ?_))
 exact ret_box (cs:=#[.int .i64 0,.string ⟨#[]⟩,.int .i64 (fracOr (nextW r.tail.tail).1).1,.int .i64 (fracOr (nextW r.tail.tail).1).2,.int .i64 (fracOr (nextW r.tail.tail.tail).1).1,.int .i64 (fracOr (nextW r.tail.tail.tail).1).2]) rfl rfl (setRow_at H6.out.res _) rfl ⟨rfl,H6.out.rd.row H6.out.n1 H6.out.n3 H6.out.lo _⟩
set_option maxRecDepth 100000 in
set_option maxHeartbeats 4000000 in
theorem rbox_none_named (w0 w:World) (b g n cap:Nat) (r:List (List UInt8×Bool)) (bad:Bool) (h:RdR w0 b g n cap r bad w) (h1:(nextW r).1=sp.kNone) (hd:(nextW r.tail).1≠[45]):Calls Tryz.prog 68 #[.pointer (some ⟨b,0,none⟩)] w fun e w'=>e=.returned (.agg (boxC 0 (nextW r.tail).1 (fracOr (nextW r.tail.tail).1) (fracOr (nextW r.tail.tail.tail).1)))∧RdR w0 b g n cap r.tail.tail.tail.tail ((bad||r.isEmpty||(nextW r).2)||r.tail.isEmpty||(nextW r.tail).2||r.tail.tail.isEmpty||(nextW r.tail.tail).2||(sp.fracS (nextW r.tail.tail).1).isNone||r.tail.tail.tail.isEmpty||(nextW r.tail.tail.tail).2||(sp.fracS (nextW r.tail.tail.tail).1).isNone) w':=by
 have H0:=Lib.hid (BxR.start h)
 have HC1:=Lib.hid (rword_any _ _ b g n cap r bad H0.out.rd.base)
 have s0:((bstr (nextW r).1).toList==[110,111,110,101])=true:=str_eq h1
 have sd:((bstr (nextW r.tail).1).toList==[45])=false:=str_ne hd
 clear h hd h1
 generalize hT1:(nextW r).1=t1 at HC1 s0
 generalize hT2:(nextW r.tail).1=t2 at sd ⊢
 have HT2:=Lib.hid hT2
 clear hT1 hT2
 go_enter Tryz.func68,Tryz.ntmps68
 go_wp2_with (first
  | (have hgd:=HC1;clear hgd;go_at_call 64;refine HC1.out.mono ?_;rintro e w1 ⟨rfl,h1⟩;have H1:=Lib.hid (H0.out.read h1);have l0:=blk_cell H1.out.loc 0 _ rfl;have f0:=blk_free H1.out.loc 0;have c2:=H1.out.rd.c2;have z2:=H1.out.rd.z 2;have HQ:=Lib.hid (H1.out);clear h1 HC1)
  | (have hgd:=HQ;clear hgd;go_at_call 64;refine (rword_any _ _ b g n cap _ _ HQ.out.rd.base).mono ?_;rw [HT2.out];rintro e w2 ⟨rfl,h2⟩;have H2:=Lib.hid (HQ.out.read h2);have l1:=blk_cell H2.out.loc 1 (.string ⟨#[]⟩) rfl;have f1:=blk_free H2.out.loc 1;have HP:=Lib.hid (H2.out.set1 (.string (bstr t2)));clear h2 HQ)
  | (have hgd:=HP;clear hgd;go_at_call 67;refine (rrat_word _ _ b g n cap _ _ HP.out.rd.base).mono ?_;rintro e w3 ⟨rfl,h3⟩;have H3:=Lib.hid (HP.out.read h3);clear h3 HP)
  | (have hgd:=H3;clear hgd;go_at_call 67;refine (rrat_word _ _ b g n cap _ _ H3.out.rd.base).mono ?_;rintro e w4 ⟨rfl,h4⟩;have H4:=Lib.hid (H3.out.read h4);clear h4 H3)
  | (have hgd:=H4;clear hgd;refine wpl_bx2 rfl _ _ rfl H4.out (fracOr (nextW r.tail.tail).1).1 (fracOr (nextW r.tail.tail).1).2 rfl rfl ?_;intro w5 h5;have H5:=Lib.hid h5;clear h5 H4)
  | (have hgd:=H5;clear hgd;refine wpl_bx4 rfl _ _ rfl H5.out (fracOr (nextW r.tail.tail.tail).1).1 (fracOr (nextW r.tail.tail.tail).1).2 rfl rfl ?_;intro w6 h6;have H6:=Lib.hid h6;clear h6 H5)
  | (have hgd:=H6;clear hgd;refine wpList_load_row rfl 26 _ rfl (w.heap.size+1) rfl 26 #[.int .i64 0,.string (bstr t2),.int .i64 (fracOr (nextW r.tail.tail).1).1,.int .i64 (fracOr (nextW r.tail.tail).1).2,.int .i64 (fracOr (nextW r.tail.tail.tail).1).1,.int .i64 (fracOr (nextW r.tail.tail.tail).1).2] (0,0) _ H6.out.loc Tryz.underlying26 rfl size26 ?_)
  | (have hgd:=H6;clear hgd;refine wpList_store_row rfl 26 _ _ rfl w.heap.size #[.int .i64 0,.string (bstr t2),.int .i64 (fracOr (nextW r.tail.tail).1).1,.int .i64 (fracOr (nextW r.tail.tail).1).2,.int .i64 (fracOr (nextW r.tail.tail.tail).1).1,.int .i64 (fracOr (nextW r.tail.tail.tail).1).2] rfl rfl 26 _ H6.out.res size26 rfl (by simp [Value.oneCell']) ?_))
 exact ret_box (cs:=#[.int .i64 0,.string (bstr t2),.int .i64 (fracOr (nextW r.tail.tail).1).1,.int .i64 (fracOr (nextW r.tail.tail).1).2,.int .i64 (fracOr (nextW r.tail.tail.tail).1).1,.int .i64 (fracOr (nextW r.tail.tail.tail).1).2]) rfl rfl (setRow_at H6.out.res _) rfl ⟨rfl,H6.out.rd.row H6.out.n1 H6.out.n3 H6.out.lo _⟩
set_option maxRecDepth 100000 in
set_option maxHeartbeats 4000000 in
theorem rbox_inline_dash (w0 w:World) (b g n cap:Nat) (r:List (List UInt8×Bool)) (bad:Bool) (h:RdR w0 b g n cap r bad w) (h1:(nextW r).1=sp.kInline) (hd:(nextW r.tail).1 = [45]):Calls Tryz.prog 68 #[.pointer (some ⟨b,0,none⟩)] w fun e w'=>e=.returned (.agg (boxC 1 [] (fracOr (nextW r.tail.tail).1) (fracOr (nextW r.tail.tail.tail).1)))∧RdR w0 b g n cap r.tail.tail.tail.tail ((bad||r.isEmpty||(nextW r).2)||r.tail.isEmpty||(nextW r.tail).2||r.tail.tail.isEmpty||(nextW r.tail.tail).2||(sp.fracS (nextW r.tail.tail).1).isNone||r.tail.tail.tail.isEmpty||(nextW r.tail.tail.tail).2||(sp.fracS (nextW r.tail.tail.tail).1).isNone) w':=by
 have H0:=Lib.hid (BxR.start h)
 have HC1:=Lib.hid (rword_any _ _ b g n cap r bad H0.out.rd.base)
 have s0:((bstr (nextW r).1).toList==[110,111,110,101])=false:=str_ne (by rw [h1];decide)
 have s1:((bstr (nextW r).1).toList==[105,110,108,105,110,101])=true:=str_eq h1
 have sd:((bstr (nextW r.tail).1).toList==[45])=true:=str_eq hd
 clear h hd h1
 generalize hT1:(nextW r).1=t1 at HC1 s0 s1
 generalize hT2:(nextW r.tail).1=t2 at sd ⊢
 have HT2:=Lib.hid hT2
 clear hT1 hT2
 go_enter Tryz.func68,Tryz.ntmps68
 go_wp2_with (first
  | (have hgd:=HC1;clear hgd;go_at_call 64;refine HC1.out.mono ?_;rintro e w1 ⟨rfl,h1⟩;have H1:=Lib.hid (H0.out.read h1);have l0:=blk_cell H1.out.loc 0 _ rfl;have f0:=blk_free H1.out.loc 0;have c2:=H1.out.rd.c2;have z2:=H1.out.rd.z 2;have HQ:=Lib.hid (H1.out.set0 (.int .i64 1));clear h1 HC1)
  | (have hgd:=HQ;clear hgd;go_at_call 64;refine (rword_any _ _ b g n cap _ _ HQ.out.rd.base).mono ?_;rw [HT2.out];rintro e w2 ⟨rfl,h2⟩;have H2:=Lib.hid (HQ.out.read h2);have l1:=blk_cell H2.out.loc 1 (.string ⟨#[]⟩) rfl;have f1:=blk_free H2.out.loc 1;have HP:=Lib.hid ((H2.out.set1 (.string (bstr t2))).set1 (.string ⟨#[]⟩));clear h2 HQ)
  | (have hgd:=HP;clear hgd;go_at_call 67;refine (rrat_word _ _ b g n cap _ _ HP.out.rd.base).mono ?_;rintro e w3 ⟨rfl,h3⟩;have H3:=Lib.hid (HP.out.read h3);clear h3 HP)
  | (have hgd:=H3;clear hgd;go_at_call 67;refine (rrat_word _ _ b g n cap _ _ H3.out.rd.base).mono ?_;rintro e w4 ⟨rfl,h4⟩;have H4:=Lib.hid (H3.out.read h4);clear h4 H3)
  | (have hgd:=H4;clear hgd;refine wpl_bx2 rfl _ _ rfl H4.out (fracOr (nextW r.tail.tail).1).1 (fracOr (nextW r.tail.tail).1).2 rfl rfl ?_;intro w5 h5;have H5:=Lib.hid h5;clear h5 H4)
  | (have hgd:=H5;clear hgd;refine wpl_bx4 rfl _ _ rfl H5.out (fracOr (nextW r.tail.tail.tail).1).1 (fracOr (nextW r.tail.tail.tail).1).2 rfl rfl ?_;intro w6 h6;have H6:=Lib.hid h6;clear h6 H5)
  | (have hgd:=H6;clear hgd;refine wpList_load_row rfl 26 _ rfl (w.heap.size+1) rfl 26 #[.int .i64 1,.string ⟨#[]⟩,.int .i64 (fracOr (nextW r.tail.tail).1).1,.int .i64 (fracOr (nextW r.tail.tail).1).2,.int .i64 (fracOr (nextW r.tail.tail.tail).1).1,.int .i64 (fracOr (nextW r.tail.tail.tail).1).2] (0,0) _ H6.out.loc Tryz.underlying26 rfl size26 ?_)
  | (have hgd:=H6;clear hgd;refine wpList_store_row rfl 26 _ _ rfl w.heap.size #[.int .i64 1,.string ⟨#[]⟩,.int .i64 (fracOr (nextW r.tail.tail).1).1,.int .i64 (fracOr (nextW r.tail.tail).1).2,.int .i64 (fracOr (nextW r.tail.tail.tail).1).1,.int .i64 (fracOr (nextW r.tail.tail.tail).1).2] rfl rfl 26 _ H6.out.res size26 rfl (by simp [Value.oneCell']) ?_))
 exact ret_box (cs:=#[.int .i64 1,.string ⟨#[]⟩,.int .i64 (fracOr (nextW r.tail.tail).1).1,.int .i64 (fracOr (nextW r.tail.tail).1).2,.int .i64 (fracOr (nextW r.tail.tail.tail).1).1,.int .i64 (fracOr (nextW r.tail.tail.tail).1).2]) rfl rfl (setRow_at H6.out.res _) rfl ⟨rfl,H6.out.rd.row H6.out.n1 H6.out.n3 H6.out.lo _⟩
set_option maxRecDepth 100000 in
set_option maxHeartbeats 4000000 in
theorem rbox_inline_named (w0 w:World) (b g n cap:Nat) (r:List (List UInt8×Bool)) (bad:Bool) (h:RdR w0 b g n cap r bad w) (h1:(nextW r).1=sp.kInline) (hd:(nextW r.tail).1≠[45]):Calls Tryz.prog 68 #[.pointer (some ⟨b,0,none⟩)] w fun e w'=>e=.returned (.agg (boxC 1 (nextW r.tail).1 (fracOr (nextW r.tail.tail).1) (fracOr (nextW r.tail.tail.tail).1)))∧RdR w0 b g n cap r.tail.tail.tail.tail ((bad||r.isEmpty||(nextW r).2)||r.tail.isEmpty||(nextW r.tail).2||r.tail.tail.isEmpty||(nextW r.tail.tail).2||(sp.fracS (nextW r.tail.tail).1).isNone||r.tail.tail.tail.isEmpty||(nextW r.tail.tail.tail).2||(sp.fracS (nextW r.tail.tail.tail).1).isNone) w':=by
 have H0:=Lib.hid (BxR.start h)
 have HC1:=Lib.hid (rword_any _ _ b g n cap r bad H0.out.rd.base)
 have s0:((bstr (nextW r).1).toList==[110,111,110,101])=false:=str_ne (by rw [h1];decide)
 have s1:((bstr (nextW r).1).toList==[105,110,108,105,110,101])=true:=str_eq h1
 have sd:((bstr (nextW r.tail).1).toList==[45])=false:=str_ne hd
 clear h hd h1
 generalize hT1:(nextW r).1=t1 at HC1 s0 s1
 generalize hT2:(nextW r.tail).1=t2 at sd ⊢
 have HT2:=Lib.hid hT2
 clear hT1 hT2
 go_enter Tryz.func68,Tryz.ntmps68
 go_wp2_with (first
  | (have hgd:=HC1;clear hgd;go_at_call 64;refine HC1.out.mono ?_;rintro e w1 ⟨rfl,h1⟩;have H1:=Lib.hid (H0.out.read h1);have l0:=blk_cell H1.out.loc 0 _ rfl;have f0:=blk_free H1.out.loc 0;have c2:=H1.out.rd.c2;have z2:=H1.out.rd.z 2;have HQ:=Lib.hid (H1.out.set0 (.int .i64 1));clear h1 HC1)
  | (have hgd:=HQ;clear hgd;go_at_call 64;refine (rword_any _ _ b g n cap _ _ HQ.out.rd.base).mono ?_;rw [HT2.out];rintro e w2 ⟨rfl,h2⟩;have H2:=Lib.hid (HQ.out.read h2);have l1:=blk_cell H2.out.loc 1 (.string ⟨#[]⟩) rfl;have f1:=blk_free H2.out.loc 1;have HP:=Lib.hid (H2.out.set1 (.string (bstr t2)));clear h2 HQ)
  | (have hgd:=HP;clear hgd;go_at_call 67;refine (rrat_word _ _ b g n cap _ _ HP.out.rd.base).mono ?_;rintro e w3 ⟨rfl,h3⟩;have H3:=Lib.hid (HP.out.read h3);clear h3 HP)
  | (have hgd:=H3;clear hgd;go_at_call 67;refine (rrat_word _ _ b g n cap _ _ H3.out.rd.base).mono ?_;rintro e w4 ⟨rfl,h4⟩;have H4:=Lib.hid (H3.out.read h4);clear h4 H3)
  | (have hgd:=H4;clear hgd;refine wpl_bx2 rfl _ _ rfl H4.out (fracOr (nextW r.tail.tail).1).1 (fracOr (nextW r.tail.tail).1).2 rfl rfl ?_;intro w5 h5;have H5:=Lib.hid h5;clear h5 H4)
  | (have hgd:=H5;clear hgd;refine wpl_bx4 rfl _ _ rfl H5.out (fracOr (nextW r.tail.tail.tail).1).1 (fracOr (nextW r.tail.tail.tail).1).2 rfl rfl ?_;intro w6 h6;have H6:=Lib.hid h6;clear h6 H5)
  | (have hgd:=H6;clear hgd;refine wpList_load_row rfl 26 _ rfl (w.heap.size+1) rfl 26 #[.int .i64 1,.string (bstr t2),.int .i64 (fracOr (nextW r.tail.tail).1).1,.int .i64 (fracOr (nextW r.tail.tail).1).2,.int .i64 (fracOr (nextW r.tail.tail.tail).1).1,.int .i64 (fracOr (nextW r.tail.tail.tail).1).2] (0,0) _ H6.out.loc Tryz.underlying26 rfl size26 ?_)
  | (have hgd:=H6;clear hgd;refine wpList_store_row rfl 26 _ _ rfl w.heap.size #[.int .i64 1,.string (bstr t2),.int .i64 (fracOr (nextW r.tail.tail).1).1,.int .i64 (fracOr (nextW r.tail.tail).1).2,.int .i64 (fracOr (nextW r.tail.tail.tail).1).1,.int .i64 (fracOr (nextW r.tail.tail.tail).1).2] rfl rfl 26 _ H6.out.res size26 rfl (by simp [Value.oneCell']) ?_))
 exact ret_box (cs:=#[.int .i64 1,.string (bstr t2),.int .i64 (fracOr (nextW r.tail.tail).1).1,.int .i64 (fracOr (nextW r.tail.tail).1).2,.int .i64 (fracOr (nextW r.tail.tail.tail).1).1,.int .i64 (fracOr (nextW r.tail.tail.tail).1).2]) rfl rfl (setRow_at H6.out.res _) rfl ⟨rfl,H6.out.rd.row H6.out.n1 H6.out.n3 H6.out.lo _⟩
set_option maxRecDepth 100000 in
set_option maxHeartbeats 4000000 in
theorem rbox_size_dash (w0 w:World) (b g n cap:Nat) (r:List (List UInt8×Bool)) (bad:Bool) (h:RdR w0 b g n cap r bad w) (h1:(nextW r).1=sp.kSize) (hd:(nextW r.tail).1 = [45]):Calls Tryz.prog 68 #[.pointer (some ⟨b,0,none⟩)] w fun e w'=>e=.returned (.agg (boxC 2 [] (fracOr (nextW r.tail.tail).1) (fracOr (nextW r.tail.tail.tail).1)))∧RdR w0 b g n cap r.tail.tail.tail.tail ((bad||r.isEmpty||(nextW r).2)||r.tail.isEmpty||(nextW r.tail).2||r.tail.tail.isEmpty||(nextW r.tail.tail).2||(sp.fracS (nextW r.tail.tail).1).isNone||r.tail.tail.tail.isEmpty||(nextW r.tail.tail.tail).2||(sp.fracS (nextW r.tail.tail.tail).1).isNone) w':=by
 have H0:=Lib.hid (BxR.start h)
 have HC1:=Lib.hid (rword_any _ _ b g n cap r bad H0.out.rd.base)
 have s0:((bstr (nextW r).1).toList==[110,111,110,101])=false:=str_ne (by rw [h1];decide)
 have s1:((bstr (nextW r).1).toList==[105,110,108,105,110,101])=false:=str_ne (by rw [h1];decide)
 have s2:((bstr (nextW r).1).toList==[115,105,122,101])=true:=str_eq h1
 have sd:((bstr (nextW r.tail).1).toList==[45])=true:=str_eq hd
 clear h hd h1
 generalize hT1:(nextW r).1=t1 at HC1 s0 s1 s2
 generalize hT2:(nextW r.tail).1=t2 at sd ⊢
 have HT2:=Lib.hid hT2
 clear hT1 hT2
 go_enter Tryz.func68,Tryz.ntmps68
 go_wp2_with (first
  | (have hgd:=HC1;clear hgd;go_at_call 64;refine HC1.out.mono ?_;rintro e w1 ⟨rfl,h1⟩;have H1:=Lib.hid (H0.out.read h1);have l0:=blk_cell H1.out.loc 0 _ rfl;have f0:=blk_free H1.out.loc 0;have c2:=H1.out.rd.c2;have z2:=H1.out.rd.z 2;have HQ:=Lib.hid (H1.out.set0 (.int .i64 2));clear h1 HC1)
  | (have hgd:=HQ;clear hgd;go_at_call 64;refine (rword_any _ _ b g n cap _ _ HQ.out.rd.base).mono ?_;rw [HT2.out];rintro e w2 ⟨rfl,h2⟩;have H2:=Lib.hid (HQ.out.read h2);have l1:=blk_cell H2.out.loc 1 (.string ⟨#[]⟩) rfl;have f1:=blk_free H2.out.loc 1;have HP:=Lib.hid ((H2.out.set1 (.string (bstr t2))).set1 (.string ⟨#[]⟩));clear h2 HQ)
  | (have hgd:=HP;clear hgd;go_at_call 67;refine (rrat_word _ _ b g n cap _ _ HP.out.rd.base).mono ?_;rintro e w3 ⟨rfl,h3⟩;have H3:=Lib.hid (HP.out.read h3);clear h3 HP)
  | (have hgd:=H3;clear hgd;go_at_call 67;refine (rrat_word _ _ b g n cap _ _ H3.out.rd.base).mono ?_;rintro e w4 ⟨rfl,h4⟩;have H4:=Lib.hid (H3.out.read h4);clear h4 H3)
  | (have hgd:=H4;clear hgd;refine wpl_bx2 rfl _ _ rfl H4.out (fracOr (nextW r.tail.tail).1).1 (fracOr (nextW r.tail.tail).1).2 rfl rfl ?_;intro w5 h5;have H5:=Lib.hid h5;clear h5 H4)
  | (have hgd:=H5;clear hgd;refine wpl_bx4 rfl _ _ rfl H5.out (fracOr (nextW r.tail.tail.tail).1).1 (fracOr (nextW r.tail.tail.tail).1).2 rfl rfl ?_;intro w6 h6;have H6:=Lib.hid h6;clear h6 H5)
  | (have hgd:=H6;clear hgd;refine wpList_load_row rfl 26 _ rfl (w.heap.size+1) rfl 26 #[.int .i64 2,.string ⟨#[]⟩,.int .i64 (fracOr (nextW r.tail.tail).1).1,.int .i64 (fracOr (nextW r.tail.tail).1).2,.int .i64 (fracOr (nextW r.tail.tail.tail).1).1,.int .i64 (fracOr (nextW r.tail.tail.tail).1).2] (0,0) _ H6.out.loc Tryz.underlying26 rfl size26 ?_)
  | (have hgd:=H6;clear hgd;refine wpList_store_row rfl 26 _ _ rfl w.heap.size #[.int .i64 2,.string ⟨#[]⟩,.int .i64 (fracOr (nextW r.tail.tail).1).1,.int .i64 (fracOr (nextW r.tail.tail).1).2,.int .i64 (fracOr (nextW r.tail.tail.tail).1).1,.int .i64 (fracOr (nextW r.tail.tail.tail).1).2] rfl rfl 26 _ H6.out.res size26 rfl (by simp [Value.oneCell']) ?_))
 exact ret_box (cs:=#[.int .i64 2,.string ⟨#[]⟩,.int .i64 (fracOr (nextW r.tail.tail).1).1,.int .i64 (fracOr (nextW r.tail.tail).1).2,.int .i64 (fracOr (nextW r.tail.tail.tail).1).1,.int .i64 (fracOr (nextW r.tail.tail.tail).1).2]) rfl rfl (setRow_at H6.out.res _) rfl ⟨rfl,H6.out.rd.row H6.out.n1 H6.out.n3 H6.out.lo _⟩
set_option maxRecDepth 100000 in
set_option maxHeartbeats 4000000 in
theorem rbox_size_named (w0 w:World) (b g n cap:Nat) (r:List (List UInt8×Bool)) (bad:Bool) (h:RdR w0 b g n cap r bad w) (h1:(nextW r).1=sp.kSize) (hd:(nextW r.tail).1≠[45]):Calls Tryz.prog 68 #[.pointer (some ⟨b,0,none⟩)] w fun e w'=>e=.returned (.agg (boxC 2 (nextW r.tail).1 (fracOr (nextW r.tail.tail).1) (fracOr (nextW r.tail.tail.tail).1)))∧RdR w0 b g n cap r.tail.tail.tail.tail ((bad||r.isEmpty||(nextW r).2)||r.tail.isEmpty||(nextW r.tail).2||r.tail.tail.isEmpty||(nextW r.tail.tail).2||(sp.fracS (nextW r.tail.tail).1).isNone||r.tail.tail.tail.isEmpty||(nextW r.tail.tail.tail).2||(sp.fracS (nextW r.tail.tail.tail).1).isNone) w':=by
 have H0:=Lib.hid (BxR.start h)
 have HC1:=Lib.hid (rword_any _ _ b g n cap r bad H0.out.rd.base)
 have s0:((bstr (nextW r).1).toList==[110,111,110,101])=false:=str_ne (by rw [h1];decide)
 have s1:((bstr (nextW r).1).toList==[105,110,108,105,110,101])=false:=str_ne (by rw [h1];decide)
 have s2:((bstr (nextW r).1).toList==[115,105,122,101])=true:=str_eq h1
 have sd:((bstr (nextW r.tail).1).toList==[45])=false:=str_ne hd
 clear h hd h1
 generalize hT1:(nextW r).1=t1 at HC1 s0 s1 s2
 generalize hT2:(nextW r.tail).1=t2 at sd ⊢
 have HT2:=Lib.hid hT2
 clear hT1 hT2
 go_enter Tryz.func68,Tryz.ntmps68
 go_wp2_with (first
  | (have hgd:=HC1;clear hgd;go_at_call 64;refine HC1.out.mono ?_;rintro e w1 ⟨rfl,h1⟩;have H1:=Lib.hid (H0.out.read h1);have l0:=blk_cell H1.out.loc 0 _ rfl;have f0:=blk_free H1.out.loc 0;have c2:=H1.out.rd.c2;have z2:=H1.out.rd.z 2;have HQ:=Lib.hid (H1.out.set0 (.int .i64 2));clear h1 HC1)
  | (have hgd:=HQ;clear hgd;go_at_call 64;refine (rword_any _ _ b g n cap _ _ HQ.out.rd.base).mono ?_;rw [HT2.out];rintro e w2 ⟨rfl,h2⟩;have H2:=Lib.hid (HQ.out.read h2);have l1:=blk_cell H2.out.loc 1 (.string ⟨#[]⟩) rfl;have f1:=blk_free H2.out.loc 1;have HP:=Lib.hid (H2.out.set1 (.string (bstr t2)));clear h2 HQ)
  | (have hgd:=HP;clear hgd;go_at_call 67;refine (rrat_word _ _ b g n cap _ _ HP.out.rd.base).mono ?_;rintro e w3 ⟨rfl,h3⟩;have H3:=Lib.hid (HP.out.read h3);clear h3 HP)
  | (have hgd:=H3;clear hgd;go_at_call 67;refine (rrat_word _ _ b g n cap _ _ H3.out.rd.base).mono ?_;rintro e w4 ⟨rfl,h4⟩;have H4:=Lib.hid (H3.out.read h4);clear h4 H3)
  | (have hgd:=H4;clear hgd;refine wpl_bx2 rfl _ _ rfl H4.out (fracOr (nextW r.tail.tail).1).1 (fracOr (nextW r.tail.tail).1).2 rfl rfl ?_;intro w5 h5;have H5:=Lib.hid h5;clear h5 H4)
  | (have hgd:=H5;clear hgd;refine wpl_bx4 rfl _ _ rfl H5.out (fracOr (nextW r.tail.tail.tail).1).1 (fracOr (nextW r.tail.tail.tail).1).2 rfl rfl ?_;intro w6 h6;have H6:=Lib.hid h6;clear h6 H5)
  | (have hgd:=H6;clear hgd;refine wpList_load_row rfl 26 _ rfl (w.heap.size+1) rfl 26 #[.int .i64 2,.string (bstr t2),.int .i64 (fracOr (nextW r.tail.tail).1).1,.int .i64 (fracOr (nextW r.tail.tail).1).2,.int .i64 (fracOr (nextW r.tail.tail.tail).1).1,.int .i64 (fracOr (nextW r.tail.tail.tail).1).2] (0,0) _ H6.out.loc Tryz.underlying26 rfl size26 ?_)
  | (have hgd:=H6;clear hgd;refine wpList_store_row rfl 26 _ _ rfl w.heap.size #[.int .i64 2,.string (bstr t2),.int .i64 (fracOr (nextW r.tail.tail).1).1,.int .i64 (fracOr (nextW r.tail.tail).1).2,.int .i64 (fracOr (nextW r.tail.tail.tail).1).1,.int .i64 (fracOr (nextW r.tail.tail.tail).1).2] rfl rfl 26 _ H6.out.res size26 rfl (by simp [Value.oneCell']) ?_))
 exact ret_box (cs:=#[.int .i64 2,.string (bstr t2),.int .i64 (fracOr (nextW r.tail.tail).1).1,.int .i64 (fracOr (nextW r.tail.tail).1).2,.int .i64 (fracOr (nextW r.tail.tail.tail).1).1,.int .i64 (fracOr (nextW r.tail.tail.tail).1).2]) rfl rfl (setRow_at H6.out.res _) rfl ⟨rfl,H6.out.rd.row H6.out.n1 H6.out.n3 H6.out.lo _⟩
set_option maxRecDepth 100000 in
set_option maxHeartbeats 4000000 in
theorem rbox_other_dash (w0 w:World) (b g n cap:Nat) (r:List (List UInt8×Bool)) (bad:Bool) (h:RdR w0 b g n cap r bad w) (h1:(nextW r).1≠sp.kNone) (h2:(nextW r).1≠sp.kInline) (h3:(nextW r).1≠sp.kSize) (hd:(nextW r.tail).1 = [45]):Calls Tryz.prog 68 #[.pointer (some ⟨b,0,none⟩)] w fun e w'=>e=.returned (.agg (boxC 0 [] (fracOr (nextW r.tail.tail).1) (fracOr (nextW r.tail.tail.tail).1)))∧RdR w0 b g n cap r.tail.tail.tail.tail (true||r.tail.isEmpty||(nextW r.tail).2||r.tail.tail.isEmpty||(nextW r.tail.tail).2||(sp.fracS (nextW r.tail.tail).1).isNone||r.tail.tail.tail.isEmpty||(nextW r.tail.tail.tail).2||(sp.fracS (nextW r.tail.tail.tail).1).isNone) w':=by
 have H0:=Lib.hid (BxR.start h)
 have HC1:=Lib.hid (rword_any _ _ b g n cap r bad H0.out.rd.base)
 have s0:((bstr (nextW r).1).toList==[110,111,110,101])=false:=str_ne h1
 have s1:((bstr (nextW r).1).toList==[105,110,108,105,110,101])=false:=str_ne h2
 have s2:((bstr (nextW r).1).toList==[115,105,122,101])=false:=str_ne h3
 have sd:((bstr (nextW r.tail).1).toList==[45])=true:=str_eq hd
 clear h hd h1 h2 h3
 generalize hT1:(nextW r).1=t1 at HC1 s0 s1 s2
 generalize hT2:(nextW r.tail).1=t2 at sd ⊢
 have HT2:=Lib.hid hT2
 clear hT1 hT2
 go_enter Tryz.func68,Tryz.ntmps68
 go_wp2_with (first
  | (have hgd:=HC1;clear hgd;go_at_call 64;refine HC1.out.mono ?_;rintro e w1 ⟨rfl,h1⟩;have H1:=Lib.hid (H0.out.read h1);have l0:=blk_cell H1.out.loc 0 _ rfl;have f0:=blk_free H1.out.loc 0;have c2:=H1.out.rd.c2;have z2:=H1.out.rd.z 2;have HQ:=Lib.hid (H1.out.setBad true);clear h1 HC1)
  | (have hgd:=HQ;clear hgd;go_at_call 64;refine (rword_any _ _ b g n cap _ _ HQ.out.rd.base).mono ?_;rw [HT2.out];rintro e w2 ⟨rfl,h2⟩;have H2:=Lib.hid (HQ.out.read h2);have l1:=blk_cell H2.out.loc 1 (.string ⟨#[]⟩) rfl;have f1:=blk_free H2.out.loc 1;have HP:=Lib.hid ((H2.out.set1 (.string (bstr t2))).set1 (.string ⟨#[]⟩));clear h2 HQ)
  | (have hgd:=HP;clear hgd;go_at_call 67;refine (rrat_word _ _ b g n cap _ _ HP.out.rd.base).mono ?_;rintro e w3 ⟨rfl,h3⟩;have H3:=Lib.hid (HP.out.read h3);clear h3 HP)
  | (have hgd:=H3;clear hgd;go_at_call 67;refine (rrat_word _ _ b g n cap _ _ H3.out.rd.base).mono ?_;rintro e w4 ⟨rfl,h4⟩;have H4:=Lib.hid (H3.out.read h4);clear h4 H3)
  | (have hgd:=H4;clear hgd;refine wpl_bx2 rfl _ _ rfl H4.out (fracOr (nextW r.tail.tail).1).1 (fracOr (nextW r.tail.tail).1).2 rfl rfl ?_;intro w5 h5;have H5:=Lib.hid h5;clear h5 H4)
  | (have hgd:=H5;clear hgd;refine wpl_bx4 rfl _ _ rfl H5.out (fracOr (nextW r.tail.tail.tail).1).1 (fracOr (nextW r.tail.tail.tail).1).2 rfl rfl ?_;intro w6 h6;have H6:=Lib.hid h6;clear h6 H5)
  | (have hgd:=H6;clear hgd;refine wpList_load_row rfl 26 _ rfl (w.heap.size+1) rfl 26 #[.int .i64 0,.string ⟨#[]⟩,.int .i64 (fracOr (nextW r.tail.tail).1).1,.int .i64 (fracOr (nextW r.tail.tail).1).2,.int .i64 (fracOr (nextW r.tail.tail.tail).1).1,.int .i64 (fracOr (nextW r.tail.tail.tail).1).2] (0,0) _ H6.out.loc Tryz.underlying26 rfl size26 ?_)
  | (have hgd:=H6;clear hgd;refine wpList_store_row rfl 26 _ _ rfl w.heap.size #[.int .i64 0,.string ⟨#[]⟩,.int .i64 (fracOr (nextW r.tail.tail).1).1,.int .i64 (fracOr (nextW r.tail.tail).1).2,.int .i64 (fracOr (nextW r.tail.tail.tail).1).1,.int .i64 (fracOr (nextW r.tail.tail.tail).1).2] rfl rfl 26 _ H6.out.res size26 rfl (by simp [Value.oneCell']) ?_))
 exact ret_box (cs:=#[.int .i64 0,.string ⟨#[]⟩,.int .i64 (fracOr (nextW r.tail.tail).1).1,.int .i64 (fracOr (nextW r.tail.tail).1).2,.int .i64 (fracOr (nextW r.tail.tail.tail).1).1,.int .i64 (fracOr (nextW r.tail.tail.tail).1).2]) rfl rfl (setRow_at H6.out.res _) rfl ⟨rfl,H6.out.rd.row H6.out.n1 H6.out.n3 H6.out.lo _⟩
set_option maxRecDepth 100000 in
set_option maxHeartbeats 4000000 in
theorem rbox_other_named (w0 w:World) (b g n cap:Nat) (r:List (List UInt8×Bool)) (bad:Bool) (h:RdR w0 b g n cap r bad w) (h1:(nextW r).1≠sp.kNone) (h2:(nextW r).1≠sp.kInline) (h3:(nextW r).1≠sp.kSize) (hd:(nextW r.tail).1≠[45]):Calls Tryz.prog 68 #[.pointer (some ⟨b,0,none⟩)] w fun e w'=>e=.returned (.agg (boxC 0 (nextW r.tail).1 (fracOr (nextW r.tail.tail).1) (fracOr (nextW r.tail.tail.tail).1)))∧RdR w0 b g n cap r.tail.tail.tail.tail (true||r.tail.isEmpty||(nextW r.tail).2||r.tail.tail.isEmpty||(nextW r.tail.tail).2||(sp.fracS (nextW r.tail.tail).1).isNone||r.tail.tail.tail.isEmpty||(nextW r.tail.tail.tail).2||(sp.fracS (nextW r.tail.tail.tail).1).isNone) w':=by
 have H0:=Lib.hid (BxR.start h)
 have HC1:=Lib.hid (rword_any _ _ b g n cap r bad H0.out.rd.base)
 have s0:((bstr (nextW r).1).toList==[110,111,110,101])=false:=str_ne h1
 have s1:((bstr (nextW r).1).toList==[105,110,108,105,110,101])=false:=str_ne h2
 have s2:((bstr (nextW r).1).toList==[115,105,122,101])=false:=str_ne h3
 have sd:((bstr (nextW r.tail).1).toList==[45])=false:=str_ne hd
 clear h hd h1 h2 h3
 generalize hT1:(nextW r).1=t1 at HC1 s0 s1 s2
 generalize hT2:(nextW r.tail).1=t2 at sd ⊢
 have HT2:=Lib.hid hT2
 clear hT1 hT2
 go_enter Tryz.func68,Tryz.ntmps68
 go_wp2_with (first
  | (have hgd:=HC1;clear hgd;go_at_call 64;refine HC1.out.mono ?_;rintro e w1 ⟨rfl,h1⟩;have H1:=Lib.hid (H0.out.read h1);have l0:=blk_cell H1.out.loc 0 _ rfl;have f0:=blk_free H1.out.loc 0;have c2:=H1.out.rd.c2;have z2:=H1.out.rd.z 2;have HQ:=Lib.hid (H1.out.setBad true);clear h1 HC1)
  | (have hgd:=HQ;clear hgd;go_at_call 64;refine (rword_any _ _ b g n cap _ _ HQ.out.rd.base).mono ?_;rw [HT2.out];rintro e w2 ⟨rfl,h2⟩;have H2:=Lib.hid (HQ.out.read h2);have l1:=blk_cell H2.out.loc 1 (.string ⟨#[]⟩) rfl;have f1:=blk_free H2.out.loc 1;have HP:=Lib.hid (H2.out.set1 (.string (bstr t2)));clear h2 HQ)
  | (have hgd:=HP;clear hgd;go_at_call 67;refine (rrat_word _ _ b g n cap _ _ HP.out.rd.base).mono ?_;rintro e w3 ⟨rfl,h3⟩;have H3:=Lib.hid (HP.out.read h3);clear h3 HP)
  | (have hgd:=H3;clear hgd;go_at_call 67;refine (rrat_word _ _ b g n cap _ _ H3.out.rd.base).mono ?_;rintro e w4 ⟨rfl,h4⟩;have H4:=Lib.hid (H3.out.read h4);clear h4 H3)
  | (have hgd:=H4;clear hgd;refine wpl_bx2 rfl _ _ rfl H4.out (fracOr (nextW r.tail.tail).1).1 (fracOr (nextW r.tail.tail).1).2 rfl rfl ?_;intro w5 h5;have H5:=Lib.hid h5;clear h5 H4)
  | (have hgd:=H5;clear hgd;refine wpl_bx4 rfl _ _ rfl H5.out (fracOr (nextW r.tail.tail.tail).1).1 (fracOr (nextW r.tail.tail.tail).1).2 rfl rfl ?_;intro w6 h6;have H6:=Lib.hid h6;clear h6 H5)
  | (have hgd:=H6;clear hgd;refine wpList_load_row rfl 26 _ rfl (w.heap.size+1) rfl 26 #[.int .i64 0,.string (bstr t2),.int .i64 (fracOr (nextW r.tail.tail).1).1,.int .i64 (fracOr (nextW r.tail.tail).1).2,.int .i64 (fracOr (nextW r.tail.tail.tail).1).1,.int .i64 (fracOr (nextW r.tail.tail.tail).1).2] (0,0) _ H6.out.loc Tryz.underlying26 rfl size26 ?_)
  | (have hgd:=H6;clear hgd;refine wpList_store_row rfl 26 _ _ rfl w.heap.size #[.int .i64 0,.string (bstr t2),.int .i64 (fracOr (nextW r.tail.tail).1).1,.int .i64 (fracOr (nextW r.tail.tail).1).2,.int .i64 (fracOr (nextW r.tail.tail.tail).1).1,.int .i64 (fracOr (nextW r.tail.tail.tail).1).2] rfl rfl 26 _ H6.out.res size26 rfl (by simp [Value.oneCell']) ?_))
 exact ret_box (cs:=#[.int .i64 0,.string (bstr t2),.int .i64 (fracOr (nextW r.tail.tail).1).1,.int .i64 (fracOr (nextW r.tail.tail).1).2,.int .i64 (fracOr (nextW r.tail.tail.tail).1).1,.int .i64 (fracOr (nextW r.tail.tail.tail).1).2]) rfl rfl (setRow_at H6.out.res _) rfl ⟨rfl,H6.out.rd.row H6.out.n1 H6.out.n3 H6.out.lo _⟩
end Go.Proofs.YtihlneenajlhoaaGreatDoor
