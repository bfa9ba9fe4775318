/-
 Contract, for a run of one goroutine, of rat.Parse: the fraction of a text, as the plain law says. Condition: lengths that fit.
-/
import Derived.Test.YtihlneenajlhoaaGreatDoorS3
import Derived.Laws.ResultCell
import Derived.Lib.IndexAny
import Derived.Test.YtihlneenajlhoaaGreatDoorS2
import Derived.Deep.RegionHeld
import Derived.Test.YtihlneenajlhoaaGreatDoorS1
import Derived.Defers
import Derived.Recover
import Derived.Laws.CopyOwn
set_option linter.unusedSimpArgs false
set_option linter.unusedVariables false
namespace Go.Proofs.YtihlneenajlhoaaGreatDoor
open Go Go.RowKit
theorem wX {P:Program} {fn:Func} {p u:Tmp} {ty:TypeId} (h:fn.results=#[.cell p ty,.tmp u]) (tmps:Array Value) (w:World) (g:Nat) (t:TypeId) (cs:Array Value) (fr:Nat×Nat) (d:TypeDesc)
  (hp:tmps.getD p undef=.pointer (some ⟨g,0,none⟩)) (hg:w.heap[g]?=some (.cells cs t fr))
  (hu:P.underlying ty=some d) (hd:(match d with | .struct _ | .array _ _=>true | _=>false)=true) (hi:(P.info? ty).map (·.size)=some cs.size) :
  (results fn tmps).run P w=.ok (.tuple #[.agg cs,tmps.getD u undef]) w:=by
 rw [results_cell_tmp h,hp]
 have hl:=run_loadVar_row (P:=P) w g t ty cs fr d hg hu hd hi
 simp only [asAddr,Sem.run_pure,Result.andThen_ok,hl]
theorem info24:(Tryz.prog.info? 24).map (·.size)=some 2:=by kernel_rfl
theorem BQ {W:World} {g:Nat} {a b:Value} {e:Value} {fn:Func} {tmps:Array Value} {R:Ending→World→Prop} (hr:fn.results=#[.cell 2 24,.tmp 3]) (hp:tmps.getD 2 undef=.pointer (some ⟨g,0,none⟩)) (he:tmps.getD 3 undef=e) (hg:W.heap[g]?=some (.cells #[a,b] 24 (0,0)))
  (h:R (.returned (.tuple #[.agg #[a,b],e])) W):bodyPost Tryz.prog fn R .ret ⟨tmps,[]⟩ W:=by
 refine bodyPost_ret (wX hr tmps W g 24 #[a,b] (0,0) _ hp hg Tryz.underlying24 rfl info24) rfl ?_
 rw [he]
 exact h
theorem Ht {w1:World} {g:Nat} {x y:Value} (h:w1.heap[g]?=some (.cells #[x,y] 24 (0,0))) (a b:Value):((w1.setCell ⟨g,0,none⟩ a).setCell ⟨g,1,none⟩ b).heap[g]?=some (.cells #[a,b] 24 (0,0)):=by
 have:=D9 (D9 h 0 a) 1 b
 simpa using this
theorem Yz {Y:List UInt8} {v:Int} {u:List UInt8} (h:FB Y v u true):0≤v∧v≤9223372036854775807:=by
 obtain ⟨h1,h2⟩:=h
 rw [if_pos rfl] at h2
 obtain ⟨_,_,h3,h4,_⟩:=h2
 constructor<;>omega
structure PF (w:World) (R:Nat) (n d:Int) (W:World):Prop where
 res:W.heap[w.heap.size]?=some (.cells #[.int .i64 0,.int .i64 0] 24 (0,0))
 Jf:W.heap[R]?=some (.cells #[.int .i64 n,.int .i64 d] 24 (0,0))
 bel:Below w.heap.size w W
theorem PF.new {w w1:World} (h1:Below w.heap.size w w1) (h2:w1.heap[w.heap.size]?=some (.cells #[.int .i64 0,.int .i64 0] 24 (0,0))) (n d:Int):PF w w1.heap.size n d (w1.alloc (.cells #[.int .i64 n,.int .i64 d] 24)) :=
 ⟨Dt _ _ _ h2,AX _ _,h1.alloc (by have:=lt_of_block h2;omega) _⟩
theorem PF.on {w W W':World} {R:Nat} {n d:Int} (h:PF w R n d W) (hb:Below W.heap.size W W'):PF w R n d W' :=
 ⟨(hb.block _ (lt_of_block h.res)).trans h.res,(hb.block _ (lt_of_block h.Jf)).trans h.Jf,h.bel.trans (hb.mono (by have:=lt_of_block h.res;omega))⟩
theorem PF.cells {w W:World} {R:Nat} {n d:Int} (h:PF w R n d W):W.cell? ⟨R,0,none⟩=some (.int .i64 n)∧W.cell? ⟨R,1,none⟩=some (.int .i64 d)∧W.cell? ⟨w.heap.size,0,none⟩=some (.int .i64 0)∧W.cell? ⟨w.heap.size,1,none⟩=some (.int .i64 0)∧W.frozen? ⟨w.heap.size,0,none⟩=false∧W.frozen? ⟨w.heap.size,1,none⟩=false :=
 ⟨by rw [Lib.cell_of_heap h.Jf];rfl,by rw [Lib.cell_of_heap h.Jf];rfl,by rw [Lib.cell_of_heap h.res];rfl,by rw [Lib.cell_of_heap h.res];rfl,Ag h.res 0,Ag h.res 1⟩
theorem PF.free {w W:World} {R:Nat} {n d:Int} (h:PF w R n d W):W.frozen? ⟨R,0,none⟩=false∧W.frozen? ⟨R,1,none⟩=false:=⟨Ag h.Jf 0,Ag h.Jf 1⟩
theorem Eu {W:World} {R g:Nat} (hne:R≠g) (o:Nat) (v:Value):(W.setCell ⟨R,o,none⟩ v).heap[g]?=W.heap[g]?:=by
 show (W.heap.modify R _)[g]?=_
 rw [Array.getElem?_modify]
 simp [hne]
theorem PF.den {w W:World} {R:Nat} {n d:Int} (h:PF w R n d W) (hR:w.heap.size<R) (d':Int):PF w R n d' (W.setCell ⟨R,1,none⟩ (.int .i64 d')) :=
 ⟨(Eu (by omega) _ _).trans h.res,by have:=D9 h.Jf 1 (.int .i64 d');simpa using this,h.bel.setCell (Nat.le_of_lt hR) _⟩
theorem PF.num {w W:World} {R:Nat} {n d:Int} (h:PF w R n d W) (hR:w.heap.size<R) (n':Int):PF w R n' d (W.setCell ⟨R,0,none⟩ (.int .i64 n')) :=
 ⟨(Eu (by omega) _ _).trans h.res,by have:=D9 h.Jf 0 (.int .i64 n');simpa using this,h.bel.setCell (Nat.le_of_lt hR) _⟩
theorem PF.fin {w W:World} {R:Nat} {n d:Int} (h:PF w R n d W) (a b:Value):((W.setCell ⟨w.heap.size,0,none⟩ a).setCell ⟨w.heap.size,1,none⟩ b).heap[w.heap.size]?=some (.cells #[a,b] 24 (0,0))∧Below w.heap.size w ((W.setCell ⟨w.heap.size,0,none⟩ a).setCell ⟨w.heap.size,1,none⟩ b) :=
 ⟨Ht h.res a b,(h.bel.setCell (Nat.le_refl _) _).setCell (Nat.le_refl _) _⟩
set_option maxRecDepth 100000 in
set_option maxHeartbeats 4000000 in
theorem parse_any (X:List UInt8) (w:World) (hn:X.length≤1099511627776):Calls Tryz.prog 93 #[.string (AA X)] w fun e w'=>Cb X e∧Below w.heap.size w w':=by
 by_cases hX:X=sp.over
 ·have hs:=str_eq hX
  have HF:Hid (Cb X (.returned (.tuple #[.agg #[.int .i64 0,.int .i64 0],.int .i64 0]))):=Lib.hid (by unfold Cb;rw [hX,Yv])
  clear hX
  go_enter Tryz.func93,Tryz.ntmps93
  go_wp2
  exact BQ rfl rfl rfl (AX _ _) ⟨HF.out,AZ w _⟩
 ·have hs:((AA X).toList==[111,118,101,114])=false:=AL hX
  have HX:=Lib.hid hX
  have Bq:=Lib.hid (MR X)
  have hbl:(Ad X).length≤1099511627776:=by
   unfold Ad
   split
   ·rw [List.length_tail];omega
   ·exact hn
  have HW:=Lib.hid (fun W=>Yu (Ad X) W hbl)
  have HN:=Lib.hid hn
  obtain ⟨neg,hneg⟩:∃neg,neg=decide (X.head?=some 45):=⟨_,rfl⟩
  rw [←hneg] at Bq
  have EC:=Lib.hid hneg
  clear hX hneg hbl hn
  go_enter Tryz.func93,Tryz.ntmps93
  go_wp2_with (first
   | (go_at_call 92;refine (Bq.out _).mono ?_;rintro e w1 ⟨rfl,rfl⟩)
   | (go_at_call 124;refine (HW.out _).mono ?_;rintro e w1 ⟨⟨v,u,ok,rfl,hw⟩,hb1⟩;refine Hid.out ?_))
  refine Lib.hid ?_
  have HB1:=Lib.hid ((AZ w (.cells #[.int .i64 0,.int .i64 0] 24)).trans (hb1.mono (by simp)))
  have HR1:=Lib.hid ((hb1.block w.heap.size (by simp)).trans (AX w (.cells #[.int .i64 0,.int .i64 0] 24)))
  have HWP:=Lib.hid hw
  have hlt:w.heap.size<w1.heap.size:=by have:=hb1.size;simp at this;omega
  clear hw hb1 HW Bq
  have d0:w1.cell? ⟨w.heap.size,0,none⟩=some (.int .i64 0):=by rw [Lib.cell_of_heap HR1.out];rfl
  have d1:w1.cell? ⟨w.heap.size,1,none⟩=some (.int .i64 0):=by rw [Lib.cell_of_heap HR1.out];rfl
  have z0:w1.frozen? ⟨w.heap.size,0,none⟩=false:=Ag HR1.out 0
  have z1:w1.frozen? ⟨w.heap.size,1,none⟩=false:=Ag HR1.out 1
  cases ok with
  | false =>
   have HF:=Lib.hid (wS HX.out HWP.out)
   cases neg with
   | false =>
    go_wp2
    exact BQ rfl rfl rfl (Dt _ _ _ (Ht HR1.out _ _)) ⟨HF.out,((HB1.out.setCell (Nat.le_refl _) _).setCell (Nat.le_refl _) _).alloc (by simp;omega) _⟩
   | true =>
    go_wp2
    exact BQ rfl rfl rfl (Dt _ _ _ (Ht HR1.out _ _)) ⟨HF.out,((HB1.out.setCell (Nat.le_refl _) _).setCell (Nat.le_refl _) _).alloc (by simp;omega) _⟩
  | true =>
   obtain ⟨hv0,hv1⟩:=Yz HWP.out
   match u with
   | [] =>
    have e1:(AA []).toList.isEmpty=true:=by rw [Lib.toList_data];rfl
    cases neg with
    | false =>
     have hsg:CV X v=v:=by unfold CV;rw [if_neg (by have:=EC.out;simpa using this.symm)]
     by_cases hs1:sp.CJ (v) (1)
     ·have q1:=KG hs1
      have HS1:=Lib.hid hs1
      by_cases ht:sp.AP (v) (1)=X
      ·have q2:((AA (sp.AP (v) (1))).toList==(AA X).toList)=true:=by rw [ht];exact beq_self_eq_true _
       have HF:=Lib.hid (Oq ⟨by omega,by omega⟩ ⟨by decide,by decide⟩ hs1 ht)
       clear hs1 ht
       go_wp2_with (first
        | (go_at_call 106;refine (F6 (v) (1) _ ⟨by omega,by omega⟩ ⟨by decide,by decide⟩).mono ?_;rintro e w2 ⟨rfl,hb2⟩;have HP2:=Lib.hid ((PF.new HB1.out HR1.out v 1).on hb2);obtain ⟨r0,r1,k0,k1,y0,y1⟩:=HP2.out.cells;clear hb2)
        | (go_at_call 73;refine (IK (v) (1) _ ⟨by omega,by omega⟩ ⟨by decide,by decide⟩).mono ?_;rintro e w3 ⟨rfl,hb3⟩;have HP3:=Lib.hid (HP2.out.on hb3);obtain ⟨s0,s1,l0,l1,x0,x1⟩:=HP3.out.cells;clear hb3))
       exact BQ rfl rfl rfl (HP3.out.fin _ _).1 ⟨HF.out,(HP3.out.fin _ _).2⟩
      ·have q2:((AA (sp.AP (v) (1))).toList==(AA X).toList)=false:=by rw [Lib.toList_data (AA X),CY];exact AL ht
       have HF:=Lib.hid (Qn HX.out HWP.out (fun h=>ht (by rw [←hsg];exact h.2)))
       clear hs1 ht
       go_wp2_with (first
        | (go_at_call 106;refine (F6 (v) (1) _ ⟨by omega,by omega⟩ ⟨by decide,by decide⟩).mono ?_;rintro e w2 ⟨rfl,hb2⟩;have HP2:=Lib.hid ((PF.new HB1.out HR1.out v 1).on hb2);obtain ⟨r0,r1,k0,k1,y0,y1⟩:=HP2.out.cells;clear hb2)
        | (go_at_call 73;refine (IK (v) (1) _ ⟨by omega,by omega⟩ ⟨by decide,by decide⟩).mono ?_;rintro e w3 ⟨rfl,hb3⟩;have HP3:=Lib.hid (HP2.out.on hb3);obtain ⟨s0,s1,l0,l1,x0,x1⟩:=HP3.out.cells;clear hb3))
       exact BQ rfl rfl rfl (HP3.out.fin _ _).1 ⟨HF.out,(HP3.out.fin _ _).2⟩
     ·have q1:=GY hs1
      have HF:=Lib.hid (Qn HX.out HWP.out (fun h=>hs1 (by rw [←hsg];exact h.1)))
      clear hs1
      go_wp2_with (first
       | (go_at_call 106;refine (F6 (v) (1) _ ⟨by omega,by omega⟩ ⟨by decide,by decide⟩).mono ?_;rintro e w2 ⟨rfl,hb2⟩;have HP2:=Lib.hid ((PF.new HB1.out HR1.out v 1).on hb2);obtain ⟨r0,r1,k0,k1,y0,y1⟩:=HP2.out.cells;clear hb2))
      exact BQ rfl rfl rfl (HP2.out.fin _ _).1 ⟨HF.out,(HP2.out.fin _ _).2⟩
    | true =>
     have hsg:CV X v = -v:=by unfold CV;rw [if_pos (by have:=EC.out;simpa using this.symm)]
     by_cases hs1:sp.CJ (-v) (1)
     ·have q1:=KG hs1
      have HS1:=Lib.hid hs1
      by_cases ht:sp.AP (-v) (1)=X
      ·have q2:((AA (sp.AP (-v) (1))).toList==(AA X).toList)=true:=by rw [ht];exact beq_self_eq_true _
       have HF:=Lib.hid (Oq ⟨by omega,by omega⟩ ⟨by decide,by decide⟩ hs1 ht)
       clear hs1 ht
       go_wp2_with (first
        | (go_at_call 106;refine (F6 (-v) (1) _ ⟨by omega,by omega⟩ ⟨by decide,by decide⟩).mono ?_;rintro e w2 ⟨rfl,hb2⟩;have HP2:=Lib.hid ((PF.new HB1.out HR1.out (-v) 1).on hb2);obtain ⟨r0,r1,k0,k1,y0,y1⟩:=HP2.out.cells;clear hb2)
        | (go_at_call 73;refine (IK (-v) (1) _ ⟨by omega,by omega⟩ ⟨by decide,by decide⟩).mono ?_;rintro e w3 ⟨rfl,hb3⟩;have HP3:=Lib.hid (HP2.out.on hb3);obtain ⟨s0,s1,l0,l1,x0,x1⟩:=HP3.out.cells;clear hb3))
       exact BQ rfl rfl rfl (HP3.out.fin _ _).1 ⟨HF.out,(HP3.out.fin _ _).2⟩
      ·have q2:((AA (sp.AP (-v) (1))).toList==(AA X).toList)=false:=by rw [Lib.toList_data (AA X),CY];exact AL ht
       have HF:=Lib.hid (Qn HX.out HWP.out (fun h=>ht (by rw [←hsg];exact h.2)))
       clear hs1 ht
       go_wp2_with (first
        | (go_at_call 106;refine (F6 (-v) (1) _ ⟨by omega,by omega⟩ ⟨by decide,by decide⟩).mono ?_;rintro e w2 ⟨rfl,hb2⟩;have HP2:=Lib.hid ((PF.new HB1.out HR1.out (-v) 1).on hb2);obtain ⟨r0,r1,k0,k1,y0,y1⟩:=HP2.out.cells;clear hb2)
        | (go_at_call 73;refine (IK (-v) (1) _ ⟨by omega,by omega⟩ ⟨by decide,by decide⟩).mono ?_;rintro e w3 ⟨rfl,hb3⟩;have HP3:=Lib.hid (HP2.out.on hb3);obtain ⟨s0,s1,l0,l1,x0,x1⟩:=HP3.out.cells;clear hb3))
       exact BQ rfl rfl rfl (HP3.out.fin _ _).1 ⟨HF.out,(HP3.out.fin _ _).2⟩
     ·have q1:=GY hs1
      have HF:=Lib.hid (Qn HX.out HWP.out (fun h=>hs1 (by rw [←hsg];exact h.1)))
      clear hs1
      go_wp2_with (first
       | (go_at_call 106;refine (F6 (-v) (1) _ ⟨by omega,by omega⟩ ⟨by decide,by decide⟩).mono ?_;rintro e w2 ⟨rfl,hb2⟩;have HP2:=Lib.hid ((PF.new HB1.out HR1.out (-v) 1).on hb2);obtain ⟨r0,r1,k0,k1,y0,y1⟩:=HP2.out.cells;clear hb2))
      exact BQ rfl rfl rfl (HP2.out.fin _ _).1 ⟨HF.out,(HP2.out.fin _ _).2⟩
   | c :: u' =>
    have e1:(AA (c :: u')).toList.isEmpty=false:=by rw [Lib.toList_data,CY];rfl
    have e0:0<(AA (c :: u')).size:=by rw [Aa];simp
    have ei:∀p,(AA (c :: u'))[0]'p=c:=fun p=>rfl
    by_cases h47:c=47
    ·subst h47
     have hle:u'.length≤1099511627776:=by
      have h2:=HWP.out.2
      rw [if_pos rfl] at h2
      obtain ⟨_,_,_,_,h5⟩:=h2
      have h6:=(List.dropWhile_sublist sp.Ac (l:=Ad X)).length_le
      have h7:(Ad X).length≤X.length:=by unfold Ad;split<;>simp
      have:=HN.out
      rw [←h5] at h6
      simp at h6
      omega
     have es1:(1:Int)≤(AA (47 :: u')).size:=by rw [Aa];simp;omega
     have ex:(AA (47 :: u')).extract 1 (AA (47 :: u')).size=AA u':=Je (47 :: u') 1 _ (by simp) (Aa _)
     have HW2:=Lib.hid (fun W=>Yu u' W hle)
     go_wp2_with (first
      | (go_at_call 124;(try rw [ex]);refine (HW2.out _).mono ?_;rintro e w2 ⟨⟨v2,u3,ok2,rfl,hw2⟩,hb2⟩;refine Hid.out ?_))
     refine Lib.hid ?_
     have Kv:=Lib.hid hw2
     have HP:=Lib.hid ((PF.new HB1.out HR1.out v 1).on hb2)
     obtain ⟨r0,r1,k0,k1,y0,y1⟩:=HP.out.cells
     obtain ⟨f0,f1⟩:=HP.out.free
     have hne:¬w1.heap.size=w.heap.size:=by omega
     have hne2:¬w.heap.size=w1.heap.size:=by omega
     clear hb2 hw2 HW2
     cases ok2 with
     | false =>
      have HF:=Lib.hid (wV HX.out HWP.out Kv.out)
      cases neg with
      | false =>
       have HE:=HP.out.den hlt v2
       go_wp2
       exact BQ rfl rfl rfl (HE.fin _ _).1 ⟨HF.out,(HE.fin _ _).2⟩
      | true =>
       have HE:=(HP.out.den hlt v2).num hlt (-v)
       go_wp2
       exact BQ rfl rfl rfl (HE.fin _ _).1 ⟨HF.out,(HE.fin _ _).2⟩
     | true =>
      obtain ⟨hw0,hw1⟩:=Yz Kv.out
      match u3 with
      | c3 :: u4 =>
       have e3:(AA (c3 :: u4)).toList.isEmpty=false:=by rw [Lib.toList_data,CY];rfl
       have HF:=Lib.hid (wW HX.out HWP.out Kv.out (by simp))
       cases neg with
       | false =>
        have HE:=HP.out.den hlt v2
        go_wp2
        exact BQ rfl rfl rfl (HE.fin _ _).1 ⟨HF.out,(HE.fin _ _).2⟩
       | true =>
        have HE:=(HP.out.den hlt v2).num hlt (-v)
        go_wp2
        exact BQ rfl rfl rfl (HE.fin _ _).1 ⟨HF.out,(HE.fin _ _).2⟩
      | [] =>
       have e3:(AA []).toList.isEmpty=true:=by rw [Lib.toList_data];rfl
       cases neg with
       | false =>
        have hsg:CV X v=v:=by unfold CV;rw [if_neg (by have:=EC.out;simpa using this.symm)]
        by_cases hs1:sp.CJ (v) (v2)
        ·have q1:=KG hs1
         have HS1:=Lib.hid hs1
         by_cases ht:sp.AP (v) (v2)=X
         ·have q2:((AA (sp.AP (v) (v2))).toList==(AA X).toList)=true:=by rw [ht];exact beq_self_eq_true _
          have HF:=Lib.hid (Oq ⟨by omega,by omega⟩ ⟨by omega,by omega⟩ hs1 ht)
          clear hs1 ht
          go_wp2_with (first
           | (go_at_call 106;refine (F6 (v) (v2) _ ⟨by omega,by omega⟩ ⟨by omega,by omega⟩).mono ?_;rintro e w2 ⟨rfl,hb2⟩;have HP2:=Lib.hid ((HP.out.den hlt v2).on hb2);obtain ⟨r0,r1,k0,k1,y0,y1⟩:=HP2.out.cells;clear hb2)
           | (go_at_call 73;refine (IK (v) (v2) _ ⟨by omega,by omega⟩ ⟨by omega,by omega⟩).mono ?_;rintro e w3 ⟨rfl,hb3⟩;have HP3:=Lib.hid (HP2.out.on hb3);obtain ⟨s0,s1,l0,l1,x0,x1⟩:=HP3.out.cells;clear hb3))
          exact BQ rfl rfl rfl (HP3.out.fin _ _).1 ⟨HF.out,(HP3.out.fin _ _).2⟩
         ·have q2:((AA (sp.AP (v) (v2))).toList==(AA X).toList)=false:=by rw [Lib.toList_data (AA X),CY];exact AL ht
          have HF:=Lib.hid (Qo HX.out HWP.out Kv.out (fun h=>ht (by rw [←hsg];exact h.2)))
          clear hs1 ht
          go_wp2_with (first
           | (go_at_call 106;refine (F6 (v) (v2) _ ⟨by omega,by omega⟩ ⟨by omega,by omega⟩).mono ?_;rintro e w2 ⟨rfl,hb2⟩;have HP2:=Lib.hid ((HP.out.den hlt v2).on hb2);obtain ⟨r0,r1,k0,k1,y0,y1⟩:=HP2.out.cells;clear hb2)
           | (go_at_call 73;refine (IK (v) (v2) _ ⟨by omega,by omega⟩ ⟨by omega,by omega⟩).mono ?_;rintro e w3 ⟨rfl,hb3⟩;have HP3:=Lib.hid (HP2.out.on hb3);obtain ⟨s0,s1,l0,l1,x0,x1⟩:=HP3.out.cells;clear hb3))
          exact BQ rfl rfl rfl (HP3.out.fin _ _).1 ⟨HF.out,(HP3.out.fin _ _).2⟩
        ·have q1:=GY hs1
         have HF:=Lib.hid (Qo HX.out HWP.out Kv.out (fun h=>hs1 (by rw [←hsg];exact h.1)))
         clear hs1
         go_wp2_with (first
          | (go_at_call 106;refine (F6 (v) (v2) _ ⟨by omega,by omega⟩ ⟨by omega,by omega⟩).mono ?_;rintro e w2 ⟨rfl,hb2⟩;have HP2:=Lib.hid ((HP.out.den hlt v2).on hb2);obtain ⟨r0,r1,k0,k1,y0,y1⟩:=HP2.out.cells;clear hb2))
         exact BQ rfl rfl rfl (HP2.out.fin _ _).1 ⟨HF.out,(HP2.out.fin _ _).2⟩
       | true =>
        have hsg:CV X v = -v:=by unfold CV;rw [if_pos (by have:=EC.out;simpa using this.symm)]
        by_cases hs1:sp.CJ (-v) (v2)
        ·have q1:=KG hs1
         have HS1:=Lib.hid hs1
         by_cases ht:sp.AP (-v) (v2)=X
         ·have q2:((AA (sp.AP (-v) (v2))).toList==(AA X).toList)=true:=by rw [ht];exact beq_self_eq_true _
          have HF:=Lib.hid (Oq ⟨by omega,by omega⟩ ⟨by omega,by omega⟩ hs1 ht)
          clear hs1 ht
          go_wp2_with (first
           | (go_at_call 106;refine (F6 (-v) (v2) _ ⟨by omega,by omega⟩ ⟨by omega,by omega⟩).mono ?_;rintro e w2 ⟨rfl,hb2⟩;have HP2:=Lib.hid (((HP.out.den hlt v2).num hlt (-v)).on hb2);obtain ⟨r0,r1,k0,k1,y0,y1⟩:=HP2.out.cells;clear hb2)
           | (go_at_call 73;refine (IK (-v) (v2) _ ⟨by omega,by omega⟩ ⟨by omega,by omega⟩).mono ?_;rintro e w3 ⟨rfl,hb3⟩;have HP3:=Lib.hid (HP2.out.on hb3);obtain ⟨s0,s1,l0,l1,x0,x1⟩:=HP3.out.cells;clear hb3))
          exact BQ rfl rfl rfl (HP3.out.fin _ _).1 ⟨HF.out,(HP3.out.fin _ _).2⟩
         ·have q2:((AA (sp.AP (-v) (v2))).toList==(AA X).toList)=false:=by rw [Lib.toList_data (AA X),CY];exact AL ht
          have HF:=Lib.hid (Qo HX.out HWP.out Kv.out (fun h=>ht (by rw [←hsg];exact h.2)))
          clear hs1 ht
          go_wp2_with (first
           | (go_at_call 106;refine (F6 (-v) (v2) _ ⟨by omega,by omega⟩ ⟨by omega,by omega⟩).mono ?_;rintro e w2 ⟨rfl,hb2⟩;have HP2:=Lib.hid (((HP.out.den hlt v2).num hlt (-v)).on hb2);obtain ⟨r0,r1,k0,k1,y0,y1⟩:=HP2.out.cells;clear hb2)
           | (go_at_call 73;refine (IK (-v) (v2) _ ⟨by omega,by omega⟩ ⟨by omega,by omega⟩).mono ?_;rintro e w3 ⟨rfl,hb3⟩;have HP3:=Lib.hid (HP2.out.on hb3);obtain ⟨s0,s1,l0,l1,x0,x1⟩:=HP3.out.cells;clear hb3))
          exact BQ rfl rfl rfl (HP3.out.fin _ _).1 ⟨HF.out,(HP3.out.fin _ _).2⟩
        ·have q1:=GY hs1
         have HF:=Lib.hid (Qo HX.out HWP.out Kv.out (fun h=>hs1 (by rw [←hsg];exact h.1)))
         clear hs1
         go_wp2_with (first
          | (go_at_call 106;refine (F6 (-v) (v2) _ ⟨by omega,by omega⟩ ⟨by omega,by omega⟩).mono ?_;rintro e w2 ⟨rfl,hb2⟩;have HP2:=Lib.hid (((HP.out.den hlt v2).num hlt (-v)).on hb2);obtain ⟨r0,r1,k0,k1,y0,y1⟩:=HP2.out.cells;clear hb2))
         exact BQ rfl rfl rfl (HP2.out.fin _ _).1 ⟨HF.out,(HP2.out.fin _ _).2⟩
    ·have t47:((c.toNat:Int)==47)=false:=Bo c 47 h47
     have HF:=Lib.hid (wU HX.out HWP.out h47)
     clear h47
     cases neg with
     | false =>
      go_wp2
      exact BQ rfl rfl rfl (Dt _ _ _ (Ht HR1.out _ _)) ⟨HF.out,((HB1.out.setCell (Nat.le_refl _) _).setCell (Nat.le_refl _) _).alloc (by simp;omega) _⟩
     | true =>
      go_wp2
      exact BQ rfl rfl rfl (Dt _ _ _ (Ht HR1.out _ _)) ⟨HF.out,((HB1.out.setCell (Nat.le_refl _) _).setCell (Nat.le_refl _) _).alloc (by simp;omega) _⟩
def ED (p:List UInt8×Bool) (e:Ending):Prop:=match sp.A7 p with
 | some t=>e=.returned (.string (AA t))
 | none=>e=.panicked bar
def VB (p:List UInt8×Bool) (e:Ending):Prop:=match sp.wText p with
 | some t=>e=.returned (.string (AA t))
 | none=>e=.panicked bar
def Hu (p:List UInt8×Bool) (e:Ending):Prop:=match sp.CW p with
 | some q=>e=.returned (.agg #[.int .i64 q.1,.int .i64 q.2])
 | none=>e=.panicked bar
set_option maxRecDepth 100000 in
set_option maxHeartbeats 1000000 in
theorem Gz (p:List UInt8×Bool) (w:World):Calls Tryz.prog 28 #[.agg #[.string (AA p.1),.bool p.2]] w fun e w'=>ED p e∧Below w.heap.size w w':=by
 obtain ⟨t,q⟩:=p
 have HB:=Lib.hid (AZ w (.cells #[.string (AA t),.bool q] 71))
 cases q with
 | true =>
  go_enter Tryz.func28,Tryz.ntmps28
  go_wp2_with (go_at_call 23;refine (E8 _).mono ?_;rintro e w1 ⟨rfl,rfl⟩)
  exact ⟨rfl,rfl,HB.out⟩
 | false =>
  go_enter Tryz.func28,Tryz.ntmps28
  go_wp2_with (go_at_call 23;refine (FP _).mono ?_;rintro e w1 ⟨rfl,rfl⟩)
  go_ret
  exact ⟨rfl,HB.out⟩
set_option maxRecDepth 100000 in
set_option maxHeartbeats 1000000 in
theorem Y0 (p:List UInt8×Bool) (w:World):Calls Tryz.prog 55 #[.agg #[.string (AA p.1),.bool p.2]] w fun e w'=>VB p e∧Below w.heap.size w w':=by
 obtain ⟨t,q⟩:=p
 have HB:=Lib.hid (AZ w (.cells #[.string (AA t),.bool q] 71))
 cases q with
 | false =>
  go_enter Tryz.func55,Tryz.ntmps55
  go_wp2_with (go_at_call 23;refine (E8 _).mono ?_;rintro e w1 ⟨rfl,rfl⟩)
  exact ⟨rfl,rfl,HB.out⟩
 | true =>
  go_enter Tryz.func55,Tryz.ntmps55
  go_wp2_with (go_at_call 23;refine (FP _).mono ?_;rintro e w1 ⟨rfl,rfl⟩)
  go_ret
  exact ⟨rfl,HB.out⟩
theorem wY {W:World} {g:Nat} {a b:Value} {fn:Func} {tmps:Array Value} {R:Ending→World→Prop} (hr:fn.results=#[.cell 2 24]) (hp:tmps.getD 2 undef=.pointer (some ⟨g,0,none⟩)) (hg:W.heap[g]?=some (.cells #[a,b] 24 (0,0)))
  (h:R (.returned (.agg #[a,b])) W):bodyPost Tryz.prog fn R .ret ⟨tmps,[]⟩ W :=
 bodyPost_ret (results_cell_row hr tmps W g 24 #[a,b] (0,0) _ hp hg Tryz.underlying24 rfl info24) rfl h
structure FrW (w:World) (t:List UInt8) (q:Bool) (W:World):Prop where
 word:W.heap[w.heap.size]?=some (.cells #[.string (AA t),.bool q] 71 (0,0))
 res:W.heap[w.heap.size+1]?=some (.cells #[.int .i64 0,.int .i64 0] 24 (0,0))
 bel:Below w.heap.size w W
theorem FrW.of {w w1 w2:World} {t:List UInt8} {q:Bool} (hb:Below w.heap.size w w1) (h0:w1.heap[w.heap.size]?=some (.cells #[.string (AA t),.bool q] 71 (0,0))) (h1:w1.heap[w.heap.size+1]?=some (.cells #[.int .i64 0,.int .i64 0] 24 (0,0))) (hb2:Below w1.heap.size w1 w2):FrW w t q w2 :=
 ⟨(hb2.block _ (lt_of_block h0)).trans h0,(hb2.block _ (lt_of_block h1)).trans h1,hb.trans (hb2.mono (by have:=lt_of_block h0;omega))⟩
theorem FrW.cells {w W:World} {t:List UInt8} {q:Bool} (h:FrW w t q W):W.cell? ⟨w.heap.size,1,none⟩=some (.bool q)∧W.cell? ⟨w.heap.size+1,0,none⟩=some (.int .i64 0)∧W.cell? ⟨w.heap.size+1,1,none⟩=some (.int .i64 0)∧W.frozen? ⟨w.heap.size+1,0,none⟩=false∧W.frozen? ⟨w.heap.size+1,1,none⟩=false∧w.heap.size<W.heap.size∧w.heap.size+1<W.heap.size :=
 ⟨by rw [Lib.cell_of_heap h.word];rfl,by rw [Lib.cell_of_heap h.res];rfl,by rw [Lib.cell_of_heap h.res];rfl,Ag h.res 0,Ag h.res 1,lt_of_block h.word,lt_of_block h.res⟩
set_option maxRecDepth 100000 in
set_option maxHeartbeats 2000000 in
theorem Ot (p:List UInt8×Bool) (w:World) (hn:p.1.length≤1099511627776):Calls Tryz.prog 53 #[.agg #[.string (AA p.1),.bool p.2]] w fun e w'=>Hu p e∧Below w.heap.size w w':=by
 obtain ⟨t,q⟩:=p
 have HP:=Lib.hid (fun W=>parse_any t W hn)
 have hb0:=AZ w (.cells #[.string (AA t),.bool q] 71)
 have hb1:=hb0.alloc (by simp) (.cells #[.int .i64 0,.int .i64 0] 24)
 have HB:=Lib.hid hb1
 have c0:=Dt _ (.cells #[.int .i64 0,.int .i64 0] 24) _ (AX w (.cells #[.string (AA t),.bool q] 71))
 have c1:=AX (w.alloc (.cells #[.string (AA t),.bool q] 71)) (.cells #[.int .i64 0,.int .i64 0] 24)
 have hsz:(w.alloc (.cells #[.string (AA t),.bool q] 71)).heap.size=w.heap.size+1:=by simp
 rw [hsz] at c1
 have HC0:=Lib.hid c0;have HC1:=Lib.hid c1
 clear hn hb0 hb1 c0 c1 hsz
 cases hf:sp.Cc t with
 | none =>
  have HF:Hid (Hu (t,q) (.panicked bar)):=Lib.hid (by
   cases q
   ·show (match (if false=true then none else sp.Cc t) with | some q=>_ | none=>_)
    rw [if_neg (by decide),hf]
   ·exact rfl)
  have HE:=Lib.hid hf
  clear hf
  cases q with
  | true =>
   go_enter Tryz.func53,Tryz.ntmps53
   go_wp2_with (first
    | (go_at_call 93;refine (HP.out _).mono ?_;rintro e w2 ⟨he,hb2⟩;unfold Cb at he;rw [HE.out] at he;subst he;have HW2:=Lib.hid (FrW.of HB.out HC0.out HC1.out hb2);obtain ⟨g0,g1,g2,g3,g4,g5,g6⟩:=HW2.out.cells;clear hb2)
    | (go_at_call 23;refine (E8 _).mono ?_;rintro e w3 ⟨rfl,rfl⟩))
   exact ⟨rfl,HF.out,HW2.out.bel.alloc (by have:=HW2.out.bel.size;omega) _⟩
  | false =>
   go_enter Tryz.func53,Tryz.ntmps53
   go_wp2_with (first
    | (go_at_call 93;refine (HP.out _).mono ?_;rintro e w2 ⟨he,hb2⟩;unfold Cb at he;rw [HE.out] at he;subst he;have HW2:=Lib.hid (FrW.of HB.out HC0.out HC1.out hb2);obtain ⟨g0,g1,g2,g3,g4,g5,g6⟩:=HW2.out.cells;clear hb2)
    | (go_at_call 23;refine (E8 _).mono ?_;rintro e w3 ⟨rfl,rfl⟩))
   exact ⟨rfl,HF.out,HW2.out.bel.alloc (by have:=HW2.out.bel.size;omega) _⟩
 | some r =>
  have HE:=Lib.hid hf
  cases q with
  | true =>
   have HF:Hid (Hu (t,true) (.panicked bar)):=Lib.hid rfl
   clear hf
   go_enter Tryz.func53,Tryz.ntmps53
   go_wp2_with (first
    | (go_at_call 93;refine (HP.out _).mono ?_;rintro e w2 ⟨he,hb2⟩;unfold Cb at he;rw [HE.out] at he;subst he;have HW2:=Lib.hid (FrW.of HB.out HC0.out HC1.out hb2);obtain ⟨g0,g1,g2,g3,g4,g5,g6⟩:=HW2.out.cells;clear hb2)
    | (go_at_call 23;refine (E8 _).mono ?_;rintro e w3 ⟨rfl,rfl⟩))
   exact ⟨rfl,HF.out,HW2.out.bel.alloc (by have:=HW2.out.bel.size;omega) _⟩
  | false =>
   have HF:Hid (Hu (t,false) (.returned (.agg #[.int .i64 r.1,.int .i64 r.2]))):=Lib.hid (by
    unfold Hu sp.CW
    simp only [hf]
    exact rfl)
   clear hf
   go_enter Tryz.func53,Tryz.ntmps53
   go_wp2_with (first
    | (go_at_call 93;refine (HP.out _).mono ?_;rintro e w2 ⟨he,hb2⟩;unfold Cb at he;rw [HE.out] at he;subst he;have HW2:=Lib.hid (FrW.of HB.out HC0.out HC1.out hb2);obtain ⟨g0,g1,g2,g3,g4,g5,g6⟩:=HW2.out.cells;clear hb2)
    | (go_at_call 23;refine (FP _).mono ?_;rintro e w3 ⟨rfl,rfl⟩))
   refine wY rfl rfl (Dt _ _ _ (Ht HW2.out.res _ _)) ⟨HF.out,?_⟩
   exact ((HW2.out.bel.setCell (Nat.le_succ _) _).setCell (Nat.le_succ _) _).alloc (by have:=HW2.out.bel.size;simp;omega) _
/-! ### A line that says nothing -/
theorem wZ (t:List UInt8) (w:World):Calls Tryz.prog 45 #[.string (AA t),.string ⟨#[32]⟩] w fun e w'=>e=.returned (.string (AA (t.dropWhile (· == 32))))∧w'=w :=
 (Any.strings_TrimLeft_one Tryz.laysTrim (AA t) 32 (by decide) w).mono fun e w' ⟨h1,h2⟩=>⟨by
  rw [h1]
  have:Lib.trimLeftB (AA t).data.toList 32=t.dropWhile (· == 32):=by rw [CY];rfl
  rw [this];rfl,h2⟩
set_option maxRecDepth 100000 in
set_option maxHeartbeats 1000000 in
theorem MW (t:List UInt8) (w:World):Calls Tryz.prog 25 #[.string (AA t)] w fun e w'=>e=.returned (.bool (sp.Dx t))∧w'=w:=by
 have HT:=Lib.hid (fun W=>wZ t W)
 have hd:sp.Dx t=((t.dropWhile (· == 32)).head?==none||(t.dropWhile (· == 32)).head?==some 35):=rfl
 generalize t.dropWhile (· == 32)=u at HT hd
 have HD:=Lib.hid hd
 clear hd
 match u with
 | [] =>
  have e1:(AA []).toList.isEmpty=true:=by rw [Lib.toList_data];rfl
  go_enter Tryz.func25,Tryz.ntmps25
  go_wp2_with (go_at_call 45;refine (HT.out _).mono ?_;rintro e w1 ⟨rfl,rfl⟩)
  go_ret
  exact ⟨by rw [HD.out];rfl,rfl⟩
 | c :: r =>
  have e1:(AA (c :: r)).toList.isEmpty=false:=by rw [Lib.toList_data,CY];rfl
  have e0:0<(AA (c :: r)).size:=by rw [Aa];simp
  have ei:∀p,(AA (c :: r))[0]'p=c:=fun p=>rfl
  by_cases h:c=35
  ·subst h
   go_enter Tryz.func25,Tryz.ntmps25
   go_wp2_with (go_at_call 45;refine (HT.out _).mono ?_;rintro e w1 ⟨rfl,rfl⟩)
   go_ret
   exact ⟨by rw [HD.out];rfl,rfl⟩
  ·have t1:((c.toNat:Int)==35)=false:=Bo c 35 h
   have HD2:Hid (sp.Dx t=false):=Lib.hid (by rw [HD.out];simp [h])
   clear h
   go_enter Tryz.func25,Tryz.ntmps25
   go_wp2_with (go_at_call 45;refine (HT.out _).mono ?_;rintro e w1 ⟨rfl,rfl⟩)
   go_ret
   exact ⟨by rw [HD2.out];rfl,rfl⟩
theorem Kw (t:List UInt8) (w:World):Calls Tryz.prog 24 #[.string (AA t),.string ⟨#[10]⟩] w fun e w'=>e=.returned (.bool (decide (10∈t)))∧w'=w :=
 (Any.strings_Contains_one Tryz.laysContains (AA t) 10 w).mono fun e w' ⟨h1,h2⟩=>⟨by
  rw [h1,CY,←Lib.contains_iff_indexByte,List.contains_eq_mem],h2⟩
structure BO (w:World) (B g:Nat) (ws:List (List UInt8×Bool)) (cs:Array Value) (W:World):Prop where
 op:W.heap[B]?=some (.cells cs 28 (0,0))
 size:cs.size=18
 words:W.rangeAt g 2 (Dc ws)
 glt:g<W.heap.size
 ne:g≠B
 fr:Fr w W B none
section
variable {w W W':World} {B g:Nat} {ws:List (List UInt8×Bool)} {cs:Array Value}
theorem BO.on (h:BO w B g ws cs W) (hb:Below W.heap.size W W'):BO w B g ws cs W' :=
 ⟨(hb.block _ (lt_of_block h.op)).trans h.op,h.size,KU hb h.glt h.words,by have:=hb.size;have:=h.glt;omega,h.ne,h.fr.trans (Fr.of_below hb) (Own.refl _ _)⟩
theorem G5 {g B off:Nat} {xs:List Value} (h:W.rangeAt g off xs) (hne:g≠B) (k:Nat) (v:Value):(W.setCell ⟨B,k,none⟩ v).rangeAt g off xs:=fun j u hu=>by
 have:=h j u hu
 rw [World.cell?_setCell_far W _ _ v (by simpa using Ne.symm hne)]
 exact this
theorem BO.set (h:BO w B g ws cs W) (k:Nat) (v:Value):BO w B g ws (cs.setIfInBounds k v) (W.setCell ⟨B,k,none⟩ v) :=
 ⟨D9 h.op k v,by rw [Array.size_setIfInBounds];exact h.size,G5 h.words h.ne k v,by simpa using h.glt,h.ne,h.fr.trans (Fr.set k v) (Own.refl _ _)⟩
theorem BO.cell (h:BO w B g ws cs W) (k:Nat) (v:Value) (hk:cs[k]?=some v):W.cell? ⟨B,k,none⟩=some v:=Am h.op k v hk
theorem BO.free (h:BO w B g ws cs W) (k:Nat):W.frozen? ⟨B,k,none⟩=false:=Ag h.op k
theorem BO.w0 {x:List UInt8×Bool} {r:List (List UInt8×Bool)} (h:BO w B g (x :: r) cs W):W.cell? ⟨g,2,none⟩=some (.string (AA x.1))∧W.cell? ⟨g,3,none⟩=some (.bool x.2):=⟨h.words 0 _ rfl,h.words 1 _ rfl⟩
theorem BO.w1 {x y:List UInt8×Bool} {r:List (List UInt8×Bool)} (h:BO w B g (x :: y :: r) cs W):W.cell? ⟨g,4,none⟩=some (.string (AA y.1))∧W.cell? ⟨g,5,none⟩=some (.bool y.2):=⟨h.words 2 _ rfl,h.words 3 _ rfl⟩
theorem BO.w2 {x y z:List UInt8×Bool} {r:List (List UInt8×Bool)} (h:BO w B g (x :: y :: z :: r) cs W):W.cell? ⟨g,6,none⟩=some (.string (AA z.1))∧W.cell? ⟨g,7,none⟩=some (.bool z.2):=⟨h.words 4 _ rfl,h.words 5 _ rfl⟩
theorem BO.w3 {x y z u:List UInt8×Bool} {r:List (List UInt8×Bool)} (h:BO w B g (x :: y :: z :: u :: r) cs W):W.cell? ⟨g,8,none⟩=some (.string (AA u.1))∧W.cell? ⟨g,9,none⟩=some (.bool u.2):=⟨h.words 6 _ rfl,h.words 7 _ rfl⟩
theorem BO.w4 {x y z u v:List UInt8×Bool} {r:List (List UInt8×Bool)} (h:BO w B g (x :: y :: z :: u :: v :: r) cs W):W.cell? ⟨g,10,none⟩=some (.string (AA v.1))∧W.cell? ⟨g,11,none⟩=some (.bool v.2):=⟨h.words 8 _ rfl,h.words 9 _ rfl⟩
end
def Fj (w:World) (B:Nat) (res:Option sp.Op) (e:Ending) (w':World):Prop:=match res with
 | some o=>e=.returned (.tuple #[])∧Fr w w' B none∧∃tv,w'.heap[B]?=some (.cells (AQ o tv) 28 (0,0))∧BK w'.heap.size w' tv o.text.length (Lib.byteCells o.text)∧(∀g,tv.ownBlock=some g→w.heap.size≤g)
 | none=>e=.panicked bar∧Fr w w' B none∧∃cs,w'.heap[B]?=some (.cells cs 28 (0,0))∧cs.size=18
theorem BO.bad {w W:World} {B g:Nat} {ws:List (List UInt8×Bool)} {cs:Array Value} (h:BO w B g ws cs W):Fj w B none (.panicked bar) W:=⟨rfl,h.fr,_,h.op,h.size⟩
theorem Y1 (B:Nat) (w:World):BK B w (.slice none 0 0) ([]:List UInt8).length (Lib.byteCells []):=⟨none,0,rfl,Nat.le_refl _,by unfold maxLen;omega,.inl ⟨rfl,rfl,fun _=>rfl⟩⟩
theorem BO.good {w W:World} {B g:Nat} {ws:List (List UInt8×Bool)} {cs:Array Value} (h:BO w B g ws cs W) (o:sp.Op) (ho:o.text = []) (hc:cs=AQ o (.slice none 0 0)):Fj w B (some o) (.returned (.tuple #[])) W :=
 ⟨rfl,h.fr,_,hc ▸ h.op,by rw [ho];exact Y1 _ _,fun g hg=>by cases hg⟩
theorem Qc (w:World) (t:List UInt8):∃W2 cp,(convert 9 22 (.string (AA t))).run Tryz.prog w=.ok (.slice (some ⟨w.heap.size,0,none⟩) t.length cp) W2∧Below w.heap.size w W2∧W2.heap.size=w.heap.size+1∧W2.rangeAt w.heap.size 0 (Lib.byteCells t)∧t.length≤cp∧(t.length≤maxLen→cp≤maxLen):=by
 have h:=Lib.run_convert_string_bytes (P:=Tryz.prog) w 9 22 5 (AA t) Tryz.underlying9 Tryz.underlying22 Tryz.underlying5
 refine ⟨_,_,by rw [←Aa t];exact h,Lt w _,Lib.bytesWorld_size _ _ _,fun j u hu => ?_,by rw [Aa];exact grownCap_ge _ _ _ _,fun hm=>by rw [Aa];exact grownCap_le_maxLen _ _ _ _ hm⟩
 obtain ⟨b,hb,rfl⟩:=nM hu
 have hj:j<t.length:=(List.getElem?_eq_some_iff.1 hb).1
 have:=Lib.bytesWorld_cell w 5 (AA t) j (by rw [Aa];exact hj)
 rw [CY] at this
 rw [Nat.zero_add,this]
 simp [List.getD,hb]
theorem Uj {W:World} {q n cp:Nat} {t:List UInt8} (hr:W.rangeAt q 0 (Lib.byteCells t)) (hn:n=t.length) (h1:t.length≤cp) (h2:cp≤maxLen) (hq:q<W.heap.size):BK W.heap.size W (.slice (some ⟨q,0,none⟩) n cp) t.length (Lib.byteCells t):=by
 subst hn
 refine ⟨_,_,rfl,h1,h2,?_⟩
 by_cases h0:t.length=0
 ·left
  have:=List.length_eq_zero_iff.1 h0
  subst this
  exact ⟨rfl,rfl,fun e=>by cases e⟩
 ·right
  exact ⟨by omega,q,0,rfl,hq,hr⟩
theorem BO.Y2 {w W:World} {B g q n cp:Nat} {ws:List (List UInt8×Bool)} {cs:Array Value} (h:BO w B g ws cs W) (o:sp.Op) (hr:W.rangeAt q 0 (Lib.byteCells o.text)) (hn:n=o.text.length) (h1:o.text.length≤cp) (h2:cp≤maxLen) (hq:q<W.heap.size) (hB:w.heap.size≤q) (hc:cs=AQ o (.slice (some ⟨q,0,none⟩) n cp)):Fj w B (some o) (.returned (.tuple #[])) W :=
 ⟨rfl,h.fr,_,hc ▸ h.op,Uj hr hn h1 h2 hq,fun g hg=>by cases hg;exact hB⟩
def Ap (k:Int):Array Value:=AQ { kind:=k } (.slice none 0 0)
set_option maxRecDepth 100000 in
set_option maxHeartbeats 2000000 in
theorem Y3 (k:Int) (w0 w:World) (B g c:Nat) (x:List UInt8×Bool) (h:BO w0 B g [x] (Ap k) w):Calls Tryz.prog 49 #[.pointer (some ⟨B,0,none⟩),.slice (some ⟨g,2,none⟩) 1 c] w fun e w'=>Fj w0 B ((sp.Bf x).map fun n=>{ kind:=k,node:=n }) e w':=by
 have HN:=Lib.hid (fun W=>Kt x W)
 obtain ⟨a0,a1⟩:=h.w0
 have HH:=Lib.hid h
 clear h
 cases hx:sp.Bf x with
 | none =>
  have HX:=Lib.hid hx
  clear hx
  go_enter Tryz.func49,Tryz.ntmps49
  go_wp2_with (go_at_call 50;refine (HN.out _).mono ?_;rintro e w1 ⟨he,hb⟩;unfold Gy at he;rw [HX.out] at he;subst he)
  exact ⟨rfl,(HH.out.on hb).bad⟩
 | some n =>
  have HX:=Lib.hid hx
  clear hx
  go_enter Tryz.func49,Tryz.ntmps49
  go_wp2_with (go_at_call 50;refine (HN.out _).mono ?_;rintro e w1 ⟨he,hb⟩;unfold Gy at he;rw [HX.out] at he;subst he;have H1:=Lib.hid (HH.out.on hb);have f1:=H1.out.free 1;have c1:=H1.out.cell 1 (.int .i64 0) rfl;clear hb)
  go_end0
  exact (H1.out.set 1 _).good _ rfl rfl
section
variable {w:World} {B g:Nat} {x y z u v:List UInt8×Bool} {r:List (List UInt8×Bool)} {s:World}
theorem rc1 (h:∃cs,BO w B g (x :: r) cs s):s.cell? ⟨g,2,none⟩=some (.string (AA x.1))∧s.cell? ⟨g,3,none⟩=some (.bool x.2):=by
 obtain ⟨cs,h⟩:=h
 exact ⟨h.w0.1,h.w0.2⟩
theorem xB (h:∃cs,BO w B g (x :: y :: r) cs s):s.cell? ⟨g,2,none⟩=some (.string (AA x.1))∧s.cell? ⟨g,3,none⟩=some (.bool x.2)∧s.cell? ⟨g,4,none⟩=some (.string (AA y.1))∧s.cell? ⟨g,5,none⟩=some (.bool y.2):=by
 obtain ⟨cs,h⟩:=h
 exact ⟨h.w0.1,h.w0.2,h.w1.1,h.w1.2⟩
theorem rc3 (h:∃cs,BO w B g (x :: y :: z :: r) cs s):s.cell? ⟨g,2,none⟩=some (.string (AA x.1))∧s.cell? ⟨g,3,none⟩=some (.bool x.2)∧s.cell? ⟨g,4,none⟩=some (.string (AA y.1))∧s.cell? ⟨g,5,none⟩=some (.bool y.2)∧s.cell? ⟨g,6,none⟩=some (.string (AA z.1))∧s.cell? ⟨g,7,none⟩=some (.bool z.2):=by
 obtain ⟨cs,h⟩:=h
 exact ⟨h.w0.1,h.w0.2,h.w1.1,h.w1.2,h.w2.1,h.w2.2⟩
theorem rc4 (h:∃cs,BO w B g (x :: y :: z :: u :: r) cs s):s.cell? ⟨g,2,none⟩=some (.string (AA x.1))∧s.cell? ⟨g,3,none⟩=some (.bool x.2)∧s.cell? ⟨g,4,none⟩=some (.string (AA y.1))∧s.cell? ⟨g,5,none⟩=some (.bool y.2)∧s.cell? ⟨g,6,none⟩=some (.string (AA z.1))∧s.cell? ⟨g,7,none⟩=some (.bool z.2)∧s.cell? ⟨g,8,none⟩=some (.string (AA u.1))∧s.cell? ⟨g,9,none⟩=some (.bool u.2):=by
 obtain ⟨cs,h⟩:=h
 exact ⟨h.w0.1,h.w0.2,h.w1.1,h.w1.2,h.w2.1,h.w2.2,h.w3.1,h.w3.2⟩
theorem xC (h:∃cs,BO w B g (x :: y :: z :: u :: v :: r) cs s):s.cell? ⟨g,2,none⟩=some (.string (AA x.1))∧s.cell? ⟨g,3,none⟩=some (.bool x.2)∧s.cell? ⟨g,4,none⟩=some (.string (AA y.1))∧s.cell? ⟨g,5,none⟩=some (.bool y.2)∧s.cell? ⟨g,6,none⟩=some (.string (AA z.1))∧s.cell? ⟨g,7,none⟩=some (.bool z.2)∧s.cell? ⟨g,8,none⟩=some (.string (AA u.1))∧s.cell? ⟨g,9,none⟩=some (.bool u.2)∧s.cell? ⟨g,10,none⟩=some (.string (AA v.1))∧s.cell? ⟨g,11,none⟩=some (.bool v.2):=by
 obtain ⟨cs,h⟩:=h
 exact ⟨h.w0.1,h.w0.2,h.w1.1,h.w1.2,h.w2.1,h.w2.2,h.w3.1,h.w3.2,h.w4.1,h.w4.2⟩
end
section
variable {P:Program} {md:Region.Mode} {ops:Array Oper} {Q:Exit→Act→World→Prop} {S:World→Prop}
theorem tq {oi:Oper} {fuel:Nat} {listed:Array Bool} {a:Act} {w:World} (i:Nat) (v:Value) (hS:S w)
  (h:wpAnyH P md ops Q S fuel (listed.setIfInBounds i true) (a.put oi.dst v) w) (hi:ops[i]?=some oi:=by rfl)
  (hy:∀s,S s→(execOp a.eval oi).run P s=.ok (.value v) s:=by (intro s hs;first | (obtain ⟨a0,a1,b0,b1,c0,c1,d0,d1,e0,e1⟩:=xC hs;go_simp) | (obtain ⟨a0,a1,b0,b1,c0,c1,d0,d1⟩:=rc4 hs;go_simp) | (obtain ⟨a0,a1,b0,b1,c0,c1⟩:=rc3 hs;go_simp) | (obtain ⟨a0,a1,b0,b1⟩:=xB hs;go_simp) | (obtain ⟨a0,a1⟩:=rc1 hs;go_simp))) (h1:Region.noSelect ops=true:=by kernel_rfl) (h2:Region.free md ops listed i=true:=by kernel_rfl) (h3:(Region.ready md ops listed).contains i=true:=by kernel_rfl)
  (h4:Region.wanted oi (yielded ops a.tmps)=true:=by kernel_rfl) (hQ:∀c a w,Q (.panic c) (a.put oi.dst v) w→Q (.panic c) a w:=by exact fun _ _ _ h=>h):wpAnyH P md ops Q S (fuel+1) listed a w :=
 tk i v hi hS hy h h1 h2 h3 h4 hQ
end
def bxN:Nat→List UInt8
 | 0=>sp.Gv
 | 1=>sp.Gw
 | _=>sp.Gx
def bxF (s:List UInt8):Nat→Bool
 | 0=>false
 | k+1=>if bxN k=s then true else bxF s k
def bxT (s:List UInt8):Nat→Int
 | 0=>0
 | k+1=>if bxN k=s then k else bxT s k
theorem xE (s:List UInt8):sp.D5 s=if bxF s 3 then some (bxT s 3) else none:=by
 unfold sp.D5
 by_cases h0:s=sp.Gv
 ·subst h0;rfl
 by_cases h1:s=sp.Gw
 ·subst h1;rfl
 by_cases h2:s=sp.Gx
 ·subst h2;rfl
 rw [if_neg h0,if_neg h1,if_neg h2]
 simp only [bxF,bxN,Ne.symm h0,Ne.symm h1,Ne.symm h2,if_false]
 rfl
def Ia (q:Nat) (w:World):Prop:=w.heap[q]?=some (.cells boxRow 9 (0,0))
theorem Ia.new {w w':World} (h:w'=w.alloc (.cells boxRow 9)):Ia w.heap.size w':=by rw [h];exact AX _ _
theorem Ia.cell {w:World} {q:Nat} (h:Ia q w) (j:Nat) (hj:j<3):w.cell? ⟨q,j,none⟩=some (.string (AA (bxN j))):=by
 rw [cell_of_row w q j _ 9 (0,0) h]
 match j,hj with
 | 0,_=>rfl
 | 1,_=>rfl
 | 2,_=>rfl
theorem Ia.set {w:World} {q B:Nat} (h:Ia q w) (hne:q≠B) (o:Nat) (v:Value):Ia q (w.setCell ⟨B,o,none⟩ v):=by
 unfold Ia
 show (w.heap.modify B _)[q]?=_
 rw [Array.getElem?_modify]
 simp [Ne.symm hne,h]
 exact h
set_option maxRecDepth 100000 in
set_option maxHeartbeats 16000000 in
theorem xG (k:Int) (w0 w:World) (B g c:Nat) (x y z u v:List UInt8×Bool) (hlu:u.1.length≤1099511627776) (hlv:v.1.length≤1099511627776) (h:BO w0 B g [x,y,z,u,v] (Ap k) w):Calls Tryz.prog 61 #[.pointer (some ⟨B,0,none⟩),.slice (some ⟨g,2,none⟩) 5 c] w fun e w'=>Fj w0 B ((sp.Bf x).bind fun n=>(sp.A7 y).bind fun s=>(sp.D5 s).bind fun b=>(sp.A7 z).bind fun t=>(sp.CW u).bind fun p=>(sp.CW v).bind fun q=>some { kind:=k,node:=n,bt:=b,bn:=sp.Fe t,bw:=p,bh:=q }) e w':=by
 have HCx:=Lib.hid (fun W=>Kt x W)
 have HCy:=Lib.hid (fun W=>Gz y W)
 have HCz:=Lib.hid (fun W=>Gz z W)
 have HCu:=Lib.hid (fun W=>Ot u W hlu)
 have HCv:=Lib.hid (fun W=>Ot v W hlv)
 have H0:=Lib.hid h
 obtain ⟨a0,a1⟩:=h.w0
 clear h hlu hlv
 go_enter Tryz.func61,Tryz.ntmps61
 go_wp2_with (first
  | (go_at_call 50;refine (HCx.out _).mono ?_;rintro e w1 ⟨he,hb⟩;unfold Gy at he;have H1:=Lib.hid (H0.out.on hb);clear hb;rcases hx:sp.Bf x with _ | nx<;>rw [hx] at he<;>subst he;exact ⟨rfl,by simp only [Option.bind_some,hx];exact H1.out.bad⟩;have HXx:=Lib.hid hx;clear hx;have f1:=H1.out.free 1;have c1:=H1.out.cell 1 (.int .i64 0) rfl;have H2:=Lib.hid (H1.out.set 1 (.int .i64 nx));obtain ⟨b0,b1⟩:=H2.out.w1)
  | (go_at_call 28;refine (HCy.out _).mono ?_;rintro e w2 ⟨he,hb⟩;unfold ED at he;have H3:=Lib.hid (H2.out.on hb);clear hb;rcases hx:sp.A7 y with _ | ty<;>rw [hx] at he<;>subst he;exact ⟨rfl,by simp only [HXx.out,Option.bind_some,hx];exact H3.out.bad⟩;have HXy:=Lib.hid hx;clear hx;clear HCy)
  | (go_at_call 94;refine (QY _).mono ?_;rintro e w3 ⟨rfl,hw3⟩;have H4:=Lib.hid (H3.out.on (hw3 ▸ AZ _ _));have HBX:=Lib.hid (Ia.new hw3);clear hw3))
 have HBE:Hid (w2.heap.size≠B):=Lib.hid (by have:=lt_of_block H3.out.op;omega)
 go_loopw [5,21] (fun fnd i wr=>∃j:Nat,j≤3∧i=.int .i64 j∧fnd=.bool (bxF ty j)∧BO w0 B g [x,y,z,u,v] (((Ap k).setIfInBounds 1 (.int .i64 nx)).setIfInBounds 11 (.int .i64 (bxT ty j))) wr∧Ia w2.heap.size wr) (fun _ i _=>3-(intOf i).toNat)
 case atStart=>exact ⟨0,by omega,rfl,rfl,H4.out,HBX.out⟩
 case round =>
  obtain ⟨j,hj,rfl,rfl,hr,hbx⟩:=hrel
  have H5:=Lib.hid hr;have HBY:=Lib.hid hbx
  clear hr hbx H4 HBX H0 a0 a1 b0 b1 f1 c1
  by_cases hlt:j<3
  ·have hc:=HBY.out.cell j hlt
   have HF:=Lib.hid (show bxF ty (j+1)=if bxN j=ty then true else bxF ty j from rfl)
   have HT:=Lib.hid (show bxT ty (j+1)=if bxN j=ty then (j:Int) else bxT ty j from rfl)
   have hj2:(j:Int)≤3:=by omega
   have f11:=H5.out.free 11
   have c11:=H5.out.cell 11 (.int .i64 (bxT ty j)) rfl
   generalize bxF ty j=F at HF
   generalize bxT ty j=T at HT H5 c11
   by_cases ht:bxN j=ty
   ·have q1:((AA (bxN j)).toList==(AA ty).toList)=true:=by rw [ht];exact beq_self_eq_true _
    rw [if_pos ht] at HF HT
    clear ht
    go_wp2
    refine ⟨⟨j+1,by omega,by go_num,by rw [HF.out],?_,HBY.out.set HBE.out _ _⟩,by simp [intOf];omega⟩
    rw [HT.out]
    have:=H5.out.set 11 (.int .i64 j)
    simpa using this
   ·have q1:((AA (bxN j)).toList==(AA ty).toList)=false:=by rw [Lib.toList_data (AA ty),CY];exact AL ht
    rw [if_neg ht] at HF HT
    clear ht
    go_wp2
    refine ⟨⟨j+1,by omega,by go_num,by rw [HF.out],?_,HBY.out⟩,by simp [intOf];omega⟩
    rw [HT.out]
    exact H5.out
  ·have hje:j=3:=by omega
   subst hje
   have HB3:=Lib.hid (xE ty)
   obtain ⟨d0,d1⟩:=H5.out.w2
   rcases hx:sp.D5 ty with _ | bb
   ·have hf3:bxF ty 3=false:=by
     have:=HB3.out
     rw [hx] at this
     cases hq:bxF ty 3 with
     | false=>rfl
     | true=>rw [hq] at this;cases this
    rw [hf3]
    go_wp2_with (go_at_call 23;refine (E8 _).mono ?_;rintro e w4 ⟨rfl,rfl⟩)
    exact ⟨rfl,by simp only [HXx.out,HXy.out,Option.bind_some,hx];exact H5.out.bad⟩
   have hf3:bxF ty 3=true∧bxT ty 3=bb:=by
    have:=HB3.out
    rw [hx] at this
    cases hq:bxF ty 3 with
    | false=>rw [hq] at this;cases this
    | true=>rw [hq] at this;exact ⟨rfl,(Option.some.inj this).symm⟩
   have HXb:=Lib.hid hx
   clear hx
   rw [hf3.1]
   rw [hf3.2] at H5
   clear hf3 HBY HBE
   go_wp2_with (go_at_call 23;refine (FP _).mono ?_;rintro e w4 ⟨rfl,rfl⟩)
   go_at_call 28
   refine (HCz.out _).mono ?_
   rintro e w5 ⟨he,hb⟩
   unfold ED at he
   have H6:=Lib.hid (H5.out.on hb)
   clear hb
   rcases hx:sp.A7 z with _ | tz<;>rw [hx] at he<;>subst he
   ·exact ⟨rfl,by simp only [HXx.out,HXy.out,HXb.out,Option.bind_some,hx];exact H6.out.bad⟩
   have HXz:=Lib.hid hx
   clear hx
   have f12:=H6.out.free 12
   have c12:=H6.out.cell 12 (.string ⟨#[]⟩) rfl
   have H7:=Lib.hid (H6.out.set 12 (.string (AA tz)))
   by_cases hz:tz = [45]
   case' pos=>have q3:((AA tz).toList==[45])=true:=str_eq hz;have m1:=Lib.hid trivial
   case' neg=>have q3:((AA tz).toList==[45])=false:=AL hz
   all_goals
    have HZ:=Lib.hid hz
    clear hz
    have ACJ:=H7.out.free 12
    have ACK:=H7.out.cell 12 (.string (AA tz)) rfl
    go_wp2
    first
     | (have gd:=m1;clear gd m1;have H8:=Lib.hid (by have:=H7.out.set 12 (.string ⟨#[]⟩);simpa using this))
     | have H8:=H7
    have H9:=Lib.hid (H8.out.on (Below.refl _ _).drew)
    refine wp_region_held_drew (S:=fun s=>∃cs,BO w0 B g [x,y,z,u,v] cs s) (by kernel_rfl) ⟨_,H9.out⟩ (fun hHeld => ?_)
    refine tq 0 (.pointer (some ⟨B,0,none⟩)) hHeld ?_
    refine tq 1 (.pointer (some ⟨B,0,none⟩)) hHeld ?_
    refine tq 2 (.slice (some ⟨g,2,none⟩) 5 c) hHeld ?_
    refine tq 3 (.pointer (some ⟨g,8,none⟩)) hHeld ?_
    refine tq 4 (.agg #[.string (AA u.1),.bool u.2]) hHeld ?_
    refine tq 6 (.slice (some ⟨g,2,none⟩) 5 c) hHeld ?_
    refine tq 7 (.pointer (some ⟨g,10,none⟩)) hHeld ?_
    refine tq 8 (.agg #[.string (AA v.1),.bool v.2]) hHeld ?_
    refine AY 5 rfl fun K hK => ?_
    go_simp
    refine (HCu.out _).mono ?_
    rintro e w6 ⟨he,hb⟩
    unfold Hu at he
    have Ha:=Lib.hid (H9.out.on hb)
    clear hb
    rcases hx:sp.CW u with _ | qu<;>rw [hx] at he<;>subst he
    ·exact ⟨rfl,by simp only [HXx.out,HXy.out,HXb.out,HXz.out,Option.bind_some,hx];exact Ha.out.bad⟩
    have HXu:=Lib.hid hx
    clear hx
    refine hK.out _ _ ⟨_,Ha.out⟩ (fun hHeld => ?_)
    clear hK
    refine AY 9 rfl fun K hK => ?_
    go_simp
    refine (HCv.out _).mono ?_
    rintro e w7 ⟨he,hb⟩
    unfold Hu at he
    have Hb:=Lib.hid (Ha.out.on hb)
    clear hb
    rcases hx:sp.CW v with _ | qv<;>rw [hx] at he<;>subst he
    ·exact ⟨rfl,by simp only [HXx.out,HXy.out,HXb.out,HXz.out,HXu.out,Option.bind_some,hx];exact Hb.out.bad⟩
    have HXv:=Lib.hid hx
    clear hx
    refine hK.out _ _ ⟨_,Hb.out⟩ (fun hHeld => ?_)
    clear hK
    refine tq 10 (.pointer (some ⟨B,0,none⟩)) hHeld ?_
    refine tq 11 (.pointer (some ⟨B,11,none⟩)) hHeld ?_
    refine tq 12 (.pointer (some ⟨B,13,none⟩)) hHeld ?_
    have f13:=Hb.out.free 13
    have c13:=Hb.out.cell 13 (.int .i64 0) rfl
    have f14:=Hb.out.free 14
    have c14:=Hb.out.cell 14 (.int .i64 0) rfl
    refine AY 13 rfl fun K hK => ?_
    go_simp
    have Hc:=Lib.hid (Hb.out.set 13 (.int .i64 qu.1))
    have Hd:=Lib.hid (Hc.out.set 14 (.int .i64 qu.2))
    clear f13 c13 f14 c14
    refine hK.out _ _ ⟨_,Hd.out⟩ (fun hHeld => ?_)
    clear hK
    refine tq 14 (.pointer (some ⟨B,0,none⟩)) hHeld ?_
    refine tq 15 (.pointer (some ⟨B,11,none⟩)) hHeld ?_
    refine tq 16 (.pointer (some ⟨B,15,none⟩)) hHeld ?_
    have f15:=Hd.out.free 15
    have c15:=Hd.out.cell 15 (.int .i64 0) rfl
    have f16:=Hd.out.free 16
    have c16:=Hd.out.cell 16 (.int .i64 0) rfl
    refine AY 17 rfl fun K hK => ?_
    go_simp
    have He:=Lib.hid (Hd.out.set 15 (.int .i64 qv.1))
    have Hf:=Lib.hid (He.out.set 16 (.int .i64 qv.2))
    clear f15 c15 f16 c16
    refine hK.out _ _ ⟨_,Hf.out⟩ (fun hHeld => ?_)
    clear hK
    refine wpAnyH_done (by kernel_rfl) ?_ _
    clear hHeld
    go_simp
    go_end0
    (try simp only [HXx.out,HXy.out,HXb.out,HXz.out,HXu.out,HXv.out,Option.bind_some])
    exact Hf.out.good _ rfl (by first | (simp only [sp.Fe,if_pos HZ.out];rfl) | (simp only [sp.Fe,if_neg HZ.out];rfl))
theorem Y4 {p:List UInt8×Bool} {t:List UInt8} (h:sp.wText p=some t):t.length=p.1.length:=by
 unfold sp.wText at h
 split at h
 ·cases h;rfl
 ·cases h
set_option maxRecDepth 100000 in
set_option maxHeartbeats 4000000 in
theorem VC (k:Int) (w0 w:World) (B g c:Nat) (x y:List UInt8×Bool) (h:BO w0 B g [x,y] (Ap k) w):Calls Tryz.prog 51 #[.pointer (some ⟨B,0,none⟩),.slice (some ⟨g,2,none⟩) 2 c] w fun e w'=>Fj w0 B ((sp.Bf x).bind fun n=>(sp.A7 y).bind fun s=>some { kind:=k,node:=n,name:=s }) e w':=by
 have HCx:=Lib.hid (fun W=>Kt x W)
 have HCy:=Lib.hid (fun W=>Gz y W)
 have H0:=Lib.hid (h.on (Below.refl _ _).drew)
 clear h
 go_enter Tryz.func51,Tryz.ntmps51
 go_wp2
 refine wp_region_held_drew (S:=fun s=>∃cs,BO w0 B g [x,y] cs s) (by kernel_rfl) ⟨_,H0.out⟩ (fun hHeld => ?_)
 refine tq 0 (.pointer (some ⟨B,0,none⟩)) hHeld ?_
 refine tq 1 (.pointer (some ⟨B,0,none⟩)) hHeld ?_
 refine tq 2 (.slice (some ⟨g,2,none⟩) 2 c) hHeld ?_
 refine tq 3 (.pointer (some ⟨g,2,none⟩)) hHeld ?_
 refine tq 4 (.agg #[.string (AA x.1),.bool x.2]) hHeld ?_
 refine tq 6 (.slice (some ⟨g,2,none⟩) 2 c) hHeld ?_
 refine tq 7 (.pointer (some ⟨g,4,none⟩)) hHeld ?_
 refine tq 8 (.agg #[.string (AA y.1),.bool y.2]) hHeld ?_
 refine AY 5 rfl fun K hK => ?_
 go_simp
 refine (HCx.out _).mono ?_
 rintro e w1 ⟨he,hb⟩
 unfold Gy at he
 have H1:=Lib.hid (H0.out.on hb)
 clear hb
 rcases hx:sp.Bf x with _ | nx<;>rw [hx] at he<;>subst he
 ·exact ⟨rfl,by simp only [Option.bind_some,hx];exact H1.out.bad⟩
 have HXx:=Lib.hid hx
 clear hx
 refine hK.out _ _ ⟨_,H1.out⟩ (fun hHeld => ?_)
 clear hK
 refine AY 9 rfl fun K hK => ?_
 go_simp
 refine (HCy.out _).mono ?_
 rintro e w2 ⟨he,hb⟩
 unfold ED at he
 have H2:=Lib.hid (H1.out.on hb)
 clear hb
 rcases hx:sp.A7 y with _ | ty<;>rw [hx] at he<;>subst he
 ·exact ⟨rfl,by simp only [HXx.out,Option.bind_some,hx];exact H2.out.bad⟩
 have HXy:=Lib.hid hx
 clear hx
 refine hK.out _ _ ⟨_,H2.out⟩ (fun hHeld => ?_)
 clear hK
 refine tq 10 (.pointer (some ⟨B,0,none⟩)) hHeld ?_
 refine tq 11 (.pointer (some ⟨B,1,none⟩)) hHeld ?_
 refine AY 12 rfl fun K hK => ?_
 have f1:=H2.out.free 1
 have c1:=H2.out.cell 1 (.int .i64 0) rfl
 go_simp
 have H3:=Lib.hid (H2.out.set 1 (.int .i64 nx))
 clear f1 c1
 refine hK.out _ _ ⟨_,H3.out⟩ (fun hHeld => ?_)
 clear hK
 refine tq 13 (.pointer (some ⟨B,0,none⟩)) hHeld ?_
 refine tq 14 (.pointer (some ⟨B,4,none⟩)) hHeld ?_
 refine AY 15 rfl fun K hK => ?_
 have f4:=H3.out.free 4
 have c4:=H3.out.cell 4 (.string ⟨#[]⟩) rfl
 go_simp
 have H4:=Lib.hid (H3.out.set 4 (.string (AA ty)))
 clear f4 c4
 refine hK.out _ _ ⟨_,H4.out⟩ (fun hHeld => ?_)
 clear hK
 refine wpAnyH_done (by kernel_rfl) ?_ _
 clear hHeld
 go_simp
 go_end0
 rw [HXx.out,HXy.out]
 exact H4.out.good _ rfl rfl
set_option maxRecDepth 100000 in
set_option maxHeartbeats 4000000 in
theorem xH (k:Int) (w0 w:World) (B g c:Nat) (x y:List UInt8×Bool) (hlx:x.1.length≤1099511627776) (hly:y.1.length≤1099511627776) (h:BO w0 B g [x,y] (Ap k) w):Calls Tryz.prog 56 #[.pointer (some ⟨B,0,none⟩),.slice (some ⟨g,2,none⟩) 2 c] w fun e w'=>Fj w0 B ((sp.CW x).bind fun p=>(sp.CW y).bind fun q=>some { kind:=k,w:=p,h:=q }) e w':=by
 have HCx:=Lib.hid (fun W=>Ot x W hlx)
 have HCy:=Lib.hid (fun W=>Ot y W hly)
 have H0:=Lib.hid (h.on (Below.refl _ _).drew)
 clear h hlx hly
 go_enter Tryz.func56,Tryz.ntmps56
 go_wp2
 refine wp_region_held_drew (S:=fun s=>∃cs,BO w0 B g [x,y] cs s) (by kernel_rfl) ⟨_,H0.out⟩ (fun hHeld => ?_)
 refine tq 0 (.pointer (some ⟨B,0,none⟩)) hHeld ?_
 refine tq 1 (.pointer (some ⟨B,0,none⟩)) hHeld ?_
 refine tq 2 (.slice (some ⟨g,2,none⟩) 2 c) hHeld ?_
 refine tq 3 (.pointer (some ⟨g,2,none⟩)) hHeld ?_
 refine tq 4 (.agg #[.string (AA x.1),.bool x.2]) hHeld ?_
 refine tq 6 (.slice (some ⟨g,2,none⟩) 2 c) hHeld ?_
 refine tq 7 (.pointer (some ⟨g,4,none⟩)) hHeld ?_
 refine tq 8 (.agg #[.string (AA y.1),.bool y.2]) hHeld ?_
 refine AY 5 rfl fun K hK => ?_
 go_simp
 refine (HCx.out _).mono ?_
 rintro e w1 ⟨he,hb⟩
 unfold Hu at he
 have H1:=Lib.hid (H0.out.on hb)
 clear hb
 rcases hx:sp.CW x with _ | qx<;>rw [hx] at he<;>subst he
 ·exact ⟨rfl,by simp only [Option.bind_some,hx];exact H1.out.bad⟩
 have HXx:=Lib.hid hx
 clear hx
 refine hK.out _ _ ⟨_,H1.out⟩ (fun hHeld => ?_)
 clear hK
 refine AY 9 rfl fun K hK => ?_
 go_simp
 refine (HCy.out _).mono ?_
 rintro e w2 ⟨he,hb⟩
 unfold Hu at he
 have H2:=Lib.hid (H1.out.on hb)
 clear hb
 rcases hx:sp.CW y with _ | qy<;>rw [hx] at he<;>subst he
 ·exact ⟨rfl,by simp only [HXx.out,Option.bind_some,hx];exact H2.out.bad⟩
 have HXy:=Lib.hid hx
 clear hx
 refine hK.out _ _ ⟨_,H2.out⟩ (fun hHeld => ?_)
 clear hK
 refine tq 10 (.pointer (some ⟨B,0,none⟩)) hHeld ?_
 refine tq 11 (.pointer (some ⟨B,7,none⟩)) hHeld ?_
 refine AY 12 rfl fun K hK => ?_
 have f7:=H2.out.free 7
 have c7:=H2.out.cell 7 (.int .i64 0) rfl
 have f8:=H2.out.free 8
 have c8:=H2.out.cell 8 (.int .i64 0) rfl
 go_simp
 have H3:=Lib.hid (H2.out.set 7 (.int .i64 qx.1))
 have H4:=Lib.hid (H3.out.set 8 (.int .i64 qx.2))
 clear f7 c7 f8 c8
 refine hK.out _ _ ⟨_,H4.out⟩ (fun hHeld => ?_)
 clear hK
 refine tq 13 (.pointer (some ⟨B,0,none⟩)) hHeld ?_
 refine tq 14 (.pointer (some ⟨B,9,none⟩)) hHeld ?_
 refine AY 15 rfl fun K hK => ?_
 have f9:=H4.out.free 9
 have c9:=H4.out.cell 9 (.int .i64 0) rfl
 have f10:=H4.out.free 10
 have c10:=H4.out.cell 10 (.int .i64 0) rfl
 go_simp
 have H5:=Lib.hid (H4.out.set 9 (.int .i64 qy.1))
 have H6:=Lib.hid (H5.out.set 10 (.int .i64 qy.2))
 clear f9 c9 f10 c10
 refine hK.out _ _ ⟨_,H6.out⟩ (fun hHeld => ?_)
 clear hK
 refine wpAnyH_done (by kernel_rfl) ?_ _
 clear hHeld
 go_simp
 go_end0
 rw [HXx.out,HXy.out]
 exact H6.out.good _ rfl rfl
set_option maxRecDepth 100000 in
set_option maxHeartbeats 4000000 in
theorem xI (k:Int) (w0 w:World) (B g c:Nat) (x y:List UInt8×Bool) (h:BO w0 B g [x,y] (Ap k) w):Calls Tryz.prog 58 #[.pointer (some ⟨B,0,none⟩),.slice (some ⟨g,2,none⟩) 2 c] w fun e w'=>Fj w0 B ((sp.A7 x).bind fun s=>(sp.A7 y).bind fun t=>some { kind:=k,name:=s,word:=t }) e w':=by
 have HCx:=Lib.hid (fun W=>Gz x W)
 have HCy:=Lib.hid (fun W=>Gz y W)
 have H0:=Lib.hid (h.on (Below.refl _ _).drew)
 clear h
 go_enter Tryz.func58,Tryz.ntmps58
 go_wp2
 refine wp_region_held_drew (S:=fun s=>∃cs,BO w0 B g [x,y] cs s) (by kernel_rfl) ⟨_,H0.out⟩ (fun hHeld => ?_)
 refine tq 0 (.pointer (some ⟨B,0,none⟩)) hHeld ?_
 refine tq 1 (.pointer (some ⟨B,0,none⟩)) hHeld ?_
 refine tq 2 (.slice (some ⟨g,2,none⟩) 2 c) hHeld ?_
 refine tq 3 (.pointer (some ⟨g,2,none⟩)) hHeld ?_
 refine tq 4 (.agg #[.string (AA x.1),.bool x.2]) hHeld ?_
 refine tq 6 (.slice (some ⟨g,2,none⟩) 2 c) hHeld ?_
 refine tq 7 (.pointer (some ⟨g,4,none⟩)) hHeld ?_
 refine tq 8 (.agg #[.string (AA y.1),.bool y.2]) hHeld ?_
 refine AY 5 rfl fun K hK => ?_
 go_simp
 refine (HCx.out _).mono ?_
 rintro e w1 ⟨he,hb⟩
 unfold ED at he
 have H1:=Lib.hid (H0.out.on hb)
 clear hb
 rcases hx:sp.A7 x with _ | tx<;>rw [hx] at he<;>subst he
 ·exact ⟨rfl,by simp only [Option.bind_some,hx];exact H1.out.bad⟩
 have HXx:=Lib.hid hx
 clear hx
 refine hK.out _ _ ⟨_,H1.out⟩ (fun hHeld => ?_)
 clear hK
 refine AY 9 rfl fun K hK => ?_
 go_simp
 refine (HCy.out _).mono ?_
 rintro e w2 ⟨he,hb⟩
 unfold ED at he
 have H2:=Lib.hid (H1.out.on hb)
 clear hb
 rcases hx:sp.A7 y with _ | ty<;>rw [hx] at he<;>subst he
 ·exact ⟨rfl,by simp only [HXx.out,Option.bind_some,hx];exact H2.out.bad⟩
 have HXy:=Lib.hid hx
 clear hx
 refine hK.out _ _ ⟨_,H2.out⟩ (fun hHeld => ?_)
 clear hK
 refine tq 10 (.pointer (some ⟨B,0,none⟩)) hHeld ?_
 refine tq 11 (.pointer (some ⟨B,4,none⟩)) hHeld ?_
 refine AY 12 rfl fun K hK => ?_
 have f4:=H2.out.free 4
 have c4:=H2.out.cell 4 (.string ⟨#[]⟩) rfl
 go_simp
 have H3:=Lib.hid (H2.out.set 4 (.string (AA tx)))
 clear f4 c4
 refine hK.out _ _ ⟨_,H3.out⟩ (fun hHeld => ?_)
 clear hK
 refine tq 13 (.pointer (some ⟨B,0,none⟩)) hHeld ?_
 refine tq 14 (.pointer (some ⟨B,5,none⟩)) hHeld ?_
 refine AY 15 rfl fun K hK => ?_
 have f5:=H3.out.free 5
 have c5:=H3.out.cell 5 (.string ⟨#[]⟩) rfl
 go_simp
 have H4:=Lib.hid (H3.out.set 5 (.string (AA ty)))
 clear f5 c5
 refine hK.out _ _ ⟨_,H4.out⟩ (fun hHeld => ?_)
 clear hK
 refine wpAnyH_done (by kernel_rfl) ?_ _
 clear hHeld
 go_simp
 go_end0
 rw [HXx.out,HXy.out]
 exact H4.out.good _ rfl rfl
set_option maxRecDepth 100000 in
set_option maxHeartbeats 4000000 in
theorem xJ (k:Int) (w0 w:World) (B g c:Nat) (x y z:List UInt8×Bool) (h:BO w0 B g [x,y,z] (Ap k) w):Calls Tryz.prog 59 #[.pointer (some ⟨B,0,none⟩),.slice (some ⟨g,2,none⟩) 3 c] w fun e w'=>Fj w0 B ((sp.Bf x).bind fun n=>(sp.Bf y).bind fun i=>(sp.A7 z).bind fun s=>some { kind:=k,node:=n,at_:=i,name:=s }) e w':=by
 have HCx:=Lib.hid (fun W=>Kt x W)
 have HCy:=Lib.hid (fun W=>Kt y W)
 have HCz:=Lib.hid (fun W=>Gz z W)
 have H0:=Lib.hid (h.on (Below.refl _ _).drew)
 clear h
 go_enter Tryz.func59,Tryz.ntmps59
 go_wp2
 refine wp_region_held_drew (S:=fun s=>∃cs,BO w0 B g [x,y,z] cs s) (by kernel_rfl) ⟨_,H0.out⟩ (fun hHeld => ?_)
 refine tq 0 (.pointer (some ⟨B,0,none⟩)) hHeld ?_
 refine tq 1 (.pointer (some ⟨B,0,none⟩)) hHeld ?_
 refine tq 2 (.pointer (some ⟨B,0,none⟩)) hHeld ?_
 refine tq 3 (.slice (some ⟨g,2,none⟩) 3 c) hHeld ?_
 refine tq 4 (.pointer (some ⟨g,2,none⟩)) hHeld ?_
 refine tq 5 (.agg #[.string (AA x.1),.bool x.2]) hHeld ?_
 refine tq 7 (.slice (some ⟨g,2,none⟩) 3 c) hHeld ?_
 refine tq 8 (.pointer (some ⟨g,4,none⟩)) hHeld ?_
 refine tq 9 (.agg #[.string (AA y.1),.bool y.2]) hHeld ?_
 refine tq 11 (.slice (some ⟨g,2,none⟩) 3 c) hHeld ?_
 refine tq 12 (.pointer (some ⟨g,6,none⟩)) hHeld ?_
 refine tq 13 (.agg #[.string (AA z.1),.bool z.2]) hHeld ?_
 refine AY 6 rfl fun K hK => ?_
 go_simp
 refine (HCx.out _).mono ?_
 rintro e w1 ⟨he,hb⟩
 unfold Gy at he
 have H1:=Lib.hid (H0.out.on hb)
 clear hb
 rcases hx:sp.Bf x with _ | nx<;>rw [hx] at he<;>subst he
 ·exact ⟨rfl,by simp only [Option.bind_some,hx];exact H1.out.bad⟩
 have HXx:=Lib.hid hx
 clear hx
 refine hK.out _ _ ⟨_,H1.out⟩ (fun hHeld => ?_)
 clear hK
 refine AY 10 rfl fun K hK => ?_
 go_simp
 refine (HCy.out _).mono ?_
 rintro e w2 ⟨he,hb⟩
 unfold Gy at he
 have H2:=Lib.hid (H1.out.on hb)
 clear hb
 rcases hx:sp.Bf y with _ | ny<;>rw [hx] at he<;>subst he
 ·exact ⟨rfl,by simp only [HXx.out,Option.bind_some,hx];exact H2.out.bad⟩
 have HXy:=Lib.hid hx
 clear hx
 refine hK.out _ _ ⟨_,H2.out⟩ (fun hHeld => ?_)
 clear hK
 refine AY 14 rfl fun K hK => ?_
 go_simp
 refine (HCz.out _).mono ?_
 rintro e w3 ⟨he,hb⟩
 unfold ED at he
 have H3:=Lib.hid (H2.out.on hb)
 clear hb
 rcases hx:sp.A7 z with _ | tz<;>rw [hx] at he<;>subst he
 ·exact ⟨rfl,by simp only [HXx.out,HXy.out,Option.bind_some,hx];exact H3.out.bad⟩
 have HXz:=Lib.hid hx
 clear hx
 refine hK.out _ _ ⟨_,H3.out⟩ (fun hHeld => ?_)
 clear hK
 refine tq 15 (.pointer (some ⟨B,0,none⟩)) hHeld ?_
 refine tq 16 (.pointer (some ⟨B,1,none⟩)) hHeld ?_
 refine AY 17 rfl fun K hK => ?_
 have f1:=H3.out.free 1
 have c1:=H3.out.cell 1 (.int .i64 0) rfl
 go_simp
 have H4:=Lib.hid (H3.out.set 1 (.int .i64 nx))
 clear f1 c1
 refine hK.out _ _ ⟨_,H4.out⟩ (fun hHeld => ?_)
 clear hK
 refine tq 18 (.pointer (some ⟨B,0,none⟩)) hHeld ?_
 refine tq 19 (.pointer (some ⟨B,2,none⟩)) hHeld ?_
 refine AY 20 rfl fun K hK => ?_
 have f2:=H4.out.free 2
 have c2:=H4.out.cell 2 (.int .i64 0) rfl
 go_simp
 have H5:=Lib.hid (H4.out.set 2 (.int .i64 ny))
 clear f2 c2
 refine hK.out _ _ ⟨_,H5.out⟩ (fun hHeld => ?_)
 clear hK
 refine tq 21 (.pointer (some ⟨B,0,none⟩)) hHeld ?_
 refine tq 22 (.pointer (some ⟨B,4,none⟩)) hHeld ?_
 refine AY 23 rfl fun K hK => ?_
 have f4:=H5.out.free 4
 have c4:=H5.out.cell 4 (.string ⟨#[]⟩) rfl
 go_simp
 have H6:=Lib.hid (H5.out.set 4 (.string (AA tz)))
 clear f4 c4
 refine hK.out _ _ ⟨_,H6.out⟩ (fun hHeld => ?_)
 clear hK
 refine wpAnyH_done (by kernel_rfl) ?_ _
 clear hHeld
 go_simp
 go_end0
 rw [HXx.out,HXy.out,HXz.out]
 exact H6.out.good _ rfl rfl
set_option maxRecDepth 100000 in
set_option maxHeartbeats 4000000 in
theorem xK (k:Int) (w0 w:World) (B g c:Nat) (x y z:List UInt8×Bool) (h:BO w0 B g [x,y,z] (Ap k) w):Calls Tryz.prog 60 #[.pointer (some ⟨B,0,none⟩),.slice (some ⟨g,2,none⟩) 3 c] w fun e w'=>Fj w0 B ((sp.Bf x).bind fun n=>(sp.A7 y).bind fun s=>(sp.wText z).bind fun t=>some { kind:=k,node:=n,name:=s,word:=t }) e w':=by
 have HCx:=Lib.hid (fun W=>Kt x W)
 have HCy:=Lib.hid (fun W=>Gz y W)
 have HCz:=Lib.hid (fun W=>Y0 z W)
 have H0:=Lib.hid (h.on (Below.refl _ _).drew)
 clear h
 go_enter Tryz.func60,Tryz.ntmps60
 go_wp2
 refine wp_region_held_drew (S:=fun s=>∃cs,BO w0 B g [x,y,z] cs s) (by kernel_rfl) ⟨_,H0.out⟩ (fun hHeld => ?_)
 refine tq 0 (.pointer (some ⟨B,0,none⟩)) hHeld ?_
 refine tq 1 (.pointer (some ⟨B,0,none⟩)) hHeld ?_
 refine tq 2 (.pointer (some ⟨B,0,none⟩)) hHeld ?_
 refine tq 3 (.slice (some ⟨g,2,none⟩) 3 c) hHeld ?_
 refine tq 4 (.pointer (some ⟨g,2,none⟩)) hHeld ?_
 refine tq 5 (.agg #[.string (AA x.1),.bool x.2]) hHeld ?_
 refine tq 7 (.slice (some ⟨g,2,none⟩) 3 c) hHeld ?_
 refine tq 8 (.pointer (some ⟨g,4,none⟩)) hHeld ?_
 refine tq 9 (.agg #[.string (AA y.1),.bool y.2]) hHeld ?_
 refine tq 11 (.slice (some ⟨g,2,none⟩) 3 c) hHeld ?_
 refine tq 12 (.pointer (some ⟨g,6,none⟩)) hHeld ?_
 refine tq 13 (.agg #[.string (AA z.1),.bool z.2]) hHeld ?_
 refine AY 6 rfl fun K hK => ?_
 go_simp
 refine (HCx.out _).mono ?_
 rintro e w1 ⟨he,hb⟩
 unfold Gy at he
 have H1:=Lib.hid (H0.out.on hb)
 clear hb
 rcases hx:sp.Bf x with _ | nx<;>rw [hx] at he<;>subst he
 ·exact ⟨rfl,by simp only [Option.bind_some,hx];exact H1.out.bad⟩
 have HXx:=Lib.hid hx
 clear hx
 refine hK.out _ _ ⟨_,H1.out⟩ (fun hHeld => ?_)
 clear hK
 refine AY 10 rfl fun K hK => ?_
 go_simp
 refine (HCy.out _).mono ?_
 rintro e w2 ⟨he,hb⟩
 unfold ED at he
 have H2:=Lib.hid (H1.out.on hb)
 clear hb
 rcases hx:sp.A7 y with _ | ty<;>rw [hx] at he<;>subst he
 ·exact ⟨rfl,by simp only [HXx.out,Option.bind_some,hx];exact H2.out.bad⟩
 have HXy:=Lib.hid hx
 clear hx
 refine hK.out _ _ ⟨_,H2.out⟩ (fun hHeld => ?_)
 clear hK
 refine AY 14 rfl fun K hK => ?_
 go_simp
 refine (HCz.out _).mono ?_
 rintro e w3 ⟨he,hb⟩
 unfold VB at he
 have H3:=Lib.hid (H2.out.on hb)
 clear hb
 rcases hx:sp.wText z with _ | tz<;>rw [hx] at he<;>subst he
 ·exact ⟨rfl,by simp only [HXx.out,HXy.out,Option.bind_some,hx];exact H3.out.bad⟩
 have HXz:=Lib.hid hx
 clear hx
 refine hK.out _ _ ⟨_,H3.out⟩ (fun hHeld => ?_)
 clear hK
 refine tq 15 (.pointer (some ⟨B,0,none⟩)) hHeld ?_
 refine tq 16 (.pointer (some ⟨B,1,none⟩)) hHeld ?_
 refine AY 17 rfl fun K hK => ?_
 have f1:=H3.out.free 1
 have c1:=H3.out.cell 1 (.int .i64 0) rfl
 go_simp
 have H4:=Lib.hid (H3.out.set 1 (.int .i64 nx))
 clear f1 c1
 refine hK.out _ _ ⟨_,H4.out⟩ (fun hHeld => ?_)
 clear hK
 refine tq 18 (.pointer (some ⟨B,0,none⟩)) hHeld ?_
 refine tq 19 (.pointer (some ⟨B,4,none⟩)) hHeld ?_
 refine AY 20 rfl fun K hK => ?_
 have f4:=H4.out.free 4
 have c4:=H4.out.cell 4 (.string ⟨#[]⟩) rfl
 go_simp
 have H5:=Lib.hid (H4.out.set 4 (.string (AA ty)))
 clear f4 c4
 refine hK.out _ _ ⟨_,H5.out⟩ (fun hHeld => ?_)
 clear hK
 refine tq 21 (.pointer (some ⟨B,0,none⟩)) hHeld ?_
 refine tq 22 (.pointer (some ⟨B,5,none⟩)) hHeld ?_
 refine AY 23 rfl fun K hK => ?_
 have f5:=H5.out.free 5
 have c5:=H5.out.cell 5 (.string ⟨#[]⟩) rfl
 go_simp
 have H6:=Lib.hid (H5.out.set 5 (.string (AA tz)))
 clear f5 c5
 refine hK.out _ _ ⟨_,H6.out⟩ (fun hHeld => ?_)
 clear hK
 refine wpAnyH_done (by kernel_rfl) ?_ _
 clear hHeld
 go_simp
 go_end0
 rw [HXx.out,HXy.out,HXz.out]
 exact H6.out.good _ rfl rfl
set_option maxRecDepth 100000 in
set_option maxHeartbeats 4000000 in
theorem xM (k:Int) (w0 w:World) (B g c:Nat) (x y:List UInt8×Bool) (hly:y.1.length≤1099511627776) (h:BO w0 B g [x,y] (Ap k) w):Calls Tryz.prog 54 #[.pointer (some ⟨B,0,none⟩),.slice (some ⟨g,2,none⟩) 2 c] w fun e w'=>Fj w0 B ((sp.Bf x).bind fun o=>(sp.wText y).bind fun t=>some { kind:=k,origin:=o,text:=t }) e w':=by
 have HCx:=Lib.hid (fun W=>Kt x W)
 have HCy:=Lib.hid (fun W=>Y0 y W)
 have H0:=Lib.hid (h.on (Below.refl _ _).drew)
 clear h
 go_enter Tryz.func54,Tryz.ntmps54
 go_wp2
 refine wp_region_held_drew (S:=fun s=>∃cs,BO w0 B g [x,y] cs s) (by kernel_rfl) ⟨_,H0.out⟩ (fun hHeld => ?_)
 refine tq 0 (.pointer (some ⟨B,0,none⟩)) hHeld ?_
 refine tq 1 (.pointer (some ⟨B,0,none⟩)) hHeld ?_
 refine tq 2 (.slice (some ⟨g,2,none⟩) 2 c) hHeld ?_
 refine tq 3 (.pointer (some ⟨g,2,none⟩)) hHeld ?_
 refine tq 4 (.agg #[.string (AA x.1),.bool x.2]) hHeld ?_
 refine tq 6 (.slice (some ⟨g,2,none⟩) 2 c) hHeld ?_
 refine tq 7 (.pointer (some ⟨g,4,none⟩)) hHeld ?_
 refine tq 8 (.agg #[.string (AA y.1),.bool y.2]) hHeld ?_
 refine AY 5 rfl fun K hK => ?_
 go_simp
 refine (HCx.out _).mono ?_
 rintro e w1 ⟨he,hb⟩
 unfold Gy at he
 have H1:=Lib.hid (H0.out.on hb)
 clear hb
 rcases hx:sp.Bf x with _ | nx<;>rw [hx] at he<;>subst he
 ·exact ⟨rfl,by simp only [Option.bind_some,hx];exact H1.out.bad⟩
 have HXx:=Lib.hid hx
 clear hx
 refine hK.out _ _ ⟨_,H1.out⟩ (fun hHeld => ?_)
 clear hK
 refine AY 9 rfl fun K hK => ?_
 go_simp
 refine (HCy.out _).mono ?_
 rintro e w2 ⟨he,hb⟩
 unfold VB at he
 have H2:=Lib.hid (H1.out.on hb)
 clear hb
 rcases hx:sp.wText y with _ | ty<;>rw [hx] at he<;>subst he
 ·exact ⟨rfl,by simp only [HXx.out,Option.bind_some,hx];exact H2.out.bad⟩
 have HXy:=Lib.hid hx
 clear hx
 refine hK.out _ _ ⟨_,H2.out⟩ (fun hHeld => ?_)
 clear hK
 refine tq 11 (.pointer (some ⟨B,0,none⟩)) hHeld ?_
 refine tq 12 (.pointer (some ⟨B,3,none⟩)) hHeld ?_
 refine wpAnyH_ready (rs:=[10,13]) (by kernel_rfl) (by simp) ?_
 refine AllReadyH.cons rfl (fun K hK => ?_) (AllReadyH.cons rfl (fun K hK => ?_) AllReadyH.nil)
 ·rw [if_pos (by kernel_rfl)]
  obtain ⟨wc,cp,hcv,hbc,hsz,hrow,hc1,hc2⟩:=Qc (w2) ty
  have hsx:(w2).heap.size=w2.heap.size:=by simp
  rw [hsx] at hcv hsz hrow
  have HCV:=Lib.hid (And.intro hsz (And.intro hrow (And.intro hc1 hc2)))
  have HLT:=Lib.hid (show B<w2.heap.size by have:=lt_of_block H2.out.op;rw [hsx] at this;exact this)
  clear hrow hc1 hc2 hsz hsx
  go_simp
  clear hcv
  have H3:=Lib.hid (H2.out.on hbc)
  clear hbc
  refine hK.out _ _ ⟨_,H3.out⟩ (fun hHeld => ?_)
  clear hK
  refine AY 13 rfl fun K hK => ?_
  have f3:=H3.out.free 3
  have c3:=H3.out.cell 3 (.int .i64 0) rfl
  go_simp
  have H4:=Lib.hid (H3.out.set 3 (.int .i64 nx))
  clear f3 c3
  refine hK.out _ _ ⟨_,H4.out⟩ (fun hHeld => ?_)
  clear hK
  refine tq 14 (.pointer (some ⟨B,0,none⟩)) hHeld ?_
  refine tq 15 (.pointer (some ⟨B,6,none⟩)) hHeld ?_
  refine AY 16 rfl fun K hK => ?_
  have f6:=H4.out.free 6
  have c6:=H4.out.cell 6 (.slice none 0 0) rfl
  go_simp
  have H5:=Lib.hid (H4.out.set 6 (.slice (some ⟨w2.heap.size,0,none⟩) ty.length cp))
  clear f6 c6
  refine hK.out _ _ ⟨_,H5.out⟩ (fun hHeld => ?_)
  clear hK
  refine wpAnyH_done (by kernel_rfl) ?_ _
  clear hHeld
  go_simp
  go_end0
  rw [HXx.out,HXy.out]
  have hne:w2.heap.size≠B:=by have:=HLT.out;omega
  exact H5.out.Y2 _ (G5 (G5 HCV.out.2.1 hne _ _) hne _ _) rfl HCV.out.2.2.1 (HCV.out.2.2.2 (by have:=Y4 HXy.out;unfold maxLen;omega)) (by have:=HCV.out.1;simp;omega) H2.out.fr.size rfl
 ·rw [if_pos (by kernel_rfl)]
  have f3:=H2.out.free 3
  have c3:=H2.out.cell 3 (.int .i64 0) rfl
  go_simp
  have H3:=Lib.hid (H2.out.set 3 (.int .i64 nx))
  clear f3 c3
  refine hK.out _ _ ⟨_,H3.out⟩ (fun hHeld => ?_)
  clear hK
  refine AY 10 rfl fun K hK => ?_
  obtain ⟨wc,cp,hcv,hbc,hsz,hrow,hc1,hc2⟩:=Qc (w2.setCell ⟨B,3,none⟩ (.int .i64 nx)) ty
  have hsx:(w2.setCell ⟨B,3,none⟩ (.int .i64 nx)).heap.size=w2.heap.size:=by simp
  rw [hsx] at hcv hsz hrow
  have HCV:=Lib.hid (And.intro hsz (And.intro hrow (And.intro hc1 hc2)))
  have HLT:=Lib.hid (show B<w2.heap.size by have:=lt_of_block H3.out.op;rw [hsx] at this;exact this)
  clear hrow hc1 hc2 hsz hsx
  go_simp
  clear hcv
  have H4:=Lib.hid (H3.out.on hbc)
  clear hbc
  refine hK.out _ _ ⟨_,H4.out⟩ (fun hHeld => ?_)
  clear hK
  refine tq 14 (.pointer (some ⟨B,0,none⟩)) hHeld ?_
  refine tq 15 (.pointer (some ⟨B,6,none⟩)) hHeld ?_
  refine AY 16 rfl fun K hK => ?_
  have f6:=H4.out.free 6
  have c6:=H4.out.cell 6 (.slice none 0 0) rfl
  go_simp
  have H5:=Lib.hid (H4.out.set 6 (.slice (some ⟨w2.heap.size,0,none⟩) ty.length cp))
  clear f6 c6
  refine hK.out _ _ ⟨_,H5.out⟩ (fun hHeld => ?_)
  clear hK
  refine wpAnyH_done (by kernel_rfl) ?_ _
  clear hHeld
  go_simp
  go_end0
  rw [HXx.out,HXy.out]
  have hne:w2.heap.size≠B:=by have:=HLT.out;omega
  exact H5.out.Y2 _ (G5 HCV.out.2.1 hne _ _) rfl HCV.out.2.2.1 (HCV.out.2.2.2 (by have:=Y4 HXy.out;unfold maxLen;omega)) (by have:=HCV.out.1;simp;omega) H2.out.fr.size rfl
set_option maxRecDepth 100000 in
set_option maxHeartbeats 2000000 in
theorem Y5 (k:Int) (w0 w:World) (B g c:Nat) (x:List UInt8×Bool) (hl:x.1.length≤1099511627776) (h:BO w0 B g [x] (Ap k) w):Calls Tryz.prog 52 #[.pointer (some ⟨B,0,none⟩),.slice (some ⟨g,2,none⟩) 1 c] w fun e w'=>Fj w0 B ((sp.CW x).map fun q=>{ kind:=k,w:=q }) e w':=by
 have HN:=Lib.hid (fun W=>Ot x W hl)
 obtain ⟨a0,a1⟩:=h.w0
 have HH:=Lib.hid h
 clear h hl
 cases hx:sp.CW x with
 | none =>
  have HX:=Lib.hid hx
  clear hx
  go_enter Tryz.func52,Tryz.ntmps52
  go_wp2_with (go_at_call 53;refine (HN.out _).mono ?_;rintro e w1 ⟨he,hb⟩;unfold Hu at he;rw [HX.out] at he;subst he)
  exact ⟨rfl,(HH.out.on hb).bad⟩
 | some q =>
  have HX:=Lib.hid hx
  clear hx
  go_enter Tryz.func52,Tryz.ntmps52
  go_wp2_with (go_at_call 53;refine (HN.out _).mono ?_;rintro e w1 ⟨he,hb⟩;unfold Hu at he;rw [HX.out] at he;subst he;have H1:=Lib.hid (HH.out.on hb);have f7:=H1.out.free 7;have c7:=H1.out.cell 7 (.int .i64 0) rfl;have f8:=H1.out.free 8;have c8:=H1.out.cell 8 (.int .i64 0) rfl;clear hb)
  go_end0
  exact ((H1.out.set 7 _).set 8 _).good _ rfl rfl
set_option maxRecDepth 100000 in
set_option maxHeartbeats 2000000 in
theorem xN (k:Int) (w0 w:World) (B g c:Nat) (x:List UInt8×Bool) (h:BO w0 B g [x] (Ap k) w):Calls Tryz.prog 57 #[.pointer (some ⟨B,0,none⟩),.slice (some ⟨g,2,none⟩) 1 c] w fun e w'=>Fj w0 B ((sp.A7 x).bind fun s=>if s=sp.Ar then some { kind:=k,on:=true } else if s=sp.Bl then some { kind:=k } else none) e w':=by
 have HN:=Lib.hid (fun W=>Gz x W)
 obtain ⟨a0,a1⟩:=h.w0
 have HH:=Lib.hid h
 clear h
 cases hx:sp.A7 x with
 | none =>
  have HX:=Lib.hid hx
  clear hx
  go_enter Tryz.func57,Tryz.ntmps57
  go_wp2_with (go_at_call 28;refine (HN.out _).mono ?_;rintro e w1 ⟨he,hb⟩;unfold ED at he;rw [HX.out] at he;subst he)
  exact ⟨rfl,(HH.out.on hb).bad⟩
 | some s =>
  have hxs:x.1=s:=by
   unfold sp.A7 at hx
   split at hx
   ·cases hx
   ·cases hx;rfl
  have HX:=Lib.hid hx
  rw [hxs] at a0
  simp only [hxs] at HN
  have HS:=Lib.hid hxs
  clear hx hxs
  by_cases h1:s=sp.Ar
  ·have q1:=str_eq h1
   have HR:Hid (((some s).bind fun s=>if s=sp.Ar then some { kind:=k,on:=true } else if s=sp.Bl then some { kind:=k } else none)=some { kind:=k,on:=true:sp.Op }):=Lib.hid (by simp [h1])
   clear h1
   go_enter Tryz.func57,Tryz.ntmps57
   go_wp2_with (first
    | (go_at_call 28;refine (HN.out _).mono ?_;rintro e w1 ⟨he,hb⟩;unfold ED at he;rw [HX.out] at he;subst he;have H1:=Lib.hid (HH.out.on hb);have f7:=H1.out.free 17;have c7:=H1.out.cell 17 (.bool false) rfl;clear hb)
    | (go_at_call 23;refine (FP _).mono ?_;rintro e w2 ⟨rfl,rfl⟩))
   go_end0
   rw [HR.out]
   exact (H1.out.set 17 _).good _ rfl rfl
  ·have q1:=AL h1
   by_cases h2:s=sp.Bl
   ·have q2:=str_eq h2
    have HR:Hid (((some s).bind fun s=>if s=sp.Ar then some { kind:=k,on:=true } else if s=sp.Bl then some { kind:=k } else none)=some { kind:=k:sp.Op }):=Lib.hid (by simp [h1,h2])
    clear h1 h2
    go_enter Tryz.func57,Tryz.ntmps57
    go_wp2_with (first
     | (go_at_call 28;refine (HN.out _).mono ?_;rintro e w1 ⟨he,hb⟩;unfold ED at he;rw [HX.out] at he;subst he;have H1:=Lib.hid (HH.out.on hb);have f7:=H1.out.free 17;have c7:=H1.out.cell 17 (.bool false) rfl;have H2:=Lib.hid (H1.out.set 17 (.bool false));obtain ⟨a20,a21⟩:=H2.out.w0;rw [HS.out] at a20;clear hb)
     | (go_at_call 23;refine (FP _).mono ?_;rintro e w2 ⟨rfl,rfl⟩))
    go_end0
    rw [HR.out]
    exact H2.out.good _ rfl rfl
   ·have q2:=AL h2
    have HR:Hid (((some s).bind fun s=>if s=sp.Ar then some { kind:=k,on:=true } else if s=sp.Bl then some { kind:=k } else none)=(none:Option sp.Op)):=Lib.hid (by simp [h1,h2])
    clear h1 h2
    go_enter Tryz.func57,Tryz.ntmps57
    go_wp2_with (first
     | (go_at_call 28;refine (HN.out _).mono ?_;rintro e w1 ⟨he,hb⟩;unfold ED at he;rw [HX.out] at he;subst he;have H1:=Lib.hid (HH.out.on hb);have f7:=H1.out.free 17;have c7:=H1.out.cell 17 (.bool false) rfl;have H2:=Lib.hid (H1.out.set 17 (.bool false));obtain ⟨a20,a21⟩:=H2.out.w0;rw [HS.out] at a20;clear hb)
     | (go_at_call 23;refine (E8 _).mono ?_;rintro e w2 ⟨rfl,rfl⟩))
    rw [HR.out]
    exact ⟨rfl,H2.out.bad⟩
set_option maxRecDepth 100000 in
theorem xO (k:Int) (w0 w:World) (B g c:Nat) (a:Option Addr) (h:BO w0 B g [] (Ap k) w):Calls Tryz.prog 62 #[.pointer (some ⟨B,0,none⟩),.slice a 0 c] w fun e w'=>Fj w0 B (some { kind:=k }) e w':=by
 have HH:=Lib.hid h
 clear h
 go_enter Tryz.func62,Tryz.ntmps62
 go_wp2
 go_end0
 exact HH.out.good _ rfl rfl
set_option maxRecDepth 100000 in
theorem xP (p q r:Addr) (w:World) :
  CallsD Tryz.prog 22 #[.pointer (some p),.pointer (some q),.pointer (some r)] .returning w fun e u' w'=>e=.returned (.tuple #[])∧u'=.returning∧w'=w:=by
 refine callsD_of_wpS Tryz.func22 rfl fun c₀ cs hu => ?_
 apply wpS_seq
 apply wpS_region
 simp [wpOpsS,go_sem,recoverD,hu,Tryz.ntmps22,Exit.thenS]
 refine wpS_of_wp ?_
 have e:(#[Value.pointer (some p),Value.pointer (some q),Value.pointer (some r)]++((Array.replicate 15 undef).setIfInBounds 3 Value.nilIface).setIfInBounds 0 Value.nilIface)=#[Value.pointer (some p),Value.pointer (some q),Value.pointer (some r),.nilIface,undef,undef,.nilIface,undef,undef,undef,undef,undef,undef,undef,undef,undef,undef,undef]:=rfl
 rw [e]
 clear e
 go_wp2
 exact ⟨rfl,.returning,by rw [←hu],_,results_none rfl _ _ _,rfl,rfl,rfl⟩
structure Res (B S E:Nat) (cs:Array Value) (sy:Bool) (er:Int) (W:World):Prop where
 op:W.heap[B]?=some (.cells cs 28 (0,0))
 says:W.heap[S]?=some (.cells #[.bool sy] 4 (0,0))
 err:W.heap[E]?=some (.cells #[.int .i64 er] 29 (0,0))
theorem Ee {w:World} {g:Nat} {old:Array Value} {t:TypeId} {fz:Nat×Nat} (h:w.heap[g]?=some (.cells old t fz)) (cells:Array Value):(w.setRow g cells).heap[g]?=some (.cells cells t fz):=by
 have hlt:=lt_of_block h
 have h':w.heap[g]=.cells old t fz:=by simpa [Array.getElem?_eq_getElem hlt] using h
 show (w.heap.modify g _)[g]?=_
 rw [Array.getElem?_eq_getElem (by simpa using hlt),Array.getElem_modify_self,h']
theorem JD {w:World} {g k:Nat} (cells:Array Value) (h:g≠k):(w.setRow g cells).heap[k]?=w.heap[k]?:=by
 show (w.heap.modify g _)[k]?=_
 rw [Array.getElem?_modify]
 simp [h]
theorem xQ {B S E:Nat} {cs:Array Value} {sy:Bool} {er:Int} {w:World} (h:Res B S E cs sy er w) (h1:B≠S) (h2:B≠E):Res B S E (Ap 0) sy er ((w.alloc (.cells #[] 54)).setRow B (Ap 0))∧(∀n,n≤B→Below n w ((w.alloc (.cells #[] 54)).setRow B (Ap 0))) :=
 ⟨⟨Ee (Dt _ _ _ h.op) _,(JD _ h1).trans (Dt _ _ _ h.says),(JD _ h2).trans (Dt _ _ _ h.err)⟩,
  fun n hn=>below_setRow ((Below.refl n w).alloc (by have:=lt_of_block h.op;omega) _) hn _⟩
theorem Res.cells {B S E:Nat} {cs:Array Value} {sy:Bool} {er:Int} {w:World} (h:Res B S E cs sy er w):w.cell? ⟨S,0,none⟩=some (.bool sy)∧w.cell? ⟨E,0,none⟩=some (.int .i64 er)∧w.frozen? ⟨S,0,none⟩=false∧w.frozen? ⟨E,0,none⟩=false :=
 ⟨by rw [Lib.cell_of_heap h.says];rfl,by rw [Lib.cell_of_heap h.err];rfl,Ag h.says 0,Ag h.err 0⟩
theorem Res.fin {B S E:Nat} {cs:Array Value} {sy:Bool} {er:Int} {w:World} (h:Res B S E cs sy er w) (h1:B≠S) (h2:B≠E) (h3:S≠E) (sy':Bool) (er':Int):Res B S E cs sy' er' ((w.setCell ⟨S,0,none⟩ (.bool sy')).setCell ⟨E,0,none⟩ (.int .i64 er'))∧(∀n,n≤S→n≤E→Below n w ((w.setCell ⟨S,0,none⟩ (.bool sy')).setCell ⟨E,0,none⟩ (.int .i64 er'))):=by
 refine ⟨⟨(Eu (Ne.symm h2) _ _).trans ((Eu (Ne.symm h1) _ _).trans h.op),(Eu (Ne.symm h3) _ _).trans ?_,?_⟩,fun n hs he=>((Below.refl n w).setCell hs _).setCell he _⟩
 ·have:=D9 h.says 0 (.bool sy')
  simpa using this
 ·have:=D9 ((Eu h3 0 (.bool sy')).trans h.err) 0 (.int .i64 er')
  simpa using this
theorem IR:(Ap 0).all (·.oneCell')=true:=by simp [Ap,AQ,Value.oneCell']
theorem xR (w:World):(Instr.typeAssert (.iface 54 (.agg #[])) 20 54 true).run Tryz.prog w=.ok (.tuple #[.agg #[],.bool true]) w:=by kernel_rfl
set_option maxRecDepth 100000 in
set_option maxHeartbeats 2000000 in
theorem xU (B S E:Nat) (cs:Array Value) (sy:Bool) (er:Int) (w:World) (h:Res B S E cs sy er w) (hc:cs.size=18) (h1:B≠S) (h2:B≠E) (h3:S≠E) :
  CallsD Tryz.prog 22 #[.pointer (some ⟨B,0,none⟩),.pointer (some ⟨S,0,none⟩),.pointer (some ⟨E,0,none⟩)] (.panicking bar) w fun e u' w'=>e=.returned (.tuple #[])∧u'=.panicking [{ v:=.iface 54 (.agg #[]),recovered:=true }]∧Res B S E (Ap 0) false 12 w'∧(∀n,n≤B→n≤S→n≤E→Below n w w'):=by
 have HR:=Lib.hid h
 have s0:w.cell? ⟨S,0,none⟩=some (.bool sy):=by rw [Lib.cell_of_heap h.says];rfl
 have e0:w.cell? ⟨E,0,none⟩=some (.int .i64 er):=by rw [Lib.cell_of_heap h.err];rfl
 have z0:=Ag h.says 0
 have z1:=Ag h.err 0
 have hta:=xR
 have HC:=Lib.hid hc
 clear h
 unfold bar
 refine callsD_of_wpS Tryz.func22 rfl fun c₀ fs hu => ?_
 apply wpS_seq
 apply wpS_region
 simp [wpOpsS,go_sem,recoverD,hu,Tryz.ntmps22,Exit.thenS]
 refine wpS_of_wp ?_
 have e:(#[Value.pointer (some ⟨B,0,none⟩),Value.pointer (some ⟨S,0,none⟩),Value.pointer (some ⟨E,0,none⟩)]++((Array.replicate 15 undef).setIfInBounds 3 (.iface 54 (.agg #[]))).setIfInBounds 0 (.iface 54 (.agg #[])))=#[Value.pointer (some ⟨B,0,none⟩),Value.pointer (some ⟨S,0,none⟩),Value.pointer (some ⟨E,0,none⟩),(.iface 54 (.agg #[])),undef,undef,(.iface 54 (.agg #[])),undef,undef,undef,undef,undef,undef,undef,undef,undef,undef,undef]:=rfl
 rw [e]
 clear e hu
 go_wp2_with (refine wpList_store_row rfl 28 _ _ rfl B (Ap 0) rfl rfl 28 cs (Dt _ _ _ HR.out.op) BU HC.out IR ?_;obtain ⟨hr2,hb2⟩:=xQ HR.out h1 h2;generalize (w.alloc (.cells #[] 54)).setRow B (Ap 0)=W2 at hr2 hb2 ⊢; have HR2:=Lib.hid hr2;have HB2:=Lib.hid hb2;obtain ⟨k0,k1,y0,y1⟩:=hr2.cells;clear hr2 hb2)
 have HF:=HR2.out.fin h1 h2 h3 false 12
 exact ⟨rfl,_,rfl,_,results_none rfl _ _ _,rfl,rfl,HF.1,fun n q1 q2 q3=>(HB2.out n q1).trans (HF.2 n q2 q3)⟩
theorem Ug {W W':World} {g:Nat} (h:W'.heap[g]?=W.heap[g]?) (k:Nat):W'.cell? ⟨g,k,none⟩=W.cell? ⟨g,k,none⟩:=by unfold World.cell?;rw [h]
def Hw (p:sp.Op×Value):List Value:=(AQ p.1 p.2).toList
theorem xW (p:sp.Op×Value):(Hw p).length=18:=rfl
structure Gf (w:World) (v:Value) (L:List (sp.Op×Value)):Prop where
 row:BK w.heap.size w v L.length (L.flatMap Hw)
 texts:∀p∈L,BK w.heap.size w p.2 p.1.text.length (Lib.byteCells p.1.text)
theorem Gf.on {w w':World} {v:Value} {L:List (sp.Op×Value)} (h:Gf w v L) (hb:Below w.heap.size w w'):Gf w' v L :=
 ⟨(h.row.keep hb).mono hb.size,fun p hp=>((h.texts p hp).keep hb).mono hb.size⟩
theorem Qb {o:sp.Op} {tv:Value} {B n:Nat} {W:World} {cs:List Value} (h:BK B W tv n cs):(AQ o tv).all (·.oneCell')=true:=by
 obtain ⟨a,cap,rfl⟩:=h.slice
 simp [AQ,Value.oneCell']
theorem Gf.el {w wr:World} {a:Option Addr} {c n:Nat} {L:List (sp.Op×Value)} (h:Gf w (.slice a n c) L) (hb:Below w.heap.size w wr) {k:Nat} (hk:k<L.length):∃b off,a=some ⟨b,off,none⟩∧b<w.heap.size∧(∀j u,(AQ L[k].1 L[k].2).toList[j]?=some u→wr.cell? ⟨b,off+k*18+j,none⟩=some u)∧BK w.heap.size wr L[k].2 L[k].1.text.length (Lib.byteCells L[k].1.text):=by
 have hn:n=L.length:=by obtain ⟨_,_,e,_⟩:=h.row;cases e;rfl
 subst hn
 obtain ⟨bx,off,rfl,hbx,hrg⟩:=h.row.place (by omega)
 refine ⟨bx,off,rfl,hbx,fun j u hj => ?_,(h.texts _ (List.getElem_mem hk)).keep hb⟩
 have OZ:j<18:=(List.getElem?_eq_some_iff.1 hj).1
 have:=KU hb hbx hrg (k*18+j) u (by rw [Uh xW L k hk j OZ];exact hj)
 rw [←Nat.add_assoc] at this
 exact this
theorem MK {wr W:World} {cs:Array Value} (h:W=(wr.alloc (.cells (Ap 0) 28)).setRow wr.heap.size cs):W.heap[wr.heap.size]?=some (.cells cs 28 (0,0))∧Below wr.heap.size wr W:=by
 subst h
 exact ⟨Ee (AX _ _) _,below_setRow (AZ wr _) (Nat.le_refl _) _⟩
section
variable {ops:Array Oper} {rest:List Oper} {op:Oper} {a:Act} {Q:Exit→Act→World→Prop} {W:World}
theorem MJ (hgd:op.guard=none) (x y:Operand) (hop:op.op=.store 28 x y) (g:Nat) (cells:Array Value) (hx:a.eval x=.pointer (some ⟨g,0,none⟩)) (hy:a.eval y=.agg cells) (old:Array Value) (hg:W.heap[g]?=some (.cells old 28 (0,0))) (ho:old.size=18) (hc:cells.size=18) (h1:cells.all (·.oneCell')=true)
  (h:∀W',W'=W.setRow g cells→wpList Tryz.prog ops Q rest (a.put op.dst undef) W'):wpList Tryz.prog ops Q (op :: rest) a W :=
 wpList_store_row hgd 28 x y hop g cells hx hy 28 old hg (by rw [hc];exact BU) (by rw [ho,hc]) h1 (h _ rfl)
end
set_option maxRecDepth 100000 in
set_option maxHeartbeats 16000000 in
theorem xX (w:World) (va vb:Value) (A C:List (sp.Op×Value)) (ha:Gf w va A) (hb:Gf w vb C) (he:A.map (·.1)=C.map (·.1)) (hn:A.length≤1099511627776):Calls Tryz.prog 15 #[va,vb] w fun e w'=>e=.returned (.bool true)∧Below w.heap.size w w':=by
 have hl:A.length=C.length:=by have:=congrArg List.length he;simpa using this
 obtain ⟨aa,ca,rfl⟩:=ha.row.slice
 obtain ⟨ab,cb,rfl⟩:=hb.row.slice
 have HA:=Lib.hid ha;have HC:=Lib.hid hb;have HE:=Lib.hid he;have HN:=Lib.hid hn
 have HL:=Lib.hid hl
 rw [hl] at HA ⊢
 have HLN:Hid ((C.length:Int)≤1099511627776):=Lib.hid (by omega)
 clear ha hb he hn hl
 go_enter Tryz.func15,Tryz.ntmps15
 go_wp2
 go_loopw [5,15] (fun j i wr=>∃k:Nat,k≤C.length∧i=.int .i64 k∧Below w.heap.size w wr) (fun _ i _=>C.length-(intOf i).toNat)
 case atStart=>exact ⟨0,Nat.zero_le _,rfl,Below.refl _ _⟩
 case round =>
  obtain ⟨k,hk,rfl,hbl⟩:=hrel
  have HB:=Lib.hid hbl
  have hkb:(k:Int)≤1099511627776:=by have:=HLN.out;omega
  clear hbl
  by_cases hlt:k<C.length
  ·have t0:decide ((k:Int)<(C.length:Int))=true:=by simp;omega
   have KW:k<A.length:=by have:=HL.out;omega
   obtain ⟨b1,o1,rfl,hx1,hc1,hr1⟩:=Gf.el HA.out HB.out KW
   obtain ⟨b2,o2,rfl,hx2,hc2,hr2⟩:=HC.out.el HB.out hlt
   have heq:A[k].1=C[k].1:=by
    have h1:(A.map (·.1))[k]?=(C.map (·.1))[k]?:=by rw [HE.out]
    simpa [KW,hlt] using h1
   obtain ⟨o,ho⟩:∃o,o=C[k].1:=⟨_,rfl⟩
   rw [heq] at hc1 hr1
   rw [←ho] at hc1 hr1 hc2 hr2
   generalize A[k].2=ta at hc1 hr1
   generalize C[k].2=tb at hc2 hr2
   clear heq ho KW
   have HX2:Hid (b2<wr.heap.size):=Lib.hid (Nat.lt_of_lt_of_le hx2 HB.out.size);clear hx1 hx2
   have HC1:=Lib.hid hc1;have HC2:=Lib.hid hc2;have HR1:=Lib.hid hr1;have HR2:=Lib.hid hr2
   have HO1:=Lib.hid (Qb (o:=o) hr1);have HO2:=Lib.hid (Qb (o:=o) hr2)
   clear hc1 hc2 hr1 hr2
   go_wp2_with (first
    | (have hgd:=HC1;clear hgd;refine Qd rfl 28 _ rfl b1 (o1+k*18) rfl (AQ o ta) _ HC1.out Tryz.underlying28 rfl BU ?_;clear HC1)
    | (have hgd:=HO1;clear hgd;refine MJ rfl _ _ rfl wr.heap.size (AQ o ta) rfl rfl _ (AX _ _) rfl rfl HO1.out ?_;intro W1 hW1;obtain ⟨q1,q2⟩:=MK hW1;have HQ1:=Lib.hid q1;have HB1:=Lib.hid (HB.out.trans (q2.mono HB.out.size));have HC3:=Lib.hid (fun j u hj=>(Ug (q2.block b2 HX2.out) _).trans (HC2.out j u hj));have HW1:=Lib.hid (q2.mono HB.out.size);clear hW1 q1 q2 HO1 HC2)
    | (have hgd:=HC3;clear hgd;refine Qd rfl 28 _ rfl b2 (o2+k*18) rfl (AQ o tb) _ HC3.out Tryz.underlying28 rfl BU ?_;clear HC3)
    | (have hgd:=HO2;clear hgd;refine MJ rfl _ _ rfl W1.heap.size (AQ o tb) rfl rfl _ (AX _ _) rfl rfl HO2.out ?_;intro W2 hW2;obtain ⟨q1,q2⟩:=MK hW2;have HB2:=Lib.hid (HB1.out.trans (q2.mono HB1.out.size));have HW2:=HW1.out.trans (q2.mono HB1.out.size);have HQ2:=(q2.block _ (lt_of_block HQ1.out)).trans HQ1.out;have a0:=Am HQ2 0 (.int .i64 o.kind) rfl;have a1:=Am HQ2 1 (.int .i64 o.node) rfl;have a2:=Am HQ2 2 (.int .i64 o.at_) rfl;have a3:=Am HQ2 3 (.int .i64 o.origin) rfl;have a4:=Am HQ2 4 (.string (AA o.name)) rfl;have a5:=Am HQ2 5 (.string (AA o.word)) rfl;have a6:=Am HQ2 6 (ta) rfl;have a7:=Am HQ2 7 (.int .i64 o.w.1) rfl;have a8:=Am HQ2 8 (.int .i64 o.w.2) rfl;have a9:=Am HQ2 9 (.int .i64 o.h.1) rfl;have a10:=Am HQ2 10 (.int .i64 o.h.2) rfl;have a11:=Am HQ2 11 (.int .i64 o.bt) rfl;have a12:=Am HQ2 12 (.string (AA o.bn)) rfl;have a13:=Am HQ2 13 (.int .i64 o.bw.1) rfl;have a14:=Am HQ2 14 (.int .i64 o.bw.2) rfl;have a15:=Am HQ2 15 (.int .i64 o.bh.1) rfl;have a16:=Am HQ2 16 (.int .i64 o.bh.2) rfl;have a17:=Am HQ2 17 (.bool o.on) rfl;have b0:=Am q1 0 (.int .i64 o.kind) rfl;have b1:=Am q1 1 (.int .i64 o.node) rfl;have b2:=Am q1 2 (.int .i64 o.at_) rfl;have b3:=Am q1 3 (.int .i64 o.origin) rfl;have b4:=Am q1 4 (.string (AA o.name)) rfl;have b5:=Am q1 5 (.string (AA o.word)) rfl;have b6:=Am q1 6 (tb) rfl;have b7:=Am q1 7 (.int .i64 o.w.1) rfl;have b8:=Am q1 8 (.int .i64 o.w.2) rfl;have b9:=Am q1 9 (.int .i64 o.h.1) rfl;have b10:=Am q1 10 (.int .i64 o.h.2) rfl;have b11:=Am q1 11 (.int .i64 o.bt) rfl;have b12:=Am q1 12 (.string (AA o.bn)) rfl;have b13:=Am q1 13 (.int .i64 o.bw.1) rfl;have b14:=Am q1 14 (.int .i64 o.bw.2) rfl;have b15:=Am q1 15 (.int .i64 o.bh.1) rfl;have b16:=Am q1 16 (.int .i64 o.bh.2) rfl;have b17:=Am q1 17 (.bool o.on) rfl;have hva:=Oe (HR1.out.keep HW2);have hvb:=Oe (HR2.out.keep HW2);clear hW2 q1 q2 HO2 HQ1 HQ2 HW2))
   exact ⟨⟨k+1,by omega,by go_num,HB2.out⟩,by simp [intOf];omega⟩
  ·have t0:decide ((k:Int)<(C.length:Int))=false:=by simp;omega
   go_wp2
   go_ret
   exact ⟨rfl,HB.out⟩
theorem Y6:(Tryz.prog.info? 28).map (fun i=>(i.zero,i.size,i.bytes))=some (some (.agg #[.int .i64 0,.int .i64 0,.int .i64 0,.int .i64 0,.string ⟨#[]⟩,.string ⟨#[]⟩,.slice none 0 0,.int .i64 0,.int .i64 0,.int .i64 0,.int .i64 0,.int .i64 0,.string ⟨#[]⟩,.int .i64 0,.int .i64 0,.int .i64 0,.int .i64 0,.bool false]),18,184):=by kernel_rfl
theorem xY:Array.range 18=#[0,1,2,3,4,5,6,7,8,9,10,11,12,13,14,15,16,17]:=by decide
section
variable {ops:Array Oper} {rest:List Oper} {op:Oper} {a:Act} {Q:Exit→Act→World→Prop} {w:World}
theorem Y7 (hgd:op.guard=none) {v:Value} {w':World} (hr:(execOp a.eval op).run Tryz.prog w=.ok (.value v) w') (h:wpList Tryz.prog ops Q rest (a.put op.dst v) w'):wpList Tryz.prog ops Q (op :: rest) a w :=
 wpList_plain hgd fun _ hK=>by unfold Oper.wp;rw [hr];exact hK _ _ h
theorem Uf (hgd:op.guard=none) (x:Operand) (hop:op.op=.box 28 x) (cs:Array Value) (hx:a.eval x=.agg cs)
  (h:∀w',w'.heap[w.heap.size]?=some (.cells cs 28 (0,0))→Below w.heap.size w w'→wpList Tryz.prog ops Q rest (a.put op.dst (.pointer (some ⟨w.heap.size,0,none⟩))) w'):wpList Tryz.prog ops Q (op :: rest) a w:=by
 refine Y7 hgd (w':=w.alloc (.cells cs 28)) ?_ (h _ (AX w _) (AZ w _))
 unfold execOp
 simp [hop,hx,Instr.box,newVar,newRow,Result.andThen,Value.cells]
theorem VD (hgd:op.guard=none) (x:Operand) (hop:op.op=.buildSlice 35 1 #[(0,x)]) (o:sp.Op) (tv:Value) (hx:a.eval x=.agg (AQ o tv))
  (h:∀w',w'.heap[w.heap.size]?=some (.cells (AQ o tv) 28 (0,0))→Below w.heap.size w w'→wpList Tryz.prog ops Q rest (a.put op.dst (.slice (some ⟨w.heap.size,0,none⟩) 1 1)) w'):wpList Tryz.prog ops Q (op :: rest) a w:=by
 refine Y7 hgd (w':=w.alloc (.cells (AQ o tv) 28)) ?_ (h _ (AX w _) (AZ w _))
 obtain ⟨i,hi,hz,hs,hb⟩:=info_parts Y6
 unfold execOp
 simp [hop,hx,Instr.buildSlice,run_underlying Tryz.underlying35,sizeOf,zeroValue,typeInfo,hi,hz,hs,Builtin.zeroCells,Instr.fill,Value.cells,newRow,Result.andThen,AQ,xY]
end
theorem one_row {w:World} {g:Nat} {o:sp.Op} {tv:Value} (hg:w.heap[g]?=some (.cells (AQ o tv) 28 (0,0))) (hr:BK w.heap.size w tv o.text.length (Lib.byteCells o.text)):Gf w (.slice (some ⟨g,0,none⟩) 1 1) [(o,tv)] :=
 ⟨⟨_,_,rfl,Nat.le_refl _,by unfold maxLen;simp,.inr ⟨by simp,g,0,rfl,lt_of_block hg,fun j u hu=>by
  rw [Nat.zero_add]
  exact Am hg j u (by simpa [Hw] using hu)⟩⟩,fun p hp=>by
  rw [List.mem_singleton.1 hp]
  exact hr⟩
set_option maxRecDepth 100000 in
set_option maxHeartbeats 4000000 in
theorem tN (w:World) (o:sp.Op) (ta tb:Value) (h1:BK w.heap.size w ta o.text.length (Lib.byteCells o.text)) (h2:BK w.heap.size w tb o.text.length (Lib.byteCells o.text)):Calls Tryz.prog 11 #[.agg (AQ o ta),.agg (AQ o tb)] w fun e w'=>e=.returned (.bool true)∧Below w.heap.size w w':=by
 have H1:=Lib.hid h1;have H2:=Lib.hid h2
 clear h1 h2
 go_enter Tryz.func11,Tryz.ntmps11
 go_wp2_with (first
  | (have hgd:=H1;clear hgd;refine Uf rfl _ rfl (AQ o ta) rfl ?_;intro w1 p1 p2;have A1:=Lib.hid p1;have B1:=Lib.hid p2;clear p1 p2)
  | (have hgd:=A1;clear hgd;refine Uf rfl _ rfl (AQ o tb) rfl ?_;intro w2 p1 p2;have A2:=Lib.hid p1;have B2:=Lib.hid (B1.out.trans (p2.mono B1.out.size));have A1':=Lib.hid ((p2.block _ (lt_of_block A1.out)).trans A1.out);clear p1 p2 A1)
  | (have hgd:=A1';clear hgd;refine wpList_load_row rfl 28 _ rfl w.heap.size rfl 28 (AQ o ta) (0,0) _ A1'.out Tryz.underlying28 rfl BU ?_;clear A1')
  | (have hgd:=A2;clear hgd;refine VD rfl _ rfl o ta rfl ?_;intro w3 p1 p2;have A3:=Lib.hid p1;have B3:=Lib.hid (B2.out.trans (p2.mono B2.out.size));have A2':=Lib.hid ((p2.block _ (lt_of_block A2.out)).trans A2.out);clear p1 p2 A2)
  | (have hgd:=A2';clear hgd;refine wpList_load_row rfl 28 _ rfl w1.heap.size rfl 28 (AQ o tb) (0,0) _ A2'.out Tryz.underlying28 rfl BU ?_;clear A2')
  | (have hgd:=A3;clear hgd;refine VD rfl _ rfl o tb rfl ?_;intro w4 p1 p2;have A4:=Lib.hid p1;have B4:=Lib.hid (B3.out.trans (p2.mono B3.out.size));have xZ:=Lib.hid ((p2.block _ (lt_of_block A3.out)).trans A3.out);clear p1 p2 A3)
  | (have hgd:=A4;clear hgd;go_at_call 15;refine (xX _ _ _ [(o,ta)] [(o,tb)] (one_row xZ.out ((H1.out.keep B4.out).mono B4.out.size)) (one_row A4.out ((H2.out.keep B4.out).mono B4.out.size)) rfl (by simp)).mono ?_;rintro e w5 ⟨rfl,hb5⟩;have B5:=Lib.hid (B4.out.trans (hb5.mono B4.out.size));clear hb5))
 go_ret
 exact ⟨rfl,B5.out⟩
end Go.Proofs.YtihlneenajlhoaaGreatDoor
