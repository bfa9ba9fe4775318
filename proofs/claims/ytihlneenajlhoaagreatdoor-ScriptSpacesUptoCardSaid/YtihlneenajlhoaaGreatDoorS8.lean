/-
 jalousie script.Line: a line of words. Condition: lengths that fit.
-/
import Derived.Test.YtihlneenajlhoaaGreatDoorS7
import Derived.Deep.RegionHeld
import Derived.Test.YtihlneenajlhoaaGreatDoorS4
import Derived.Test.YtihlneenajlhoaaGreatDoorS3
set_option linter.unusedSimpArgs false
set_option linter.unusedVariables false
namespace Go.Proofs.YtihlneenajlhoaaGreatDoor
open Go Go.RowKit
structure LW (w:World) (g:Nat) (l:List (List UInt8×Bool)) (W:World):Prop where
 res:Res w.heap.size (w.heap.size+1) (w.heap.size+2) (zeroC 0) false 0 W
 row:∃cur,W.heap[g]?=some (.cells cur 71 (0,0))∧cur.toList.take (l.length*2)=wdCells l
 far:w.heap.size+2<g
 bel:Below w.heap.size w W
theorem LW.on {w W W':World} {g:Nat} {l:List (List UInt8×Bool)} (h:LW w g l W) (hb:Below W.heap.size W W'):LW w g l W':=by
 obtain ⟨cur,h1,h2⟩:=h.row
 have:=lt_of_block h.res.op
 exact ⟨h.res.on hb,⟨cur,(hb.block _ (lt_of_block h1)).trans h1,h2⟩,h.far,h.bel.trans (hb.mono (by omega))⟩
theorem LW.cell {w W:World} {g:Nat} {l:List (List UInt8×Bool)} (h:LW w g l W) {j:Nat} {u:Value} (hj:(wdCells l)[j]?=some u):W.cell? ⟨g,j,none⟩=some u:=by
 obtain ⟨cur,h1,h2⟩:=h.row
 rw [cell_of_row W g j cur 71 (0,0) h1]
 have h3:=hj
 rw [←h2,List.getElem?_take] at h3
 split at h3
 ·simpa using h3
 ·cases h3
theorem lw_start {w w2:World} {o:Obj} {v:Value} {l:List (List UInt8×Bool)} (hf:Fr ((startL w).alloc o) w2 (startL w).heap.size none) (hown:w2.ownsRow ((startL w).alloc o).heap.size 71 2 v l.length (wdCells l)) (h0:l≠[]) :
  ∃g cap,v=.slice (some ⟨g,0,none⟩) l.length cap∧l.length≤cap∧cap≤maxLen∧LW w g l w2:=by
 have hA:=after_words hf
 obtain ⟨_,_,hsz⟩:=start_res w
 rcases hown.2 with ⟨_,hz⟩ | ⟨g,cap,cur,hv,hbg,hg,hnc,hcm,hcs,htake⟩
 ·exact absurd (List.length_eq_zero_iff.1 hz) h0
 ·refine ⟨g,cap,hv,hnc,hcm,hA.1,⟨cur,hg,htake⟩,?_,hA.2⟩
  simp at hbg
  omega
def CutQ (N:Act→World→Prop) (PS:List PanicEntry→Act→World→Prop):Exit→Act→World→Prop
 | .normal,a,w=>N a w
 | .panic c,a,w=>PS c a w
 | _,_,_=>False
theorem wp_cut {P:Program} {c:Code} {Q:Exit→Act→World→Prop} {a:Act} {w:World} (N:Act→World→Prop) (PS:List PanicEntry→Act→World→Prop) (hp:∀c a W,PS c a W→Q (.panic c) a W) (h:c.wp P (CutQ N PS) a w) (hn:∀a W,N a W→Q .normal a W):c.wp P Q a w :=
 wp_mono h fun e a W hX=>by
  cases e with
  | panic c=>exact hp c a W hX
  | normal=>exact hn a W hX
  | ret=>exact (hX:False).elim
  | exit _=>exact (hX:False).elim
  | goto _=>exact (hX:False).elim
  | outgrown=>exact (hX:False).elim
theorem LW.pan {w W:World} {g:Nat} {l:List (List UInt8×Bool)} {a:Act} (h:LW w g l W) (hd:a.defers=defL w.heap.size) (hs:SlotsL w.heap.size a.tmps):PanSt w.heap.size w bar a W:=⟨rfl,hd,hs,⟨_,_,_,rfl,h.res⟩,h.bel⟩
def zr:Array Value:=#[.int .i64 0,.int .i64 0,.nilFunc]
def actL (n g cap m lz:Nat) (s:List UInt8) (p:List UInt8×Bool) (rv:Value) (okb:Bool) (R M:Nat):Act :=
 ⟨#[.string (bstr s),undef,.pointer (some ⟨n,0,none⟩),.pointer (some ⟨n+1,0,none⟩),.pointer (some ⟨n+1+1,0,none⟩),.slice (some ⟨g,0,none⟩) m cap,.pointer (some ⟨R,0,none⟩),.bool okb,
  .func (.func 22) #[] #[.pointer (some ⟨n,0,none⟩),.pointer (some ⟨n+1,0,none⟩),.pointer (some ⟨n+1+1,0,none⟩)],.string (bstr s),.bool false,.bool true,.tuple #[],.string (bstr s),.bool false,undef,.string (bstr s),.agg #[.string (bstr s),.int .i64 0],
  .pointer (some ⟨lz,0,none⟩),.slice (some ⟨g,0,none⟩) m cap,.tuple #[rv,.bool okb],.map (some M),.slice (some ⟨g,0,none⟩) m cap,.pointer (some ⟨g,0,none⟩),.agg #[.string (bstr p.1),.bool p.2],.string (bstr p.1),.tuple #[rv,.bool okb],rv,.bool okb,
  undef,undef,undef,undef,undef,undef,undef,undef,undef,undef,undef,undef,undef,undef,undef,undef,undef,undef,undef],defL n⟩
theorem row_range {name:List UInt8} {r:Rw} (hr:(name,r)∈rowsL):0≤r.n∧r.n≤5:=by
 have:∀p∈rowsL,0≤p.2.n∧p.2.n≤5:=by decide
 exact this _ hr
theorem LW.put {w W:World} {g R:Nat} {l:List (List UInt8×Bool)} (h:LW w g l W) (hR:W.heap[R]?=some (.cells zr 65 (0,0))) (hn:w.heap.size+2<R) (a b c:Value):LW w g l (((W.setCell ⟨R,0,none⟩ a).setCell ⟨R,1,none⟩ b).setCell ⟨R,2,none⟩ c)∧(((W.setCell ⟨R,0,none⟩ a).setCell ⟨R,1,none⟩ b).setCell ⟨R,2,none⟩ c).heap[R]?=some (.cells #[a,b,c] 65 (0,0)):=by
 obtain ⟨cur,h1,h2⟩:=h.row
 have hgR:R≠g:=fun e=>by rw [e,h1] at hR;cases hR
 refine ⟨⟨⟨?_,?_,?_⟩,⟨cur,?_,h2⟩,h.far,?_⟩,?_⟩
 ·rw [heap_other (by omega),heap_other (by omega),heap_other (by omega)];exact h.res.op
 ·rw [heap_other (by omega),heap_other (by omega),heap_other (by omega)];exact h.res.says
 ·rw [heap_other (by omega),heap_other (by omega),heap_other (by omega)];exact h.res.err
 ·rw [heap_other hgR,heap_other hgR,heap_other hgR];exact h1
 ·exact ((h.bel.setCell (show w.heap.size≤R by omega) _).setCell (show w.heap.size≤R by omega) _).setCell (show w.heap.size≤R by omega) _
 ·have:=blk_set (blk_set (blk_set hR 0 a) 1 b) 2 c
  simpa [zr] using this
set_option maxRecDepth 100000 in
set_option maxHeartbeats 8000000 in
theorem line_quoted (s:List UInt8) (w:World) (h:10∉s) (h2:sp.silentB s=false) (p:List UInt8×Bool) (l:List (List UInt8×Bool)) (hp:p.2=true) (hw:sp.words s=some (p :: l)) (hn:s.length≤1099511627776):Calls Tryz.prog 9 #[.string (bstr s)] w fun e w'=>LineIs w.heap.size s w' e∧Below w.heap.size w w':=by
 have HPAN:=Lib.hid (fun W=>lineIs_none (B:=w.heap.size) (s:=s) (by rw [line_words h h2,hw];obtain ⟨a,b⟩:=p;simp only at hp;subst hp;rfl) W)
 have HPX:Hid (sp.wPlain p=none):=Lib.hid (by unfold sp.wPlain;rw [if_pos hp])
 clear hp
 have hmf:∀(fn:Fn) (first cap:Array Value) (w:World),(Instr.makeFunc fn first cap).run Tryz.prog w=.ok (.func fn first cap) w:=fun _ _ _ _=>rfl
 obtain ⟨hr,hb,hsz⟩:=start_res w
 have HC:=Lib.hid (fun W=>contains_nl s W)
 rw [show decide (10∈s)=false by simpa using h] at HC
 have HS:=Lib.hid (fun W=>silent_any s W)
 rw [h2] at HS
 have HL:=Lib.hid (lineR_new (startL w) s)
 have HP:=Lib.hid (fun W=>wplain_any p W)
 have HW:=Lib.hid hw;have HN:=Lib.hid hn;have HSZ:=Lib.hid hsz
 clear hr hb h h2 hw hn hsz
 go_enter_defers Tryz.func9,Tryz.ntmps9
 go_wp2_with (first
  | (go_at_call 24;refine (HC.out _).mono ?_;rintro e w1 ⟨rfl,rfl⟩)
  | (go_at_call 23;refine (must_yes _).mono ?_;rintro e w1 ⟨rfl,rfl⟩)
  | (go_at_call 25;refine (HS.out _).mono ?_;rintro e w1 ⟨rfl,rfl⟩;rw [start_eq])
  | (go_at_call 26;refine (words_any _ (startL w).heap.size (bstr s) s HL.out (by rw [bstr_size];exact HN.out)).mono ?_;rintro e w2 ⟨he,hf⟩;unfold WordsIs at he;rw [HW.out] at he;obtain ⟨v,rfl,hown⟩:=he;obtain ⟨g,cap,rfl,hc1,hc2,hlw⟩:=lw_start hf hown (by simp);have H0:=Lib.hid hlw;have HC1:=Lib.hid hc1;have HC2:=Lib.hid hc2;clear hf hown hlw hc1 hc2))
 refine wp_cut (fun _ _=>False) (PanSt w.heap.size w) ?_ ?_ ?_
 ·rintro c a W h
  obtain ⟨cs,sy,er,q1,q2⟩:=h.res
  rw [h.bar]
  show Leaves Tryz.prog Tryz.f9 a.tmps _ a.defers (.panicking bar) W
  rw [h.defers]
  exact leave_bar q2 q1 h.slots fun W' hW=>⟨HPAN.out _,h.bel.trans hW⟩
 ·have H0:=Lib.hid (H0.out.on (Below.refl _ _).drew)
  refine wp_region_held_drew (S:=fun W=>LW w g (p :: l) W) (by kernel_rfl) H0.out (fun hHeld => ?_)
  refine tk 1 (.slice (some ⟨g,0,none⟩) (l.length+1) cap) rfl hHeld (fun s hs=>by go_simp) ?_ (hQ:=fun _ _ _ h=>h.unput (by decide))
  refine tk 2 (.pointer (some ⟨g,0,none⟩)) rfl hHeld (fun s hs=>by go_simp<;>omega) ?_ (hQ:=fun _ _ _ h=>h.unput (by decide))
  refine tk 3 (.agg #[.string (bstr p.1),.bool p.2]) rfl hHeld (fun s hs=>by have e0:s.cell? ⟨g,0,none⟩=some (.string (bstr p.1)):=LW.cell hs rfl;have e1:s.cell? ⟨g,1,none⟩=some (.bool p.2):=LW.cell hs rfl;go_simp) ?_ (hQ:=fun _ _ _ h=>h.unput (by decide))
  generalize w2.drew=u0 at *
  refine wpAnyH_ready (rs:=[0,9]) (by kernel_rfl) (by simp) ?_
  refine AllReadyH.cons rfl (fun K hK => ?_) (AllReadyH.cons rfl (fun K hK => ?_) AllReadyH.nil)
  ·rw [if_pos (by kernel_rfl)]
   go_simp
   refine (rows_any _).mono ?_
   rintro e u1 ⟨rfl,hm,hb⟩
   obtain ⟨M,hM⟩:∃M,M=u0.heap.size:=⟨_,rfl⟩
   rw [←hM] at hm ⊢
   have H1:=Lib.hid (H0.out.on hb)
   have HM1:=Lib.hid hm
   clear hm hb hM
   refine hK.out _ _ H1.out (fun hHeld => ?_)
   clear hK
   refine wpAnyH_ready (rs:=[4,9]) (by kernel_rfl) (by simp) ?_
   refine AllReadyH.cons rfl (fun K hK => ?_) (AllReadyH.cons rfl (fun K hK => ?_) AllReadyH.nil)
   ·rw [if_pos (by kernel_rfl)]
    go_simp
    refine (HP.out _).mono ?_
    rintro e u2 ⟨he,hb⟩
    unfold PlainIs at he
    rw [HPX.out] at he
    subst he
    have H2:=Lib.hid (H1.out.on hb)
    exact H2.out.pan rfl ⟨rfl,rfl,rfl⟩
   ·rw [if_pos (by kernel_rfl)]
    go_simp
    have H2:=Lib.hid (H1.out.on (below_new _ (.cells zr 65)))
    obtain ⟨R,hR⟩:∃R,R=u1.heap.size:=⟨_,rfl⟩
    have HR2:=Lib.hid (heap_alloc_at u1 (.cells zr 65))
    have HRN:=Lib.hid (show w.heap.size+2<R by have:=lt_of_block H1.out.row.choose_spec.1;have:=H1.out.far;omega)
    have HM2:=Lib.hid (HM1.out.below (below_new _ (.cells zr 65)) HM1.out.lt)
    rw [←hR] at HR2 ⊢
    clear hR
    change K _ (u1.alloc (.cells zr 65))
    generalize u1.alloc (.cells zr 65)=u2 at H2 HR2 HM2 ⊢
    refine hK.out _ _ H2.out (fun hHeld => ?_)
    clear hK
    refine rd1 4 rfl fun K hK => ?_
    go_simp
    refine (HP.out _).mono ?_
    rintro e u3 ⟨he,hb⟩
    unfold PlainIs at he
    rw [HPX.out] at he
    subst he
    have H3:=Lib.hid (H2.out.on hb)
    exact H3.out.pan rfl ⟨rfl,rfl,rfl⟩
  ·rw [if_pos (by kernel_rfl)]
   go_simp
   have H1:=Lib.hid (H0.out.on (below_new _ (.cells zr 65)))
   obtain ⟨R,hR⟩:∃R,R=u0.heap.size:=⟨_,rfl⟩
   have HR1:=Lib.hid (heap_alloc_at u0 (.cells zr 65))
   have HRN:=Lib.hid (show w.heap.size+2<R by have:=lt_of_block H0.out.row.choose_spec.1;have:=H0.out.far;omega)
   rw [←hR] at HR1 ⊢
   clear hR
   change K _ (u0.alloc (.cells zr 65))
   generalize u0.alloc (.cells zr 65)=u1 at H1 HR1 ⊢
   refine hK.out _ _ H1.out (fun hHeld => ?_)
   clear hK
   refine rd1 0 rfl fun K hK => ?_
   go_simp
   refine (rows_any _).mono ?_
   rintro e u2 ⟨rfl,hm,hb⟩
   obtain ⟨M,hM⟩:∃M,M=u1.heap.size:=⟨_,rfl⟩
   rw [←hM] at hm ⊢
   have H2:=Lib.hid (H1.out.on hb)
   have HM2:=Lib.hid hm
   have HR2:=Lib.hid ((hb.block _ (lt_of_block HR1.out)).trans HR1.out)
   clear hm hb hM
   refine hK.out _ _ H2.out (fun hHeld => ?_)
   clear hK
   refine rd1 4 rfl fun K hK => ?_
   go_simp
   refine (HP.out _).mono ?_
   rintro e u3 ⟨he,hb⟩
   unfold PlainIs at he
   rw [HPX.out] at he
   subst he
   have H3:=Lib.hid (H2.out.on hb)
   exact H3.out.pan rfl ⟨rfl,rfl,rfl⟩
 ·intro a W h
  exact h.elim
theorem elem58:Tryz.prog.elem 58=71:=by kernel_rfl
theorem sizeOf71 (W:World):(sizeOf 71).run Tryz.prog W=.ok 2 W:=by kernel_rfl
theorem slice_rest (W:World) (g m cap:Nat) (h1:m+1≤cap) (h2:cap≤maxLen):(Instr.sliceAt 58 (.slice (some ⟨g,0,none⟩) (m+1) cap) (some (.int .i64 1)) none none).run Tryz.prog W=.ok (.slice (some (if cap=1 then ⟨g,0,none⟩ else ⟨g,2,none⟩)) m (cap-1)) W:=by
 have hu:Tryz.prog.underlying 58=some (.slice (Tryz.prog.elem 58)):=by rw [elem58];exact Tryz.underlying58
 rw [run_sliceAt_slice W 58 _ _ _ _ hu,run_slice_l W 58 (some ⟨g,0,none⟩) (m+1) cap hu .i64 1 (by omega) (by omega),elem58,sizeOf71]
 simp only [Result.andThen,sliced]
 by_cases hc:cap=1
 ·subst hc
  simp
 ·simp [hc,Addr.add]
set_option maxRecDepth 100000 in
theorem row_enters {name:List UInt8} {r:Rw} (hr:(name,r)∈rowsL) (args:Array Value) (W:World):(callFunc r.g args).run Tryz.prog W=.ok (.enter r.g args) W:=by
 simp only [rowsL,List.mem_cons,List.not_mem_nil,or_false,Prod.mk.injEq] at hr
 rcases hr with ⟨_,rfl⟩ | ⟨_,rfl⟩ | ⟨_,rfl⟩ | ⟨_,rfl⟩ | ⟨_,rfl⟩ | ⟨_,rfl⟩ | ⟨_,rfl⟩ | ⟨_,rfl⟩ | ⟨_,rfl⟩ | ⟨_,rfl⟩ | ⟨_,rfl⟩ | ⟨_,rfl⟩ | ⟨_,rfl⟩ | ⟨_,rfl⟩ | ⟨_,rfl⟩
 all_goals first | exact enters_of Tryz.func49 (by kernel_rfl) rfl args W | exact enters_of Tryz.func51 (by kernel_rfl) rfl args W | exact enters_of Tryz.func52 (by kernel_rfl) rfl args W | exact enters_of Tryz.func54 (by kernel_rfl) rfl args W | exact enters_of Tryz.func56 (by kernel_rfl) rfl args W | exact enters_of Tryz.func57 (by kernel_rfl) rfl args W | exact enters_of Tryz.func58 (by kernel_rfl) rfl args W | exact enters_of Tryz.func59 (by kernel_rfl) rfl args W | exact enters_of Tryz.func60 (by kernel_rfl) rfl args W | exact enters_of Tryz.func61 (by kernel_rfl) rfl args W | exact enters_of Tryz.func62 (by kernel_rfl) rfl args W
set_option maxRecDepth 100000 in
set_option maxHeartbeats 8000000 in
theorem line_unknown (s:List UInt8) (w:World) (h:10∉s) (h2:sp.silentB s=false) (p:List UInt8×Bool) (l:List (List UInt8×Bool)) (hp:p.2=false) (hq:p.1∉rowsL.map (·.1)) (hw:sp.words s=some (p :: l)) (hn:s.length≤1099511627776):Calls Tryz.prog 9 #[.string (bstr s)] w fun e w'=>LineIs w.heap.size s w' e∧Below w.heap.size w w':=by
 have HPAN:=Lib.hid (fun W=>lineIs_none (B:=w.heap.size) (s:=s) (by rw [line_words h h2,hw];obtain ⟨a,b⟩:=p;simp only at hp;subst hp;show (sp.opS a l).map some=none;rw [op_unknown hq];rfl) W)
 have HPX:Hid (sp.wPlain p=some p.1):=Lib.hid (by unfold sp.wPlain;rw [if_neg (by rw [hp];decide)])
 have hpl:p.1.length≤maxLen:=by
  have:=(words_len _ s (Nat.le_refl _) _ hw).1 p List.mem_cons_self
  unfold maxLen
  omega
 obtain ⟨K0,e0⟩:∃v:Int,v=0:=⟨_,rfl⟩
 obtain ⟨N0,e1⟩:∃v:Int,v=0:=⟨_,rfl⟩
 obtain ⟨okb,e3⟩:∃v,v=false:=⟨_,rfl⟩
 have HLK:Hid (∀W M,MapIs W M rowsL→(Instr.lookup 67 (.map (some M)) (.string (bstr p.1)) true).run Tryz.prog W=.ok (.tuple #[.agg #[.int .i64 K0,.int .i64 N0,.nilFunc],.bool okb]) W):=Lib.hid (fun W M hm=>by rw [e0,e1,e3];exact hm.lookOk_none hpl hq)
 have E3:=Lib.hid e3
 clear hp hq hpl e0 e1 e3
 have hmf:∀(fn:Fn) (first cap:Array Value) (w:World),(Instr.makeFunc fn first cap).run Tryz.prog w=.ok (.func fn first cap) w:=fun _ _ _ _=>rfl
 obtain ⟨hr,hb,hsz⟩:=start_res w
 have HC:=Lib.hid (fun W=>contains_nl s W)
 rw [show decide (10∈s)=false by simpa using h] at HC
 have HS:=Lib.hid (fun W=>silent_any s W)
 rw [h2] at HS
 have HL:=Lib.hid (lineR_new (startL w) s)
 have HP:=Lib.hid (fun W=>wplain_any p W)
 have HW:=Lib.hid hw;have HN:=Lib.hid hn;have HSZ:=Lib.hid hsz
 clear hr hb h h2 hw hn hsz
 go_enter_defers Tryz.func9,Tryz.ntmps9
 go_wp2_with (first
  | (go_at_call 24;refine (HC.out _).mono ?_;rintro e w1 ⟨rfl,rfl⟩)
  | (go_at_call 23;refine (must_yes _).mono ?_;rintro e w1 ⟨rfl,rfl⟩)
  | (go_at_call 25;refine (HS.out _).mono ?_;rintro e w1 ⟨rfl,rfl⟩;rw [start_eq])
  | (go_at_call 26;refine (words_any _ (startL w).heap.size (bstr s) s HL.out (by rw [bstr_size];exact HN.out)).mono ?_;rintro e w2 ⟨he,hf⟩;unfold WordsIs at he;rw [HW.out] at he;obtain ⟨v,rfl,hown⟩:=he;obtain ⟨g,cap,rfl,hc1,hc2,hlw⟩:=lw_start hf hown (by simp);have H0:=Lib.hid hlw;have HC1:=Lib.hid hc1;have HC2:=Lib.hid hc2;clear hf hown hlw hc1 hc2))
 refine wp_cut (fun a W=>∃R M,a=actL w.heap.size g cap (l.length+1) (startL w).heap.size s p (.agg #[(.int .i64 K0),(.int .i64 N0),(.nilFunc)]) okb R M∧W.heap[R]?=some (.cells #[(.int .i64 K0),(.int .i64 N0),(.nilFunc)] 65 (0,0))∧LW w g (p :: l) W∧w.heap.size+2<R) (PanSt w.heap.size w) ?_ ?_ ?_
 ·rintro c a W h
  obtain ⟨cs,sy,er,q1,q2⟩:=h.res
  rw [h.bar]
  show Leaves Tryz.prog Tryz.f9 a.tmps _ a.defers (.panicking bar) W
  rw [h.defers]
  exact leave_bar q2 q1 h.slots fun W' hW=>⟨HPAN.out _,h.bel.trans hW⟩
 ·have H0:=Lib.hid (H0.out.on (Below.refl _ _).drew)
  refine wp_region_held_drew (S:=fun W=>LW w g (p :: l) W) (by kernel_rfl) H0.out (fun hHeld => ?_)
  refine tk 1 (.slice (some ⟨g,0,none⟩) (l.length+1) cap) rfl hHeld (fun s hs=>by go_simp) ?_ (hQ:=fun _ _ _ h=>h.unput (by decide))
  refine tk 2 (.pointer (some ⟨g,0,none⟩)) rfl hHeld (fun s hs=>by go_simp<;>omega) ?_ (hQ:=fun _ _ _ h=>h.unput (by decide))
  refine tk 3 (.agg #[.string (bstr p.1),.bool p.2]) rfl hHeld (fun s hs=>by have e0:s.cell? ⟨g,0,none⟩=some (.string (bstr p.1)):=LW.cell hs rfl;have e1:s.cell? ⟨g,1,none⟩=some (.bool p.2):=LW.cell hs rfl;go_simp) ?_ (hQ:=fun _ _ _ h=>h.unput (by decide))
  generalize w2.drew=u0 at *
  refine wpAnyH_ready (rs:=[0,9]) (by kernel_rfl) (by simp) ?_
  refine AllReadyH.cons rfl (fun K hK => ?_) (AllReadyH.cons rfl (fun K hK => ?_) AllReadyH.nil)
  ·rw [if_pos (by kernel_rfl)]
   go_simp
   refine (rows_any _).mono ?_
   rintro e u1 ⟨rfl,hm,hb⟩
   obtain ⟨M,hM⟩:∃M,M=u0.heap.size:=⟨_,rfl⟩
   rw [←hM] at hm ⊢
   have H1:=Lib.hid (H0.out.on hb)
   have HM1:=Lib.hid hm
   clear hm hb hM
   refine hK.out _ _ H1.out (fun hHeld => ?_)
   clear hK
   refine wpAnyH_ready (rs:=[4,9]) (by kernel_rfl) (by simp) ?_
   refine AllReadyH.cons rfl (fun K hK => ?_) (AllReadyH.cons rfl (fun K hK => ?_) AllReadyH.nil)
   ·rw [if_pos (by kernel_rfl)]
    go_simp
    refine (HP.out _).mono ?_
    rintro e u2 ⟨he,hb⟩
    unfold PlainIs at he
    rw [HPX.out] at he
    subst he
    have H2:=Lib.hid (H1.out.on hb)
    have HM2:=Lib.hid (HM1.out.below hb HM1.out.lt)
    clear hb
    refine hK.out _ _ H2.out (fun hHeld => ?_)
    clear hK
    refine wpAnyH_ready (rs:=[5,9]) (by kernel_rfl) (by simp) ?_
    refine AllReadyH.cons rfl (fun K hK => ?_) (AllReadyH.cons rfl (fun K hK => ?_) AllReadyH.nil)
    ·rw [if_pos (by kernel_rfl)]
     have hlk:=HLK.out _ _ HM2.out
     go_simp
     clear hlk
     refine hK.out _ _ H2.out (fun hHeld => ?_)
     clear hK
     refine tk 6 (.tuple #[.agg #[(.int .i64 K0),(.int .i64 N0),(.nilFunc)],.bool okb]) rfl hHeld (fun s hs=>by go_simp) ?_ (hQ:=fun _ _ _ h=>h.unput (by decide))
     refine tk 7 (.agg #[(.int .i64 K0),(.int .i64 N0),(.nilFunc)]) rfl hHeld (fun s hs=>by go_simp) ?_ (hQ:=fun _ _ _ h=>h.unput (by decide))
     refine tk 8 (.bool okb) rfl hHeld (fun s hs=>by go_simp) ?_ (hQ:=fun _ _ _ h=>h.unput (by decide))
     refine rd1 9 rfl fun K hK => ?_
     go_simp
     have H3:=Lib.hid (H2.out.on (below_new _ (.cells zr 65)))
     obtain ⟨R,hR⟩:∃R,R=u2.heap.size:=⟨_,rfl⟩
     have HR3:=Lib.hid (heap_alloc_at u2 (.cells zr 65))
     have HRN:=Lib.hid (show w.heap.size+2<R by have:=lt_of_block H2.out.row.choose_spec.1;have:=H2.out.far;omega)
     have HM3:=Lib.hid (HM2.out.below (below_new _ (.cells zr 65)) HM2.out.lt)
     rw [←hR] at HR3 ⊢
     clear hR
     change K _ (u2.alloc (.cells zr 65))
     generalize u2.alloc (.cells zr 65)=u3 at H3 HR3 HM3 ⊢
     refine hK.out _ _ H3.out (fun hHeld => ?_)
     clear hK
     refine rd1 10 rfl fun K hK => ?_
     have r0:u3.cell? ⟨R,0,none⟩=some (.int .i64 0):=by rw [Lib.cell_of_heap HR3.out];rfl
     have r1:u3.cell? ⟨R,1,none⟩=some (.int .i64 0):=by rw [Lib.cell_of_heap HR3.out];rfl
     have r2:u3.cell? ⟨R,2,none⟩=some .nilFunc:=by rw [Lib.cell_of_heap HR3.out];rfl
     have f0:=blk_free HR3.out 0
     have f1:=blk_free HR3.out 1
     have f2:=blk_free HR3.out 2
     go_simp
     have HX:=H3.out.put HR3.out HRN.out (.int .i64 K0) (.int .i64 N0) (.nilFunc)
     refine hK.out _ _ HX.1 (fun hHeld => ?_)
     refine tk 11 (.bool okb) rfl hHeld (fun s hs=>by go_simp) ?_ (hQ:=fun _ _ _ h=>h.unput (by decide))
     refine wpAnyH_done (by kernel_rfl) ?_ _
     exact ⟨R,M,rfl,HX.2,HX.1,HRN.out⟩
    ·rw [if_pos (by kernel_rfl)]
     go_simp
     have H3:=Lib.hid (H2.out.on (below_new _ (.cells zr 65)))
     obtain ⟨R,hR⟩:∃R,R=u2.heap.size:=⟨_,rfl⟩
     have HR3:=Lib.hid (heap_alloc_at u2 (.cells zr 65))
     have HRN:=Lib.hid (show w.heap.size+2<R by have:=lt_of_block H2.out.row.choose_spec.1;have:=H2.out.far;omega)
     have HM3:=Lib.hid (HM2.out.below (below_new _ (.cells zr 65)) HM2.out.lt)
     rw [←hR] at HR3 ⊢
     clear hR
     change K _ (u2.alloc (.cells zr 65))
     generalize u2.alloc (.cells zr 65)=u3 at H3 HR3 HM3 ⊢
     refine hK.out _ _ H3.out (fun hHeld => ?_)
     clear hK
     refine rd1 5 rfl fun K hK => ?_
     have hlk:=HLK.out _ _ HM3.out
     go_simp
     clear hlk
     refine hK.out _ _ H3.out (fun hHeld => ?_)
     clear hK
     refine tk 6 (.tuple #[.agg #[(.int .i64 K0),(.int .i64 N0),(.nilFunc)],.bool okb]) rfl hHeld (fun s hs=>by go_simp) ?_ (hQ:=fun _ _ _ h=>h.unput (by decide))
     refine tk 7 (.agg #[(.int .i64 K0),(.int .i64 N0),(.nilFunc)]) rfl hHeld (fun s hs=>by go_simp) ?_ (hQ:=fun _ _ _ h=>h.unput (by decide))
     refine tk 8 (.bool okb) rfl hHeld (fun s hs=>by go_simp) ?_ (hQ:=fun _ _ _ h=>h.unput (by decide))
     refine rd1 10 rfl fun K hK => ?_
     have r0:u3.cell? ⟨R,0,none⟩=some (.int .i64 0):=by rw [Lib.cell_of_heap HR3.out];rfl
     have r1:u3.cell? ⟨R,1,none⟩=some (.int .i64 0):=by rw [Lib.cell_of_heap HR3.out];rfl
     have r2:u3.cell? ⟨R,2,none⟩=some .nilFunc:=by rw [Lib.cell_of_heap HR3.out];rfl
     have f0:=blk_free HR3.out 0
     have f1:=blk_free HR3.out 1
     have f2:=blk_free HR3.out 2
     go_simp
     have HX:=H3.out.put HR3.out HRN.out (.int .i64 K0) (.int .i64 N0) (.nilFunc)
     refine hK.out _ _ HX.1 (fun hHeld => ?_)
     refine tk 11 (.bool okb) rfl hHeld (fun s hs=>by go_simp) ?_ (hQ:=fun _ _ _ h=>h.unput (by decide))
     refine wpAnyH_done (by kernel_rfl) ?_ _
     exact ⟨R,M,rfl,HX.2,HX.1,HRN.out⟩
   ·rw [if_pos (by kernel_rfl)]
    go_simp
    have H2:=Lib.hid (H1.out.on (below_new _ (.cells zr 65)))
    obtain ⟨R,hR⟩:∃R,R=u1.heap.size:=⟨_,rfl⟩
    have HR2:=Lib.hid (heap_alloc_at u1 (.cells zr 65))
    have HRN:=Lib.hid (show w.heap.size+2<R by have:=lt_of_block H1.out.row.choose_spec.1;have:=H1.out.far;omega)
    have HM2:=Lib.hid (HM1.out.below (below_new _ (.cells zr 65)) HM1.out.lt)
    rw [←hR] at HR2 ⊢
    clear hR
    change K _ (u1.alloc (.cells zr 65))
    generalize u1.alloc (.cells zr 65)=u2 at H2 HR2 HM2 ⊢
    refine hK.out _ _ H2.out (fun hHeld => ?_)
    clear hK
    refine rd1 4 rfl fun K hK => ?_
    go_simp
    refine (HP.out _).mono ?_
    rintro e u3 ⟨he,hb⟩
    unfold PlainIs at he
    rw [HPX.out] at he
    subst he
    have H3:=Lib.hid (H2.out.on hb)
    have HM3:=Lib.hid (HM2.out.below hb HM2.out.lt)
    have HR3:=Lib.hid ((hb.block _ (lt_of_block HR2.out)).trans HR2.out)
    clear hb
    refine hK.out _ _ H3.out (fun hHeld => ?_)
    clear hK
    refine rd1 5 rfl fun K hK => ?_
    have hlk:=HLK.out _ _ HM3.out
    go_simp
    clear hlk
    refine hK.out _ _ H3.out (fun hHeld => ?_)
    clear hK
    refine tk 6 (.tuple #[.agg #[(.int .i64 K0),(.int .i64 N0),(.nilFunc)],.bool okb]) rfl hHeld (fun s hs=>by go_simp) ?_ (hQ:=fun _ _ _ h=>h.unput (by decide))
    refine tk 7 (.agg #[(.int .i64 K0),(.int .i64 N0),(.nilFunc)]) rfl hHeld (fun s hs=>by go_simp) ?_ (hQ:=fun _ _ _ h=>h.unput (by decide))
    refine tk 8 (.bool okb) rfl hHeld (fun s hs=>by go_simp) ?_ (hQ:=fun _ _ _ h=>h.unput (by decide))
    refine rd1 10 rfl fun K hK => ?_
    have r0:u3.cell? ⟨R,0,none⟩=some (.int .i64 0):=by rw [Lib.cell_of_heap HR3.out];rfl
    have r1:u3.cell? ⟨R,1,none⟩=some (.int .i64 0):=by rw [Lib.cell_of_heap HR3.out];rfl
    have r2:u3.cell? ⟨R,2,none⟩=some .nilFunc:=by rw [Lib.cell_of_heap HR3.out];rfl
    have f0:=blk_free HR3.out 0
    have f1:=blk_free HR3.out 1
    have f2:=blk_free HR3.out 2
    go_simp
    have HX:=H3.out.put HR3.out HRN.out (.int .i64 K0) (.int .i64 N0) (.nilFunc)
    refine hK.out _ _ HX.1 (fun hHeld => ?_)
    refine tk 11 (.bool okb) rfl hHeld (fun s hs=>by go_simp) ?_ (hQ:=fun _ _ _ h=>h.unput (by decide))
    refine wpAnyH_done (by kernel_rfl) ?_ _
    exact ⟨R,M,rfl,HX.2,HX.1,HRN.out⟩
  ·rw [if_pos (by kernel_rfl)]
   go_simp
   have H1:=Lib.hid (H0.out.on (below_new _ (.cells zr 65)))
   obtain ⟨R,hR⟩:∃R,R=u0.heap.size:=⟨_,rfl⟩
   have HR1:=Lib.hid (heap_alloc_at u0 (.cells zr 65))
   have HRN:=Lib.hid (show w.heap.size+2<R by have:=lt_of_block H0.out.row.choose_spec.1;have:=H0.out.far;omega)
   rw [←hR] at HR1 ⊢
   clear hR
   change K _ (u0.alloc (.cells zr 65))
   generalize u0.alloc (.cells zr 65)=u1 at H1 HR1 ⊢
   refine hK.out _ _ H1.out (fun hHeld => ?_)
   clear hK
   refine rd1 0 rfl fun K hK => ?_
   go_simp
   refine (rows_any _).mono ?_
   rintro e u2 ⟨rfl,hm,hb⟩
   obtain ⟨M,hM⟩:∃M,M=u1.heap.size:=⟨_,rfl⟩
   rw [←hM] at hm ⊢
   have H2:=Lib.hid (H1.out.on hb)
   have HM2:=Lib.hid hm
   have HR2:=Lib.hid ((hb.block _ (lt_of_block HR1.out)).trans HR1.out)
   clear hm hb hM
   refine hK.out _ _ H2.out (fun hHeld => ?_)
   clear hK
   refine rd1 4 rfl fun K hK => ?_
   go_simp
   refine (HP.out _).mono ?_
   rintro e u3 ⟨he,hb⟩
   unfold PlainIs at he
   rw [HPX.out] at he
   subst he
   have H3:=Lib.hid (H2.out.on hb)
   have HM3:=Lib.hid (HM2.out.below hb HM2.out.lt)
   have HR3:=Lib.hid ((hb.block _ (lt_of_block HR2.out)).trans HR2.out)
   clear hb
   refine hK.out _ _ H3.out (fun hHeld => ?_)
   clear hK
   refine rd1 5 rfl fun K hK => ?_
   have hlk:=HLK.out _ _ HM3.out
   go_simp
   clear hlk
   refine hK.out _ _ H3.out (fun hHeld => ?_)
   clear hK
   refine tk 6 (.tuple #[.agg #[(.int .i64 K0),(.int .i64 N0),(.nilFunc)],.bool okb]) rfl hHeld (fun s hs=>by go_simp) ?_ (hQ:=fun _ _ _ h=>h.unput (by decide))
   refine tk 7 (.agg #[(.int .i64 K0),(.int .i64 N0),(.nilFunc)]) rfl hHeld (fun s hs=>by go_simp) ?_ (hQ:=fun _ _ _ h=>h.unput (by decide))
   refine tk 8 (.bool okb) rfl hHeld (fun s hs=>by go_simp) ?_ (hQ:=fun _ _ _ h=>h.unput (by decide))
   refine rd1 10 rfl fun K hK => ?_
   have r0:u3.cell? ⟨R,0,none⟩=some (.int .i64 0):=by rw [Lib.cell_of_heap HR3.out];rfl
   have r1:u3.cell? ⟨R,1,none⟩=some (.int .i64 0):=by rw [Lib.cell_of_heap HR3.out];rfl
   have r2:u3.cell? ⟨R,2,none⟩=some .nilFunc:=by rw [Lib.cell_of_heap HR3.out];rfl
   have f0:=blk_free HR3.out 0
   have f1:=blk_free HR3.out 1
   have f2:=blk_free HR3.out 2
   go_simp
   have HX:=H3.out.put HR3.out HRN.out (.int .i64 K0) (.int .i64 N0) (.nilFunc)
   refine hK.out _ _ HX.1 (fun hHeld => ?_)
   refine tk 11 (.bool okb) rfl hHeld (fun s hs=>by go_simp) ?_ (hQ:=fun _ _ _ h=>h.unput (by decide))
   refine wpAnyH_done (by kernel_rfl) ?_ _
   exact ⟨R,M,rfl,HX.2,HX.1,HRN.out⟩
 ·rintro a W ⟨R,M,rfl,hR,hlw,hRn⟩
  have HLW:=Lib.hid hlw
  unfold actL
  rw [E3.out]
  clear hR hlw hRn
  go_wp2_with (first
   | (go_at_call 23;refine (must_no _).mono ?_;rintro e w1 ⟨rfl,rfl⟩))
  exact leave_bar HLW.out.res rfl ⟨rfl,rfl,rfl⟩ fun W' hW=>⟨HPAN.out _,HLW.out.bel.trans hW⟩
set_option maxRecDepth 100000 in
set_option maxHeartbeats 8000000 in
theorem line_count (s:List UInt8) (w:World) (h:10∉s) (h2:sp.silentB s=false) (p:List UInt8×Bool) (l:List (List UInt8×Bool)) (hp:p.2=false) (r:Rw) (hq:(p.1,r)∈rowsL) (hc:(l.length:Int)≠r.n) (hw:sp.words s=some (p :: l)) (hn:s.length≤1099511627776):Calls Tryz.prog 9 #[.string (bstr s)] w fun e w'=>LineIs w.heap.size s w' e∧Below w.heap.size w w':=by
 have HPAN:=Lib.hid (fun W=>lineIs_none (B:=w.heap.size) (s:=s) (by rw [line_words h h2,hw];obtain ⟨a,b⟩:=p;simp only at hp;subst hp;show (sp.opS a l).map some=none;rw [op_count hq hc];rfl) W)
 have HPX:Hid (sp.wPlain p=some p.1):=Lib.hid (by unfold sp.wPlain;rw [if_neg (by rw [hp];decide)])
 obtain ⟨K0,e0⟩:∃v,v=r.k:=⟨_,rfl⟩
 obtain ⟨N0,e1⟩:∃v,v=r.n:=⟨_,rfl⟩
 obtain ⟨F0,e2⟩:∃v,v=r.g:=⟨_,rfl⟩
 obtain ⟨okb,e3⟩:∃v,v=true:=⟨_,rfl⟩
 have HLK:Hid (∀W M,MapIs W M rowsL→(Instr.lookup 67 (.map (some M)) (.string (bstr p.1)) true).run Tryz.prog W=.ok (.tuple #[.agg #[.int .i64 K0,.int .i64 N0,.func (.func F0) #[] #[]],.bool okb]) W):=Lib.hid (fun W M hm=>by rw [e0,e1,e2,e3];exact hm.lookOk_some hq)
 have hrn:0≤N0∧N0≤5:=by rw [e1];exact row_range hq
 have hll:(l.length:Int)≤1099511627776:=by
  have:=(words_len _ s (Nat.le_refl _) _ hw).2
  simp only [List.length_cons] at this
  omega
 have ht:((l.length:Int)+1==N0+1)=false:=by simp;omega
 have E3:=Lib.hid e3
 clear hp hq hc e0 e1 e2 e3
 have hmf:∀(fn:Fn) (first cap:Array Value) (w:World),(Instr.makeFunc fn first cap).run Tryz.prog w=.ok (.func fn first cap) w:=fun _ _ _ _=>rfl
 obtain ⟨hr,hb,hsz⟩:=start_res w
 have HC:=Lib.hid (fun W=>contains_nl s W)
 rw [show decide (10∈s)=false by simpa using h] at HC
 have HS:=Lib.hid (fun W=>silent_any s W)
 rw [h2] at HS
 have HL:=Lib.hid (lineR_new (startL w) s)
 have HP:=Lib.hid (fun W=>wplain_any p W)
 have HW:=Lib.hid hw;have HN:=Lib.hid hn;have HSZ:=Lib.hid hsz
 clear hr hb h h2 hw hn hsz
 go_enter_defers Tryz.func9,Tryz.ntmps9
 go_wp2_with (first
  | (go_at_call 24;refine (HC.out _).mono ?_;rintro e w1 ⟨rfl,rfl⟩)
  | (go_at_call 23;refine (must_yes _).mono ?_;rintro e w1 ⟨rfl,rfl⟩)
  | (go_at_call 25;refine (HS.out _).mono ?_;rintro e w1 ⟨rfl,rfl⟩;rw [start_eq])
  | (go_at_call 26;refine (words_any _ (startL w).heap.size (bstr s) s HL.out (by rw [bstr_size];exact HN.out)).mono ?_;rintro e w2 ⟨he,hf⟩;unfold WordsIs at he;rw [HW.out] at he;obtain ⟨v,rfl,hown⟩:=he;obtain ⟨g,cap,rfl,hc1,hc2,hlw⟩:=lw_start hf hown (by simp);have H0:=Lib.hid hlw;have HC1:=Lib.hid hc1;have HC2:=Lib.hid hc2;clear hf hown hlw hc1 hc2))
 refine wp_cut (fun a W=>∃R M,a=actL w.heap.size g cap (l.length+1) (startL w).heap.size s p (.agg #[(.int .i64 K0),(.int .i64 N0),(.func (.func F0) #[] #[])]) okb R M∧W.heap[R]?=some (.cells #[(.int .i64 K0),(.int .i64 N0),(.func (.func F0) #[] #[])] 65 (0,0))∧LW w g (p :: l) W∧w.heap.size+2<R) (PanSt w.heap.size w) ?_ ?_ ?_
 ·rintro c a W h
  obtain ⟨cs,sy,er,q1,q2⟩:=h.res
  rw [h.bar]
  show Leaves Tryz.prog Tryz.f9 a.tmps _ a.defers (.panicking bar) W
  rw [h.defers]
  exact leave_bar q2 q1 h.slots fun W' hW=>⟨HPAN.out _,h.bel.trans hW⟩
 ·have H0:=Lib.hid (H0.out.on (Below.refl _ _).drew)
  refine wp_region_held_drew (S:=fun W=>LW w g (p :: l) W) (by kernel_rfl) H0.out (fun hHeld => ?_)
  refine tk 1 (.slice (some ⟨g,0,none⟩) (l.length+1) cap) rfl hHeld (fun s hs=>by go_simp) ?_ (hQ:=fun _ _ _ h=>h.unput (by decide))
  refine tk 2 (.pointer (some ⟨g,0,none⟩)) rfl hHeld (fun s hs=>by go_simp<;>omega) ?_ (hQ:=fun _ _ _ h=>h.unput (by decide))
  refine tk 3 (.agg #[.string (bstr p.1),.bool p.2]) rfl hHeld (fun s hs=>by have e0:s.cell? ⟨g,0,none⟩=some (.string (bstr p.1)):=LW.cell hs rfl;have e1:s.cell? ⟨g,1,none⟩=some (.bool p.2):=LW.cell hs rfl;go_simp) ?_ (hQ:=fun _ _ _ h=>h.unput (by decide))
  generalize w2.drew=u0 at *
  refine wpAnyH_ready (rs:=[0,9]) (by kernel_rfl) (by simp) ?_
  refine AllReadyH.cons rfl (fun K hK => ?_) (AllReadyH.cons rfl (fun K hK => ?_) AllReadyH.nil)
  ·rw [if_pos (by kernel_rfl)]
   go_simp
   refine (rows_any _).mono ?_
   rintro e u1 ⟨rfl,hm,hb⟩
   obtain ⟨M,hM⟩:∃M,M=u0.heap.size:=⟨_,rfl⟩
   rw [←hM] at hm ⊢
   have H1:=Lib.hid (H0.out.on hb)
   have HM1:=Lib.hid hm
   clear hm hb hM
   refine hK.out _ _ H1.out (fun hHeld => ?_)
   clear hK
   refine wpAnyH_ready (rs:=[4,9]) (by kernel_rfl) (by simp) ?_
   refine AllReadyH.cons rfl (fun K hK => ?_) (AllReadyH.cons rfl (fun K hK => ?_) AllReadyH.nil)
   ·rw [if_pos (by kernel_rfl)]
    go_simp
    refine (HP.out _).mono ?_
    rintro e u2 ⟨he,hb⟩
    unfold PlainIs at he
    rw [HPX.out] at he
    subst he
    have H2:=Lib.hid (H1.out.on hb)
    have HM2:=Lib.hid (HM1.out.below hb HM1.out.lt)
    clear hb
    refine hK.out _ _ H2.out (fun hHeld => ?_)
    clear hK
    refine wpAnyH_ready (rs:=[5,9]) (by kernel_rfl) (by simp) ?_
    refine AllReadyH.cons rfl (fun K hK => ?_) (AllReadyH.cons rfl (fun K hK => ?_) AllReadyH.nil)
    ·rw [if_pos (by kernel_rfl)]
     have hlk:=HLK.out _ _ HM2.out
     go_simp
     clear hlk
     refine hK.out _ _ H2.out (fun hHeld => ?_)
     clear hK
     refine tk 6 (.tuple #[.agg #[(.int .i64 K0),(.int .i64 N0),(.func (.func F0) #[] #[])],.bool okb]) rfl hHeld (fun s hs=>by go_simp) ?_ (hQ:=fun _ _ _ h=>h.unput (by decide))
     refine tk 7 (.agg #[(.int .i64 K0),(.int .i64 N0),(.func (.func F0) #[] #[])]) rfl hHeld (fun s hs=>by go_simp) ?_ (hQ:=fun _ _ _ h=>h.unput (by decide))
     refine tk 8 (.bool okb) rfl hHeld (fun s hs=>by go_simp) ?_ (hQ:=fun _ _ _ h=>h.unput (by decide))
     refine rd1 9 rfl fun K hK => ?_
     go_simp
     have H3:=Lib.hid (H2.out.on (below_new _ (.cells zr 65)))
     obtain ⟨R,hR⟩:∃R,R=u2.heap.size:=⟨_,rfl⟩
     have HR3:=Lib.hid (heap_alloc_at u2 (.cells zr 65))
     have HRN:=Lib.hid (show w.heap.size+2<R by have:=lt_of_block H2.out.row.choose_spec.1;have:=H2.out.far;omega)
     have HM3:=Lib.hid (HM2.out.below (below_new _ (.cells zr 65)) HM2.out.lt)
     rw [←hR] at HR3 ⊢
     clear hR
     change K _ (u2.alloc (.cells zr 65))
     generalize u2.alloc (.cells zr 65)=u3 at H3 HR3 HM3 ⊢
     refine hK.out _ _ H3.out (fun hHeld => ?_)
     clear hK
     refine rd1 10 rfl fun K hK => ?_
     have r0:u3.cell? ⟨R,0,none⟩=some (.int .i64 0):=by rw [Lib.cell_of_heap HR3.out];rfl
     have r1:u3.cell? ⟨R,1,none⟩=some (.int .i64 0):=by rw [Lib.cell_of_heap HR3.out];rfl
     have r2:u3.cell? ⟨R,2,none⟩=some .nilFunc:=by rw [Lib.cell_of_heap HR3.out];rfl
     have f0:=blk_free HR3.out 0
     have f1:=blk_free HR3.out 1
     have f2:=blk_free HR3.out 2
     go_simp
     have HX:=H3.out.put HR3.out HRN.out (.int .i64 K0) (.int .i64 N0) (.func (.func F0) #[] #[])
     refine hK.out _ _ HX.1 (fun hHeld => ?_)
     refine tk 11 (.bool okb) rfl hHeld (fun s hs=>by go_simp) ?_ (hQ:=fun _ _ _ h=>h.unput (by decide))
     refine wpAnyH_done (by kernel_rfl) ?_ _
     exact ⟨R,M,rfl,HX.2,HX.1,HRN.out⟩
    ·rw [if_pos (by kernel_rfl)]
     go_simp
     have H3:=Lib.hid (H2.out.on (below_new _ (.cells zr 65)))
     obtain ⟨R,hR⟩:∃R,R=u2.heap.size:=⟨_,rfl⟩
     have HR3:=Lib.hid (heap_alloc_at u2 (.cells zr 65))
     have HRN:=Lib.hid (show w.heap.size+2<R by have:=lt_of_block H2.out.row.choose_spec.1;have:=H2.out.far;omega)
     have HM3:=Lib.hid (HM2.out.below (below_new _ (.cells zr 65)) HM2.out.lt)
     rw [←hR] at HR3 ⊢
     clear hR
     change K _ (u2.alloc (.cells zr 65))
     generalize u2.alloc (.cells zr 65)=u3 at H3 HR3 HM3 ⊢
     refine hK.out _ _ H3.out (fun hHeld => ?_)
     clear hK
     refine rd1 5 rfl fun K hK => ?_
     have hlk:=HLK.out _ _ HM3.out
     go_simp
     clear hlk
     refine hK.out _ _ H3.out (fun hHeld => ?_)
     clear hK
     refine tk 6 (.tuple #[.agg #[(.int .i64 K0),(.int .i64 N0),(.func (.func F0) #[] #[])],.bool okb]) rfl hHeld (fun s hs=>by go_simp) ?_ (hQ:=fun _ _ _ h=>h.unput (by decide))
     refine tk 7 (.agg #[(.int .i64 K0),(.int .i64 N0),(.func (.func F0) #[] #[])]) rfl hHeld (fun s hs=>by go_simp) ?_ (hQ:=fun _ _ _ h=>h.unput (by decide))
     refine tk 8 (.bool okb) rfl hHeld (fun s hs=>by go_simp) ?_ (hQ:=fun _ _ _ h=>h.unput (by decide))
     refine rd1 10 rfl fun K hK => ?_
     have r0:u3.cell? ⟨R,0,none⟩=some (.int .i64 0):=by rw [Lib.cell_of_heap HR3.out];rfl
     have r1:u3.cell? ⟨R,1,none⟩=some (.int .i64 0):=by rw [Lib.cell_of_heap HR3.out];rfl
     have r2:u3.cell? ⟨R,2,none⟩=some .nilFunc:=by rw [Lib.cell_of_heap HR3.out];rfl
     have f0:=blk_free HR3.out 0
     have f1:=blk_free HR3.out 1
     have f2:=blk_free HR3.out 2
     go_simp
     have HX:=H3.out.put HR3.out HRN.out (.int .i64 K0) (.int .i64 N0) (.func (.func F0) #[] #[])
     refine hK.out _ _ HX.1 (fun hHeld => ?_)
     refine tk 11 (.bool okb) rfl hHeld (fun s hs=>by go_simp) ?_ (hQ:=fun _ _ _ h=>h.unput (by decide))
     refine wpAnyH_done (by kernel_rfl) ?_ _
     exact ⟨R,M,rfl,HX.2,HX.1,HRN.out⟩
   ·rw [if_pos (by kernel_rfl)]
    go_simp
    have H2:=Lib.hid (H1.out.on (below_new _ (.cells zr 65)))
    obtain ⟨R,hR⟩:∃R,R=u1.heap.size:=⟨_,rfl⟩
    have HR2:=Lib.hid (heap_alloc_at u1 (.cells zr 65))
    have HRN:=Lib.hid (show w.heap.size+2<R by have:=lt_of_block H1.out.row.choose_spec.1;have:=H1.out.far;omega)
    have HM2:=Lib.hid (HM1.out.below (below_new _ (.cells zr 65)) HM1.out.lt)
    rw [←hR] at HR2 ⊢
    clear hR
    change K _ (u1.alloc (.cells zr 65))
    generalize u1.alloc (.cells zr 65)=u2 at H2 HR2 HM2 ⊢
    refine hK.out _ _ H2.out (fun hHeld => ?_)
    clear hK
    refine rd1 4 rfl fun K hK => ?_
    go_simp
    refine (HP.out _).mono ?_
    rintro e u3 ⟨he,hb⟩
    unfold PlainIs at he
    rw [HPX.out] at he
    subst he
    have H3:=Lib.hid (H2.out.on hb)
    have HM3:=Lib.hid (HM2.out.below hb HM2.out.lt)
    have HR3:=Lib.hid ((hb.block _ (lt_of_block HR2.out)).trans HR2.out)
    clear hb
    refine hK.out _ _ H3.out (fun hHeld => ?_)
    clear hK
    refine rd1 5 rfl fun K hK => ?_
    have hlk:=HLK.out _ _ HM3.out
    go_simp
    clear hlk
    refine hK.out _ _ H3.out (fun hHeld => ?_)
    clear hK
    refine tk 6 (.tuple #[.agg #[(.int .i64 K0),(.int .i64 N0),(.func (.func F0) #[] #[])],.bool okb]) rfl hHeld (fun s hs=>by go_simp) ?_ (hQ:=fun _ _ _ h=>h.unput (by decide))
    refine tk 7 (.agg #[(.int .i64 K0),(.int .i64 N0),(.func (.func F0) #[] #[])]) rfl hHeld (fun s hs=>by go_simp) ?_ (hQ:=fun _ _ _ h=>h.unput (by decide))
    refine tk 8 (.bool okb) rfl hHeld (fun s hs=>by go_simp) ?_ (hQ:=fun _ _ _ h=>h.unput (by decide))
    refine rd1 10 rfl fun K hK => ?_
    have r0:u3.cell? ⟨R,0,none⟩=some (.int .i64 0):=by rw [Lib.cell_of_heap HR3.out];rfl
    have r1:u3.cell? ⟨R,1,none⟩=some (.int .i64 0):=by rw [Lib.cell_of_heap HR3.out];rfl
    have r2:u3.cell? ⟨R,2,none⟩=some .nilFunc:=by rw [Lib.cell_of_heap HR3.out];rfl
    have f0:=blk_free HR3.out 0
    have f1:=blk_free HR3.out 1
    have f2:=blk_free HR3.out 2
    go_simp
    have HX:=H3.out.put HR3.out HRN.out (.int .i64 K0) (.int .i64 N0) (.func (.func F0) #[] #[])
    refine hK.out _ _ HX.1 (fun hHeld => ?_)
    refine tk 11 (.bool okb) rfl hHeld (fun s hs=>by go_simp) ?_ (hQ:=fun _ _ _ h=>h.unput (by decide))
    refine wpAnyH_done (by kernel_rfl) ?_ _
    exact ⟨R,M,rfl,HX.2,HX.1,HRN.out⟩
  ·rw [if_pos (by kernel_rfl)]
   go_simp
   have H1:=Lib.hid (H0.out.on (below_new _ (.cells zr 65)))
   obtain ⟨R,hR⟩:∃R,R=u0.heap.size:=⟨_,rfl⟩
   have HR1:=Lib.hid (heap_alloc_at u0 (.cells zr 65))
   have HRN:=Lib.hid (show w.heap.size+2<R by have:=lt_of_block H0.out.row.choose_spec.1;have:=H0.out.far;omega)
   rw [←hR] at HR1 ⊢
   clear hR
   change K _ (u0.alloc (.cells zr 65))
   generalize u0.alloc (.cells zr 65)=u1 at H1 HR1 ⊢
   refine hK.out _ _ H1.out (fun hHeld => ?_)
   clear hK
   refine rd1 0 rfl fun K hK => ?_
   go_simp
   refine (rows_any _).mono ?_
   rintro e u2 ⟨rfl,hm,hb⟩
   obtain ⟨M,hM⟩:∃M,M=u1.heap.size:=⟨_,rfl⟩
   rw [←hM] at hm ⊢
   have H2:=Lib.hid (H1.out.on hb)
   have HM2:=Lib.hid hm
   have HR2:=Lib.hid ((hb.block _ (lt_of_block HR1.out)).trans HR1.out)
   clear hm hb hM
   refine hK.out _ _ H2.out (fun hHeld => ?_)
   clear hK
   refine rd1 4 rfl fun K hK => ?_
   go_simp
   refine (HP.out _).mono ?_
   rintro e u3 ⟨he,hb⟩
   unfold PlainIs at he
   rw [HPX.out] at he
   subst he
   have H3:=Lib.hid (H2.out.on hb)
   have HM3:=Lib.hid (HM2.out.below hb HM2.out.lt)
   have HR3:=Lib.hid ((hb.block _ (lt_of_block HR2.out)).trans HR2.out)
   clear hb
   refine hK.out _ _ H3.out (fun hHeld => ?_)
   clear hK
   refine rd1 5 rfl fun K hK => ?_
   have hlk:=HLK.out _ _ HM3.out
   go_simp
   clear hlk
   refine hK.out _ _ H3.out (fun hHeld => ?_)
   clear hK
   refine tk 6 (.tuple #[.agg #[(.int .i64 K0),(.int .i64 N0),(.func (.func F0) #[] #[])],.bool okb]) rfl hHeld (fun s hs=>by go_simp) ?_ (hQ:=fun _ _ _ h=>h.unput (by decide))
   refine tk 7 (.agg #[(.int .i64 K0),(.int .i64 N0),(.func (.func F0) #[] #[])]) rfl hHeld (fun s hs=>by go_simp) ?_ (hQ:=fun _ _ _ h=>h.unput (by decide))
   refine tk 8 (.bool okb) rfl hHeld (fun s hs=>by go_simp) ?_ (hQ:=fun _ _ _ h=>h.unput (by decide))
   refine rd1 10 rfl fun K hK => ?_
   have r0:u3.cell? ⟨R,0,none⟩=some (.int .i64 0):=by rw [Lib.cell_of_heap HR3.out];rfl
   have r1:u3.cell? ⟨R,1,none⟩=some (.int .i64 0):=by rw [Lib.cell_of_heap HR3.out];rfl
   have r2:u3.cell? ⟨R,2,none⟩=some .nilFunc:=by rw [Lib.cell_of_heap HR3.out];rfl
   have f0:=blk_free HR3.out 0
   have f1:=blk_free HR3.out 1
   have f2:=blk_free HR3.out 2
   go_simp
   have HX:=H3.out.put HR3.out HRN.out (.int .i64 K0) (.int .i64 N0) (.func (.func F0) #[] #[])
   refine hK.out _ _ HX.1 (fun hHeld => ?_)
   refine tk 11 (.bool okb) rfl hHeld (fun s hs=>by go_simp) ?_ (hQ:=fun _ _ _ h=>h.unput (by decide))
   refine wpAnyH_done (by kernel_rfl) ?_ _
   exact ⟨R,M,rfl,HX.2,HX.1,HRN.out⟩
 ·rintro a W ⟨R,M,rfl,hR,hlw,hRn⟩
  have HLW:=Lib.hid hlw
  have c1:W.cell? ⟨R,1,none⟩=some (.int .i64 N0):=by rw [Lib.cell_of_heap hR];rfl
  unfold actL
  rw [E3.out]
  clear hR hlw hRn
  go_wp2_with (first
   | (go_at_call 23;refine (must_no _).mono ?_;rintro e w1 ⟨rfl,rfl⟩))
  exact leave_bar HLW.out.res rfl ⟨rfl,rfl,rfl⟩ fun W' hW=>⟨HPAN.out _,HLW.out.bel.trans hW⟩
theorem slice_cap {g m cap:Nat} (h:m+1≤cap):0<m→(some (if cap=1 then (⟨g,0,none⟩:Addr) else ⟨g,2,none⟩))=some ⟨g,2,none⟩:=fun h0=>by
 rw [if_neg (by omega)]
theorem LW.rowS {w W:World} {g:Nat} {p:List UInt8×Bool} {l:List (List UInt8×Bool)} (h:LW w g (p :: l) W) (k:Int):RowS ((W.setCell ⟨w.heap.size,0,none⟩ (.int .i64 k)).drew) w.heap.size g l (zeroC k) ((W.setCell ⟨w.heap.size,0,none⟩ (.int .i64 k)).drew):=by
 obtain ⟨cur,h1,h2⟩:=h.row
 have hne:g≠w.heap.size:=by have:=h.far;omega
 have hr:W.rangeAt g 2 (wdCells l):=fun j u hu=>by
  have e:(wdCells (p :: l))[2+j]?=some u:=by
   rw [show wdCells (p :: l)=wdCell p++wdCells l by simp [wdCells],List.getElem?_append_right (by simp [wdCell])]
   simpa [wdCell] using hu
  exact h.cell e
 refine ⟨?_,rfl,range_other hr hne _ _,by have:=lt_of_block h1;simpa using this,hne,Fr.refl _ _ _⟩
 show (W.setCell ⟨w.heap.size,0,none⟩ (.int .i64 k)).heap[w.heap.size]?=_
 have:=blk_set h.res.op 0 (.int .i64 k)
 simpa [zeroC,opCells] using this
theorem word_cells {o:sp.Op} {tv:Value} {B n:Nat} {W:World} {cs:List Value} (h:RowAt B W tv n cs):(opCells o tv).all (·.oneCell')=true:=by
 obtain ⟨a,cap,rfl⟩:=h.slice
 simp [opCells,Value.oneCell']
theorem rowAt_other {W:World} {B b n:Nat} {v x:Value} {cs:List Value} (h:RowAt B W v n cs) (hne:∀g,v.ownBlock=some g→g≠b) (o:Nat):RowAt B (W.setCell ⟨b,o,none⟩ x) v n cs:=by
 obtain ⟨a,cap,h1,h2,h3,h4⟩:=h
 refine ⟨a,cap,h1,h2,h3,h4.imp id fun ⟨x1,g,off,y1,y2,y3⟩=>⟨x1,g,off,y1,y2,range_other y3 (hne g (by rw [h1,y1];rfl)) _ _⟩⟩
theorem rowAt_row {W:World} {B b n:Nat} {v:Value} {cs:List Value} (h:RowAt B W v n cs) (hne:∀g,v.ownBlock=some g→g≠b) (xs:Array Value):RowAt B (W.setRow b xs) v n cs:=by
 obtain ⟨a,cap,h1,h2,h3,h4⟩:=h
 refine ⟨a,cap,h1,h2,h3,h4.imp id fun ⟨x1,g,off,y1,y2,y3⟩=>⟨x1,g,off,y1,y2,fun j u hu => ?_⟩⟩
 have hg:=hne g (by rw [h1,y1];rfl)
 have e:=y3 j u hu
 have e2:(W.setRow b xs).heap[g]?=W.heap[g]?:=setRow_far xs (Ne.symm hg)
 rw [←e]
 unfold World.cell?
 simp only [e2]
set_option maxRecDepth 100000 in
set_option maxHeartbeats 16000000 in
theorem line_known (s:List UInt8) (w:World) (h:10∉s) (h2:sp.silentB s=false) (p:List UInt8×Bool) (l:List (List UInt8×Bool)) (hp:p.2=false) (r:Rw) (hq:(p.1,r)∈rowsL) (hc:(l.length:Int)=r.n) (hw:sp.words s=some (p :: l)) (hn:s.length≤1099511627776):Calls Tryz.prog 9 #[.string (bstr s)] w fun e w'=>LineIs w.heap.size s w' e∧Below w.heap.size w w':=by
 have HLS:Hid (sp.lineS s=(sp.opS p.1 l).map some):=Lib.hid (by rw [line_words h h2,hw];obtain ⟨a,b⟩:=p;simp only at hp;subst hp;rfl)
 have HPX:Hid (sp.wPlain p=some p.1):=Lib.hid (by unfold sp.wPlain;rw [if_neg (by rw [hp];decide)])
 obtain ⟨K0,e0⟩:∃v,v=r.k:=⟨_,rfl⟩
 obtain ⟨N0,e1⟩:∃v,v=r.n:=⟨_,rfl⟩
 obtain ⟨F0,e2⟩:∃v,v=r.g:=⟨_,rfl⟩
 obtain ⟨okb,e3⟩:∃v,v=true:=⟨_,rfl⟩
 have HLK:Hid (∀W M,MapIs W M rowsL→(Instr.lookup 67 (.map (some M)) (.string (bstr p.1)) true).run Tryz.prog W=.ok (.tuple #[.agg #[.int .i64 K0,.int .i64 N0,.func (.func F0) #[] #[]],.bool okb]) W):=Lib.hid (fun W M hm=>by rw [e0,e1,e2,e3];exact hm.lookOk_some hq)
 have hrn:0≤N0∧N0≤5:=by rw [e1];exact row_range hq
 have hll:(l.length:Int)≤5:=by rw [hc,←e1];omega
 have ht:((l.length:Int)+1==N0+1)=true:=by simp;omega
 have HENT:Hid (∀args W,(callFunc F0 args).run Tryz.prog W=.ok (.enter F0 args) W):=Lib.hid (fun args W=>by rw [e2];exact row_enters hq args W)
 have HROW:Hid (∀(ad:Option Addr) (c:Nat) (w0 W:World) (g:Nat),(0<l.length→ad=some ⟨g,2,none⟩)→RowS w0 w.heap.size g l (zeroC K0) W→Calls Tryz.prog F0 #[.pointer (some ⟨w.heap.size,0,none⟩),.slice ad l.length c] W fun e w'=>RowIs w0 w.heap.size (sp.opS p.1 l) e w'):=Lib.hid (fun ad c w0 W g had hrs=>by
  rw [e2]
  rw [e0] at hrs
  refine row_any p.1 r hq l hc ad c w0 W _ g had (fun q hq' => ?_) hrs
  have:=(words_len _ s (Nat.le_refl _) _ hw).1 q (List.mem_cons_of_mem _ hq')
  omega)
 have E3:=Lib.hid e3
 clear hp hq hc e0 e1 e2 e3
 have hmf:∀(fn:Fn) (first cap:Array Value) (w:World),(Instr.makeFunc fn first cap).run Tryz.prog w=.ok (.func fn first cap) w:=fun _ _ _ _=>rfl
 obtain ⟨hr,hb,hsz⟩:=start_res w
 have HC:=Lib.hid (fun W=>contains_nl s W)
 rw [show decide (10∈s)=false by simpa using h] at HC
 have HS:=Lib.hid (fun W=>silent_any s W)
 rw [h2] at HS
 have HL:=Lib.hid (lineR_new (startL w) s)
 have HP:=Lib.hid (fun W=>wplain_any p W)
 have HW:=Lib.hid hw;have HN:=Lib.hid hn;have HSZ:=Lib.hid hsz
 clear hr hb h h2 hw hn hsz
 go_enter_defers Tryz.func9,Tryz.ntmps9
 go_wp2_with (first
  | (go_at_call 24;refine (HC.out _).mono ?_;rintro e w1 ⟨rfl,rfl⟩)
  | (go_at_call 23;refine (must_yes _).mono ?_;rintro e w1 ⟨rfl,rfl⟩)
  | (go_at_call 25;refine (HS.out _).mono ?_;rintro e w1 ⟨rfl,rfl⟩;rw [start_eq])
  | (go_at_call 26;refine (words_any _ (startL w).heap.size (bstr s) s HL.out (by rw [bstr_size];exact HN.out)).mono ?_;rintro e w2 ⟨he,hf⟩;unfold WordsIs at he;rw [HW.out] at he;obtain ⟨v,rfl,hown⟩:=he;obtain ⟨g,cap,rfl,hc1,hc2,hlw⟩:=lw_start hf hown (by simp);have H0:=Lib.hid hlw;have HC1:=Lib.hid hc1;have HC2:=Lib.hid hc2;clear hf hown hlw hc1 hc2))
 refine wp_cut (fun a W=>∃R M,a=actL w.heap.size g cap (l.length+1) (startL w).heap.size s p (.agg #[(.int .i64 K0),(.int .i64 N0),(.func (.func F0) #[] #[])]) okb R M∧W.heap[R]?=some (.cells #[(.int .i64 K0),(.int .i64 N0),(.func (.func F0) #[] #[])] 65 (0,0))∧LW w g (p :: l) W∧w.heap.size+2<R) (fun _ _ _=>False) (fun _ _ _ h=>h.elim) ?_ ?_
 ·have H0:=Lib.hid (H0.out.on (Below.refl _ _).drew)
  refine wp_region_held_drew (S:=fun W=>LW w g (p :: l) W) (by kernel_rfl) H0.out (fun hHeld => ?_)
  refine tk 1 (.slice (some ⟨g,0,none⟩) (l.length+1) cap) rfl hHeld (fun s hs=>by go_simp) ?_
  refine tk 2 (.pointer (some ⟨g,0,none⟩)) rfl hHeld (fun s hs=>by go_simp<;>omega) ?_
  refine tk 3 (.agg #[.string (bstr p.1),.bool p.2]) rfl hHeld (fun s hs=>by have e0:s.cell? ⟨g,0,none⟩=some (.string (bstr p.1)):=LW.cell hs rfl;have e1:s.cell? ⟨g,1,none⟩=some (.bool p.2):=LW.cell hs rfl;go_simp) ?_
  generalize w2.drew=u0 at *
  refine wpAnyH_ready (rs:=[0,9]) (by kernel_rfl) (by simp) ?_
  refine AllReadyH.cons rfl (fun K hK => ?_) (AllReadyH.cons rfl (fun K hK => ?_) AllReadyH.nil)
  ·rw [if_pos (by kernel_rfl)]
   go_simp
   refine (rows_any _).mono ?_
   rintro e u1 ⟨rfl,hm,hb⟩
   obtain ⟨M,hM⟩:∃M,M=u0.heap.size:=⟨_,rfl⟩
   rw [←hM] at hm ⊢
   have H1:=Lib.hid (H0.out.on hb)
   have HM1:=Lib.hid hm
   clear hm hb hM
   refine hK.out _ _ H1.out (fun hHeld => ?_)
   clear hK
   refine wpAnyH_ready (rs:=[4,9]) (by kernel_rfl) (by simp) ?_
   refine AllReadyH.cons rfl (fun K hK => ?_) (AllReadyH.cons rfl (fun K hK => ?_) AllReadyH.nil)
   ·rw [if_pos (by kernel_rfl)]
    go_simp
    refine (HP.out _).mono ?_
    rintro e u2 ⟨he,hb⟩
    unfold PlainIs at he
    rw [HPX.out] at he
    subst he
    have H2:=Lib.hid (H1.out.on hb)
    have HM2:=Lib.hid (HM1.out.below hb HM1.out.lt)
    clear hb
    refine hK.out _ _ H2.out (fun hHeld => ?_)
    clear hK
    refine wpAnyH_ready (rs:=[5,9]) (by kernel_rfl) (by simp) ?_
    refine AllReadyH.cons rfl (fun K hK => ?_) (AllReadyH.cons rfl (fun K hK => ?_) AllReadyH.nil)
    ·rw [if_pos (by kernel_rfl)]
     have hlk:=HLK.out _ _ HM2.out
     go_simp
     clear hlk
     refine hK.out _ _ H2.out (fun hHeld => ?_)
     clear hK
     refine tk 6 (.tuple #[.agg #[(.int .i64 K0),(.int .i64 N0),(.func (.func F0) #[] #[])],.bool okb]) rfl hHeld (fun s hs=>by go_simp) ?_
     refine tk 7 (.agg #[(.int .i64 K0),(.int .i64 N0),(.func (.func F0) #[] #[])]) rfl hHeld (fun s hs=>by go_simp) ?_
     refine tk 8 (.bool okb) rfl hHeld (fun s hs=>by go_simp) ?_
     refine rd1 9 rfl fun K hK => ?_
     go_simp
     have H3:=Lib.hid (H2.out.on (below_new _ (.cells zr 65)))
     obtain ⟨R,hR⟩:∃R,R=u2.heap.size:=⟨_,rfl⟩
     have HR3:=Lib.hid (heap_alloc_at u2 (.cells zr 65))
     have HRN:=Lib.hid (show w.heap.size+2<R by have:=lt_of_block H2.out.row.choose_spec.1;have:=H2.out.far;omega)
     have HM3:=Lib.hid (HM2.out.below (below_new _ (.cells zr 65)) HM2.out.lt)
     rw [←hR] at HR3 ⊢
     clear hR
     change K _ (u2.alloc (.cells zr 65))
     generalize u2.alloc (.cells zr 65)=u3 at H3 HR3 HM3 ⊢
     refine hK.out _ _ H3.out (fun hHeld => ?_)
     clear hK
     refine rd1 10 rfl fun K hK => ?_
     have r0:u3.cell? ⟨R,0,none⟩=some (.int .i64 0):=by rw [Lib.cell_of_heap HR3.out];rfl
     have r1:u3.cell? ⟨R,1,none⟩=some (.int .i64 0):=by rw [Lib.cell_of_heap HR3.out];rfl
     have r2:u3.cell? ⟨R,2,none⟩=some .nilFunc:=by rw [Lib.cell_of_heap HR3.out];rfl
     have f0:=blk_free HR3.out 0
     have f1:=blk_free HR3.out 1
     have f2:=blk_free HR3.out 2
     go_simp
     have HX:=H3.out.put HR3.out HRN.out (.int .i64 K0) (.int .i64 N0) (.func (.func F0) #[] #[])
     refine hK.out _ _ HX.1 (fun hHeld => ?_)
     refine tk 11 (.bool okb) rfl hHeld (fun s hs=>by go_simp) ?_
     refine wpAnyH_done (by kernel_rfl) ?_ _
     exact ⟨R,M,rfl,HX.2,HX.1,HRN.out⟩
    ·rw [if_pos (by kernel_rfl)]
     go_simp
     have H3:=Lib.hid (H2.out.on (below_new _ (.cells zr 65)))
     obtain ⟨R,hR⟩:∃R,R=u2.heap.size:=⟨_,rfl⟩
     have HR3:=Lib.hid (heap_alloc_at u2 (.cells zr 65))
     have HRN:=Lib.hid (show w.heap.size+2<R by have:=lt_of_block H2.out.row.choose_spec.1;have:=H2.out.far;omega)
     have HM3:=Lib.hid (HM2.out.below (below_new _ (.cells zr 65)) HM2.out.lt)
     rw [←hR] at HR3 ⊢
     clear hR
     change K _ (u2.alloc (.cells zr 65))
     generalize u2.alloc (.cells zr 65)=u3 at H3 HR3 HM3 ⊢
     refine hK.out _ _ H3.out (fun hHeld => ?_)
     clear hK
     refine rd1 5 rfl fun K hK => ?_
     have hlk:=HLK.out _ _ HM3.out
     go_simp
     clear hlk
     refine hK.out _ _ H3.out (fun hHeld => ?_)
     clear hK
     refine tk 6 (.tuple #[.agg #[(.int .i64 K0),(.int .i64 N0),(.func (.func F0) #[] #[])],.bool okb]) rfl hHeld (fun s hs=>by go_simp) ?_
     refine tk 7 (.agg #[(.int .i64 K0),(.int .i64 N0),(.func (.func F0) #[] #[])]) rfl hHeld (fun s hs=>by go_simp) ?_
     refine tk 8 (.bool okb) rfl hHeld (fun s hs=>by go_simp) ?_
     refine rd1 10 rfl fun K hK => ?_
     have r0:u3.cell? ⟨R,0,none⟩=some (.int .i64 0):=by rw [Lib.cell_of_heap HR3.out];rfl
     have r1:u3.cell? ⟨R,1,none⟩=some (.int .i64 0):=by rw [Lib.cell_of_heap HR3.out];rfl
     have r2:u3.cell? ⟨R,2,none⟩=some .nilFunc:=by rw [Lib.cell_of_heap HR3.out];rfl
     have f0:=blk_free HR3.out 0
     have f1:=blk_free HR3.out 1
     have f2:=blk_free HR3.out 2
     go_simp
     have HX:=H3.out.put HR3.out HRN.out (.int .i64 K0) (.int .i64 N0) (.func (.func F0) #[] #[])
     refine hK.out _ _ HX.1 (fun hHeld => ?_)
     refine tk 11 (.bool okb) rfl hHeld (fun s hs=>by go_simp) ?_
     refine wpAnyH_done (by kernel_rfl) ?_ _
     exact ⟨R,M,rfl,HX.2,HX.1,HRN.out⟩
   ·rw [if_pos (by kernel_rfl)]
    go_simp
    have H2:=Lib.hid (H1.out.on (below_new _ (.cells zr 65)))
    obtain ⟨R,hR⟩:∃R,R=u1.heap.size:=⟨_,rfl⟩
    have HR2:=Lib.hid (heap_alloc_at u1 (.cells zr 65))
    have HRN:=Lib.hid (show w.heap.size+2<R by have:=lt_of_block H1.out.row.choose_spec.1;have:=H1.out.far;omega)
    have HM2:=Lib.hid (HM1.out.below (below_new _ (.cells zr 65)) HM1.out.lt)
    rw [←hR] at HR2 ⊢
    clear hR
    change K _ (u1.alloc (.cells zr 65))
    generalize u1.alloc (.cells zr 65)=u2 at H2 HR2 HM2 ⊢
    refine hK.out _ _ H2.out (fun hHeld => ?_)
    clear hK
    refine rd1 4 rfl fun K hK => ?_
    go_simp
    refine (HP.out _).mono ?_
    rintro e u3 ⟨he,hb⟩
    unfold PlainIs at he
    rw [HPX.out] at he
    subst he
    have H3:=Lib.hid (H2.out.on hb)
    have HM3:=Lib.hid (HM2.out.below hb HM2.out.lt)
    have HR3:=Lib.hid ((hb.block _ (lt_of_block HR2.out)).trans HR2.out)
    clear hb
    refine hK.out _ _ H3.out (fun hHeld => ?_)
    clear hK
    refine rd1 5 rfl fun K hK => ?_
    have hlk:=HLK.out _ _ HM3.out
    go_simp
    clear hlk
    refine hK.out _ _ H3.out (fun hHeld => ?_)
    clear hK
    refine tk 6 (.tuple #[.agg #[(.int .i64 K0),(.int .i64 N0),(.func (.func F0) #[] #[])],.bool okb]) rfl hHeld (fun s hs=>by go_simp) ?_
    refine tk 7 (.agg #[(.int .i64 K0),(.int .i64 N0),(.func (.func F0) #[] #[])]) rfl hHeld (fun s hs=>by go_simp) ?_
    refine tk 8 (.bool okb) rfl hHeld (fun s hs=>by go_simp) ?_
    refine rd1 10 rfl fun K hK => ?_
    have r0:u3.cell? ⟨R,0,none⟩=some (.int .i64 0):=by rw [Lib.cell_of_heap HR3.out];rfl
    have r1:u3.cell? ⟨R,1,none⟩=some (.int .i64 0):=by rw [Lib.cell_of_heap HR3.out];rfl
    have r2:u3.cell? ⟨R,2,none⟩=some .nilFunc:=by rw [Lib.cell_of_heap HR3.out];rfl
    have f0:=blk_free HR3.out 0
    have f1:=blk_free HR3.out 1
    have f2:=blk_free HR3.out 2
    go_simp
    have HX:=H3.out.put HR3.out HRN.out (.int .i64 K0) (.int .i64 N0) (.func (.func F0) #[] #[])
    refine hK.out _ _ HX.1 (fun hHeld => ?_)
    refine tk 11 (.bool okb) rfl hHeld (fun s hs=>by go_simp) ?_
    refine wpAnyH_done (by kernel_rfl) ?_ _
    exact ⟨R,M,rfl,HX.2,HX.1,HRN.out⟩
  ·rw [if_pos (by kernel_rfl)]
   go_simp
   have H1:=Lib.hid (H0.out.on (below_new _ (.cells zr 65)))
   obtain ⟨R,hR⟩:∃R,R=u0.heap.size:=⟨_,rfl⟩
   have HR1:=Lib.hid (heap_alloc_at u0 (.cells zr 65))
   have HRN:=Lib.hid (show w.heap.size+2<R by have:=lt_of_block H0.out.row.choose_spec.1;have:=H0.out.far;omega)
   rw [←hR] at HR1 ⊢
   clear hR
   change K _ (u0.alloc (.cells zr 65))
   generalize u0.alloc (.cells zr 65)=u1 at H1 HR1 ⊢
   refine hK.out _ _ H1.out (fun hHeld => ?_)
   clear hK
   refine rd1 0 rfl fun K hK => ?_
   go_simp
   refine (rows_any _).mono ?_
   rintro e u2 ⟨rfl,hm,hb⟩
   obtain ⟨M,hM⟩:∃M,M=u1.heap.size:=⟨_,rfl⟩
   rw [←hM] at hm ⊢
   have H2:=Lib.hid (H1.out.on hb)
   have HM2:=Lib.hid hm
   have HR2:=Lib.hid ((hb.block _ (lt_of_block HR1.out)).trans HR1.out)
   clear hm hb hM
   refine hK.out _ _ H2.out (fun hHeld => ?_)
   clear hK
   refine rd1 4 rfl fun K hK => ?_
   go_simp
   refine (HP.out _).mono ?_
   rintro e u3 ⟨he,hb⟩
   unfold PlainIs at he
   rw [HPX.out] at he
   subst he
   have H3:=Lib.hid (H2.out.on hb)
   have HM3:=Lib.hid (HM2.out.below hb HM2.out.lt)
   have HR3:=Lib.hid ((hb.block _ (lt_of_block HR2.out)).trans HR2.out)
   clear hb
   refine hK.out _ _ H3.out (fun hHeld => ?_)
   clear hK
   refine rd1 5 rfl fun K hK => ?_
   have hlk:=HLK.out _ _ HM3.out
   go_simp
   clear hlk
   refine hK.out _ _ H3.out (fun hHeld => ?_)
   clear hK
   refine tk 6 (.tuple #[.agg #[(.int .i64 K0),(.int .i64 N0),(.func (.func F0) #[] #[])],.bool okb]) rfl hHeld (fun s hs=>by go_simp) ?_
   refine tk 7 (.agg #[(.int .i64 K0),(.int .i64 N0),(.func (.func F0) #[] #[])]) rfl hHeld (fun s hs=>by go_simp) ?_
   refine tk 8 (.bool okb) rfl hHeld (fun s hs=>by go_simp) ?_
   refine rd1 10 rfl fun K hK => ?_
   have r0:u3.cell? ⟨R,0,none⟩=some (.int .i64 0):=by rw [Lib.cell_of_heap HR3.out];rfl
   have r1:u3.cell? ⟨R,1,none⟩=some (.int .i64 0):=by rw [Lib.cell_of_heap HR3.out];rfl
   have r2:u3.cell? ⟨R,2,none⟩=some .nilFunc:=by rw [Lib.cell_of_heap HR3.out];rfl
   have f0:=blk_free HR3.out 0
   have f1:=blk_free HR3.out 1
   have f2:=blk_free HR3.out 2
   go_simp
   have HX:=H3.out.put HR3.out HRN.out (.int .i64 K0) (.int .i64 N0) (.func (.func F0) #[] #[])
   refine hK.out _ _ HX.1 (fun hHeld => ?_)
   refine tk 11 (.bool okb) rfl hHeld (fun s hs=>by go_simp) ?_
   refine wpAnyH_done (by kernel_rfl) ?_ _
   exact ⟨R,M,rfl,HX.2,HX.1,HRN.out⟩
 ·rintro a W ⟨R,M,rfl,hR,hlw,hRn⟩
  have HLW:=Lib.hid hlw
  have c0:W.cell? ⟨R,0,none⟩=some (.int .i64 K0):=by rw [Lib.cell_of_heap hR];rfl
  have c1:W.cell? ⟨R,1,none⟩=some (.int .i64 N0):=by rw [Lib.cell_of_heap hR];rfl
  have b0:W.cell? ⟨w.heap.size,0,none⟩=some (.int .i64 0):=by rw [Lib.cell_of_heap hlw.res.op];rfl
  have z0:W.frozen? ⟨w.heap.size,0,none⟩=false:=blk_free hlw.res.op 0
  have HRS:=Lib.hid (hlw.rowS K0)
  have hRB:R≠w.heap.size:=by omega
  have HR2:Hid ((W.setCell ⟨w.heap.size,0,none⟩ (.int .i64 K0)).drew.cell? ⟨R,2,none⟩=some (.func (.func F0) #[] #[])):=Lib.hid (by
   show (W.setCell ⟨w.heap.size,0,none⟩ (.int .i64 K0)).cell? ⟨R,2,none⟩=_
   rw [World.cell?_setCell_far W _ _ _ (by simpa using Ne.symm hRB),Lib.cell_of_heap hR]
   rfl)
  have HRES:Hid ((W.setCell ⟨w.heap.size,0,none⟩ (.int .i64 K0)).drew.heap[w.heap.size+1]?=some (.cells #[.bool false] 4 (0,0))∧(W.setCell ⟨w.heap.size,0,none⟩ (.int .i64 K0)).drew.heap[w.heap.size+2]?=some (.cells #[.int .i64 0] 29 (0,0))):=Lib.hid ⟨(heap_other (by omega) _ _).trans hlw.res.says,(heap_other (by omega) _ _).trans hlw.res.err⟩
  have HBEL:Hid (Below w.heap.size w (W.setCell ⟨w.heap.size,0,none⟩ (.int .i64 K0)).drew):=Lib.hid (hlw.bel.setCell (Nat.le_refl _) _).drew
  have HRB:=Lib.hid hRB
  have HRL:=Lib.hid (lt_of_block hR)
  have HRN:=Lib.hid hRn
  unfold actL
  rw [E3.out]
  clear hR hlw hRn
  go_wp2_with (first
   | (go_at_call 23;refine (must_yes _).mono ?_;rintro e w1 ⟨rfl,rfl⟩))
  refine wp_pan (PS:=fun c a W=>PanSt w.heap.size w c a W∧sp.opS p.1 l=none) ?_ ?_
  ·rintro c a W ⟨h,ho⟩
   obtain ⟨cs,sy,er,q1,q2⟩:=h.res
   rw [h.bar]
   show Leaves Tryz.prog Tryz.f9 a.tmps _ a.defers (.panicking bar) W
   rw [h.defers]
   exact leave_bar q2 q1 h.slots fun W' hW=>⟨lineIs_none (B:=w.heap.size) (by rw [HLS.out,ho];rfl) _,h.bel.trans hW⟩
  ·obtain ⟨ad,had⟩:∃ad,ad=(some (if cap=1 then (⟨g,0,none⟩:Addr) else ⟨g,2,none⟩)):=⟨_,rfl⟩
   have HAD:=Lib.hid (slice_cap (g:=g) HC1.out)
   rw [←had] at HAD
   have hsl:=fun W=>slice_rest W g l.length cap HC1.out HC2.out
   rw [←had] at hsl
   clear had
   have hent:=HENT.out
   refine wp_region_held_drew (S:=fun W=>W.cell? ⟨R,2,none⟩=some (.func (.func F0) #[] #[])) (by kernel_rfl) HR2.out (fun hHeld => ?_)
   refine wpAnyH_take (i:=0) (v:=.pointer (some ⟨R,2,none⟩)) rfl (by kernel_rfl) (by kernel_rfl) (by kernel_rfl) (fun _ _ _ h=>⟨PanSt.unput h.1 (by decide),h.2⟩) (Or.inl ⟨by kernel_rfl,fun s hs=>by have e0:=hs;go_simp⟩) hHeld ?_
   refine wpAnyH_take (i:=1) (v:=.func (.func F0) #[] #[]) rfl (by kernel_rfl) (by kernel_rfl) (by kernel_rfl) (fun _ _ _ h=>⟨PanSt.unput h.1 (by decide),h.2⟩) (Or.inl ⟨by kernel_rfl,fun s hs=>by have e0:=hs;go_simp⟩) hHeld ?_
   refine wpAnyH_take (i:=2) (v:=.slice (some ⟨g,0,none⟩) (l.length+1) cap) rfl (by kernel_rfl) (by kernel_rfl) (by kernel_rfl) (fun _ _ _ h=>⟨PanSt.unput h.1 (by decide),h.2⟩) (Or.inl ⟨by kernel_rfl,fun s hs=>by have e0:=hs;go_simp⟩) hHeld ?_
   refine wpAnyH_take (i:=3) (v:=.slice ad l.length (cap-1)) rfl (by kernel_rfl) (by kernel_rfl) (by kernel_rfl) (fun _ _ _ h=>⟨PanSt.unput h.1 (by decide),h.2⟩) (Or.inl ⟨by kernel_rfl,fun s hs=>by have e0:=hs;go_simp⟩) hHeld ?_
   refine rd1 4 rfl fun K hK => ?_
   go_simp
   refine (HROW.out _ (cap-1) _ _ g HAD.out HRS.out).mono ?_
   rintro e u3 he
   cases ho:sp.opS p.1 l with
   | none =>
    rw [ho] at he
    obtain ⟨rfl,hfr,cs,hcs,hsz⟩:=he
    refine ⟨⟨rfl,rfl,⟨rfl,rfl,rfl⟩,⟨cs,_,_,hsz,hcs,(hfr.block _ (lt_of_block HRES.out.1) (by omega) (fun e=>by cases e)).trans HRES.out.1,(hfr.block _ (lt_of_block HRES.out.2) (by omega) (fun e=>by cases e)).trans HRES.out.2⟩,HBEL.out.trans (hfr.below (Nat.le_refl _) (fun g hg=>by cases hg) HBEL.out.size)⟩,rfl⟩
   | some o =>
    rw [ho] at he
    obtain ⟨rfl,hfr,tv,hop,hrow,htv⟩:=he
    have hlt2:=lt_of_block HRES.out.2
    have HTV:Hid (∀g,tv.ownBlock=some g→w.heap.size+2<g):=Lib.hid fun g hg=>by have:=htv g hg;omega
    have HROWT:=Lib.hid hrow
    have HR3:Hid (Res w.heap.size (w.heap.size+1) (w.heap.size+2) (opCells o tv) false 0 u3):=Lib.hid ⟨hop,(hfr.block _ (lt_of_block HRES.out.1) (by omega) (fun e=>by cases e)).trans HRES.out.1,(hfr.block _ (lt_of_block HRES.out.2) (by omega) (fun e=>by cases e)).trans HRES.out.2⟩
    have HB3:=Lib.hid (HBEL.out.trans (hfr.below (b:=w.heap.size) (B:=w.heap.size) (Nat.le_refl _) (fun g hg=>by cases hg) HBEL.out.size))
    have HO:=Lib.hid ho
    have hc2:u3.cell? ⟨R,2,none⟩=some (.func (.func F0) #[] #[]):=by
     have e1:=HR2.out
     have e2:=hfr.block R (by simpa using HRL.out) HRB.out (fun e=>by cases e)
     rw [←e1]
     unfold World.cell?
     simp only [e2]
    refine hK.out _ _ hc2 (fun hHeld => ?_)
    refine wpAnyH_done (by kernel_rfl) ?_ _
    refine PanQ.normal ?_
    clear hHeld hK hop hrow htv hfr ho hc2 hlt2 hsl hent c0 c1 b0 z0
    have HONE:Hid ((opCells o tv).all (·.oneCell')=true):=Lib.hid (word_cells HROWT.out)
    have HS18:Hid ((opCells o tv).size=18):=Lib.hid rfl
    obtain ⟨oc,hoc⟩:∃oc,oc=opCells o tv:=⟨_,rfl⟩
    rw [←hoc] at HR3 HONE HS18
    have HS18':Hid ((Tryz.prog.info? 28).map (·.size)=some oc.size):=Lib.hid (by rw [HS18.out];exact size28')
    go_wp2_with (first
     | (refine wpList_load_row rfl 28 _ rfl w.heap.size rfl 28 oc (0,0) _ HR3.out.op Tryz.underlying28 rfl HS18'.out ?_)
     | (refine wpList_store_row rfl 28 _ _ rfl w.heap.size oc rfl rfl 28 oc HR3.out.op HS18'.out rfl HONE.out ?_;have HR4:=Lib.hid (HR3.out.row (cs':=oc)).1;have HB4:=Lib.hid (HB3.out.trans (HR3.out.row (cs':=oc)).2);have HT4:=Lib.hid ((rowAt_row HROWT.out (fun g hg=>by have:=HTV.out g hg;omega) oc (b:=w.heap.size)).mono (show u3.heap.size≤(u3.setRow w.heap.size oc).heap.size by simp [World.setRow]));generalize u3.setRow w.heap.size oc=W2 at HR4 HB4 HT4 ⊢; obtain ⟨k0,k1,y0,y1⟩:=HR4.out.cells))
    obtain ⟨n1,n2,n3⟩:=ne12 w.heap.size
    have HG:=HR4.out.fin n1 n2 n3 true 0
    refine leave_ok HG.1 HS18.out ⟨rfl,rfl,rfl⟩ ⟨?_,HB4.out.trans (HG.2 _ (Nat.le_succ _) (by omega))⟩
    unfold LineIs
    rw [HLS.out,HO.out]
    refine ⟨tv,by rw [hoc],?_,fun g hg=>by have:=HTV.out g hg;omega⟩
    have ht5:=rowAt_other (rowAt_other HT4.out (fun g hg=>by have:=HTV.out g hg;omega) 0 (x:=.bool true) (b:=w.heap.size+1)) (fun g hg=>by have:=HTV.out g hg;omega) 0 (x:=.int .i64 0) (b:=w.heap.size+2)
    exact ht5.mono (by simp)
theorem line_any (s:List UInt8) (w:World) (hn:s.length≤1099511627776):Calls Tryz.prog 9 #[.string (bstr s)] w fun e w'=>LineIs w.heap.size s w' e∧Below w.heap.size w w':=by
 by_cases h:10∈s
 ·exact line_has_nl s w h
 cases h2:sp.silentB s with
 | true=>exact line_nothing s w h h2
 | false =>
  cases hw:sp.words s with
  | none=>exact line_no_words s w h h2 hw hn
  | some m =>
   match m with
   | []=>exact absurd hw (words_some_ne h2)
   | p :: l =>
    cases hp:p.2 with
    | true=>exact line_quoted s w h h2 p l hp hw hn
    | false =>
     by_cases hq:p.1∈rowsL.map (·.1)
     ·obtain ⟨⟨x,r⟩,hm,hx⟩:=List.mem_map.1 hq
      simp only at hx
      subst hx
      by_cases hc:(l.length:Int)=r.n
      ·exact line_known s w h h2 p l hp r hm hc hw hn
      ·exact line_count s w h h2 p l hp r hm hc hw hn
     ·exact line_unknown s w h h2 p l hp hq hw hn
set_option maxRecDepth 100000 in
set_option maxHeartbeats 16000000 in
theorem parse_op (w:World) (v:Value) (b:List UInt8) (h:RowAt w.heap.size w v b.length (Lib.byteCells b)) (hm:MaxAt w) (hn:b.length≤1048576) :
  Calls Tryz.prog 13 #[v] w fun e w'=>ParseIs b w' e∧Below w.heap.size w w':=by
 have HLN:=Lib.hid (lines_any w v b h hm hn)
 obtain ⟨av,cv,rfl⟩:=h.slice
 by_cases hbig:65536<b.length
 ·have HF:=Lib.hid (fun W=>parse_long (.inl hbig) W)
  have t6:decide ((65536:Int)<(b.length:Int))=true:=by simp;omega
  have t6n:(65536:Int)<(b.length:Int):=by omega
  have t6g:decide ((b.length:Int)>65536)=true:=by simp;omega
  clear hbig hn h hm
  go_enter Tryz.func13,Tryz.ntmps13
  go_wp2
  go_ret3
  exact ⟨HF.out _,Below.refl _ _⟩
 have t6:decide ((65536:Int)<(b.length:Int))=false:=by simp;omega
 have t6n:¬(65536:Int)<(b.length:Int):=by omega
 have t6g:decide ((b.length:Int)>65536)=false:=by simp;omega
 have HB6:Hid (b.length≤65536):=Lib.hid (by omega)
 have HNB:=Lib.hid hn
 have HLS:=Lib.hid (linesS_len b).2
 by_cases hlong:2000<(sp.linesS b).length
 ·have HF:=Lib.hid (fun W=>parse_long (b:=b) (.inr hlong) W)
  have HLO:=Lib.hid hlong
  clear hbig hn h hm hlong
  go_enter Tryz.func13,Tryz.ntmps13
  go_wp2_with (go_at_call 32;refine HLN.out.mono ?_;rintro e w1 ⟨v',rfl,hr1,hb1⟩;obtain ⟨a1,c1,rfl⟩:=hr1.slice;have hl1:decide (((sp.linesS b).length:Int)>2000)=true:=(by have:=HLO.out;simp;omega);have hl2:((sp.linesS b).length:Int)>2000:=(by have:=HLO.out;omega);have HB1:=Lib.hid hb1;clear hr1 hb1)
  go_ret3
  exact ⟨HF.out _,HB1.out⟩
 have HL2:Hid ((sp.linesS b).length≤2000):=Lib.hid (by omega)
 obtain ⟨lns,hlns⟩:∃lns,lns=sp.linesS b:=⟨_,rfl⟩
 have HLNS:=Lib.hid hlns
 rw [←hlns] at HLN HLS
 have HK2:Hid (lns.length≤2000):=Lib.hid (by rw [hlns];exact HL2.out)
 clear hbig hn h hm hlong hlns
 go_enter Tryz.func13,Tryz.ntmps13
 go_wp2_with (go_at_call 32;refine HLN.out.mono ?_;rintro e w1 ⟨v',rfl,hr1,hb1⟩;obtain ⟨a1,c1,rfl⟩:=hr1.slice;have hl1:decide ((lns.length:Int)>2000)=false:=(by have:=HK2.out;simp;omega);have hl2:¬(lns.length:Int)>2000:=(by have:=HK2.out;omega);have HBA:=Lib.hid hb1;have HROW:=Lib.hid hr1;clear hr1 hb1)
 go_loopw [6,22] (fun d i wr=>∃k:Nat,k≤lns.length∧i=.int .i64 k∧∃L,PaR w1 L d wr∧PaAt lns k (L.map (·.1))∧L.length≤k) (fun _ i _=>lns.length-(intOf i).toNat)
 case atStart=>exact ⟨0,Nat.zero_le _,rfl,[],PaR.nil w1,PaAt.start _,Nat.le_refl _⟩
 case round =>
  obtain ⟨k,hk,rfl,L,hp,hat,hkl⟩:=hrel
  have HP:=Lib.hid hp;have HAT:=Lib.hid hat;have HLK:=Lib.hid hkl
  have HKL:Hid (L.length≤2000):=Lib.hid (by have:=HK2.out;omega)
  have hkb:(k:Int)≤2000:=by have:=HK2.out;omega
  clear hp hat hkl
  by_cases hlt:k<lns.length
  ·obtain ⟨bx,off,hae,_,hcell⟩:=str_el HROW.out HP.out.bel hlt
   subst hae
   have t0:decide ((k:Int)<(lns.length:Int))=true:=by simp;omega
   have HSL:Hid (lns[k].length≤1048576):=Lib.hid (Nat.le_trans (HLS.out _ (List.getElem_mem hlt)) HNB.out)
   obtain ⟨s,hs⟩:∃s,lns[k]=s:=⟨_,rfl⟩
   rw [hs] at hcell HSL
   have HSK:=Lib.hid hs
   have HCL:=Lib.hid (fun W hn=>line_any s W hn)
   cases hq:sp.lineS s with
   | none =>
    have HLE:=Lib.hid hq
    have HF:=Lib.hid (fun W=>parse_err HB6.out HL2.out (by rw [←HLNS.out];exact HAT.out.bad hlt HSK.out hq) W)
    clear hq hs
    go_wp2_with (first
       | (have hgd:=HCL;clear hgd;go_at_call 9;refine (HCL.out _ (Nat.le_trans HSL.out (by decide))).mono ?_;rintro e W1 ⟨he,hb1⟩;unfold LineIs at he;rw [HLE.out] at he;subst he;have HB1:=Lib.hid hb1;clear hb1 HCL)
        | (have hgd:=HB1;clear hgd;refine wpl_st28' rfl _ _ rfl W1.heap.size (zeroC 0) rfl rfl _ (heap_alloc_at _ _) rfl rfl zero_one ?_;intro W2 hW;obtain ⟨q1,q2⟩:=st_new hW;have HQ2:=Lib.hid q1;have HB2:=Lib.hid (HB1.out.trans (q2.mono HB1.out.size));clear hW q1 q2 HB1))
    go_ret3
    exact ⟨by have:=HF.out W2;simpa using this,HBA.out.trans ((HP.out.bel.trans (HB2.out.mono HP.out.bel.size)).mono HBA.out.size)⟩
   | some x =>
    cases x with
    | none =>
     have HLE:=Lib.hid hq
     clear hs
     go_wp2_with (first
       | (have hgd:=HCL;clear hgd;go_at_call 9;refine (HCL.out _ (Nat.le_trans HSL.out (by decide))).mono ?_;rintro e W1 ⟨he,hb1⟩;unfold LineIs at he;rw [HLE.out] at he;subst he;have HB1:=Lib.hid hb1;clear hb1 HCL)
        | (have hgd:=HB1;clear hgd;refine wpl_st28' rfl _ _ rfl W1.heap.size (zeroC 0) rfl rfl _ (heap_alloc_at _ _) rfl rfl zero_one ?_;intro W2 hW;obtain ⟨q1,q2⟩:=st_new hW;have HQ2:=Lib.hid q1;have HB2:=Lib.hid (HB1.out.trans (q2.mono HB1.out.size));clear hW q1 q2 HB1))
     exact ⟨⟨k+1,by omega,by go_num,L,HP.out.on HB2.out,HAT.out.skip hlt HSK.out HLE.out,Nat.le_succ_of_le HLK.out⟩,by simp [intOf];omega⟩
    | some o =>
     have HLE:=Lib.hid hq
     clear hs
     go_wp2_with (first
       | (have hgd:=HCL;clear hgd;go_at_call 9;refine (HCL.out _ (Nat.le_trans HSL.out (by decide))).mono ?_;rintro e W1 ⟨he,hb1⟩;unfold LineIs at he;rw [HLE.out] at he;obtain ⟨tv,rfl,hr1,ho1⟩:=he;have HB1:=Lib.hid hb1;have HT1:=Lib.hid hr1;have HN1:=Lib.hid ho1;have HO1:=Lib.hid (one_op' (o:=o) hr1);clear hb1 hr1 ho1 HCL)
        | (have hgd:=HB1;clear hgd;refine wpl_st28' rfl _ _ rfl W1.heap.size (opCells o tv) rfl rfl _ (heap_alloc_at _ _) rfl rfl HO1.out ?_;intro W2 hW;obtain ⟨q1,q2⟩:=st_new hW;have HQ2:=Lib.hid q1;have HB2:=Lib.hid (HB1.out.trans (q2.mono HB1.out.size));have HT2:=Lib.hid ((HT1.out.keep q2).mono q2.size);clear hW q1 q2 HB1)
        | (have hgd:=HQ2;clear hgd;refine wpList_load_row rfl 28 _ rfl W1.heap.size rfl 28 (opCells o tv) (0,0) _ HQ2.out Tryz.underlying28 rfl size28' ?_;clear HQ2)
        | (have hgd:=HT2;clear hgd;refine wpl_slice28 rfl _ rfl o tv rfl ?_;intro W3 p1 p2;have HQ3:=Lib.hid p1;have HB3:=Lib.hid (HB2.out.trans (p2.mono HB2.out.size));have HT3:=Lib.hid ((HT2.out.keep p2).mono p2.size);clear p1 p2 HT2)
        | (have hgd:=HQ3;clear hgd;at_builtin;refine wpl_append_op rfl _ _ rfl w1.heap.size L _ rfl (HP.out.on HB3.out).own W2.heap.size (o,tv) (0,0) rfl HQ3.out HO1.out (by have:=HKL.out;omega) (HP.out.on HB3.out).bel.size ?_;intro v' W4 hown hgr hvo;have HX:=Lib.hid (HP.out.app HB3.out HT3.out HN1.out hown hgr hvo);clear hown hgr hvo HQ3))
     exact ⟨⟨k+1,by omega,by go_num,L++[(o,tv)],HX.out,by rw [List.map_append];exact HAT.out.one hlt HSK.out HLE.out,by rw [List.length_append];exact Nat.succ_le_succ HLK.out⟩,by simp [intOf];omega⟩
  ·have hke:k=lns.length:=by omega
   have t0:decide ((k:Int)<(lns.length:Int))=false:=by simp;omega
   have HF:=Lib.hid (parse_ok HB6.out HL2.out (by rw [←HLNS.out];exact HAT.out.fin (by omega)) HP.out)
   go_wp2
   go_ret3
   exact ⟨HF.out,HBA.out.trans (HP.out.bel.mono HBA.out.size)⟩
def oddT (p:List UInt8):Bool:=decide (trail p%2=1)
theorem oddT_other (p:List UInt8) {c:UInt8} (h:c≠92):oddT (p++[c])=false:=by unfold oddT;rw [trail_other p h];rfl
theorem oddT_next (p:List UInt8) (c:UInt8):oddT (p++[c])=(decide (c=92) && !oddT p):=by
 by_cases h:c=92
 ·subst h
  unfold oddT
  rw [trail_slash]
  have:=Nat.mod_two_eq_zero_or_one (trail p)
  rcases this with e | e
  ·simp [show (trail p+1)%2=1 by omega,e]
  ·simp [show (trail p+1)%2=0 by omega,e]
 ·rw [oddT_other p h]
  simp [h]
structure WdR (s:List UInt8) (N:Nat) (p r X:List UInt8) (q:Bool):Prop where
 text:s=p++r
 eq:sp.wideS N false false s=X++sp.wideS N (oddT p) q r
 len:X.length≤13*p.length
section
variable {s:List UInt8} {N:Nat} {p r X:List UInt8} {q:Bool} {c:UInt8}
theorem WdR.start (s:List UInt8) (N:Nat):WdR s N [] s [] false:=⟨rfl,rfl,Nat.zero_le _⟩
theorem WdR.quote (h:WdR s N p (34 :: r) X q) (ho:trail p%2=0):WdR s N (p++[34]) r (X++[34]) (!q):=by
 have h0:oddT p=false:=by unfold oddT;simp [ho]
 refine ⟨by rw [h.text];simp,?_,by have:=h.len;simp;omega⟩
 rw [h.eq,h0,sp.wide_quote,oddT_other p (by decide)]
 simp
theorem WdR.other (h:WdR s N p (c :: r) X q) (h1:c=34→trail p%2=1) (h2:c≠10) (h3:c=32→q=true):WdR s N (p++[c]) r (X++[c]) q:=by
 refine ⟨by rw [h.text];simp,?_,by have:=h.len;simp;omega⟩
 rw [h.eq,sp.wide_other (fun e=>by unfold oddT;simp [h1 e]) h2 h3,←oddT_next p c]
 simp
theorem WdR.nl (h:WdR s N p (10 :: r) X q):WdR s N (p++[10]) r (X++sp.sepS) q:=by
 refine ⟨by rw [h.text];simp,?_,by have:=h.len;simp [sp.sepS];omega⟩
 rw [h.eq,sp.wide_nl,oddT_other p (by decide)]
 simp
theorem WdR.space (h:WdR s N p (32 :: r) X false) (hN:N≤5):WdR s N (p++[32]) r (X++List.replicate N 32) false:=by
 refine ⟨by rw [h.text];simp,?_,by have:=h.len;simp;omega⟩
 rw [h.eq,sp.wide_sp,oddT_other p (by decide)]
 simp
end
def WdIs (s:List UInt8) (N:Nat) (p r X:List UInt8) (v:Value):Prop:=∃q,v=.bool q∧WdR s N p r X q
theorem wrap64_ok {n:Int} (h : -9223372036854775808≤n∧n≤9223372036854775807):wrap64 n=n:=by unfold wrap64;omega
theorem take_one (p r:List UInt8) (c:UInt8):((p++c :: r).take (p.length+1)).drop p.length = [c]:=by
 rw [List.take_append]
 simp
theorem snoc (p:List UInt8):p = []∨∃q d,p=q++[d]:=by
 rcases List.eq_nil_or_concat p with h | ⟨q,d,h⟩
 ·exact .inl h
 ·exact .inr ⟨q,d,by rw [h,List.concat_eq_append]⟩
theorem trail_le (p:List UInt8):trail p≤p.length:=by
 unfold trail
 have:=(List.takeWhile_sublist (· == 92) (l:=p.reverse)).length_le
 simpa using this
theorem spaces_count {k:Int} (hk:I64 k):∃N:Nat,1≤N∧N≤5∧wrap64 ((wrap64 (k.tmod 5+5)).tmod 5+1)=(N:Int):=by
 have h1 : -5<k.tmod 5∧k.tmod 5<5:=by
  constructor
  ·have:=Int.lt_tmod_of_pos k (b:=5) (by decide);omega
  ·exact Int.tmod_lt_of_pos k (by decide)
 have e1:wrap64 (k.tmod 5+5)=k.tmod 5+5:=wrap64_ok ⟨by omega,by omega⟩
 rw [e1]
 have h2:0≤(k.tmod 5+5).tmod 5∧(k.tmod 5+5).tmod 5<5:=⟨Int.tmod_nonneg _ (by omega),Int.tmod_lt_of_pos _ (by decide)⟩
 have e2:wrap64 ((k.tmod 5+5).tmod 5+1)=(k.tmod 5+5).tmod 5+1:=wrap64_ok ⟨by omega,by omega⟩
 rw [e2]
 refine ⟨((k.tmod 5+5).tmod 5+1).toNat,by omega,by omega,by omega⟩
theorem conv_new (w:World) (t:List UInt8) (ht:t.length≤1048576):∃W v,(convert 9 22 (.string (bstr t))).run Tryz.prog w=.ok v W∧Below w.heap.size w W∧RowAt W.heap.size W v t.length (Lib.byteCells t):=by
 obtain ⟨W,cp,h1,h2,h3,h4,h5,h6⟩:=conv_bytes2 w t
 exact ⟨W,_,h1,h2,rowAt_of h4 rfl h5 (h6 (by unfold maxLen;omega)) (by omega)⟩
theorem parse_back {s:List UInt8} {l:List sp.Op} (h1:s.length≤65536) (h2:(sp.linesS s).length≤2000) (h:sp.parseL 0 (sp.linesS s)=.inr l) {W:World} {e:Ending} (hp:ParseIs s W e):∃v L,e=.returned (.tuple #[v,.int .i64 0,.int .i64 0])∧L.map (·.1)=l∧SameRow W v L:=by
 unfold ParseIs at hp
 rw [if_neg (by omega),h] at hp
 obtain ⟨v,L,a,b,c⟩:=hp
 exact ⟨v,L,b,a,c⟩
set_option maxRecDepth 100000 in
set_option maxHeartbeats 8000000 in
theorem spaces_main (w:World) (a:Option Addr) (n c:Nat) (k:Int) (hk:I64 k) (L:List (sp.Op×Value)) (h:OpsIn w.heap.size w (.slice a n c) L) (hp:Pow w) (hm:MaxAt w) (s:List UInt8) (ht:sp.textS (L.map (·.1))=some s) (h1:s.length≤15000) (h2:L.length≤300)
  (haw:∀wx,Below w.heap.size w wx→Calls Tryz.prog 12 #[] wx fun e w'=>e=.returned (.bool true)∧Below wx.heap.size wx w') :
  Calls Tryz.prog 6 #[.slice a n c,.int .i64 k] w fun e w'=>e=.returned (.bool true)∧Below w.heap.size w w':=by
 have hn:n=L.length:=by obtain ⟨⟨_,_,e,_⟩,_⟩:=h;cases e;rfl
 subst hn
 obtain ⟨N,hN1,hN5,hNk⟩:=spaces_count hk
 have hok:∀o∈L.map (·.1),o.ok:=fun o ho=>by
  obtain ⟨p,hp,rfl⟩:=List.mem_map.1 ho
  have:=h.2.1 p hp
  exact ⟨this.fw.1,this.fw.2,this.fh.1,this.fh.2,this.bw.1,this.bw.2,this.bh.1,this.bh.2⟩
 obtain ⟨b1,b2⟩:=sp.text_read _ hok s ht
 obtain ⟨c1,c2,c3⟩:=sp.text_wide N hN1 _ hok s ht
 obtain ⟨X1,hX1⟩:∃X,X=sp.wideS N false false s:=⟨_,rfl⟩
 have HXE:=Lib.hid hX1
 rw [←hX1] at c1 c2 c3
 rw [List.length_map] at b1 c1 c3
 have hx1:X1.length≤65536:=by
  have:L.length*(12+5*(N-1))≤300*32:=Nat.mul_le_mul h2 (by omega)
  omega
 have HP1:=Lib.hid (fun W e he=>parse_back (s:=s) (W:=W) (e:=e) (by omega) (by rw [b1];omega) (b2 0) he)
 have HP2:=Lib.hid (fun W e he=>parse_back (s:=X1) (W:=W) (e:=e) hx1 (by rw [c1];omega) (c2 0) he)
 have HX1:=Lib.hid hx1
 have HX:=Lib.hid (text_any w a L.length c L h hp)
 have HT:=Lib.hid ht
 have HMX:=Lib.hid hm;have HAW:=Lib.hid haw
 have HN5:=Lib.hid hN5;have H15:=Lib.hid h1;have HL3:=Lib.hid h2
 have t1:¬(s.length:Int)>15000:=by omega
 have t2:¬(L.length:Int)>300:=by omega
 have t3:decide ((s.length:Int)>15000)=false:=by simp;omega
 have t4:decide ((L.length:Int)>300)=false:=by simp;omega
 have hsz:=bstr_size s
 have hsl:(s.length:Int)≤15000:=by omega
 clear ht h hp b1 b2 c1 c2 c3 hX1 hok haw hm hk hx1 h2 h1
 go_enter Tryz.func6,Tryz.ntmps6
 go_wp2_with (go_at_call 18;refine HX.out.mono ?_;rintro e w1 ⟨he,hb1⟩;unfold TextIs at he;rw [HT.out] at he;subst he;have HB1:=Lib.hid hb1;clear hb1)
 clear HX t1 t2 t3 t4
 simp only [hNk]
 clear hNk
 go_loopw [7,8,9] (fun x q i wr=>∃p r X,WdIs s N p r X q∧x=.string (bstr X)∧i=.int .i64 (p.length:Nat)∧wr=w1) (fun _ _ i _=>s.length-(intOf i).toNat)
 case atStart=>exact ⟨[],s,[],⟨false,rfl,WdR.start s N⟩,rfl,rfl,rfl⟩
 case round =>
  obtain ⟨p,r,X,⟨q,rfl,hw⟩,rfl,rfl,rfl⟩:=hrel
  have HW:=Lib.hid hw
  have hl1:=congrArg List.length hw.text
  rw [List.length_append] at hl1
  have hpl:(p.length:Int)≤15000:=by omega
  have hxl:X.length≤195000:=by have:=hw.len;omega
  have hbx:(bstr X).size≤195000:=by rw [bstr_size];exact hxl
  clear hw
  match r with
  | [] =>
   have t0:decide ((p.length:Int)<(s.length:Int))=false:=by simp at hl1;simp;omega
   have hnlt:¬p.length<s.length:=by simp at hl1;omega
   have hnli:¬(p.length:Int)<(s.length:Int):=by omega
   have hXX:X=X1:=by rw [HXE.out,HW.out.eq,sp.wide_nil,List.append_nil]
   subst hXX
   obtain ⟨W2,v2,hcv,hb2,hr2⟩:=conv_new wr s (by have:=H15.out;omega)
   have HB2:=Lib.hid (HB1.out.trans (hb2.mono HB1.out.size));have HR2:=Lib.hid hr2
   clear hl1 hb2 hr2
   go_wp2_with (first
    | (have hgd:=HR2;clear hgd;go_at_call 13;refine (parse_op W2 v2 s HR2.out (HMX.out.on HB2.out) (by have:=H15.out;omega)).mono ?_;rintro e w3 ⟨he,hb3⟩;obtain ⟨va,A,rfl,hA,hra⟩:=HP1.out _ _ he;have HB3:=Lib.hid (HB2.out.trans (hb3.mono HB2.out.size));have HA:=Lib.hid hA;have HRA:=Lib.hid hra;obtain ⟨W4,v4,hcv2,hb4,hr4⟩:=conv_new w3 X (by have:=HX1.out;omega);have HB4:=Lib.hid (HB3.out.trans (hb4.mono HB3.out.size));have HR4:=Lib.hid hr4;have HRA4:=Lib.hid (HRA.out.on hb4);clear he hb3 hA hra hb4 hr4 HR2)
    | (have hgd:=HR4;clear hgd;go_at_call 13;refine (parse_op W4 v4 X HR4.out (HMX.out.on HB4.out) (by have:=HX1.out;omega)).mono ?_;rintro e w5 ⟨he,hb5⟩;obtain ⟨vc,C,rfl,hC,hrc⟩:=HP2.out _ _ he;have HB5:=Lib.hid (HB4.out.trans (hb5.mono HB4.out.size));have HC:=Lib.hid hC;have HRC:=Lib.hid hrc;have HRA5:=Lib.hid (HRA4.out.on hb5);clear he hb5 hC hrc HR4)
    | (have hgd:=HRA5;clear hgd;go_at_call 15;refine (same_any _ va vc A C HRA5.out HRC.out (HA.out.trans HC.out.symm) (by have h1:=congrArg List.length HA.out;have h2:=HL3.out;simp only [List.length_map] at h1;omega)).mono ?_;rintro e w6 ⟨rfl,hb6⟩;have HB6:=Lib.hid (HB5.out.trans (hb6.mono HB5.out.size));clear hb6 HRA5)
    | (have hgd:=HB6;clear hgd;go_at_call 12;refine (HAW.out _ HB6.out).mono ?_;rintro e w7 ⟨rfl,hb7⟩;have HB7:=Lib.hid (HB6.out.trans (hb7.mono HB6.out.size));clear hb7))
   go_ret
   exact ⟨rfl,HB7.out⟩
  | c :: r =>
   have hlt:p.length<s.length:=by simp only [List.length_cons] at hl1;omega
   have t0:decide ((p.length:Int)<(s.length:Int))=true:=by simp only [decide_eq_true_eq];omega
   have ei:=bstr_mid2 HW.out.text
   have HLT:=Lib.hid hlt
   have HXL:=Lib.hid hxl
   have hex:(bstr s).extract p.length (p.length+1)=bstr [c]:=by rw [extract_bs,HW.out.text,take_one]
   have hb1:(bstr [c]).size=1:=rfl
   clear hl1 hxl
   by_cases e34:c=34
   ·subst e34
    rcases snoc p with rfl | ⟨p,d,rfl⟩
    ·have HX2:Hid (WdIs s N ([]++[34]) r (X++[34]) (.bool !q)):=Lib.hid ⟨_,rfl,HW.out.quote rfl⟩
     have ei0:∀q,(bstr s)[0]'q=34:=ei
     have hlt0:0<s.length:=hlt
     clear hex hb1 ei
     go_wp2
     exact ⟨⟨_,_,_,HX2.out,congrArg Value.string (bstr_append X [34]),by simp,trivial⟩,by have:=HLT.out;simp [intOf] at this ⊢; omega⟩
    ·have hsx:s=p++d :: (34 :: r):=by rw [HW.out.text];simp
     have ei2:=bstr_mid2 hsx
     have hpi:(p.length:Int)≤15000:=by simp at hpl;omega
     have hps:p.length<s.length:=by simp at hlt;omega
     obtain ⟨K,hK⟩:∃K,K=(p++[d]).length:=⟨_,rfl⟩
     have HT19:=Lib.hid (fun W=>slashes_any s (p++[d]) (34 :: r) W HW.out.text (by have:=H15.out;omega))
     rw [←hK] at hlt t0 ei hpl hex HLT HT19 ⊢
     have hK1:K=p.length+1:=by rw [hK];simp
     have e0:((K:Int)==0)=false:=by rw [beq_eq_false_iff_ne];omega
     have e00:¬(K:Int)=0:=by omega
     have e01:¬K=0:=by omega
     have e1:(K:Int)-1=(p.length:Int):=by omega
     have e2:(K+1:Nat)=((p++[d])++[34]).length:=by simp;omega
     have HK2:=Lib.hid e2
     obtain ⟨T,hT⟩:∃T,T=trail (p++[d]):=⟨_,rfl⟩
     rw [←hT] at HT19
     have hTl:(T:Int)≤1000000:=by have:=trail_le (p++[d]);rw [←hT,←hK] at this;omega
     by_cases hd:d=92
     ·subst hd
      rcases Nat.mod_two_eq_zero_or_one T with hm | hm
      ·have HX2:Hid (WdIs s N ((p++[92])++[34]) r (X++[34]) (.bool !q)):=Lib.hid ⟨_,rfl,HW.out.quote (by rw [←hT];exact hm)⟩
       have htm:(T:Int).tmod 2=0:=by rw [Int.tmod_eq_emod_of_nonneg (by omega)];omega
       clear hex hb1 hsx hK hK1 e2 hT hm
       go_wp2_with (go_at_call 19;refine (HT19.out _).mono ?_;rintro e w2 ⟨rfl,rfl⟩)
       exact ⟨⟨_,_,_,HX2.out,congrArg Value.string (bstr_append X [34]),by rw [←HK2.out];go_num,trivial⟩,by have:=HLT.out;simp [intOf] at this ⊢; omega⟩
      ·have HX2:Hid (WdIs s N ((p++[92])++[34]) r (X++[34]) (.bool q)):=Lib.hid ⟨_,rfl,HW.out.other (fun _=>by rw [←hT];exact hm) (by decide) (fun e=>by cases e)⟩
       have htm:(T:Int).tmod 2=1:=by rw [Int.tmod_eq_emod_of_nonneg (by omega)];omega
       clear hsx hK hK1 e2 hT hm
       go_wp2_with (go_at_call 19;refine (HT19.out _).mono ?_;rintro e w2 ⟨rfl,rfl⟩)
       exact ⟨⟨_,_,_,HX2.out,congrArg Value.string (bstr_append X [34]),by rw [←HK2.out];go_num,trivial⟩,by have:=HLT.out;simp [intOf] at this ⊢; omega⟩
     ·have td:((d.toNat:Int)==92)=false:=u8ne d 92 hd
      have td2:¬(d.toNat:Int)=92:=by simpa using td
      have td3:((d.toNat:Int) != 92)=true:=by simp [bne,td]
      have td4:¬d.toNat=92:=by omega
      have HX2:Hid (WdIs s N ((p++[d])++[34]) r (X++[34]) (.bool !q)):=Lib.hid ⟨_,rfl,HW.out.quote (by rw [trail_other p hd])⟩
      clear hex hb1 hsx hK hK1 e2 hT HT19
      go_wp2
      exact ⟨⟨_,_,_,HX2.out,congrArg Value.string (bstr_append X [34]),by rw [←HK2.out];go_num,trivial⟩,by have:=HLT.out;simp [intOf] at this ⊢; omega⟩
   ·have t34:((c.toNat:Int)==34)=false:=u8ne c 34 e34
    have HK2:Hid (p.length+1=(p++[c]).length):=Lib.hid (by simp)
    by_cases e10:c=10
    ·subst e10
     have HX2:Hid (WdIs s N (p++[10]) r (X++sp.sepS) (.bool q)):=Lib.hid ⟨_,rfl,HW.out.nl⟩
     clear hex hb1
     go_wp2
     exact ⟨⟨_,_,_,HX2.out,congrArg Value.string (bstr_append X sp.sepS),by rw [←HK2.out];go_num,trivial⟩,by have:=HLT.out;simp [intOf] at this ⊢; omega⟩
    ·have t10:((c.toNat:Int)==10)=false:=u8ne c 10 e10
     by_cases e32:c=32∧q=false
     ·obtain ⟨rfl,rfl⟩:=e32
      have HX2:Hid (WdIs s N (p++[32]) r (X++List.replicate N 32) (.bool false)):=Lib.hid ⟨_,rfl,HW.out.space HN5.out⟩
      clear hex hb1 hbx
      go_wp2
      go_loopw [7,96] (fun x j wr2=>∃m:Nat,m≤N∧j=.int .i64 m∧x=.string (bstr (X++List.replicate m 32))∧wr2=wr) (fun _ j _=>N-(intOf j).toNat)
      case atStart=>exact ⟨0,Nat.zero_le _,rfl,by simp,rfl⟩
      case round =>
       obtain ⟨m,hmN,rfl,rfl,rfl⟩:=hrel
       have hm5:(m:Int)≤5:=by have:=HN5.out;omega
       have hbx:(bstr (X++List.replicate m 32)).size≤195005:=by rw [bstr_size];simp;have:=HXL.out;omega
       by_cases hml:m<N
       ·have q0:decide ((m:Int)<(N:Int))=true:=by simp;omega
        have HR:Hid (bstr (X++List.replicate m 32)++bstr [32]=bstr (X++List.replicate (m+1) 32)):=Lib.hid (by rw [bstr_append,List.append_assoc,List.replicate_succ'])
        go_wp2
        exact ⟨⟨m+1,by omega,by go_num,congrArg Value.string HR.out,trivial⟩,by simp [intOf];omega⟩
       ·have q0:decide ((m:Int)<(N:Int))=false:=by simp;omega
        have hme:m=N:=by omega
        subst hme
        go_wp2
        exact ⟨⟨_,_,_,HX2.out,rfl,by rw [←HK2.out];go_num,trivial⟩,by have:=HLT.out;simp [intOf] at this ⊢; omega⟩
     ·have HX2:Hid (WdIs s N (p++[c]) r (X++[c]) (.bool q)):=Lib.hid ⟨_,rfl,HW.out.other (fun e=>absurd e e34) e10 (fun e=>by cases q with | true=>rfl | false=>exact absurd ⟨e,rfl⟩ e32)⟩
      by_cases e3:c=32
      ·subst e3
       have hq:q=true:=by cases q with | true=>rfl | false=>exact absurd ⟨rfl,rfl⟩ e32
       subst hq
       go_wp2
       exact ⟨⟨_,_,_,HX2.out,congrArg Value.string (bstr_append X [32]),by rw [←HK2.out];go_num,trivial⟩,by have:=HLT.out;simp [intOf] at this ⊢; omega⟩
      ·have t32:((c.toNat:Int)==32)=false:=u8ne c 32 e3
       clear e32
       go_wp2
       exact ⟨⟨_,_,_,HX2.out,congrArg Value.string (bstr_append X [c]),by rw [←HK2.out];go_num,trivial⟩,by have:=HLT.out;simp [intOf] at this ⊢; omega⟩
set_option maxRecDepth 100000 in
set_option maxHeartbeats 4000000 in
theorem spaces_none (w:World) (a:Option Addr) (c:Nat) (k:Int) (L:List (sp.Op×Value)) (h:OpsIn w.heap.size w (.slice a L.length c) L) (hp:Pow w) (ht:sp.textS (L.map (·.1))=none)
  (haw:∀wx,Below w.heap.size w wx→Calls Tryz.prog 12 #[] wx fun e w'=>e=.returned (.bool true)∧Below wx.heap.size wx w') :
  Calls Tryz.prog 6 #[.slice a L.length c,.int .i64 k] w fun e w'=>e=.returned (.bool true)∧Below w.heap.size w w':=by
 have HX:=Lib.hid (text_any w a L.length c L h hp)
 have HT:=Lib.hid ht;have HAW:=Lib.hid haw
 clear ht h hp haw
 go_enter Tryz.func6,Tryz.ntmps6
 go_wp2_with (first
  | (have hgd:=HX;clear hgd;go_at_call 18;refine HX.out.mono ?_;rintro e w1 ⟨he,hb1⟩;unfold TextIs at he;rw [HT.out] at he;subst he;have HB1:=Lib.hid hb1;clear hb1 HX)
  | (have hgd:=HB1;clear hgd;go_at_call 12;refine (HAW.out _ HB1.out).mono ?_;rintro e w2 ⟨rfl,hb2⟩;have HB2:=Lib.hid (HB1.out.trans (hb2.mono HB1.out.size));clear hb2))
 go_ret
 exact ⟨rfl,HB2.out⟩
set_option maxRecDepth 100000 in
set_option maxHeartbeats 4000000 in
theorem spaces_long (w:World) (a:Option Addr) (c:Nat) (k:Int) (L:List (sp.Op×Value)) (h:OpsIn w.heap.size w (.slice a L.length c) L) (hp:Pow w) (s:List UInt8) (ht:sp.textS (L.map (·.1))=some s) (h1:15000<s.length)
  (haw:∀wx,Below w.heap.size w wx→Calls Tryz.prog 12 #[] wx fun e w'=>e=.returned (.bool true)∧Below wx.heap.size wx w') :
  Calls Tryz.prog 6 #[.slice a L.length c,.int .i64 k] w fun e w'=>e=.returned (.bool true)∧Below w.heap.size w w':=by
 have HX:=Lib.hid (text_any w a L.length c L h hp)
 have HT:=Lib.hid ht;have HAW:=Lib.hid haw
 have t1:(s.length:Int)>15000:=by omega
 have t3:decide ((s.length:Int)>15000)=true:=by simp;omega
 have hsz:=bstr_size s
 clear h1
 clear ht h hp haw
 go_enter Tryz.func6,Tryz.ntmps6
 go_wp2_with (first
  | (have hgd:=HX;clear hgd;go_at_call 18;refine HX.out.mono ?_;rintro e w1 ⟨he,hb1⟩;unfold TextIs at he;rw [HT.out] at he;subst he;have HB1:=Lib.hid hb1;clear hb1 HX)
  | (have hgd:=HB1;clear hgd;go_at_call 12;refine (HAW.out _ HB1.out).mono ?_;rintro e w2 ⟨rfl,hb2⟩;have HB2:=Lib.hid (HB1.out.trans (hb2.mono HB1.out.size));clear hb2))
 go_ret
 exact ⟨rfl,HB2.out⟩
set_option maxRecDepth 100000 in
set_option maxHeartbeats 4000000 in
theorem spaces_many (w:World) (a:Option Addr) (c:Nat) (k:Int) (L:List (sp.Op×Value)) (h:OpsIn w.heap.size w (.slice a L.length c) L) (hp:Pow w) (s:List UInt8) (ht:sp.textS (L.map (·.1))=some s) (h1:s.length≤15000) (h2:300<L.length)
  (haw:∀wx,Below w.heap.size w wx→Calls Tryz.prog 12 #[] wx fun e w'=>e=.returned (.bool true)∧Below wx.heap.size wx w') :
  Calls Tryz.prog 6 #[.slice a L.length c,.int .i64 k] w fun e w'=>e=.returned (.bool true)∧Below w.heap.size w w':=by
 have HX:=Lib.hid (text_any w a L.length c L h hp)
 have HT:=Lib.hid ht;have HAW:=Lib.hid haw
 have t1:¬(s.length:Int)>15000:=by omega
 have t3:decide ((s.length:Int)>15000)=false:=by simp;omega
 have t2:(L.length:Int)>300:=by omega
 have t4:decide ((L.length:Int)>300)=true:=by simp;omega
 have hsz:=bstr_size s
 clear h1 h2
 clear ht h hp haw
 go_enter Tryz.func6,Tryz.ntmps6
 go_wp2_with (first
  | (have hgd:=HX;clear hgd;go_at_call 18;refine HX.out.mono ?_;rintro e w1 ⟨he,hb1⟩;unfold TextIs at he;rw [HT.out] at he;subst he;have HB1:=Lib.hid hb1;clear hb1 HX)
  | (have hgd:=HB1;clear hgd;go_at_call 12;refine (HAW.out _ HB1.out).mono ?_;rintro e w2 ⟨rfl,hb2⟩;have HB2:=Lib.hid (HB1.out.trans (hb2.mono HB1.out.size));clear hb2))
 go_ret
 exact ⟨rfl,HB2.out⟩
theorem scriptSpaces_any (w:World) (a:Option Addr) (n c:Nat) (k:Int) (hk:I64 k) (L:List (sp.Op×Value)) (h:OpsIn w.heap.size w (.slice a n c) L) (hp:Pow w) (hm:MaxAt w)
  (haw:∀wx,Below w.heap.size w wx→Calls Tryz.prog 12 #[] wx fun e w'=>e=.returned (.bool true)∧Below wx.heap.size wx w') :
  Calls Tryz.prog 6 #[.slice a n c,.int .i64 k] w fun e w'=>e=.returned (.bool true)∧Below w.heap.size w w':=by
 have hn:n=L.length:=by obtain ⟨⟨_,_,e,_⟩,_⟩:=h;cases e;rfl
 cases ht:sp.textS (L.map (·.1)) with
 | none=>subst hn;exact spaces_none w a c k L h hp ht haw
 | some s =>
  by_cases h1:s.length≤15000
  ·by_cases h2:L.length≤300
   ·exact spaces_main w a n c k hk L h hp hm s ht h1 h2 haw
   ·subst hn;exact spaces_many w a c k L h hp s ht h1 (by omega) haw
  ·subst hn;exact spaces_long w a c k L h hp s ht (by omega) haw
end Go.Proofs.YtihlneenajlhoaaGreatDoor
