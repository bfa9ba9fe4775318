/-
 jalousie script.Line: a line of words. Condition: lengths that fit.
-/
import Derived.Test.YtihlneenajlhoaaGreatDoorS5
import Derived.Deep.RegionHeld
import Derived.Test.YtihlneenajlhoaaGreatDoorS2
import Derived.OrdersHeld
set_option linter.unusedSimpArgs false
set_option linter.unusedVariables false
namespace Go.Proofs.YtihlneenajlhoaaGreatDoor
open Go Go.RowKit
structure LW (w:World) (g:Nat) (l:List (List UInt8×Bool)) (W:World):Prop where
 res:Res w.heap.size (w.heap.size+1) (w.heap.size+2) (Ap 0) false 0 W
 row:∃cur,W.heap[g]?=some (.cells cur 71 (0,0))∧cur.toList.take (l.length*2)=Dc l
 far:w.heap.size+2<g
 bel:Below w.heap.size w W
theorem LW.on {w W W':World} {g:Nat} {l:List (List UInt8×Bool)} (h:LW w g l W) (hb:Below W.heap.size W W'):LW w g l W':=by
 obtain ⟨cur,h1,h2⟩:=h.row
 have:=lt_of_block h.res.op
 exact ⟨h.res.on hb,⟨cur,(hb.block _ (lt_of_block h1)).trans h1,h2⟩,h.far,h.bel.trans (hb.mono (by omega))⟩
theorem LW.cell {w W:World} {g:Nat} {l:List (List UInt8×Bool)} (h:LW w g l W) {j:Nat} {u:Value} (hj:(Dc l)[j]?=some u):W.cell? ⟨g,j,none⟩=some u:=by
 obtain ⟨cur,h1,h2⟩:=h.row
 rw [cell_of_row W g j cur 71 (0,0) h1]
 have h3:=hj
 rw [←h2,List.getElem?_take] at h3
 split at h3
 ·simpa using h3
 ·cases h3
theorem Qr {w w2:World} {o:Obj} {v:Value} {l:List (List UInt8×Bool)} (hf:Fr ((Dv w).alloc o) w2 (Dv w).heap.size none) (hown:w2.ownsRow ((Dv w).alloc o).heap.size 71 2 v l.length (Dc l)) (h0:l≠[]) :
  ∃g cap,v=.slice (some ⟨g,0,none⟩) l.length cap∧l.length≤cap∧cap≤maxLen∧LW w g l w2:=by
 have hA:=ZL hf
 obtain ⟨_,_,hsz⟩:=JF w
 rcases hown.2 with ⟨_,hz⟩ | ⟨g,cap,cur,hv,hbg,hg,hnc,hcm,hcs,htake⟩
 ·exact absurd (List.length_eq_zero_iff.1 hz) h0
 ·refine ⟨g,cap,hv,hnc,hcm,hA.1,⟨cur,hg,htake⟩,?_,hA.2⟩
  simp at hbg
  omega
def AAW (N:Act→World→Prop) (PS:List PanicEntry→Act→World→Prop):Exit→Act→World→Prop
 | .normal,a,w=>N a w
 | .panic c,a,w=>PS c a w
 | _,_,_=>False
theorem wp_cut {P:Program} {c:Code} {Q:Exit→Act→World→Prop} {a:Act} {w:World} (N:Act→World→Prop) (PS:List PanicEntry→Act→World→Prop) (hp:∀c a W,PS c a W→Q (.panic c) a W) (h:c.wp P (AAW N PS) a w) (hn:∀a W,N a W→Q .normal a W):c.wp P Q a w :=
 wp_mono h fun e a W hX=>by
  cases e with
  | panic c=>exact hp c a W hX
  | normal=>exact hn a W hX
  | ret=>exact (hX:False).elim
  | exit _=>exact (hX:False).elim
  | goto _=>exact (hX:False).elim
  | outgrown=>exact (hX:False).elim
theorem LW.pan {w W:World} {g:Nat} {l:List (List UInt8×Bool)} {a:Act} (h:LW w g l W) (hd:a.defers=Ox w.heap.size) (hs:Qp w.heap.size a.tmps):G6 w.heap.size w bar a W:=⟨rfl,hd,hs,⟨_,_,_,rfl,h.res⟩,h.bel⟩
def zr:Array Value:=#[.int .i64 0,.int .i64 0,.nilFunc]
section
variable {P:Program} {md:Region.Mode} {ops:Array Oper} {Q:Exit→Act→World→Prop} {S:World→Prop}
theorem tw {oi:Oper} {fuel:Nat} {listed:Array Bool} {a:Act} {w:World} (i:Nat) (v:Value) (hS:S w)
  (h:wpAnyH P md ops Q S fuel (listed.setIfInBounds i true) (a.put oi.dst v) w) (hi:ops[i]?=some oi:=by rfl) (hy:∀s,S s→(execOp a.eval oi).run P s=.ok (.value v) s:=by (intro s hs;go_simp)) (h1:Region.noSelect ops=true:=by kernel_rfl) (h2:Region.free md ops listed i=true:=by kernel_rfl) (h3:(Region.ready md ops listed).contains i=true:=by kernel_rfl)
  (h4:Region.wanted oi (yielded ops a.tmps)=true:=by kernel_rfl) (hQ:∀c a w,Q (.panic c) (a.put oi.dst v) w→Q (.panic c) a w:=by (intro _ _ _ h;exact h.Hy (by decide))):wpAnyH P md ops Q S (fuel+1) listed a w :=
 wpAnyH_take hi h1 h2 h3 hQ (Or.inl ⟨h4,hy⟩) hS h
end
def NE (n g cap m lz:Nat) (s:List UInt8) (p:List UInt8×Bool) (rv:Value) (okb:Bool) (R M:Nat):Act :=
 ⟨#[.string (AA s),undef,.pointer (some ⟨n,0,none⟩),.pointer (some ⟨n+1,0,none⟩),.pointer (some ⟨n+1+1,0,none⟩),.slice (some ⟨g,0,none⟩) m cap,.pointer (some ⟨R,0,none⟩),.bool okb,
  .func (.func 22) #[] #[.pointer (some ⟨n,0,none⟩),.pointer (some ⟨n+1,0,none⟩),.pointer (some ⟨n+1+1,0,none⟩)],.string (AA s),.bool false,.bool true,.tuple #[],.string (AA s),.bool false,undef,.string (AA s),.agg #[.string (AA s),.int .i64 0],
  .pointer (some ⟨lz,0,none⟩),.slice (some ⟨g,0,none⟩) m cap,.tuple #[rv,.bool okb],.map (some M),.slice (some ⟨g,0,none⟩) m cap,.pointer (some ⟨g,0,none⟩),.agg #[.string (AA p.1),.bool p.2],.string (AA p.1),.tuple #[rv,.bool okb],rv,.bool okb,
  undef,undef,undef,undef,undef,undef,undef,undef,undef,undef,undef,undef,undef,undef,undef,undef,undef,undef,undef],Ox n⟩
theorem ZM {name:List UInt8} {r:Rw} (hr:(name,r)∈Ce):0≤r.n∧r.n≤5:=by
 have:∀p∈Ce,0≤p.2.n∧p.2.n≤5:=by decide
 exact this _ hr
theorem LW.put {w W:World} {g R:Nat} {l:List (List UInt8×Bool)} (h:LW w g l W) (hR:W.heap[R]?=some (.cells zr 65 (0,0))) (hn:w.heap.size+2<R) (a b c:Value):LW w g l (((W.setCell ⟨R,0,none⟩ a).setCell ⟨R,1,none⟩ b).setCell ⟨R,2,none⟩ c)∧(((W.setCell ⟨R,0,none⟩ a).setCell ⟨R,1,none⟩ b).setCell ⟨R,2,none⟩ c).heap[R]?=some (.cells #[a,b,c] 65 (0,0)):=by
 obtain ⟨cur,h1,h2⟩:=h.row
 have hgR:R≠g:=fun e=>by rw [e,h1] at hR;cases hR
 refine ⟨⟨⟨?_,?_,?_⟩,⟨cur,?_,h2⟩,h.far,?_⟩,?_⟩
 ·rw [Eu (by omega),Eu (by omega),Eu (by omega)];exact h.res.op
 ·rw [Eu (by omega),Eu (by omega),Eu (by omega)];exact h.res.says
 ·rw [Eu (by omega),Eu (by omega),Eu (by omega)];exact h.res.err
 ·rw [Eu hgR,Eu hgR,Eu hgR];exact h1
 ·exact ((h.bel.setCell (show w.heap.size≤R by omega) _).setCell (show w.heap.size≤R by omega) _).setCell (show w.heap.size≤R by omega) _
 ·have:=D9 (D9 (D9 hR 0 a) 1 b) 2 c
  simpa [zr] using this
set_option maxRecDepth 100000 in
set_option maxHeartbeats 8000000 in
theorem AAX (s:List UInt8) (w:World) (h:10∉s) (h2:sp.Dx s=false) (p:List UInt8×Bool) (l:List (List UInt8×Bool)) (hp:p.2=true) (hw:sp.words s=some (p :: l)) (hn:s.length≤1099511627776):Calls Tryz.prog 9 #[.string (AA s)] w fun e w'=>Es w.heap.size s w' e∧Below w.heap.size w w':=by
 have LC:=Lib.hid (fun W=>IU (B:=w.heap.size) (s:=s) (by rw [KQ h h2,hw];obtain ⟨a,b⟩:=p;simp only at hp;subst hp;rfl) W)
 have HPX:Hid (sp.A7 p=none):=Lib.hid (by unfold sp.A7;rw [if_pos hp])
 clear hp
 have hmf:∀(fn:Fn) (first cap:Array Value) (w:World),(Instr.makeFunc fn first cap).run Tryz.prog w=.ok (.func fn first cap) w:=fun _ _ _ _=>rfl
 obtain ⟨hr,hb,hsz⟩:=JF w
 have HC:=Lib.hid (fun W=>Kw s W)
 rw [show decide (10∈s)=false by simpa using h] at HC
 have HS:=Lib.hid (fun W=>MW s W)
 rw [h2] at HS
 have HL:=Lib.hid (Oy (Dv w) s)
 have HP:=Lib.hid (fun W=>Gz p W)
 have HW:=Lib.hid hw;have HN:=Lib.hid hn;have HSZ:=Lib.hid hsz
 clear hr hb h h2 hw hn hsz
 go_enter_defers Tryz.func9,Tryz.ntmps9
 go_wp2_with (first
  | (go_at_call 24;refine (HC.out _).mono ?_;rintro e w1 ⟨rfl,rfl⟩)
  | (go_at_call 23;refine (FP _).mono ?_;rintro e w1 ⟨rfl,rfl⟩)
  | (go_at_call 25;refine (HS.out _).mono ?_;rintro e w1 ⟨rfl,rfl⟩;rw [start_eq])
  | (go_at_call 26;refine (Ou _ (Dv w).heap.size (AA s) s HL.out (by rw [Aa];exact HN.out)).mono ?_;rintro e w2 ⟨he,hf⟩;unfold Ib at he;rw [HW.out] at he;obtain ⟨v,rfl,hown⟩:=he;obtain ⟨g,cap,rfl,hc1,hc2,hlw⟩:=Qr hf hown (by simp);have H0:=Lib.hid hlw;have HC1:=Lib.hid hc1;have HC2:=Lib.hid hc2;clear hf hown hlw hc1 hc2))
 refine wp_cut (fun _ _=>False) (G6 w.heap.size w) ?_ ?_ ?_
 ·rintro c a W h
  obtain ⟨cs,sy,er,q1,q2⟩:=h.res
  rw [h.bar]
  show Leaves Tryz.prog Tryz.f9 a.tmps _ a.defers (.panicking bar) W
  rw [h.defers]
  exact Jg q2 q1 h.slots fun W' hW=>⟨LC.out _,h.bel.trans hW⟩
 ·have H0:=Lib.hid (H0.out.on (Below.refl _ _).drew)
  refine wp_region_held_drew (S:=fun W=>LW w g (p :: l) W) (by kernel_rfl) H0.out (fun hHeld => ?_)
  refine tw 1 (.slice (some ⟨g,0,none⟩) (l.length+1) cap) hHeld ?_
  refine tk 2 (.pointer (some ⟨g,0,none⟩)) rfl hHeld (fun s hs=>by go_simp<;>omega) ?_ (hQ:=fun _ _ _ h=>h.Hy (by decide))
  refine tk 3 (.agg #[.string (AA p.1),.bool p.2]) rfl hHeld (fun s hs=>by have e0:s.cell? ⟨g,0,none⟩=some (.string (AA p.1)):=LW.cell hs rfl;have e1:s.cell? ⟨g,1,none⟩=some (.bool p.2):=LW.cell hs rfl;go_simp) ?_ (hQ:=fun _ _ _ h=>h.Hy (by decide))
  generalize w2.drew=u0 at *
  refine wpAnyH_ready (rs:=[0,9]) (by kernel_rfl) (by simp) ?_
  refine AllReadyH.cons rfl (fun K hK => ?_) (AllReadyH.cons rfl (fun K hK => ?_) AllReadyH.nil)
  ·rw [if_pos (by kernel_rfl)]
   go_simp
   refine (JA _).mono ?_
   rintro e u1 ⟨rfl,hm,hb⟩
   obtain ⟨M,hM⟩:∃M,M=u0.heap.size:=⟨_,rfl⟩
   rw [←hM] at hm ⊢
   have H1:=Lib.hid (H0.out.on hb)
   have HM1:=Lib.hid hm
   clear hm hb hM
   refine hK.out _ _ H1.out (fun hHeld => ?_)
   clear hK
   refine wpAnyH_ready (rs:=[4,9]) (by kernel_rfl) (by simp) ?_
   refine AllReadyH.cons rfl (fun K hK => ?_) (AllReadyH.cons rfl (fun K hK => ?_) AllReadyH.nil)
   ·rw [if_pos (by kernel_rfl)]
    go_simp
    refine (HP.out _).mono ?_
    rintro e u2 ⟨he,hb⟩
    unfold ED at he
    rw [HPX.out] at he
    subst he
    have H2:=Lib.hid (H1.out.on hb)
    exact H2.out.pan rfl ⟨rfl,rfl,rfl⟩
   ·rw [if_pos (by kernel_rfl)]
    go_simp
    have H2:=Lib.hid (H1.out.on (AZ _ (.cells zr 65)))
    obtain ⟨R,hR⟩:∃R,R=u1.heap.size:=⟨_,rfl⟩
    have HR2:=Lib.hid (AX u1 (.cells zr 65))
    have HRN:=Lib.hid (show w.heap.size+2<R by have:=lt_of_block H1.out.row.choose_spec.1;have:=H1.out.far;omega)
    have HM2:=Lib.hid (HM1.out.below (AZ _ (.cells zr 65)) HM1.out.lt)
    rw [←hR] at HR2 ⊢
    clear hR
    change K _ (u1.alloc (.cells zr 65))
    generalize u1.alloc (.cells zr 65)=u2 at H2 HR2 HM2 ⊢
    refine hK.out _ _ H2.out (fun hHeld => ?_)
    clear hK
    refine AY 4 rfl fun K hK => ?_
    go_simp
    refine (HP.out _).mono ?_
    rintro e u3 ⟨he,hb⟩
    unfold ED at he
    rw [HPX.out] at he
    subst he
    have H3:=Lib.hid (H2.out.on hb)
    exact H3.out.pan rfl ⟨rfl,rfl,rfl⟩
  ·rw [if_pos (by kernel_rfl)]
   go_simp
   have H1:=Lib.hid (H0.out.on (AZ _ (.cells zr 65)))
   obtain ⟨R,hR⟩:∃R,R=u0.heap.size:=⟨_,rfl⟩
   have HR1:=Lib.hid (AX u0 (.cells zr 65))
   have HRN:=Lib.hid (show w.heap.size+2<R by have:=lt_of_block H0.out.row.choose_spec.1;have:=H0.out.far;omega)
   rw [←hR] at HR1 ⊢
   clear hR
   change K _ (u0.alloc (.cells zr 65))
   generalize u0.alloc (.cells zr 65)=u1 at H1 HR1 ⊢
   refine hK.out _ _ H1.out (fun hHeld => ?_)
   clear hK
   refine AY 0 rfl fun K hK => ?_
   go_simp
   refine (JA _).mono ?_
   rintro e u2 ⟨rfl,hm,hb⟩
   obtain ⟨M,hM⟩:∃M,M=u1.heap.size:=⟨_,rfl⟩
   rw [←hM] at hm ⊢
   have H2:=Lib.hid (H1.out.on hb)
   have HM2:=Lib.hid hm
   have HR2:=Lib.hid ((hb.block _ (lt_of_block HR1.out)).trans HR1.out)
   clear hm hb hM
   refine hK.out _ _ H2.out (fun hHeld => ?_)
   clear hK
   refine AY 4 rfl fun K hK => ?_
   go_simp
   refine (HP.out _).mono ?_
   rintro e u3 ⟨he,hb⟩
   unfold ED at he
   rw [HPX.out] at he
   subst he
   have H3:=Lib.hid (H2.out.on hb)
   exact H3.out.pan rfl ⟨rfl,rfl,rfl⟩
 ·intro a W h
  exact h.elim
theorem ZN:Tryz.prog.elem 58=71:=by kernel_rfl
theorem sizeOf71 (W:World):(sizeOf 71).run Tryz.prog W=.ok 2 W:=by kernel_rfl
theorem AAY (W:World) (g m cap:Nat) (h1:m+1≤cap) (h2:cap≤maxLen):(Instr.sliceAt 58 (.slice (some ⟨g,0,none⟩) (m+1) cap) (some (.int .i64 1)) none none).run Tryz.prog W=.ok (.slice (some (if cap=1 then ⟨g,0,none⟩ else ⟨g,2,none⟩)) m (cap-1)) W:=by
 have hu:Tryz.prog.underlying 58=some (.slice (Tryz.prog.elem 58)):=by rw [ZN];exact Tryz.underlying58
 rw [run_sliceAt_slice W 58 _ _ _ _ hu,run_slice_l W 58 (some ⟨g,0,none⟩) (m+1) cap hu .i64 1 (by omega) (by omega),ZN,sizeOf71]
 simp only [Result.andThen,sliced]
 by_cases hc:cap=1
 ·subst hc
  simp
 ·simp [hc,Addr.add]
set_option maxRecDepth 100000 in
theorem AAZ {name:List UInt8} {r:Rw} (hr:(name,r)∈Ce) (args:Array Value) (W:World):(callFunc r.g args).run Tryz.prog W=.ok (.enter r.g args) W:=by
 simp only [Ce,List.mem_cons,List.not_mem_nil,or_false,Prod.mk.injEq] at hr
 rcases hr with ⟨_,rfl⟩ | ⟨_,rfl⟩ | ⟨_,rfl⟩ | ⟨_,rfl⟩ | ⟨_,rfl⟩ | ⟨_,rfl⟩ | ⟨_,rfl⟩ | ⟨_,rfl⟩ | ⟨_,rfl⟩ | ⟨_,rfl⟩ | ⟨_,rfl⟩ | ⟨_,rfl⟩ | ⟨_,rfl⟩ | ⟨_,rfl⟩ | ⟨_,rfl⟩
 all_goals first | exact enters_of Tryz.func49 (by kernel_rfl) rfl args W | exact enters_of Tryz.func51 (by kernel_rfl) rfl args W | exact enters_of Tryz.func52 (by kernel_rfl) rfl args W | exact enters_of Tryz.func54 (by kernel_rfl) rfl args W | exact enters_of Tryz.func56 (by kernel_rfl) rfl args W | exact enters_of Tryz.func57 (by kernel_rfl) rfl args W | exact enters_of Tryz.func58 (by kernel_rfl) rfl args W | exact enters_of Tryz.func59 (by kernel_rfl) rfl args W | exact enters_of Tryz.func60 (by kernel_rfl) rfl args W | exact enters_of Tryz.func61 (by kernel_rfl) rfl args W | exact enters_of Tryz.func62 (by kernel_rfl) rfl args W
set_option maxRecDepth 100000 in
set_option maxHeartbeats 8000000 in
theorem AAa (s:List UInt8) (w:World) (h:10∉s) (h2:sp.Dx s=false) (p:List UInt8×Bool) (l:List (List UInt8×Bool)) (hp:p.2=false) (hq:p.1∉Ce.map (·.1)) (hw:sp.words s=some (p :: l)) (hn:s.length≤1099511627776):Calls Tryz.prog 9 #[.string (AA s)] w fun e w'=>Es w.heap.size s w' e∧Below w.heap.size w w':=by
 have LC:=Lib.hid (fun W=>IU (B:=w.heap.size) (s:=s) (by rw [KQ h h2,hw];obtain ⟨a,b⟩:=p;simp only at hp;subst hp;show (sp.Ai a l).map some=none;rw [AAI hq];rfl) W)
 have HPX:Hid (sp.A7 p=some p.1):=Lib.hid (by unfold sp.A7;rw [if_neg (by rw [hp];decide)])
 have hpl:p.1.length≤maxLen:=by
  have:=(QZ _ s (Nat.le_refl _) _ hw).1 p List.mem_cons_self
  unfold maxLen
  omega
 obtain ⟨K0,e0⟩:∃v:Int,v=0:=⟨_,rfl⟩
 obtain ⟨N0,e1⟩:∃v:Int,v=0:=⟨_,rfl⟩
 obtain ⟨okb,e3⟩:∃v,v=false:=⟨_,rfl⟩
 have HLK:Hid (∀W M,DK W M Ce→(Instr.lookup 67 (.map (some M)) (.string (AA p.1)) true).run Tryz.prog W=.ok (.tuple #[.agg #[.int .i64 K0,.int .i64 N0,.nilFunc],.bool okb]) W):=Lib.hid (fun W M hm=>by rw [e0,e1,e3];exact hm.AAF hpl hq)
 have E3:=Lib.hid e3
 clear hp hq hpl e0 e1 e3
 have hmf:∀(fn:Fn) (first cap:Array Value) (w:World),(Instr.makeFunc fn first cap).run Tryz.prog w=.ok (.func fn first cap) w:=fun _ _ _ _=>rfl
 obtain ⟨hr,hb,hsz⟩:=JF w
 have HC:=Lib.hid (fun W=>Kw s W)
 rw [show decide (10∈s)=false by simpa using h] at HC
 have HS:=Lib.hid (fun W=>MW s W)
 rw [h2] at HS
 have HL:=Lib.hid (Oy (Dv w) s)
 have HP:=Lib.hid (fun W=>Gz p W)
 have HW:=Lib.hid hw;have HN:=Lib.hid hn;have HSZ:=Lib.hid hsz
 clear hr hb h h2 hw hn hsz
 go_enter_defers Tryz.func9,Tryz.ntmps9
 go_wp2_with (first
  | (go_at_call 24;refine (HC.out _).mono ?_;rintro e w1 ⟨rfl,rfl⟩)
  | (go_at_call 23;refine (FP _).mono ?_;rintro e w1 ⟨rfl,rfl⟩)
  | (go_at_call 25;refine (HS.out _).mono ?_;rintro e w1 ⟨rfl,rfl⟩;rw [start_eq])
  | (go_at_call 26;refine (Ou _ (Dv w).heap.size (AA s) s HL.out (by rw [Aa];exact HN.out)).mono ?_;rintro e w2 ⟨he,hf⟩;unfold Ib at he;rw [HW.out] at he;obtain ⟨v,rfl,hown⟩:=he;obtain ⟨g,cap,rfl,hc1,hc2,hlw⟩:=Qr hf hown (by simp);have H0:=Lib.hid hlw;have HC1:=Lib.hid hc1;have HC2:=Lib.hid hc2;clear hf hown hlw hc1 hc2))
 refine wp_cut (fun a W=>∃R M,a=NE w.heap.size g cap (l.length+1) (Dv w).heap.size s p (.agg #[(.int .i64 K0),(.int .i64 N0),(.nilFunc)]) okb R M∧W.heap[R]?=some (.cells #[(.int .i64 K0),(.int .i64 N0),(.nilFunc)] 65 (0,0))∧LW w g (p :: l) W∧w.heap.size+2<R) (G6 w.heap.size w) ?_ ?_ ?_
 ·rintro c a W h
  obtain ⟨cs,sy,er,q1,q2⟩:=h.res
  rw [h.bar]
  show Leaves Tryz.prog Tryz.f9 a.tmps _ a.defers (.panicking bar) W
  rw [h.defers]
  exact Jg q2 q1 h.slots fun W' hW=>⟨LC.out _,h.bel.trans hW⟩
 ·have H0:=Lib.hid (H0.out.on (Below.refl _ _).drew)
  refine wp_region_held_drew (S:=fun W=>LW w g (p :: l) W) (by kernel_rfl) H0.out (fun hHeld => ?_)
  refine tw 1 (.slice (some ⟨g,0,none⟩) (l.length+1) cap) hHeld ?_
  refine tk 2 (.pointer (some ⟨g,0,none⟩)) rfl hHeld (fun s hs=>by go_simp<;>omega) ?_ (hQ:=fun _ _ _ h=>h.Hy (by decide))
  refine tk 3 (.agg #[.string (AA p.1),.bool p.2]) rfl hHeld (fun s hs=>by have e0:s.cell? ⟨g,0,none⟩=some (.string (AA p.1)):=LW.cell hs rfl;have e1:s.cell? ⟨g,1,none⟩=some (.bool p.2):=LW.cell hs rfl;go_simp) ?_ (hQ:=fun _ _ _ h=>h.Hy (by decide))
  generalize w2.drew=u0 at *
  refine wpAnyH_ready (rs:=[0,9]) (by kernel_rfl) (by simp) ?_
  refine AllReadyH.cons rfl (fun K hK => ?_) (AllReadyH.cons rfl (fun K hK => ?_) AllReadyH.nil)
  ·rw [if_pos (by kernel_rfl)]
   go_simp
   refine (JA _).mono ?_
   rintro e u1 ⟨rfl,hm,hb⟩
   obtain ⟨M,hM⟩:∃M,M=u0.heap.size:=⟨_,rfl⟩
   rw [←hM] at hm ⊢
   have H1:=Lib.hid (H0.out.on hb)
   have HM1:=Lib.hid hm
   clear hm hb hM
   refine hK.out _ _ H1.out (fun hHeld => ?_)
   clear hK
   refine wpAnyH_ready (rs:=[4,9]) (by kernel_rfl) (by simp) ?_
   refine AllReadyH.cons rfl (fun K hK => ?_) (AllReadyH.cons rfl (fun K hK => ?_) AllReadyH.nil)
   ·rw [if_pos (by kernel_rfl)]
    go_simp
    refine (HP.out _).mono ?_
    rintro e u2 ⟨he,hb⟩
    unfold ED at he
    rw [HPX.out] at he
    subst he
    have H2:=Lib.hid (H1.out.on hb)
    have HM2:=Lib.hid (HM1.out.below hb HM1.out.lt)
    clear hb
    refine hK.out _ _ H2.out (fun hHeld => ?_)
    clear hK
    refine wpAnyH_ready (rs:=[5,9]) (by kernel_rfl) (by simp) ?_
    refine AllReadyH.cons rfl (fun K hK => ?_) (AllReadyH.cons rfl (fun K hK => ?_) AllReadyH.nil)
    ·rw [if_pos (by kernel_rfl)]
     have hlk:=HLK.out _ _ HM2.out
     go_simp
     clear hlk
     refine hK.out _ _ H2.out (fun hHeld => ?_)
     clear hK
     refine tw 6 (.tuple #[.agg #[(.int .i64 K0),(.int .i64 N0),(.nilFunc)],.bool okb]) hHeld ?_
     refine tw 7 (.agg #[(.int .i64 K0),(.int .i64 N0),(.nilFunc)]) hHeld ?_
     refine tw 8 (.bool okb) hHeld ?_
     refine AY 9 rfl fun K hK => ?_
     go_simp
     have H3:=Lib.hid (H2.out.on (AZ _ (.cells zr 65)))
     obtain ⟨R,hR⟩:∃R,R=u2.heap.size:=⟨_,rfl⟩
     have HR3:=Lib.hid (AX u2 (.cells zr 65))
     have HRN:=Lib.hid (show w.heap.size+2<R by have:=lt_of_block H2.out.row.choose_spec.1;have:=H2.out.far;omega)
     have HM3:=Lib.hid (HM2.out.below (AZ _ (.cells zr 65)) HM2.out.lt)
     rw [←hR] at HR3 ⊢
     clear hR
     change K _ (u2.alloc (.cells zr 65))
     generalize u2.alloc (.cells zr 65)=u3 at H3 HR3 HM3 ⊢
     refine hK.out _ _ H3.out (fun hHeld => ?_)
     clear hK
     refine AY 10 rfl fun K hK => ?_
     have r0:u3.cell? ⟨R,0,none⟩=some (.int .i64 0):=by rw [Lib.cell_of_heap HR3.out];rfl
     have r1:u3.cell? ⟨R,1,none⟩=some (.int .i64 0):=by rw [Lib.cell_of_heap HR3.out];rfl
     have r2:u3.cell? ⟨R,2,none⟩=some .nilFunc:=by rw [Lib.cell_of_heap HR3.out];rfl
     have f0:=Ag HR3.out 0
     have f1:=Ag HR3.out 1
     have f2:=Ag HR3.out 2
     go_simp
     have HX:=H3.out.put HR3.out HRN.out (.int .i64 K0) (.int .i64 N0) (.nilFunc)
     refine hK.out _ _ HX.1 (fun hHeld => ?_)
     refine tw 11 (.bool okb) hHeld ?_
     refine wpAnyH_done (by kernel_rfl) ?_ _
     exact ⟨R,M,rfl,HX.2,HX.1,HRN.out⟩
    ·rw [if_pos (by kernel_rfl)]
     go_simp
     have H3:=Lib.hid (H2.out.on (AZ _ (.cells zr 65)))
     obtain ⟨R,hR⟩:∃R,R=u2.heap.size:=⟨_,rfl⟩
     have HR3:=Lib.hid (AX u2 (.cells zr 65))
     have HRN:=Lib.hid (show w.heap.size+2<R by have:=lt_of_block H2.out.row.choose_spec.1;have:=H2.out.far;omega)
     have HM3:=Lib.hid (HM2.out.below (AZ _ (.cells zr 65)) HM2.out.lt)
     rw [←hR] at HR3 ⊢
     clear hR
     change K _ (u2.alloc (.cells zr 65))
     generalize u2.alloc (.cells zr 65)=u3 at H3 HR3 HM3 ⊢
     refine hK.out _ _ H3.out (fun hHeld => ?_)
     clear hK
     refine AY 5 rfl fun K hK => ?_
     have hlk:=HLK.out _ _ HM3.out
     go_simp
     clear hlk
     refine hK.out _ _ H3.out (fun hHeld => ?_)
     clear hK
     refine tw 6 (.tuple #[.agg #[(.int .i64 K0),(.int .i64 N0),(.nilFunc)],.bool okb]) hHeld ?_
     refine tw 7 (.agg #[(.int .i64 K0),(.int .i64 N0),(.nilFunc)]) hHeld ?_
     refine tw 8 (.bool okb) hHeld ?_
     refine AY 10 rfl fun K hK => ?_
     have r0:u3.cell? ⟨R,0,none⟩=some (.int .i64 0):=by rw [Lib.cell_of_heap HR3.out];rfl
     have r1:u3.cell? ⟨R,1,none⟩=some (.int .i64 0):=by rw [Lib.cell_of_heap HR3.out];rfl
     have r2:u3.cell? ⟨R,2,none⟩=some .nilFunc:=by rw [Lib.cell_of_heap HR3.out];rfl
     have f0:=Ag HR3.out 0
     have f1:=Ag HR3.out 1
     have f2:=Ag HR3.out 2
     go_simp
     have HX:=H3.out.put HR3.out HRN.out (.int .i64 K0) (.int .i64 N0) (.nilFunc)
     refine hK.out _ _ HX.1 (fun hHeld => ?_)
     refine tw 11 (.bool okb) hHeld ?_
     refine wpAnyH_done (by kernel_rfl) ?_ _
     exact ⟨R,M,rfl,HX.2,HX.1,HRN.out⟩
   ·rw [if_pos (by kernel_rfl)]
    go_simp
    have H2:=Lib.hid (H1.out.on (AZ _ (.cells zr 65)))
    obtain ⟨R,hR⟩:∃R,R=u1.heap.size:=⟨_,rfl⟩
    have HR2:=Lib.hid (AX u1 (.cells zr 65))
    have HRN:=Lib.hid (show w.heap.size+2<R by have:=lt_of_block H1.out.row.choose_spec.1;have:=H1.out.far;omega)
    have HM2:=Lib.hid (HM1.out.below (AZ _ (.cells zr 65)) HM1.out.lt)
    rw [←hR] at HR2 ⊢
    clear hR
    change K _ (u1.alloc (.cells zr 65))
    generalize u1.alloc (.cells zr 65)=u2 at H2 HR2 HM2 ⊢
    refine hK.out _ _ H2.out (fun hHeld => ?_)
    clear hK
    refine AY 4 rfl fun K hK => ?_
    go_simp
    refine (HP.out _).mono ?_
    rintro e u3 ⟨he,hb⟩
    unfold ED at he
    rw [HPX.out] at he
    subst he
    have H3:=Lib.hid (H2.out.on hb)
    have HM3:=Lib.hid (HM2.out.below hb HM2.out.lt)
    have HR3:=Lib.hid ((hb.block _ (lt_of_block HR2.out)).trans HR2.out)
    clear hb
    refine hK.out _ _ H3.out (fun hHeld => ?_)
    clear hK
    refine AY 5 rfl fun K hK => ?_
    have hlk:=HLK.out _ _ HM3.out
    go_simp
    clear hlk
    refine hK.out _ _ H3.out (fun hHeld => ?_)
    clear hK
    refine tw 6 (.tuple #[.agg #[(.int .i64 K0),(.int .i64 N0),(.nilFunc)],.bool okb]) hHeld ?_
    refine tw 7 (.agg #[(.int .i64 K0),(.int .i64 N0),(.nilFunc)]) hHeld ?_
    refine tw 8 (.bool okb) hHeld ?_
    refine AY 10 rfl fun K hK => ?_
    have r0:u3.cell? ⟨R,0,none⟩=some (.int .i64 0):=by rw [Lib.cell_of_heap HR3.out];rfl
    have r1:u3.cell? ⟨R,1,none⟩=some (.int .i64 0):=by rw [Lib.cell_of_heap HR3.out];rfl
    have r2:u3.cell? ⟨R,2,none⟩=some .nilFunc:=by rw [Lib.cell_of_heap HR3.out];rfl
    have f0:=Ag HR3.out 0
    have f1:=Ag HR3.out 1
    have f2:=Ag HR3.out 2
    go_simp
    have HX:=H3.out.put HR3.out HRN.out (.int .i64 K0) (.int .i64 N0) (.nilFunc)
    refine hK.out _ _ HX.1 (fun hHeld => ?_)
    refine tw 11 (.bool okb) hHeld ?_
    refine wpAnyH_done (by kernel_rfl) ?_ _
    exact ⟨R,M,rfl,HX.2,HX.1,HRN.out⟩
  ·rw [if_pos (by kernel_rfl)]
   go_simp
   have H1:=Lib.hid (H0.out.on (AZ _ (.cells zr 65)))
   obtain ⟨R,hR⟩:∃R,R=u0.heap.size:=⟨_,rfl⟩
   have HR1:=Lib.hid (AX u0 (.cells zr 65))
   have HRN:=Lib.hid (show w.heap.size+2<R by have:=lt_of_block H0.out.row.choose_spec.1;have:=H0.out.far;omega)
   rw [←hR] at HR1 ⊢
   clear hR
   change K _ (u0.alloc (.cells zr 65))
   generalize u0.alloc (.cells zr 65)=u1 at H1 HR1 ⊢
   refine hK.out _ _ H1.out (fun hHeld => ?_)
   clear hK
   refine AY 0 rfl fun K hK => ?_
   go_simp
   refine (JA _).mono ?_
   rintro e u2 ⟨rfl,hm,hb⟩
   obtain ⟨M,hM⟩:∃M,M=u1.heap.size:=⟨_,rfl⟩
   rw [←hM] at hm ⊢
   have H2:=Lib.hid (H1.out.on hb)
   have HM2:=Lib.hid hm
   have HR2:=Lib.hid ((hb.block _ (lt_of_block HR1.out)).trans HR1.out)
   clear hm hb hM
   refine hK.out _ _ H2.out (fun hHeld => ?_)
   clear hK
   refine AY 4 rfl fun K hK => ?_
   go_simp
   refine (HP.out _).mono ?_
   rintro e u3 ⟨he,hb⟩
   unfold ED at he
   rw [HPX.out] at he
   subst he
   have H3:=Lib.hid (H2.out.on hb)
   have HM3:=Lib.hid (HM2.out.below hb HM2.out.lt)
   have HR3:=Lib.hid ((hb.block _ (lt_of_block HR2.out)).trans HR2.out)
   clear hb
   refine hK.out _ _ H3.out (fun hHeld => ?_)
   clear hK
   refine AY 5 rfl fun K hK => ?_
   have hlk:=HLK.out _ _ HM3.out
   go_simp
   clear hlk
   refine hK.out _ _ H3.out (fun hHeld => ?_)
   clear hK
   refine tw 6 (.tuple #[.agg #[(.int .i64 K0),(.int .i64 N0),(.nilFunc)],.bool okb]) hHeld ?_
   refine tw 7 (.agg #[(.int .i64 K0),(.int .i64 N0),(.nilFunc)]) hHeld ?_
   refine tw 8 (.bool okb) hHeld ?_
   refine AY 10 rfl fun K hK => ?_
   have r0:u3.cell? ⟨R,0,none⟩=some (.int .i64 0):=by rw [Lib.cell_of_heap HR3.out];rfl
   have r1:u3.cell? ⟨R,1,none⟩=some (.int .i64 0):=by rw [Lib.cell_of_heap HR3.out];rfl
   have r2:u3.cell? ⟨R,2,none⟩=some .nilFunc:=by rw [Lib.cell_of_heap HR3.out];rfl
   have f0:=Ag HR3.out 0
   have f1:=Ag HR3.out 1
   have f2:=Ag HR3.out 2
   go_simp
   have HX:=H3.out.put HR3.out HRN.out (.int .i64 K0) (.int .i64 N0) (.nilFunc)
   refine hK.out _ _ HX.1 (fun hHeld => ?_)
   refine tw 11 (.bool okb) hHeld ?_
   refine wpAnyH_done (by kernel_rfl) ?_ _
   exact ⟨R,M,rfl,HX.2,HX.1,HRN.out⟩
 ·rintro a W ⟨R,M,rfl,hR,hlw,hRn⟩
  have HLW:=Lib.hid hlw
  unfold NE
  rw [E3.out]
  clear hR hlw hRn
  go_wp2_with (first
   | (go_at_call 23;refine (E8 _).mono ?_;rintro e w1 ⟨rfl,rfl⟩))
  exact Jg HLW.out.res rfl ⟨rfl,rfl,rfl⟩ fun W' hW=>⟨LC.out _,HLW.out.bel.trans hW⟩
set_option maxRecDepth 100000 in
set_option maxHeartbeats 8000000 in
theorem AAb (s:List UInt8) (w:World) (h:10∉s) (h2:sp.Dx s=false) (p:List UInt8×Bool) (l:List (List UInt8×Bool)) (hp:p.2=false) (r:Rw) (hq:(p.1,r)∈Ce) (hc:(l.length:Int)≠r.n) (hw:sp.words s=some (p :: l)) (hn:s.length≤1099511627776):Calls Tryz.prog 9 #[.string (AA s)] w fun e w'=>Es w.heap.size s w' e∧Below w.heap.size w w':=by
 have LC:=Lib.hid (fun W=>IU (B:=w.heap.size) (s:=s) (by rw [KQ h h2,hw];obtain ⟨a,b⟩:=p;simp only at hp;subst hp;show (sp.Ai a l).map some=none;rw [AAJ hq hc];rfl) W)
 have HPX:Hid (sp.A7 p=some p.1):=Lib.hid (by unfold sp.A7;rw [if_neg (by rw [hp];decide)])
 obtain ⟨K0,e0⟩:∃v,v=r.k:=⟨_,rfl⟩
 obtain ⟨N0,e1⟩:∃v,v=r.n:=⟨_,rfl⟩
 obtain ⟨F0,e2⟩:∃v,v=r.g:=⟨_,rfl⟩
 obtain ⟨okb,e3⟩:∃v,v=true:=⟨_,rfl⟩
 have HLK:Hid (∀W M,DK W M Ce→(Instr.lookup 67 (.map (some M)) (.string (AA p.1)) true).run Tryz.prog W=.ok (.tuple #[.agg #[.int .i64 K0,.int .i64 N0,.func (.func F0) #[] #[]],.bool okb]) W):=Lib.hid (fun W M hm=>by rw [e0,e1,e2,e3];exact hm.ZE hq)
 have hrn:0≤N0∧N0≤5:=by rw [e1];exact ZM hq
 have hll:(l.length:Int)≤1099511627776:=by
  have:=(QZ _ s (Nat.le_refl _) _ hw).2
  simp only [List.length_cons] at this
  omega
 have ht:((l.length:Int)+1==N0+1)=false:=by simp;omega
 have E3:=Lib.hid e3
 clear hp hq hc e0 e1 e2 e3
 have hmf:∀(fn:Fn) (first cap:Array Value) (w:World),(Instr.makeFunc fn first cap).run Tryz.prog w=.ok (.func fn first cap) w:=fun _ _ _ _=>rfl
 obtain ⟨hr,hb,hsz⟩:=JF w
 have HC:=Lib.hid (fun W=>Kw s W)
 rw [show decide (10∈s)=false by simpa using h] at HC
 have HS:=Lib.hid (fun W=>MW s W)
 rw [h2] at HS
 have HL:=Lib.hid (Oy (Dv w) s)
 have HP:=Lib.hid (fun W=>Gz p W)
 have HW:=Lib.hid hw;have HN:=Lib.hid hn;have HSZ:=Lib.hid hsz
 clear hr hb h h2 hw hn hsz
 go_enter_defers Tryz.func9,Tryz.ntmps9
 go_wp2_with (first
  | (go_at_call 24;refine (HC.out _).mono ?_;rintro e w1 ⟨rfl,rfl⟩)
  | (go_at_call 23;refine (FP _).mono ?_;rintro e w1 ⟨rfl,rfl⟩)
  | (go_at_call 25;refine (HS.out _).mono ?_;rintro e w1 ⟨rfl,rfl⟩;rw [start_eq])
  | (go_at_call 26;refine (Ou _ (Dv w).heap.size (AA s) s HL.out (by rw [Aa];exact HN.out)).mono ?_;rintro e w2 ⟨he,hf⟩;unfold Ib at he;rw [HW.out] at he;obtain ⟨v,rfl,hown⟩:=he;obtain ⟨g,cap,rfl,hc1,hc2,hlw⟩:=Qr hf hown (by simp);have H0:=Lib.hid hlw;have HC1:=Lib.hid hc1;have HC2:=Lib.hid hc2;clear hf hown hlw hc1 hc2))
 refine wp_cut (fun a W=>∃R M,a=NE w.heap.size g cap (l.length+1) (Dv w).heap.size s p (.agg #[(.int .i64 K0),(.int .i64 N0),(.func (.func F0) #[] #[])]) okb R M∧W.heap[R]?=some (.cells #[(.int .i64 K0),(.int .i64 N0),(.func (.func F0) #[] #[])] 65 (0,0))∧LW w g (p :: l) W∧w.heap.size+2<R) (G6 w.heap.size w) ?_ ?_ ?_
 ·rintro c a W h
  obtain ⟨cs,sy,er,q1,q2⟩:=h.res
  rw [h.bar]
  show Leaves Tryz.prog Tryz.f9 a.tmps _ a.defers (.panicking bar) W
  rw [h.defers]
  exact Jg q2 q1 h.slots fun W' hW=>⟨LC.out _,h.bel.trans hW⟩
 ·have H0:=Lib.hid (H0.out.on (Below.refl _ _).drew)
  refine wp_region_held_drew (S:=fun W=>LW w g (p :: l) W) (by kernel_rfl) H0.out (fun hHeld => ?_)
  refine tw 1 (.slice (some ⟨g,0,none⟩) (l.length+1) cap) hHeld ?_
  refine tk 2 (.pointer (some ⟨g,0,none⟩)) rfl hHeld (fun s hs=>by go_simp<;>omega) ?_ (hQ:=fun _ _ _ h=>h.Hy (by decide))
  refine tk 3 (.agg #[.string (AA p.1),.bool p.2]) rfl hHeld (fun s hs=>by have e0:s.cell? ⟨g,0,none⟩=some (.string (AA p.1)):=LW.cell hs rfl;have e1:s.cell? ⟨g,1,none⟩=some (.bool p.2):=LW.cell hs rfl;go_simp) ?_ (hQ:=fun _ _ _ h=>h.Hy (by decide))
  generalize w2.drew=u0 at *
  refine wpAnyH_ready (rs:=[0,9]) (by kernel_rfl) (by simp) ?_
  refine AllReadyH.cons rfl (fun K hK => ?_) (AllReadyH.cons rfl (fun K hK => ?_) AllReadyH.nil)
  ·rw [if_pos (by kernel_rfl)]
   go_simp
   refine (JA _).mono ?_
   rintro e u1 ⟨rfl,hm,hb⟩
   obtain ⟨M,hM⟩:∃M,M=u0.heap.size:=⟨_,rfl⟩
   rw [←hM] at hm ⊢
   have H1:=Lib.hid (H0.out.on hb)
   have HM1:=Lib.hid hm
   clear hm hb hM
   refine hK.out _ _ H1.out (fun hHeld => ?_)
   clear hK
   refine wpAnyH_ready (rs:=[4,9]) (by kernel_rfl) (by simp) ?_
   refine AllReadyH.cons rfl (fun K hK => ?_) (AllReadyH.cons rfl (fun K hK => ?_) AllReadyH.nil)
   ·rw [if_pos (by kernel_rfl)]
    go_simp
    refine (HP.out _).mono ?_
    rintro e u2 ⟨he,hb⟩
    unfold ED at he
    rw [HPX.out] at he
    subst he
    have H2:=Lib.hid (H1.out.on hb)
    have HM2:=Lib.hid (HM1.out.below hb HM1.out.lt)
    clear hb
    refine hK.out _ _ H2.out (fun hHeld => ?_)
    clear hK
    refine wpAnyH_ready (rs:=[5,9]) (by kernel_rfl) (by simp) ?_
    refine AllReadyH.cons rfl (fun K hK => ?_) (AllReadyH.cons rfl (fun K hK => ?_) AllReadyH.nil)
    ·rw [if_pos (by kernel_rfl)]
     have hlk:=HLK.out _ _ HM2.out
     go_simp
     clear hlk
     refine hK.out _ _ H2.out (fun hHeld => ?_)
     clear hK
     refine tw 6 (.tuple #[.agg #[(.int .i64 K0),(.int .i64 N0),(.func (.func F0) #[] #[])],.bool okb]) hHeld ?_
     refine tw 7 (.agg #[(.int .i64 K0),(.int .i64 N0),(.func (.func F0) #[] #[])]) hHeld ?_
     refine tw 8 (.bool okb) hHeld ?_
     refine AY 9 rfl fun K hK => ?_
     go_simp
     have H3:=Lib.hid (H2.out.on (AZ _ (.cells zr 65)))
     obtain ⟨R,hR⟩:∃R,R=u2.heap.size:=⟨_,rfl⟩
     have HR3:=Lib.hid (AX u2 (.cells zr 65))
     have HRN:=Lib.hid (show w.heap.size+2<R by have:=lt_of_block H2.out.row.choose_spec.1;have:=H2.out.far;omega)
     have HM3:=Lib.hid (HM2.out.below (AZ _ (.cells zr 65)) HM2.out.lt)
     rw [←hR] at HR3 ⊢
     clear hR
     change K _ (u2.alloc (.cells zr 65))
     generalize u2.alloc (.cells zr 65)=u3 at H3 HR3 HM3 ⊢
     refine hK.out _ _ H3.out (fun hHeld => ?_)
     clear hK
     refine AY 10 rfl fun K hK => ?_
     have r0:u3.cell? ⟨R,0,none⟩=some (.int .i64 0):=by rw [Lib.cell_of_heap HR3.out];rfl
     have r1:u3.cell? ⟨R,1,none⟩=some (.int .i64 0):=by rw [Lib.cell_of_heap HR3.out];rfl
     have r2:u3.cell? ⟨R,2,none⟩=some .nilFunc:=by rw [Lib.cell_of_heap HR3.out];rfl
     have f0:=Ag HR3.out 0
     have f1:=Ag HR3.out 1
     have f2:=Ag HR3.out 2
     go_simp
     have HX:=H3.out.put HR3.out HRN.out (.int .i64 K0) (.int .i64 N0) (.func (.func F0) #[] #[])
     refine hK.out _ _ HX.1 (fun hHeld => ?_)
     refine tw 11 (.bool okb) hHeld ?_
     refine wpAnyH_done (by kernel_rfl) ?_ _
     exact ⟨R,M,rfl,HX.2,HX.1,HRN.out⟩
    ·rw [if_pos (by kernel_rfl)]
     go_simp
     have H3:=Lib.hid (H2.out.on (AZ _ (.cells zr 65)))
     obtain ⟨R,hR⟩:∃R,R=u2.heap.size:=⟨_,rfl⟩
     have HR3:=Lib.hid (AX u2 (.cells zr 65))
     have HRN:=Lib.hid (show w.heap.size+2<R by have:=lt_of_block H2.out.row.choose_spec.1;have:=H2.out.far;omega)
     have HM3:=Lib.hid (HM2.out.below (AZ _ (.cells zr 65)) HM2.out.lt)
     rw [←hR] at HR3 ⊢
     clear hR
     change K _ (u2.alloc (.cells zr 65))
     generalize u2.alloc (.cells zr 65)=u3 at H3 HR3 HM3 ⊢
     refine hK.out _ _ H3.out (fun hHeld => ?_)
     clear hK
     refine AY 5 rfl fun K hK => ?_
     have hlk:=HLK.out _ _ HM3.out
     go_simp
     clear hlk
     refine hK.out _ _ H3.out (fun hHeld => ?_)
     clear hK
     refine tw 6 (.tuple #[.agg #[(.int .i64 K0),(.int .i64 N0),(.func (.func F0) #[] #[])],.bool okb]) hHeld ?_
     refine tw 7 (.agg #[(.int .i64 K0),(.int .i64 N0),(.func (.func F0) #[] #[])]) hHeld ?_
     refine tw 8 (.bool okb) hHeld ?_
     refine AY 10 rfl fun K hK => ?_
     have r0:u3.cell? ⟨R,0,none⟩=some (.int .i64 0):=by rw [Lib.cell_of_heap HR3.out];rfl
     have r1:u3.cell? ⟨R,1,none⟩=some (.int .i64 0):=by rw [Lib.cell_of_heap HR3.out];rfl
     have r2:u3.cell? ⟨R,2,none⟩=some .nilFunc:=by rw [Lib.cell_of_heap HR3.out];rfl
     have f0:=Ag HR3.out 0
     have f1:=Ag HR3.out 1
     have f2:=Ag HR3.out 2
     go_simp
     have HX:=H3.out.put HR3.out HRN.out (.int .i64 K0) (.int .i64 N0) (.func (.func F0) #[] #[])
     refine hK.out _ _ HX.1 (fun hHeld => ?_)
     refine tw 11 (.bool okb) hHeld ?_
     refine wpAnyH_done (by kernel_rfl) ?_ _
     exact ⟨R,M,rfl,HX.2,HX.1,HRN.out⟩
   ·rw [if_pos (by kernel_rfl)]
    go_simp
    have H2:=Lib.hid (H1.out.on (AZ _ (.cells zr 65)))
    obtain ⟨R,hR⟩:∃R,R=u1.heap.size:=⟨_,rfl⟩
    have HR2:=Lib.hid (AX u1 (.cells zr 65))
    have HRN:=Lib.hid (show w.heap.size+2<R by have:=lt_of_block H1.out.row.choose_spec.1;have:=H1.out.far;omega)
    have HM2:=Lib.hid (HM1.out.below (AZ _ (.cells zr 65)) HM1.out.lt)
    rw [←hR] at HR2 ⊢
    clear hR
    change K _ (u1.alloc (.cells zr 65))
    generalize u1.alloc (.cells zr 65)=u2 at H2 HR2 HM2 ⊢
    refine hK.out _ _ H2.out (fun hHeld => ?_)
    clear hK
    refine AY 4 rfl fun K hK => ?_
    go_simp
    refine (HP.out _).mono ?_
    rintro e u3 ⟨he,hb⟩
    unfold ED at he
    rw [HPX.out] at he
    subst he
    have H3:=Lib.hid (H2.out.on hb)
    have HM3:=Lib.hid (HM2.out.below hb HM2.out.lt)
    have HR3:=Lib.hid ((hb.block _ (lt_of_block HR2.out)).trans HR2.out)
    clear hb
    refine hK.out _ _ H3.out (fun hHeld => ?_)
    clear hK
    refine AY 5 rfl fun K hK => ?_
    have hlk:=HLK.out _ _ HM3.out
    go_simp
    clear hlk
    refine hK.out _ _ H3.out (fun hHeld => ?_)
    clear hK
    refine tw 6 (.tuple #[.agg #[(.int .i64 K0),(.int .i64 N0),(.func (.func F0) #[] #[])],.bool okb]) hHeld ?_
    refine tw 7 (.agg #[(.int .i64 K0),(.int .i64 N0),(.func (.func F0) #[] #[])]) hHeld ?_
    refine tw 8 (.bool okb) hHeld ?_
    refine AY 10 rfl fun K hK => ?_
    have r0:u3.cell? ⟨R,0,none⟩=some (.int .i64 0):=by rw [Lib.cell_of_heap HR3.out];rfl
    have r1:u3.cell? ⟨R,1,none⟩=some (.int .i64 0):=by rw [Lib.cell_of_heap HR3.out];rfl
    have r2:u3.cell? ⟨R,2,none⟩=some .nilFunc:=by rw [Lib.cell_of_heap HR3.out];rfl
    have f0:=Ag HR3.out 0
    have f1:=Ag HR3.out 1
    have f2:=Ag HR3.out 2
    go_simp
    have HX:=H3.out.put HR3.out HRN.out (.int .i64 K0) (.int .i64 N0) (.func (.func F0) #[] #[])
    refine hK.out _ _ HX.1 (fun hHeld => ?_)
    refine tw 11 (.bool okb) hHeld ?_
    refine wpAnyH_done (by kernel_rfl) ?_ _
    exact ⟨R,M,rfl,HX.2,HX.1,HRN.out⟩
  ·rw [if_pos (by kernel_rfl)]
   go_simp
   have H1:=Lib.hid (H0.out.on (AZ _ (.cells zr 65)))
   obtain ⟨R,hR⟩:∃R,R=u0.heap.size:=⟨_,rfl⟩
   have HR1:=Lib.hid (AX u0 (.cells zr 65))
   have HRN:=Lib.hid (show w.heap.size+2<R by have:=lt_of_block H0.out.row.choose_spec.1;have:=H0.out.far;omega)
   rw [←hR] at HR1 ⊢
   clear hR
   change K _ (u0.alloc (.cells zr 65))
   generalize u0.alloc (.cells zr 65)=u1 at H1 HR1 ⊢
   refine hK.out _ _ H1.out (fun hHeld => ?_)
   clear hK
   refine AY 0 rfl fun K hK => ?_
   go_simp
   refine (JA _).mono ?_
   rintro e u2 ⟨rfl,hm,hb⟩
   obtain ⟨M,hM⟩:∃M,M=u1.heap.size:=⟨_,rfl⟩
   rw [←hM] at hm ⊢
   have H2:=Lib.hid (H1.out.on hb)
   have HM2:=Lib.hid hm
   have HR2:=Lib.hid ((hb.block _ (lt_of_block HR1.out)).trans HR1.out)
   clear hm hb hM
   refine hK.out _ _ H2.out (fun hHeld => ?_)
   clear hK
   refine AY 4 rfl fun K hK => ?_
   go_simp
   refine (HP.out _).mono ?_
   rintro e u3 ⟨he,hb⟩
   unfold ED at he
   rw [HPX.out] at he
   subst he
   have H3:=Lib.hid (H2.out.on hb)
   have HM3:=Lib.hid (HM2.out.below hb HM2.out.lt)
   have HR3:=Lib.hid ((hb.block _ (lt_of_block HR2.out)).trans HR2.out)
   clear hb
   refine hK.out _ _ H3.out (fun hHeld => ?_)
   clear hK
   refine AY 5 rfl fun K hK => ?_
   have hlk:=HLK.out _ _ HM3.out
   go_simp
   clear hlk
   refine hK.out _ _ H3.out (fun hHeld => ?_)
   clear hK
   refine tw 6 (.tuple #[.agg #[(.int .i64 K0),(.int .i64 N0),(.func (.func F0) #[] #[])],.bool okb]) hHeld ?_
   refine tw 7 (.agg #[(.int .i64 K0),(.int .i64 N0),(.func (.func F0) #[] #[])]) hHeld ?_
   refine tw 8 (.bool okb) hHeld ?_
   refine AY 10 rfl fun K hK => ?_
   have r0:u3.cell? ⟨R,0,none⟩=some (.int .i64 0):=by rw [Lib.cell_of_heap HR3.out];rfl
   have r1:u3.cell? ⟨R,1,none⟩=some (.int .i64 0):=by rw [Lib.cell_of_heap HR3.out];rfl
   have r2:u3.cell? ⟨R,2,none⟩=some .nilFunc:=by rw [Lib.cell_of_heap HR3.out];rfl
   have f0:=Ag HR3.out 0
   have f1:=Ag HR3.out 1
   have f2:=Ag HR3.out 2
   go_simp
   have HX:=H3.out.put HR3.out HRN.out (.int .i64 K0) (.int .i64 N0) (.func (.func F0) #[] #[])
   refine hK.out _ _ HX.1 (fun hHeld => ?_)
   refine tw 11 (.bool okb) hHeld ?_
   refine wpAnyH_done (by kernel_rfl) ?_ _
   exact ⟨R,M,rfl,HX.2,HX.1,HRN.out⟩
 ·rintro a W ⟨R,M,rfl,hR,hlw,hRn⟩
  have HLW:=Lib.hid hlw
  have c1:W.cell? ⟨R,1,none⟩=some (.int .i64 N0):=by rw [Lib.cell_of_heap hR];rfl
  unfold NE
  rw [E3.out]
  clear hR hlw hRn
  go_wp2_with (first
   | (go_at_call 23;refine (E8 _).mono ?_;rintro e w1 ⟨rfl,rfl⟩))
  exact Jg HLW.out.res rfl ⟨rfl,rfl,rfl⟩ fun W' hW=>⟨LC.out _,HLW.out.bel.trans hW⟩
theorem AAc {g m cap:Nat} (h:m+1≤cap):0<m→(some (if cap=1 then (⟨g,0,none⟩:Addr) else ⟨g,2,none⟩))=some ⟨g,2,none⟩:=fun h0=>by
 rw [if_neg (by omega)]
theorem LW.AAd {w W:World} {g:Nat} {p:List UInt8×Bool} {l:List (List UInt8×Bool)} (h:LW w g (p :: l) W) (k:Int):BO ((W.setCell ⟨w.heap.size,0,none⟩ (.int .i64 k)).drew) w.heap.size g l (Ap k) ((W.setCell ⟨w.heap.size,0,none⟩ (.int .i64 k)).drew):=by
 obtain ⟨cur,h1,h2⟩:=h.row
 have hne:g≠w.heap.size:=by have:=h.far;omega
 have hr:W.rangeAt g 2 (Dc l):=fun j u hu=>by
  have e:(Dc (p :: l))[2+j]?=some u:=by
   rw [show Dc (p :: l)=Jb p++Dc l by simp [Dc],List.getElem?_append_right (by simp [Jb])]
   simpa [Jb] using hu
  exact h.cell e
 refine ⟨?_,rfl,G5 hr hne _ _,by have:=lt_of_block h1;simpa using this,hne,Fr.refl _ _ _⟩
 show (W.setCell ⟨w.heap.size,0,none⟩ (.int .i64 k)).heap[w.heap.size]?=_
 have:=D9 h.res.op 0 (.int .i64 k)
 simpa [Ap,AQ] using this
theorem AAe {o:sp.Op} {tv:Value} {B n:Nat} {W:World} {cs:List Value} (h:BK B W tv n cs):(AQ o tv).all (·.oneCell')=true:=by
 obtain ⟨a,cap,rfl⟩:=h.slice
 simp [AQ,Value.oneCell']
theorem ZO {W:World} {B b n:Nat} {v x:Value} {cs:List Value} (h:BK B W v n cs) (hne:∀g,v.ownBlock=some g→g≠b) (o:Nat):BK B (W.setCell ⟨b,o,none⟩ x) v n cs:=by
 obtain ⟨a,cap,h1,h2,h3,h4⟩:=h
 refine ⟨a,cap,h1,h2,h3,h4.imp id fun ⟨x1,g,off,y1,y2,y3⟩=>⟨x1,g,off,y1,y2,G5 y3 (hne g (by rw [h1,y1];rfl)) _ _⟩⟩
theorem AAf {W:World} {B b n:Nat} {v:Value} {cs:List Value} (h:BK B W v n cs) (hne:∀g,v.ownBlock=some g→g≠b) (xs:Array Value):BK B (W.setRow b xs) v n cs:=by
 obtain ⟨a,cap,h1,h2,h3,h4⟩:=h
 refine ⟨a,cap,h1,h2,h3,h4.imp id fun ⟨x1,g,off,y1,y2,y3⟩=>⟨x1,g,off,y1,y2,fun j u hu => ?_⟩⟩
 have hg:=hne g (by rw [h1,y1];rfl)
 have e:=y3 j u hu
 have e2:(W.setRow b xs).heap[g]?=W.heap[g]?:=JD xs (Ne.symm hg)
 rw [←e]
 unfold World.cell?
 simp only [e2]
set_option maxRecDepth 100000 in
set_option maxHeartbeats 16000000 in
theorem AAg (s:List UInt8) (w:World) (h:10∉s) (h2:sp.Dx s=false) (p:List UInt8×Bool) (l:List (List UInt8×Bool)) (hp:p.2=false) (r:Rw) (hq:(p.1,r)∈Ce) (hc:(l.length:Int)=r.n) (hw:sp.words s=some (p :: l)) (hn:s.length≤1099511627776):Calls Tryz.prog 9 #[.string (AA s)] w fun e w'=>Es w.heap.size s w' e∧Below w.heap.size w w':=by
 have HLS:Hid (sp.lineS s=(sp.Ai p.1 l).map some):=Lib.hid (by rw [KQ h h2,hw];obtain ⟨a,b⟩:=p;simp only at hp;subst hp;rfl)
 have HPX:Hid (sp.A7 p=some p.1):=Lib.hid (by unfold sp.A7;rw [if_neg (by rw [hp];decide)])
 obtain ⟨K0,e0⟩:∃v,v=r.k:=⟨_,rfl⟩
 obtain ⟨N0,e1⟩:∃v,v=r.n:=⟨_,rfl⟩
 obtain ⟨F0,e2⟩:∃v,v=r.g:=⟨_,rfl⟩
 obtain ⟨okb,e3⟩:∃v,v=true:=⟨_,rfl⟩
 have HLK:Hid (∀W M,DK W M Ce→(Instr.lookup 67 (.map (some M)) (.string (AA p.1)) true).run Tryz.prog W=.ok (.tuple #[.agg #[.int .i64 K0,.int .i64 N0,.func (.func F0) #[] #[]],.bool okb]) W):=Lib.hid (fun W M hm=>by rw [e0,e1,e2,e3];exact hm.ZE hq)
 have hrn:0≤N0∧N0≤5:=by rw [e1];exact ZM hq
 have hll:(l.length:Int)≤5:=by rw [hc,←e1];omega
 have ht:((l.length:Int)+1==N0+1)=true:=by simp;omega
 have AAh:Hid (∀args W,(callFunc F0 args).run Tryz.prog W=.ok (.enter F0 args) W):=Lib.hid (fun args W=>by rw [e2];exact AAZ hq args W)
 have Et:Hid (∀(ad:Option Addr) (c:Nat) (w0 W:World) (g:Nat),(0<l.length→ad=some ⟨g,2,none⟩)→BO w0 w.heap.size g l (Ap K0) W→Calls Tryz.prog F0 #[.pointer (some ⟨w.heap.size,0,none⟩),.slice ad l.length c] W fun e w'=>Fj w0 w.heap.size (sp.Ai p.1 l) e w'):=Lib.hid (fun ad c w0 W g had hrs=>by
  rw [e2]
  rw [e0] at hrs
  refine AAG p.1 r hq l hc ad c w0 W _ g had (fun q hq' => ?_) hrs
  have:=(QZ _ s (Nat.le_refl _) _ hw).1 q (List.mem_cons_of_mem _ hq')
  omega)
 have E3:=Lib.hid e3
 clear hp hq hc e0 e1 e2 e3
 have hmf:∀(fn:Fn) (first cap:Array Value) (w:World),(Instr.makeFunc fn first cap).run Tryz.prog w=.ok (.func fn first cap) w:=fun _ _ _ _=>rfl
 obtain ⟨hr,hb,hsz⟩:=JF w
 have HC:=Lib.hid (fun W=>Kw s W)
 rw [show decide (10∈s)=false by simpa using h] at HC
 have HS:=Lib.hid (fun W=>MW s W)
 rw [h2] at HS
 have HL:=Lib.hid (Oy (Dv w) s)
 have HP:=Lib.hid (fun W=>Gz p W)
 have HW:=Lib.hid hw;have HN:=Lib.hid hn;have HSZ:=Lib.hid hsz
 clear hr hb h h2 hw hn hsz
 go_enter_defers Tryz.func9,Tryz.ntmps9
 go_wp2_with (first
  | (go_at_call 24;refine (HC.out _).mono ?_;rintro e w1 ⟨rfl,rfl⟩)
  | (go_at_call 23;refine (FP _).mono ?_;rintro e w1 ⟨rfl,rfl⟩)
  | (go_at_call 25;refine (HS.out _).mono ?_;rintro e w1 ⟨rfl,rfl⟩;rw [start_eq])
  | (go_at_call 26;refine (Ou _ (Dv w).heap.size (AA s) s HL.out (by rw [Aa];exact HN.out)).mono ?_;rintro e w2 ⟨he,hf⟩;unfold Ib at he;rw [HW.out] at he;obtain ⟨v,rfl,hown⟩:=he;obtain ⟨g,cap,rfl,hc1,hc2,hlw⟩:=Qr hf hown (by simp);have H0:=Lib.hid hlw;have HC1:=Lib.hid hc1;have HC2:=Lib.hid hc2;clear hf hown hlw hc1 hc2))
 refine wp_cut (fun a W=>∃R M,a=NE w.heap.size g cap (l.length+1) (Dv w).heap.size s p (.agg #[(.int .i64 K0),(.int .i64 N0),(.func (.func F0) #[] #[])]) okb R M∧W.heap[R]?=some (.cells #[(.int .i64 K0),(.int .i64 N0),(.func (.func F0) #[] #[])] 65 (0,0))∧LW w g (p :: l) W∧w.heap.size+2<R) (fun _ _ _=>False) (fun _ _ _ h=>h.elim) ?_ ?_
 ·have H0:=Lib.hid (H0.out.on (Below.refl _ _).drew)
  refine wp_region_held_drew (S:=fun W=>LW w g (p :: l) W) (by kernel_rfl) H0.out (fun hHeld => ?_)
  refine tp 1 (.slice (some ⟨g,0,none⟩) (l.length+1) cap) hHeld ?_
  refine tk 2 (.pointer (some ⟨g,0,none⟩)) rfl hHeld (fun s hs=>by go_simp<;>omega) ?_
  refine tk 3 (.agg #[.string (AA p.1),.bool p.2]) rfl hHeld (fun s hs=>by have e0:s.cell? ⟨g,0,none⟩=some (.string (AA p.1)):=LW.cell hs rfl;have e1:s.cell? ⟨g,1,none⟩=some (.bool p.2):=LW.cell hs rfl;go_simp) ?_
  generalize w2.drew=u0 at *
  refine wpAnyH_ready (rs:=[0,9]) (by kernel_rfl) (by simp) ?_
  refine AllReadyH.cons rfl (fun K hK => ?_) (AllReadyH.cons rfl (fun K hK => ?_) AllReadyH.nil)
  ·rw [if_pos (by kernel_rfl)]
   go_simp
   refine (JA _).mono ?_
   rintro e u1 ⟨rfl,hm,hb⟩
   obtain ⟨M,hM⟩:∃M,M=u0.heap.size:=⟨_,rfl⟩
   rw [←hM] at hm ⊢
   have H1:=Lib.hid (H0.out.on hb)
   have HM1:=Lib.hid hm
   clear hm hb hM
   refine hK.out _ _ H1.out (fun hHeld => ?_)
   clear hK
   refine wpAnyH_ready (rs:=[4,9]) (by kernel_rfl) (by simp) ?_
   refine AllReadyH.cons rfl (fun K hK => ?_) (AllReadyH.cons rfl (fun K hK => ?_) AllReadyH.nil)
   ·rw [if_pos (by kernel_rfl)]
    go_simp
    refine (HP.out _).mono ?_
    rintro e u2 ⟨he,hb⟩
    unfold ED at he
    rw [HPX.out] at he
    subst he
    have H2:=Lib.hid (H1.out.on hb)
    have HM2:=Lib.hid (HM1.out.below hb HM1.out.lt)
    clear hb
    refine hK.out _ _ H2.out (fun hHeld => ?_)
    clear hK
    refine wpAnyH_ready (rs:=[5,9]) (by kernel_rfl) (by simp) ?_
    refine AllReadyH.cons rfl (fun K hK => ?_) (AllReadyH.cons rfl (fun K hK => ?_) AllReadyH.nil)
    ·rw [if_pos (by kernel_rfl)]
     have hlk:=HLK.out _ _ HM2.out
     go_simp
     clear hlk
     refine hK.out _ _ H2.out (fun hHeld => ?_)
     clear hK
     refine tp 6 (.tuple #[.agg #[(.int .i64 K0),(.int .i64 N0),(.func (.func F0) #[] #[])],.bool okb]) hHeld ?_
     refine tp 7 (.agg #[(.int .i64 K0),(.int .i64 N0),(.func (.func F0) #[] #[])]) hHeld ?_
     refine tp 8 (.bool okb) hHeld ?_
     refine AY 9 rfl fun K hK => ?_
     go_simp
     have H3:=Lib.hid (H2.out.on (AZ _ (.cells zr 65)))
     obtain ⟨R,hR⟩:∃R,R=u2.heap.size:=⟨_,rfl⟩
     have HR3:=Lib.hid (AX u2 (.cells zr 65))
     have HRN:=Lib.hid (show w.heap.size+2<R by have:=lt_of_block H2.out.row.choose_spec.1;have:=H2.out.far;omega)
     have HM3:=Lib.hid (HM2.out.below (AZ _ (.cells zr 65)) HM2.out.lt)
     rw [←hR] at HR3 ⊢
     clear hR
     change K _ (u2.alloc (.cells zr 65))
     generalize u2.alloc (.cells zr 65)=u3 at H3 HR3 HM3 ⊢
     refine hK.out _ _ H3.out (fun hHeld => ?_)
     clear hK
     refine AY 10 rfl fun K hK => ?_
     have r0:u3.cell? ⟨R,0,none⟩=some (.int .i64 0):=by rw [Lib.cell_of_heap HR3.out];rfl
     have r1:u3.cell? ⟨R,1,none⟩=some (.int .i64 0):=by rw [Lib.cell_of_heap HR3.out];rfl
     have r2:u3.cell? ⟨R,2,none⟩=some .nilFunc:=by rw [Lib.cell_of_heap HR3.out];rfl
     have f0:=Ag HR3.out 0
     have f1:=Ag HR3.out 1
     have f2:=Ag HR3.out 2
     go_simp
     have HX:=H3.out.put HR3.out HRN.out (.int .i64 K0) (.int .i64 N0) (.func (.func F0) #[] #[])
     refine hK.out _ _ HX.1 (fun hHeld => ?_)
     refine tp 11 (.bool okb) hHeld ?_
     refine wpAnyH_done (by kernel_rfl) ?_ _
     exact ⟨R,M,rfl,HX.2,HX.1,HRN.out⟩
    ·rw [if_pos (by kernel_rfl)]
     go_simp
     have H3:=Lib.hid (H2.out.on (AZ _ (.cells zr 65)))
     obtain ⟨R,hR⟩:∃R,R=u2.heap.size:=⟨_,rfl⟩
     have HR3:=Lib.hid (AX u2 (.cells zr 65))
     have HRN:=Lib.hid (show w.heap.size+2<R by have:=lt_of_block H2.out.row.choose_spec.1;have:=H2.out.far;omega)
     have HM3:=Lib.hid (HM2.out.below (AZ _ (.cells zr 65)) HM2.out.lt)
     rw [←hR] at HR3 ⊢
     clear hR
     change K _ (u2.alloc (.cells zr 65))
     generalize u2.alloc (.cells zr 65)=u3 at H3 HR3 HM3 ⊢
     refine hK.out _ _ H3.out (fun hHeld => ?_)
     clear hK
     refine AY 5 rfl fun K hK => ?_
     have hlk:=HLK.out _ _ HM3.out
     go_simp
     clear hlk
     refine hK.out _ _ H3.out (fun hHeld => ?_)
     clear hK
     refine tp 6 (.tuple #[.agg #[(.int .i64 K0),(.int .i64 N0),(.func (.func F0) #[] #[])],.bool okb]) hHeld ?_
     refine tp 7 (.agg #[(.int .i64 K0),(.int .i64 N0),(.func (.func F0) #[] #[])]) hHeld ?_
     refine tp 8 (.bool okb) hHeld ?_
     refine AY 10 rfl fun K hK => ?_
     have r0:u3.cell? ⟨R,0,none⟩=some (.int .i64 0):=by rw [Lib.cell_of_heap HR3.out];rfl
     have r1:u3.cell? ⟨R,1,none⟩=some (.int .i64 0):=by rw [Lib.cell_of_heap HR3.out];rfl
     have r2:u3.cell? ⟨R,2,none⟩=some .nilFunc:=by rw [Lib.cell_of_heap HR3.out];rfl
     have f0:=Ag HR3.out 0
     have f1:=Ag HR3.out 1
     have f2:=Ag HR3.out 2
     go_simp
     have HX:=H3.out.put HR3.out HRN.out (.int .i64 K0) (.int .i64 N0) (.func (.func F0) #[] #[])
     refine hK.out _ _ HX.1 (fun hHeld => ?_)
     refine tp 11 (.bool okb) hHeld ?_
     refine wpAnyH_done (by kernel_rfl) ?_ _
     exact ⟨R,M,rfl,HX.2,HX.1,HRN.out⟩
   ·rw [if_pos (by kernel_rfl)]
    go_simp
    have H2:=Lib.hid (H1.out.on (AZ _ (.cells zr 65)))
    obtain ⟨R,hR⟩:∃R,R=u1.heap.size:=⟨_,rfl⟩
    have HR2:=Lib.hid (AX u1 (.cells zr 65))
    have HRN:=Lib.hid (show w.heap.size+2<R by have:=lt_of_block H1.out.row.choose_spec.1;have:=H1.out.far;omega)
    have HM2:=Lib.hid (HM1.out.below (AZ _ (.cells zr 65)) HM1.out.lt)
    rw [←hR] at HR2 ⊢
    clear hR
    change K _ (u1.alloc (.cells zr 65))
    generalize u1.alloc (.cells zr 65)=u2 at H2 HR2 HM2 ⊢
    refine hK.out _ _ H2.out (fun hHeld => ?_)
    clear hK
    refine AY 4 rfl fun K hK => ?_
    go_simp
    refine (HP.out _).mono ?_
    rintro e u3 ⟨he,hb⟩
    unfold ED at he
    rw [HPX.out] at he
    subst he
    have H3:=Lib.hid (H2.out.on hb)
    have HM3:=Lib.hid (HM2.out.below hb HM2.out.lt)
    have HR3:=Lib.hid ((hb.block _ (lt_of_block HR2.out)).trans HR2.out)
    clear hb
    refine hK.out _ _ H3.out (fun hHeld => ?_)
    clear hK
    refine AY 5 rfl fun K hK => ?_
    have hlk:=HLK.out _ _ HM3.out
    go_simp
    clear hlk
    refine hK.out _ _ H3.out (fun hHeld => ?_)
    clear hK
    refine tp 6 (.tuple #[.agg #[(.int .i64 K0),(.int .i64 N0),(.func (.func F0) #[] #[])],.bool okb]) hHeld ?_
    refine tp 7 (.agg #[(.int .i64 K0),(.int .i64 N0),(.func (.func F0) #[] #[])]) hHeld ?_
    refine tp 8 (.bool okb) hHeld ?_
    refine AY 10 rfl fun K hK => ?_
    have r0:u3.cell? ⟨R,0,none⟩=some (.int .i64 0):=by rw [Lib.cell_of_heap HR3.out];rfl
    have r1:u3.cell? ⟨R,1,none⟩=some (.int .i64 0):=by rw [Lib.cell_of_heap HR3.out];rfl
    have r2:u3.cell? ⟨R,2,none⟩=some .nilFunc:=by rw [Lib.cell_of_heap HR3.out];rfl
    have f0:=Ag HR3.out 0
    have f1:=Ag HR3.out 1
    have f2:=Ag HR3.out 2
    go_simp
    have HX:=H3.out.put HR3.out HRN.out (.int .i64 K0) (.int .i64 N0) (.func (.func F0) #[] #[])
    refine hK.out _ _ HX.1 (fun hHeld => ?_)
    refine tp 11 (.bool okb) hHeld ?_
    refine wpAnyH_done (by kernel_rfl) ?_ _
    exact ⟨R,M,rfl,HX.2,HX.1,HRN.out⟩
  ·rw [if_pos (by kernel_rfl)]
   go_simp
   have H1:=Lib.hid (H0.out.on (AZ _ (.cells zr 65)))
   obtain ⟨R,hR⟩:∃R,R=u0.heap.size:=⟨_,rfl⟩
   have HR1:=Lib.hid (AX u0 (.cells zr 65))
   have HRN:=Lib.hid (show w.heap.size+2<R by have:=lt_of_block H0.out.row.choose_spec.1;have:=H0.out.far;omega)
   rw [←hR] at HR1 ⊢
   clear hR
   change K _ (u0.alloc (.cells zr 65))
   generalize u0.alloc (.cells zr 65)=u1 at H1 HR1 ⊢
   refine hK.out _ _ H1.out (fun hHeld => ?_)
   clear hK
   refine AY 0 rfl fun K hK => ?_
   go_simp
   refine (JA _).mono ?_
   rintro e u2 ⟨rfl,hm,hb⟩
   obtain ⟨M,hM⟩:∃M,M=u1.heap.size:=⟨_,rfl⟩
   rw [←hM] at hm ⊢
   have H2:=Lib.hid (H1.out.on hb)
   have HM2:=Lib.hid hm
   have HR2:=Lib.hid ((hb.block _ (lt_of_block HR1.out)).trans HR1.out)
   clear hm hb hM
   refine hK.out _ _ H2.out (fun hHeld => ?_)
   clear hK
   refine AY 4 rfl fun K hK => ?_
   go_simp
   refine (HP.out _).mono ?_
   rintro e u3 ⟨he,hb⟩
   unfold ED at he
   rw [HPX.out] at he
   subst he
   have H3:=Lib.hid (H2.out.on hb)
   have HM3:=Lib.hid (HM2.out.below hb HM2.out.lt)
   have HR3:=Lib.hid ((hb.block _ (lt_of_block HR2.out)).trans HR2.out)
   clear hb
   refine hK.out _ _ H3.out (fun hHeld => ?_)
   clear hK
   refine AY 5 rfl fun K hK => ?_
   have hlk:=HLK.out _ _ HM3.out
   go_simp
   clear hlk
   refine hK.out _ _ H3.out (fun hHeld => ?_)
   clear hK
   refine tp 6 (.tuple #[.agg #[(.int .i64 K0),(.int .i64 N0),(.func (.func F0) #[] #[])],.bool okb]) hHeld ?_
   refine tp 7 (.agg #[(.int .i64 K0),(.int .i64 N0),(.func (.func F0) #[] #[])]) hHeld ?_
   refine tp 8 (.bool okb) hHeld ?_
   refine AY 10 rfl fun K hK => ?_
   have r0:u3.cell? ⟨R,0,none⟩=some (.int .i64 0):=by rw [Lib.cell_of_heap HR3.out];rfl
   have r1:u3.cell? ⟨R,1,none⟩=some (.int .i64 0):=by rw [Lib.cell_of_heap HR3.out];rfl
   have r2:u3.cell? ⟨R,2,none⟩=some .nilFunc:=by rw [Lib.cell_of_heap HR3.out];rfl
   have f0:=Ag HR3.out 0
   have f1:=Ag HR3.out 1
   have f2:=Ag HR3.out 2
   go_simp
   have HX:=H3.out.put HR3.out HRN.out (.int .i64 K0) (.int .i64 N0) (.func (.func F0) #[] #[])
   refine hK.out _ _ HX.1 (fun hHeld => ?_)
   refine tp 11 (.bool okb) hHeld ?_
   refine wpAnyH_done (by kernel_rfl) ?_ _
   exact ⟨R,M,rfl,HX.2,HX.1,HRN.out⟩
 ·rintro a W ⟨R,M,rfl,hR,hlw,hRn⟩
  have HLW:=Lib.hid hlw
  have c0:W.cell? ⟨R,0,none⟩=some (.int .i64 K0):=by rw [Lib.cell_of_heap hR];rfl
  have c1:W.cell? ⟨R,1,none⟩=some (.int .i64 N0):=by rw [Lib.cell_of_heap hR];rfl
  have b0:W.cell? ⟨w.heap.size,0,none⟩=some (.int .i64 0):=by rw [Lib.cell_of_heap hlw.res.op];rfl
  have z0:W.frozen? ⟨w.heap.size,0,none⟩=false:=Ag hlw.res.op 0
  have HRS:=Lib.hid (hlw.AAd K0)
  have hRB:R≠w.heap.size:=by omega
  have HR2:Hid ((W.setCell ⟨w.heap.size,0,none⟩ (.int .i64 K0)).drew.cell? ⟨R,2,none⟩=some (.func (.func F0) #[] #[])):=Lib.hid (by
   show (W.setCell ⟨w.heap.size,0,none⟩ (.int .i64 K0)).cell? ⟨R,2,none⟩=_
   rw [World.cell?_setCell_far W _ _ _ (by simpa using Ne.symm hRB),Lib.cell_of_heap hR]
   rfl)
  have JG:Hid ((W.setCell ⟨w.heap.size,0,none⟩ (.int .i64 K0)).drew.heap[w.heap.size+1]?=some (.cells #[.bool false] 4 (0,0))∧(W.setCell ⟨w.heap.size,0,none⟩ (.int .i64 K0)).drew.heap[w.heap.size+2]?=some (.cells #[.int .i64 0] 29 (0,0))):=Lib.hid ⟨(Eu (by omega) _ _).trans hlw.res.says,(Eu (by omega) _ _).trans hlw.res.err⟩
  have Qs:Hid (Below w.heap.size w (W.setCell ⟨w.heap.size,0,none⟩ (.int .i64 K0)).drew):=Lib.hid (hlw.bel.setCell (Nat.le_refl _) _).drew
  have HRB:=Lib.hid hRB
  have HRL:=Lib.hid (lt_of_block hR)
  have HRN:=Lib.hid hRn
  unfold NE
  rw [E3.out]
  clear hR hlw hRn
  go_wp2_with (first
   | (go_at_call 23;refine (FP _).mono ?_;rintro e w1 ⟨rfl,rfl⟩))
  refine AAM (PS:=fun c a W=>G6 w.heap.size w c a W∧sp.Ai p.1 l=none) ?_ ?_
  ·rintro c a W ⟨h,ho⟩
   obtain ⟨cs,sy,er,q1,q2⟩:=h.res
   rw [h.bar]
   show Leaves Tryz.prog Tryz.f9 a.tmps _ a.defers (.panicking bar) W
   rw [h.defers]
   exact Jg q2 q1 h.slots fun W' hW=>⟨IU (B:=w.heap.size) (by rw [HLS.out,ho];rfl) _,h.bel.trans hW⟩
  ·obtain ⟨ad,had⟩:∃ad,ad=(some (if cap=1 then (⟨g,0,none⟩:Addr) else ⟨g,2,none⟩)):=⟨_,rfl⟩
   have HAD:=Lib.hid (AAc (g:=g) HC1.out)
   rw [←had] at HAD
   have hsl:=fun W=>AAY W g l.length cap HC1.out HC2.out
   rw [←had] at hsl
   clear had
   have hent:=AAh.out
   refine wp_region_held_drew (S:=fun W=>W.cell? ⟨R,2,none⟩=some (.func (.func F0) #[] #[])) (by kernel_rfl) HR2.out (fun hHeld => ?_)
   refine wpAnyH_take (i:=0) (v:=.pointer (some ⟨R,2,none⟩)) rfl (by kernel_rfl) (by kernel_rfl) (by kernel_rfl) (fun _ _ _ h=>⟨G6.Hy h.1 (by decide),h.2⟩) (Or.inl ⟨by kernel_rfl,fun s hs=>by have e0:=hs;go_simp⟩) hHeld ?_
   refine wpAnyH_take (i:=1) (v:=.func (.func F0) #[] #[]) rfl (by kernel_rfl) (by kernel_rfl) (by kernel_rfl) (fun _ _ _ h=>⟨G6.Hy h.1 (by decide),h.2⟩) (Or.inl ⟨by kernel_rfl,fun s hs=>by have e0:=hs;go_simp⟩) hHeld ?_
   refine wpAnyH_take (i:=2) (v:=.slice (some ⟨g,0,none⟩) (l.length+1) cap) rfl (by kernel_rfl) (by kernel_rfl) (by kernel_rfl) (fun _ _ _ h=>⟨G6.Hy h.1 (by decide),h.2⟩) (Or.inl ⟨by kernel_rfl,fun s hs=>by have e0:=hs;go_simp⟩) hHeld ?_
   refine wpAnyH_take (i:=3) (v:=.slice ad l.length (cap-1)) rfl (by kernel_rfl) (by kernel_rfl) (by kernel_rfl) (fun _ _ _ h=>⟨G6.Hy h.1 (by decide),h.2⟩) (Or.inl ⟨by kernel_rfl,fun s hs=>by have e0:=hs;go_simp⟩) hHeld ?_
   refine AY 4 rfl fun K hK => ?_
   go_simp
   refine (Et.out _ (cap-1) _ _ g HAD.out HRS.out).mono ?_
   rintro e u3 he
   cases ho:sp.Ai p.1 l with
   | none =>
    rw [ho] at he
    obtain ⟨rfl,hfr,cs,hcs,hsz⟩:=he
    refine ⟨⟨rfl,rfl,⟨rfl,rfl,rfl⟩,⟨cs,_,_,hsz,hcs,(hfr.block _ (lt_of_block JG.out.1) (by omega) (fun e=>by cases e)).trans JG.out.1,(hfr.block _ (lt_of_block JG.out.2) (by omega) (fun e=>by cases e)).trans JG.out.2⟩,Qs.out.trans (hfr.below (Nat.le_refl _) (fun g hg=>by cases hg) Qs.out.size)⟩,rfl⟩
   | some o =>
    rw [ho] at he
    obtain ⟨rfl,hfr,tv,hop,hrow,htv⟩:=he
    have hlt2:=lt_of_block JG.out.2
    have HTV:Hid (∀g,tv.ownBlock=some g→w.heap.size+2<g):=Lib.hid fun g hg=>by have:=htv g hg;omega
    have ZP:=Lib.hid hrow
    have HR3:Hid (Res w.heap.size (w.heap.size+1) (w.heap.size+2) (AQ o tv) false 0 u3):=Lib.hid ⟨hop,(hfr.block _ (lt_of_block JG.out.1) (by omega) (fun e=>by cases e)).trans JG.out.1,(hfr.block _ (lt_of_block JG.out.2) (by omega) (fun e=>by cases e)).trans JG.out.2⟩
    have HB3:=Lib.hid (Qs.out.trans (hfr.below (b:=w.heap.size) (B:=w.heap.size) (Nat.le_refl _) (fun g hg=>by cases hg) Qs.out.size))
    have HO:=Lib.hid ho
    have hc2:u3.cell? ⟨R,2,none⟩=some (.func (.func F0) #[] #[]):=by
     have e1:=HR2.out
     have e2:=hfr.block R (by simpa using HRL.out) HRB.out (fun e=>by cases e)
     rw [←e1]
     unfold World.cell?
     simp only [e2]
    refine hK.out _ _ hc2 (fun hHeld => ?_)
    refine wpAnyH_done (by kernel_rfl) ?_ _
    refine Qq.normal ?_
    clear hHeld hK hop hrow htv hfr ho hc2 hlt2 hsl hent c0 c1 b0 z0
    have I9:Hid ((AQ o tv).all (·.oneCell')=true):=Lib.hid (AAe ZP.out)
    have VI:Hid ((AQ o tv).size=18):=Lib.hid rfl
    obtain ⟨oc,hoc⟩:∃oc,oc=AQ o tv:=⟨_,rfl⟩
    rw [←hoc] at HR3 I9 VI
    have ZQ:Hid ((Tryz.prog.info? 28).map (·.size)=some oc.size):=Lib.hid (by rw [VI.out];exact BU)
    go_wp2_with (first
     | (refine wpList_load_row rfl 28 _ rfl w.heap.size rfl 28 oc (0,0) _ HR3.out.op Tryz.underlying28 rfl ZQ.out ?_)
     | (refine wpList_store_row rfl 28 _ _ rfl w.heap.size oc rfl rfl 28 oc HR3.out.op ZQ.out rfl I9.out ?_;have HR4:=Lib.hid (HR3.out.row (cs':=oc)).1;have HB4:=Lib.hid (HB3.out.trans (HR3.out.row (cs':=oc)).2);have HT4:=Lib.hid ((AAf ZP.out (fun g hg=>by have:=HTV.out g hg;omega) oc (b:=w.heap.size)).mono (show u3.heap.size≤(u3.setRow w.heap.size oc).heap.size by simp [World.setRow]));generalize u3.setRow w.heap.size oc=W2 at HR4 HB4 HT4 ⊢; obtain ⟨k0,k1,y0,y1⟩:=HR4.out.cells))
    obtain ⟨n1,n2,n3⟩:=VG w.heap.size
    have HG:=HR4.out.fin n1 n2 n3 true 0
    refine ZH HG.1 VI.out ⟨rfl,rfl,rfl⟩ ⟨?_,HB4.out.trans (HG.2 _ (Nat.le_succ _) (by omega))⟩
    unfold Es
    rw [HLS.out,HO.out]
    refine ⟨tv,by rw [hoc],?_,fun g hg=>by have:=HTV.out g hg;omega⟩
    have ht5:=ZO (ZO HT4.out (fun g hg=>by have:=HTV.out g hg;omega) 0 (x:=.bool true) (b:=w.heap.size+1)) (fun g hg=>by have:=HTV.out g hg;omega) 0 (x:=.int .i64 0) (b:=w.heap.size+2)
    exact ht5.mono (by simp)
theorem AAi (s:List UInt8) (w:World) (hn:s.length≤1099511627776):Calls Tryz.prog 9 #[.string (AA s)] w fun e w'=>Es w.heap.size s w' e∧Below w.heap.size w w':=by
 by_cases h:10∈s
 ·exact AAN s w h
 cases h2:sp.Dx s with
 | true=>exact AAU s w h h2
 | false =>
  cases hw:sp.words s with
  | none=>exact AAV s w h h2 hw hn
  | some m =>
   match m with
   | []=>exact absurd hw (YN h2)
   | p :: l =>
    cases hp:p.2 with
    | true=>exact AAX s w h h2 p l hp hw hn
    | false =>
     by_cases hq:p.1∈Ce.map (·.1)
     ·obtain ⟨⟨x,r⟩,hm,hx⟩:=List.mem_map.1 hq
      simp only at hx
      subst hx
      by_cases hc:(l.length:Int)=r.n
      ·exact AAg s w h h2 p l hp r hm hc hw hn
      ·exact AAb s w h h2 p l hp r hm hc hw hn
     ·exact AAa s w h h2 p l hp hq hw hn
set_option maxRecDepth 100000 in
set_option maxHeartbeats 16000000 in
theorem YW (w:World) (v:Value) (b:List UInt8) (h:BK w.heap.size w v b.length (Lib.byteCells b)) (hm:Gt w) (hn:b.length≤1048576) :
  Calls Tryz.prog 13 #[v] w fun e w'=>Hq b w' e∧Below w.heap.size w w':=by
 have HLN:=Lib.hid (lines_any w v b h hm hn)
 obtain ⟨av,cv,rfl⟩:=h.slice
 by_cases hbig:65536<b.length
 ·have HF:=Lib.hid (fun W=>ZK (.inl hbig) W)
  have t6:decide ((65536:Int)<(b.length:Int))=true:=by simp;omega
  have t6n:(65536:Int)<(b.length:Int):=by omega
  have t6g:decide ((b.length:Int)>65536)=true:=by simp;omega
  clear hbig hn h hm
  go_enter Tryz.func13,Tryz.ntmps13
  go_wp2
  go_ret3
  exact ⟨HF.out _,Below.refl _ _⟩
 have t6:decide ((65536:Int)<(b.length:Int))=false:=by simp;omega
 have t6n:¬(65536:Int)<(b.length:Int):=by omega
 have t6g:decide ((b.length:Int)>65536)=false:=by simp;omega
 have HB6:Hid (b.length≤65536):=Lib.hid (by omega)
 have HNB:=Lib.hid hn
 have HLS:=Lib.hid (ZC b).2
 by_cases hlong:2000<(sp.DT b).length
 ·have HF:=Lib.hid (fun W=>ZK (b:=b) (.inr hlong) W)
  have HLO:=Lib.hid hlong
  clear hbig hn h hm hlong
  go_enter Tryz.func13,Tryz.ntmps13
  go_wp2_with (go_at_call 32;refine HLN.out.mono ?_;rintro e w1 ⟨v',rfl,hr1,hb1⟩;obtain ⟨a1,c1,rfl⟩:=hr1.slice;have hl1:decide (((sp.DT b).length:Int)>2000)=true:=(by have:=HLO.out;simp;omega);have hl2:((sp.DT b).length:Int)>2000:=(by have:=HLO.out;omega);have HB1:=Lib.hid hb1;clear hr1 hb1)
  go_ret3
  exact ⟨HF.out _,HB1.out⟩
 have HL2:Hid ((sp.DT b).length≤2000):=Lib.hid (by omega)
 obtain ⟨GV,Qu⟩:∃GV,GV=sp.DT b:=⟨_,rfl⟩
 have ZR:=Lib.hid Qu
 rw [←Qu] at HLN HLS
 have HK2:Hid (GV.length≤2000):=Lib.hid (by rw [Qu];exact HL2.out)
 clear hbig hn h hm hlong Qu
 go_enter Tryz.func13,Tryz.ntmps13
 go_wp2_with (go_at_call 32;refine HLN.out.mono ?_;rintro e w1 ⟨v',rfl,hr1,hb1⟩;obtain ⟨a1,c1,rfl⟩:=hr1.slice;have hl1:decide ((GV.length:Int)>2000)=false:=(by have:=HK2.out;simp;omega);have hl2:¬(GV.length:Int)>2000:=(by have:=HK2.out;omega);have HBA:=Lib.hid hb1;have Et:=Lib.hid hr1;clear hr1 hb1)
 go_loopw [6,22] (fun d i wr=>∃k:Nat,k≤GV.length∧i=.int .i64 k∧∃L,PaR w1 L d wr∧FD GV k (L.map (·.1))∧L.length≤k) (fun _ i _=>GV.length-(intOf i).toNat)
 case atStart=>exact ⟨0,Nat.zero_le _,rfl,[],PaR.nil w1,FD.start _,Nat.le_refl _⟩
 case round =>
  obtain ⟨k,hk,rfl,L,hp,hat,hkl⟩:=hrel
  have HP:=Lib.hid hp;have HAT:=Lib.hid hat;have HLK:=Lib.hid hkl
  have HKL:Hid (L.length≤2000):=Lib.hid (by have:=HK2.out;omega)
  have hkb:(k:Int)≤2000:=by have:=HK2.out;omega
  clear hp hat hkl
  by_cases hlt:k<GV.length
  ·obtain ⟨bx,off,hae,_,hcell⟩:=AAT Et.out HP.out.bel hlt
   subst hae
   have t0:decide ((k:Int)<(GV.length:Int))=true:=by simp;omega
   have HSL:Hid (GV[k].length≤1048576):=Lib.hid (Nat.le_trans (HLS.out _ (List.getElem_mem hlt)) HNB.out)
   obtain ⟨s,hs⟩:∃s,GV[k]=s:=⟨_,rfl⟩
   rw [hs] at hcell HSL
   have HSK:=Lib.hid hs
   have HCL:=Lib.hid (fun W hn=>AAi s W hn)
   cases hq:sp.lineS s with
   | none =>
    have HLE:=Lib.hid hq
    have HF:=Lib.hid (fun W=>AAR HB6.out HL2.out (by rw [←ZR.out];exact HAT.out.bad hlt HSK.out hq) W)
    clear hq hs
    go_wp2_with (first
       | (have hgd:=HCL;clear hgd;go_at_call 9;refine (HCL.out _ (Nat.le_trans HSL.out (by decide))).mono ?_;rintro e W1 ⟨he,hb1⟩;unfold Es at he;rw [HLE.out] at he;subst he;have HB1:=Lib.hid hb1;clear hb1 HCL)
        | (have hgd:=HB1;clear hgd;refine MJ rfl _ _ rfl W1.heap.size (Ap 0) rfl rfl _ (AX _ _) rfl rfl IR ?_;intro W2 hW;obtain ⟨q1,q2⟩:=MK hW;have HQ2:=Lib.hid q1;have HB2:=Lib.hid (HB1.out.trans (q2.mono HB1.out.size));clear hW q1 q2 HB1))
    go_ret3
    exact ⟨by have:=HF.out W2;simpa using this,HBA.out.trans ((HP.out.bel.trans (HB2.out.mono HP.out.bel.size)).mono HBA.out.size)⟩
   | some x =>
    cases x with
    | none =>
     have HLE:=Lib.hid hq
     clear hs
     go_wp2_with (first
       | (have hgd:=HCL;clear hgd;go_at_call 9;refine (HCL.out _ (Nat.le_trans HSL.out (by decide))).mono ?_;rintro e W1 ⟨he,hb1⟩;unfold Es at he;rw [HLE.out] at he;subst he;have HB1:=Lib.hid hb1;clear hb1 HCL)
        | (have hgd:=HB1;clear hgd;refine MJ rfl _ _ rfl W1.heap.size (Ap 0) rfl rfl _ (AX _ _) rfl rfl IR ?_;intro W2 hW;obtain ⟨q1,q2⟩:=MK hW;have HQ2:=Lib.hid q1;have HB2:=Lib.hid (HB1.out.trans (q2.mono HB1.out.size));clear hW q1 q2 HB1))
     exact ⟨⟨k+1,by omega,by go_num,L,HP.out.on HB2.out,HAT.out.skip hlt HSK.out HLE.out,Nat.le_succ_of_le HLK.out⟩,by simp [intOf];omega⟩
    | some o =>
     have HLE:=Lib.hid hq
     clear hs
     go_wp2_with (first
       | (have hgd:=HCL;clear hgd;go_at_call 9;refine (HCL.out _ (Nat.le_trans HSL.out (by decide))).mono ?_;rintro e W1 ⟨he,hb1⟩;unfold Es at he;rw [HLE.out] at he;obtain ⟨tv,rfl,hr1,ho1⟩:=he;have HB1:=Lib.hid hb1;have HT1:=Lib.hid hr1;have HN1:=Lib.hid ho1;have HO1:=Lib.hid (Qb (o:=o) hr1);clear hb1 hr1 ho1 HCL)
        | (have hgd:=HB1;clear hgd;refine MJ rfl _ _ rfl W1.heap.size (AQ o tv) rfl rfl _ (AX _ _) rfl rfl HO1.out ?_;intro W2 hW;obtain ⟨q1,q2⟩:=MK hW;have HQ2:=Lib.hid q1;have HB2:=Lib.hid (HB1.out.trans (q2.mono HB1.out.size));have HT2:=Lib.hid ((HT1.out.keep q2).mono q2.size);clear hW q1 q2 HB1)
        | (have hgd:=HQ2;clear hgd;refine wpList_load_row rfl 28 _ rfl W1.heap.size rfl 28 (AQ o tv) (0,0) _ HQ2.out Tryz.underlying28 rfl BU ?_;clear HQ2)
        | (have hgd:=HT2;clear hgd;refine VD rfl _ rfl o tv rfl ?_;intro W3 p1 p2;have HQ3:=Lib.hid p1;have HB3:=Lib.hid (HB2.out.trans (p2.mono HB2.out.size));have HT3:=Lib.hid ((HT2.out.keep p2).mono p2.size);clear p1 p2 HT2)
        | (have hgd:=HQ3;clear hgd;at_builtin;refine AAQ rfl _ _ rfl w1.heap.size L _ rfl (HP.out.on HB3.out).own W2.heap.size (o,tv) (0,0) rfl HQ3.out HO1.out (by have:=HKL.out;omega) (HP.out.on HB3.out).bel.size ?_;intro v' W4 hown hgr hvo;have HX:=Lib.hid (HP.out.app HB3.out HT3.out HN1.out hown hgr hvo);clear hown hgr hvo HQ3))
     exact ⟨⟨k+1,by omega,by go_num,L++[(o,tv)],HX.out,by rw [List.map_append];exact HAT.out.one hlt HSK.out HLE.out,by rw [List.length_append];exact Nat.succ_le_succ HLK.out⟩,by simp [intOf];omega⟩
  ·have hke:k=GV.length:=by omega
   have t0:decide ((k:Int)<(GV.length:Int))=false:=by simp;omega
   have HF:=Lib.hid (AAS HB6.out HL2.out (by rw [←ZR.out];exact HAT.out.fin (by omega)) HP.out)
   go_wp2
   go_ret3
   exact ⟨HF.out,HBA.out.trans (HP.out.bel.mono HBA.out.size)⟩
theorem Ic (n:Int) (w:World):Calls Tryz.prog 82 #[.int .i64 n] w fun e w'=>e=.returned (.bool (CB n))∧w'=w:=by
 have hs:CB n=(decide (-1000000000<n)&&decide (n<1000000000)):=rfl
 cases t1:decide (-1000000000<n)<;>cases t2:decide (n<1000000000)
 all_goals
  rw [t1,t2] at hs
  rw [hs]
  clear hs
  go_enter Tryz.func82,Tryz.ntmps82
  go_wp2
  go_ret
  exact ⟨rfl,rfl⟩
def NF (c:UInt8):Bool:=c==32||c==10||c==34
theorem AAj (s:ByteArray) (k:Nat) (hk:k<s.data.toList.length) (hb:NF (s.data.toList[k])=true):CZ s=false:=by
 have hm:s.data.toList[k]∈s.data.toList:=List.getElem_mem hk
 have:GZ s.data.toList=true:=by
  unfold GZ
  exact List.any_eq_true.2 ⟨_,hm,hb⟩
 rw [UX,this]
 simp
theorem AAk (s:ByteArray) (h:∀k (hk:k<s.data.toList.length),NF s.data.toList[k]=false):CZ s = !s.toList.isEmpty:=by
 have:GZ s.data.toList=false:=by
  unfold GZ
  rw [List.any_eq_false]
  intro x hx
  obtain ⟨k,hk,rfl⟩:=List.getElem_of_mem hx
  have:=h k hk
  unfold NF at this
  rw [this]
  simp
 rw [UX,this,Lib.toList_data]
 simp
set_option maxRecDepth 100000 in
set_option maxHeartbeats 8000000 in
theorem Hz (s:ByteArray) (w:World) (hs:s.size≤1048576):Calls Tryz.prog 83 #[.string s] w fun e w'=>e=.returned (.bool (CZ s))∧Below w.heap.size w w':=by
 have HS:=Lib.hid hs
 have hcv:=fun W=>Lib.run_convert_string_bytes (P:=Tryz.prog) W 9 22 5 s Tryz.underlying9 Tryz.underlying22 Tryz.underlying5
 have HC:=Lib.hid (fun j (hj:j<s.size)=>Lib.bytesWorld_cell w 5 s j hj)
 have HB:=Lib.hid (Lt w s)
 clear hs
 go_enter Tryz.func83,Tryz.ntmps83
 go_wp2
 clear hcv
 generalize Lib.bytesWorld w 5 s=W2 at HB HC
 have hlen:s.data.toList.length=s.size:=by rw [Array.length_toList];rfl
 have HLEN:=Lib.hid hlen
 go_loopw [8] (fun i wr=>∃k:Nat,k≤s.size∧i=.int .i64 k∧wr=W2∧∀j (hj:j<s.data.toList.length),j<k→NF s.data.toList[j]=false) (fun i _=>s.size-(intOf i).toNat)
 case atStart=>exact ⟨0,Nat.zero_le _,rfl,rfl,fun j _ h=>absurd h (Nat.not_lt_zero _)⟩
 case round =>
  obtain ⟨k,hk,rfl,rfl,hno⟩:=hrel
  have HNO:=Lib.hid hno;clear hno
  have hkb:(k:Int)≤1048576:=by have:=HS.out;omega
  by_cases hlt:k<s.size
  ·have hkl:k<s.data.toList.length:=by omega
   have hc:wr.cell? ⟨w.heap.size,k,none⟩=some (.int .u8 (s.data.toList[k]'hkl).toNat):=by
    have:=HC.out k hlt
    rwa [getD_lt _ _ hkl] at this
   have HBAD:=Lib.hid (AAj s k hkl)
   generalize hK:s.data.toList[k]'hkl=K at hc HBAD
   have hK2:=Lib.hid hK;clear hK
   have hK0:(0:Int)≤K.toNat:=by omega
   by_cases hb:NF K=true
   ·have HV:=Lib.hid (HBAD.out hb)
    have hcase:K=32∨K=34∨K=10:=by
     unfold NF at hb
     simp at hb
     rcases hb with (h | h) | h
     ·exact Or.inl h
     ·exact Or.inr (Or.inr h)
     ·exact Or.inr (Or.inl h)
    clear hb HC HBAD
    rcases hcase with rfl | rfl | rfl
    all_goals
     go_wp2
     go_ret
     exact ⟨by rw [HV.out];rfl,HB.out⟩
   ·have HN:=Lib.hid hb
    have n32:((K.toNat:Int)==32)=false:=by simp;intro h;exact hb (by rw [(UInt8.toNat_inj (a:=K) (b:=32)).1 (by simpa using (by omega:K.toNat=32))];rfl)
    have n34:((K.toNat:Int)==34)=false:=by simp;intro h;exact hb (by rw [(UInt8.toNat_inj (a:=K) (b:=34)).1 (by simpa using (by omega:K.toNat=34))];rfl)
    have n10:((K.toNat:Int)==10)=false:=by simp;intro h;exact hb (by rw [(UInt8.toNat_inj (a:=K) (b:=10)).1 (by simpa using (by omega:K.toNat=10))];rfl)
    clear hb HC HBAD
    go_wp2
    refine ⟨⟨k+1,by omega,by go_num,by first | rfl | trivial,fun j hj hjk => ?_⟩,by simp [intOf];omega⟩
    by_cases e:j=k
    ·subst e;rw [hK2.out];simpa using HN.out
    ·exact HNO.out j hj (by omega)
  ·have HV:=Lib.hid (AAk s (fun j hj=>HNO.out j hj (by omega)))
   cases t1:s.toList.isEmpty
   all_goals
    have HT:=Lib.hid t1
    go_wp2
    go_ret
    exact ⟨by rw [HV.out,HT.out];rfl,HB.out⟩
set_option maxRecDepth 100000 in
set_option maxHeartbeats 4000000 in
theorem ZT (w:World) (c:Nat) (rs:List (Int×Int)) (hc:X4 w c rs) (hns:rs.length≤2) (hi:∀r∈rs,I64 r.1∧I64 r.2) (hp:Pow w) :
  Calls Tryz.prog 84 #[.slice (some ⟨c,0,none⟩) rs.length rs.length] w fun e w'=>e=.returned (.tuple #[.string (AA (Ae (CU rs))),.bool (rs.all CP)])∧Below w.heap.size w w':=by
 have HC:=Lib.hid hc;have HNS:=Lib.hid hns;have HI:=Lib.hid hi;have HP:=Lib.hid hp
 clear hc hns hi hp
 go_enter Tryz.func84,Tryz.ntmps84
 go_wp2
 go_loopw [4,5,10] (fun s o i wr=>∃k:Nat,k≤rs.length∧i=.int .i64 k∧s=.string (AA (Ae (CU (rs.take k))))∧o=.bool ((rs.take k).all CP)∧Below w.heap.size w wr) (fun _ _ i _=>rs.length-(intOf i).toNat)
 case atStart=>exact ⟨0,Nat.zero_le _,rfl,by simp [Ae,CU,AA],by simp,Below.refl _ _⟩
 case round =>
  obtain ⟨k,hk,rfl,rfl,rfl,hbl⟩:=hrel
  have hkb:(k:Int)≤2:=by have:=HNS.out;omega
  have HB:=Lib.hid hbl;clear hbl
  by_cases hlt:k<rs.length
  ·have Iw:=lt_of_block HC.out
   have hrow:=(HB.out.block c Iw).trans HC.out
   have hcell0:wr.cell? ⟨c,k*2,none⟩=some (.int .i64 rs[k].1):=by
    rw [cell_of_row wr c (k*2) _ 24 (0,0) hrow,List.getElem?_toArray,(QP rs k hlt).1]
   have hcell1:wr.cell? ⟨c,k*2+1,none⟩=some (.int .i64 rs[k].2):=by
    rw [cell_of_row wr c (k*2+1) _ 24 (0,0) hrow,List.getElem?_toArray,(QP rs k hlt).2]
   have HX:=Lib.hid (UT rs k hlt)
   have HO:=Lib.hid (X5 CP true rs k hlt)
   obtain ⟨i1,i2⟩:=HI.out rs[k] (List.getElem_mem hlt)
   have hz:=QQ i1 i2
   have hl:=X6 (rs.take k) (fun r hr=>HI.out r (List.mem_of_mem_take hr))
   have hl2:(AA (Ae (CU (rs.take k)))).size≤100:=by
    rw [Aa]
    rw [List.length_take] at hl
    omega
   clear hl hrow
   have hs:CP rs[k]=Cj rs[k].1 rs[k].2:=rfl
   generalize rs[k]=r at hcell0 hcell1 HX HO i1 i2 hz hs
   obtain ⟨n,d⟩:=r
   simp only at hcell0 hcell1 HX HO i1 i2 hz hs
   generalize Ae (CU (rs.take k))=l0 at HX hl2
   simp only [Bool.true_and] at HO
   generalize (rs.take k).all CP=ok0 at HO
   have HI1:=Lib.hid i1;have HI2:=Lib.hid i2;clear i1 i2
   have HRB:=Lib.hid (AX wr (.cells #[.int .i64 n,.int .i64 d] 24))
   have HBA:=Lib.hid (HB.out.alloc HB.out.size (.cells #[.int .i64 n,.int .i64 d] 24))
   obtain ⟨g0,g1⟩:=JX HRB.out
   cases hm:Cj n d<;>cases ok0
   all_goals
    rw [hm] at hs
    have HS:=Lib.hid hs;have HM:=Lib.hid hm;clear hs hm
    go_wp2_with (first
     | (go_at_call 74;refine (pI n d _ HI1.out HI2.out (HP.out.on HBA.out)).mono ?_;rintro e w1 ⟨rfl,hb1⟩;have hk1:=(hb1.block wr.heap.size (by simp)).trans HRB.out;obtain ⟨g2,g3⟩:=JX hk1;have HB1:=Lib.hid (HBA.out.trans (hb1.mono HBA.out.size));clear hb1 hk1)
     | (go_at_call 114;refine (Fb n d _ HI1.out HI2.out).mono ?_;rintro e w2 ⟨rfl,hb2⟩;rw [HM.out];have HB2:=Lib.hid (HB1.out.trans (hb2.mono HB1.out.size));clear hb2))
    first
     | refine ⟨⟨k+1,by omega,by go_num,?_,?_,HB2.out⟩,by simp [intOf];omega⟩
     | refine ⟨⟨k+1,by omega,by go_num,?_,?_,HB1.out⟩,by simp [intOf];omega⟩
    ·rw [HX.out]
     apply congrArg Value.string
     apply ByteArray.ext
     simp [AA,Ae]
    ·rw [HO.out,HS.out]
     rfl
  ·have:k=rs.length:=by omega
   subst this
   have HE:Hid (rs.take rs.length=rs):=Lib.hid (by rw [List.take_length])
   go_wp2
   go_ret2
   exact ⟨by simp only [HE.out];rfl,HB.out⟩
def Opw (cs:Array Value) (w wn:World):Prop:=Below w.heap.size w wn∧wn.heap[w.heap.size]?=some (.cells cs 28 (0,0))
theorem Opw.new (cs:Array Value) (w:World):Opw cs w (w.alloc (.cells cs 28)):=⟨AZ _ _,AX _ _⟩
theorem Opw.below {cs:Array Value} {w wn wm:World} (h:Opw cs w wn) (hb:Below wn.heap.size wn wm):Opw cs w wm:=⟨h.1.trans (hb.mono h.1.size),(hb.block _ (Array.getElem?_eq_some_iff.1 h.2).1).trans h.2⟩
theorem Opw.drew {cs:Array Value} {w wn:World} (h:Opw cs w wn):Opw cs w wn.drew:=h.below (Below.refl _ _).drew
theorem Opw.cell {cs:Array Value} {w wn:World} (h:Opw cs w wn) (k:Nat) (v:Value) (hk:cs[k]?=some v):wn.cell? ⟨w.heap.size,k,none⟩=some v:=Um h.2 k v hk
theorem Fp {a b:ByteArray} {p q:Bool} (h:a=b) (h2:p=q):Ending.returned (.tuple #[.string a,.bool p])=Ending.returned (.tuple #[.string b,.bool q]):=by rw [h,h2]
theorem VJ {n:Int} (h:I64 n):(AA (Lib.itoa n)).size≤21:=IL h
theorem AAl (W:World):(Instr.index 131 (.agg #[.string ⟨#[110,111,110,101]⟩,.string ⟨#[105,110,108,105,110,101]⟩,.string ⟨#[115,105,122,101]⟩]) (.int .i64 0)).run Tryz.prog W=.ok (.string ⟨#[110,111,110,101]⟩) W∧(Instr.index 131 (.agg #[.string ⟨#[110,111,110,101]⟩,.string ⟨#[105,110,108,105,110,101]⟩,.string ⟨#[115,105,122,101]⟩]) (.int .i64 1)).run Tryz.prog W=.ok (.string ⟨#[105,110,108,105,110,101]⟩) W∧(Instr.index 131 (.agg #[.string ⟨#[110,111,110,101]⟩,.string ⟨#[105,110,108,105,110,101]⟩,.string ⟨#[115,105,122,101]⟩]) (.int .i64 2)).run Tryz.prog W=.ok (.string ⟨#[115,105,122,101]⟩) W:=⟨by kernel_rfl,by kernel_rfl,by kernel_rfl⟩
theorem NG {r:Int×Int} (h:I64 r.1∧I64 r.2):(AA (32 :: sp.AP r.1 r.2)).size≤44:=by rw [Aa,List.length_cons];have:=ET h;omega
theorem LD {r q:Int×Int} (h:I64 r.1∧I64 r.2) (g:I64 q.1∧I64 q.2):(AA (32 :: (sp.AP r.1 r.2++32 :: sp.AP q.1 q.2))).size≤88:=by rw [Aa,List.length_cons,List.length_append,List.length_cons];have:=ET h;have:=ET g;omega
theorem NH (w:World) (r:Int×Int) (hr:I64 r.1∧I64 r.2) (hp:Pow w) :
  Calls Tryz.prog 84 #[.slice (some ⟨w.heap.size,0,none⟩) 1 1] (w.alloc (.cells #[.int .i64 r.1,.int .i64 r.2] 24)) fun e w'=>e=.returned (.tuple #[.string (AA (32 :: sp.AP r.1 r.2)),.bool (CP r)])∧Below w.heap.size w w':=by
 have hb:=AZ w (.cells #[.int .i64 r.1,.int .i64 r.2] 24)
 have e:Ae (CU [r])=32 :: sp.AP r.1 r.2:=by simp [Ae,CU,AA]
 refine (ZT _ w.heap.size [r] (AX _ _) (by simp) (by simpa using hr) (hp.on hb)).mono ?_
 rw [e]
 rintro e w' ⟨rfl,h2⟩
 exact ⟨by simp,hb.trans (h2.mono hb.size)⟩
theorem LG (w:World) (r q:Int×Int) (hr:I64 r.1∧I64 r.2) (hq:I64 q.1∧I64 q.2) (hp:Pow w) :
  Calls Tryz.prog 84 #[.slice (some ⟨w.heap.size,0,none⟩) 2 2] (w.alloc (.cells #[.int .i64 r.1,.int .i64 r.2,.int .i64 q.1,.int .i64 q.2] 24)) fun e w'=>e=.returned (.tuple #[.string (AA (32 :: (sp.AP r.1 r.2++32 :: sp.AP q.1 q.2))),.bool (CP r&&CP q)])∧Below w.heap.size w w':=by
 have hb:=AZ w (.cells #[.int .i64 r.1,.int .i64 r.2,.int .i64 q.1,.int .i64 q.2] 24)
 have e:Ae (CU [r,q])=32 :: (sp.AP r.1 r.2++32 :: sp.AP q.1 q.2):=by simp [Ae,CU,AA]
 refine (ZT _ w.heap.size [r,q] (AX _ _) (by simp) ?_ (hp.on hb)).mono ?_
 ·intro x hx
  simp only [List.mem_cons,List.not_mem_nil,or_false] at hx
  rcases hx with rfl | rfl
  ·exact hr
  ·exact hq
 rw [e]
 rintro e w' ⟨rfl,h2⟩
 exact ⟨by simp,hb.trans (h2.mono hb.size)⟩
structure CG (w:World) (o:sp.Op) (tv:Value) (W:World):Prop where
 op:CQ w.heap.size w o tv
 pw:Pow w
 st:Opw (AQ o tv) w W
section
variable {w W W':World} {o:sp.Op} {tv:Value}
theorem CG.new (h:CQ w.heap.size w o tv) (hp:Pow w):CG w o tv (w.alloc (.cells (AQ o tv) 28)):=⟨h,hp,Opw.new _ w⟩
theorem CG.below (h:CG w o tv W) (hb:Below W.heap.size W W'):CG w o tv W':=⟨h.op,h.pw,h.st.below hb⟩
theorem CG.drew (h:CG w o tv W):CG w o tv W.drew:=⟨h.op,h.pw,h.st.drew⟩
theorem CG.pow (h:CG w o tv W):Pow W:=h.pw.on h.st.1
theorem CG.cs (h:CG w o tv W):W.cell? ⟨w.heap.size,1,none⟩=some (.int .i64 o.node)∧W.cell? ⟨w.heap.size,2,none⟩=some (.int .i64 o.at_)∧W.cell? ⟨w.heap.size,3,none⟩=some (.int .i64 o.origin)∧W.cell? ⟨w.heap.size,4,none⟩=some (.string (AA o.name))∧W.cell? ⟨w.heap.size,5,none⟩=some (.string (AA o.word))∧W.cell? ⟨w.heap.size,6,none⟩=some tv∧W.cell? ⟨w.heap.size,7,none⟩=some (.int .i64 o.w.1)∧W.cell? ⟨w.heap.size,8,none⟩=some (.int .i64 o.w.2)∧W.cell? ⟨w.heap.size,9,none⟩=some (.int .i64 o.h.1)∧W.cell? ⟨w.heap.size,10,none⟩=some (.int .i64 o.h.2)∧W.cell? ⟨w.heap.size,17,none⟩=some (.bool o.on)∧(convert 22 9 tv).run Tryz.prog W=.ok (.string (AA o.text)) W :=
 ⟨h.st.cell 1 _ rfl,h.st.cell 2 _ rfl,h.st.cell 3 _ rfl,h.st.cell 4 _ rfl,h.st.cell 5 _ rfl,h.st.cell 6 _ rfl,h.st.cell 7 _ rfl,h.st.cell 8 _ rfl,h.st.cell 9 _ rfl,h.st.cell 10 _ rfl,h.st.cell 17 _ rfl,Oe (h.op.row.keep h.st.1)⟩
theorem CG.sz (h:CG w o tv W):(AA (Lib.itoa o.node)).size≤21∧(AA (Lib.itoa o.at_)).size≤21∧(AA (Lib.itoa o.origin)).size≤21∧(AA o.name).size≤1048576∧(AA o.word).size≤1048576∧(AA o.text).size≤1048576∧(AA (sp.DJ o.word)).size≤5000000∧(AA (sp.DJ o.text)).size≤5000000 :=
 ⟨VJ h.op.node,VJ h.op.at_,VJ h.op.origin,by rw [Aa];exact h.op.name,by rw [Aa];exact h.op.word,by rw [Aa];exact h.op.text,by rw [Aa];have:=Oa o.word;have:=h.op.word;omega,by rw [Aa];have:=Oa o.text;have:=h.op.text;omega⟩
end
section
variable {P:Program} {md:Region.Mode} {ops:Array Oper} {Q:Exit→Act→World→Prop} {w:World} {o:sp.Op} {tv:Value}
theorem tkU {oi:Oper} {fuel:Nat} {listed:Array Bool} {a:Act} {W:World} (i:Nat) (v:Value) (hS:CG w o tv W)
  (h:wpAnyH Tryz.prog md ops Q (CG w o tv) fuel (listed.setIfInBounds i true) (a.put oi.dst v) W) (hi:ops[i]?=some oi:=by rfl)
  (hy:∀s,CG w o tv s→(execOp a.eval oi).run Tryz.prog s=.ok (.value v) s:=by (intro s hs;obtain ⟨c1,c2,c3,c4,c5,c6,c7,c8,c9,c10,c17,cv⟩:=hs.cs;go_simp<;>omega)) (h1:Region.noSelect ops=true:=by kernel_rfl) (h2:Region.free md ops listed i=true:=by kernel_rfl) (h3:(Region.ready md ops listed).contains i=true:=by kernel_rfl)
  (h4:Region.wanted oi (yielded ops a.tmps)=true:=by kernel_rfl) (hQ:∀c a w,Q (.panic c) (a.put oi.dst v) w→Q (.panic c) a w:=by exact fun _ _ _ h=>h):wpAnyH Tryz.prog md ops Q (CG w o tv) (fuel+1) listed a W :=
 wpAnyH_take hi h1 h2 h3 hQ (Or.inl ⟨h4,hy⟩) hS h
theorem NI {oi:Oper} {fuel:Nat} {listed:Array Bool} {a:Act} {W:World} (i:Nat) (hS:CG w o tv W)
  (h:wpAnyH Tryz.prog md ops Q (CG w o tv) fuel (listed.setIfInBounds i true) (a.put oi.dst undef) W) (hi:ops[i]?=some oi:=by rfl) (h1:Region.noSelect ops=true:=by kernel_rfl) (h2:Region.free md ops listed i=true:=by kernel_rfl) (h3:(Region.ready md ops listed).contains i=true:=by kernel_rfl)
  (h4:Region.wanted oi (yielded ops a.tmps)=false:=by kernel_rfl) (hQ:∀c a w,Q (.panic c) (a.put oi.dst undef) w→Q (.panic c) a w:=by exact fun _ _ _ h=>h):wpAnyH Tryz.prog md ops Q (CG w o tv) (fuel+1) listed a W :=
 wpAnyH_take hi h1 h2 h3 hQ (Or.inr ⟨h4,rfl⟩) hS h
end
section
variable {o:sp.Op} {tv:Value} {w:World}
set_option maxRecDepth 100000 in
set_option maxHeartbeats 16000000 in
theorem u0 (h:CQ w.heap.size w o tv) (hp:Pow w) (hk:o.kind=6∧Hid True∨o.kind=12∧Hid True∨o.kind=8∧Hid True):Calls Tryz.prog 43 #[.agg (AQ o tv)] w (FO w o):=by
 rcases hk with ⟨hk,mn⟩ | ⟨hk,mn⟩ | ⟨hk,mn⟩
 all_goals
  have H:=Lib.hid (CG.new h hp)
  have HK:=Lib.hid hk;have HO:=Lib.hid h
  have c0:=H.out.st.cell 0 _ (kd hk)
  obtain ⟨c1,c2,c3,c4,c5,c6,c7,c8,c9,c10,c17,cv⟩:=H.out.cs
  obtain ⟨z1,z2,z3,z4,z5,z6,z7,z8⟩:=H.out.sz
  clear h hp hk
  try rw [mt.out] at c17
  try rw [mf.out] at c17
  cases hsm:CB o.node
  all_goals
   have HSM:=Lib.hid hsm
   clear hsm
   go_enter Tryz.func43,Tryz.ntmps43
   go_wp2_with (first
    | (go_at_call 34;refine (Hl _ _ HO.out.node H.out.pow).mono ?_;rintro e v ⟨rfl,hb⟩;have N:=Lib.hid (H.out.below hb);clear c0 c1 c2 c3 c4 c5 c6 c7 c8 c9 c10 c17 cv;clear H hb;have H:=N;clear N;have c0:=H.out.st.cell 0 _ (kd HK.out);obtain ⟨c1,c2,c3,c4,c5,c6,c7,c8,c9,c10,c17,cv⟩:=H.out.cs;(try rw [mt.out] at c17);(try rw [mf.out] at c17))
    | (go_at_call 83;refine (Hz _ _ (by rw [Aa];exact HO.out.name)).mono ?_;rintro e v ⟨rfl,hb⟩;have N:=Lib.hid (H.out.below hb);clear c0 c1 c2 c3 c4 c5 c6 c7 c8 c9 c10 c17 cv;clear H hb;have H:=N;clear N;have c0:=H.out.st.cell 0 _ (kd HK.out);obtain ⟨c1,c2,c3,c4,c5,c6,c7,c8,c9,c10,c17,cv⟩:=H.out.cs;(try rw [mt.out] at c17);(try rw [mf.out] at c17))
    | (go_at_call 82;refine (Ic _ _).mono ?_;rintro e v ⟨rfl,hw⟩;first | rw [hw,HSM.out] | rw [hw];clear hw)
    | (have gd:=mr;clear gd;go_at_call 84;refine (NH _ o.w HO.out.fw H.out.pow).mono ?_;rintro e v ⟨rfl,hb⟩;have z9:=NG (r:=o.w) HO.out.fw;have N:=Lib.hid (H.out.below hb);clear c0 c1 c2 c3 c4 c5 c6 c7 c8 c9 c10 c17 cv;clear H hb;have H:=N;clear N;have c0:=H.out.st.cell 0 _ (kd HK.out);obtain ⟨c1,c2,c3,c4,c5,c6,c7,c8,c9,c10,c17,cv⟩:=H.out.cs;(try rw [mt.out] at c17);(try rw [mf.out] at c17))
    | (have gd:=mR;clear gd;go_at_call 84;refine (LG _ o.w o.h HO.out.fw HO.out.fh H.out.pow).mono ?_;rintro e v ⟨rfl,hb⟩;have z9:=LD (r:=o.w) (q:=o.h) HO.out.fw HO.out.fh;have N:=Lib.hid (H.out.below hb);clear c0 c1 c2 c3 c4 c5 c6 c7 c8 c9 c10 c17 cv;clear H hb;have H:=N;clear N;have c0:=H.out.st.cell 0 _ (kd HK.out);obtain ⟨c1,c2,c3,c4,c5,c6,c7,c8,c9,c10,c17,cv⟩:=H.out.cs;(try rw [mt.out] at c17);(try rw [mf.out] at c17)))
   go_ret2
   have I1:=GM HO.out.node
   have I4:=HO.out.name
   have R1:=ET HO.out.fw
   have R2:=ET HO.out.fh
   first
    | exact ⟨sp.BD++32 :: Lib.itoa o.node,CB o.node,Fp (by first | rfl | (apply ByteArray.ext;simp [AA])) (by first | rfl | simp [HSM.out,Fh]),DN (P:=sp.BN o.node) (by unfold sp.AU;rw [HK.out];rfl) (by simp [Cm,DZ]),by simp only [List.length_append,List.length_cons,sp.BD,sp.BI,sp.BF,sp.BG,sp.BH,sp.BJ,sp.BB,sp.BC,sp.BA,sp.Au,sp.Ar,sp.Bl,List.length_nil];omega,H.out.st.1⟩
    | exact ⟨sp.BI++32 :: Lib.itoa o.node,CB o.node,Fp (by first | rfl | (apply ByteArray.ext;simp [AA])) (by first | rfl | simp [HSM.out,Fh]),DN (P:=sp.BN o.node) (by unfold sp.AU;rw [HK.out];rfl) (by simp [Cm,DZ]),by simp only [List.length_append,List.length_cons,sp.BD,sp.BI,sp.BF,sp.BG,sp.BH,sp.BJ,sp.BB,sp.BC,sp.BA,sp.Au,sp.Ar,sp.Bl,List.length_nil];omega,H.out.st.1⟩
    | exact ⟨sp.BF++32 :: Lib.itoa o.node++32 :: o.name,(CB o.node&&sp.BP o.name),Fp (by first | rfl | (apply ByteArray.ext;simp [AA])) (by first | rfl | simp [HSM.out,Fh]),DN (P:=sp.BN o.node∧sp.BP o.name) (by unfold sp.AU;rw [HK.out];rfl) (by simp [Cm,DZ]),by simp only [List.length_append,List.length_cons,sp.BD,sp.BI,sp.BF,sp.BG,sp.BH,sp.BJ,sp.BB,sp.BC,sp.BA,sp.Au,sp.Ar,sp.Bl,List.length_nil];omega,H.out.st.1⟩
set_option maxRecDepth 100000 in
set_option maxHeartbeats 16000000 in
theorem u1 (h:CQ w.heap.size w o tv) (hp:Pow w) (hk:o.kind=10∧Hid True∨o.kind=11∧Hid True∨o.kind=15∧Hid True):Calls Tryz.prog 43 #[.agg (AQ o tv)] w (FO w o):=by
 rcases hk with ⟨hk,mn⟩ | ⟨hk,mn⟩ | ⟨hk,mn⟩
 all_goals
  have H:=Lib.hid (CG.new h hp)
  have HK:=Lib.hid hk;have HO:=Lib.hid h
  have c0:=H.out.st.cell 0 _ (kd hk)
  obtain ⟨c1,c2,c3,c4,c5,c6,c7,c8,c9,c10,c17,cv⟩:=H.out.cs
  obtain ⟨z1,z2,z3,z4,z5,z6,z7,z8⟩:=H.out.sz
  clear h hp hk
  try rw [mt.out] at c17
  try rw [mf.out] at c17
  cases hsm:CB o.node
  all_goals
   have HSM:=Lib.hid hsm
   clear hsm
   go_enter Tryz.func43,Tryz.ntmps43
   go_wp2_with (first
    | (go_at_call 34;refine (Hl _ _ HO.out.node H.out.pow).mono ?_;rintro e v ⟨rfl,hb⟩;have N:=Lib.hid (H.out.below hb);clear c0 c1 c2 c3 c4 c5 c6 c7 c8 c9 c10 c17 cv;clear H hb;have H:=N;clear N;have c0:=H.out.st.cell 0 _ (kd HK.out);obtain ⟨c1,c2,c3,c4,c5,c6,c7,c8,c9,c10,c17,cv⟩:=H.out.cs;(try rw [mt.out] at c17);(try rw [mf.out] at c17))
    | (go_at_call 83;refine (Hz _ _ (by rw [Aa];exact HO.out.name)).mono ?_;rintro e v ⟨rfl,hb⟩;have N:=Lib.hid (H.out.below hb);clear c0 c1 c2 c3 c4 c5 c6 c7 c8 c9 c10 c17 cv;clear H hb;have H:=N;clear N;have c0:=H.out.st.cell 0 _ (kd HK.out);obtain ⟨c1,c2,c3,c4,c5,c6,c7,c8,c9,c10,c17,cv⟩:=H.out.cs;(try rw [mt.out] at c17);(try rw [mf.out] at c17))
    | (go_at_call 82;refine (Ic _ _).mono ?_;rintro e v ⟨rfl,hw⟩;first | rw [hw,HSM.out] | rw [hw];clear hw)
    | (have gd:=mr;clear gd;go_at_call 84;refine (NH _ o.w HO.out.fw H.out.pow).mono ?_;rintro e v ⟨rfl,hb⟩;have z9:=NG (r:=o.w) HO.out.fw;have N:=Lib.hid (H.out.below hb);clear c0 c1 c2 c3 c4 c5 c6 c7 c8 c9 c10 c17 cv;clear H hb;have H:=N;clear N;have c0:=H.out.st.cell 0 _ (kd HK.out);obtain ⟨c1,c2,c3,c4,c5,c6,c7,c8,c9,c10,c17,cv⟩:=H.out.cs;(try rw [mt.out] at c17);(try rw [mf.out] at c17))
    | (have gd:=mR;clear gd;go_at_call 84;refine (LG _ o.w o.h HO.out.fw HO.out.fh H.out.pow).mono ?_;rintro e v ⟨rfl,hb⟩;have z9:=LD (r:=o.w) (q:=o.h) HO.out.fw HO.out.fh;have N:=Lib.hid (H.out.below hb);clear c0 c1 c2 c3 c4 c5 c6 c7 c8 c9 c10 c17 cv;clear H hb;have H:=N;clear N;have c0:=H.out.st.cell 0 _ (kd HK.out);obtain ⟨c1,c2,c3,c4,c5,c6,c7,c8,c9,c10,c17,cv⟩:=H.out.cs;(try rw [mt.out] at c17);(try rw [mf.out] at c17)))
   go_ret2
   have I1:=GM HO.out.node
   have I4:=HO.out.name
   have R1:=ET HO.out.fw
   have R2:=ET HO.out.fh
   first
    | exact ⟨sp.BG++32 :: Lib.itoa o.node++32 :: o.name,(CB o.node&&sp.BP o.name),Fp (by first | rfl | (apply ByteArray.ext;simp [AA])) (by first | rfl | simp [HSM.out,Fh]),DN (P:=sp.BN o.node∧sp.BP o.name) (by unfold sp.AU;rw [HK.out];rfl) (by simp [Cm,DZ]),by simp only [List.length_append,List.length_cons,sp.BD,sp.BI,sp.BF,sp.BG,sp.BH,sp.BJ,sp.BB,sp.BC,sp.BA,sp.Au,sp.Ar,sp.Bl,List.length_nil];omega,H.out.st.1⟩
    | exact ⟨sp.BH++32 :: Lib.itoa o.node++32 :: o.name,(CB o.node&&sp.BP o.name),Fp (by first | rfl | (apply ByteArray.ext;simp [AA])) (by first | rfl | simp [HSM.out,Fh]),DN (P:=sp.BN o.node∧sp.BP o.name) (by unfold sp.AU;rw [HK.out];rfl) (by simp [Cm,DZ]),by simp only [List.length_append,List.length_cons,sp.BD,sp.BI,sp.BF,sp.BG,sp.BH,sp.BJ,sp.BB,sp.BC,sp.BA,sp.Au,sp.Ar,sp.Bl,List.length_nil];omega,H.out.st.1⟩
    | exact ⟨sp.BJ,true,Fp (by first | rfl | (apply ByteArray.ext;simp [AA])) (by first | rfl | simp [HSM.out,Fh]),DN (P:=True) (by unfold sp.AU;rw [HK.out];rfl) (by simp [Cm,DZ]),by simp only [List.length_append,List.length_cons,sp.BD,sp.BI,sp.BF,sp.BG,sp.BH,sp.BJ,sp.BB,sp.BC,sp.BA,sp.Au,sp.Ar,sp.Bl,List.length_nil];omega,H.out.st.1⟩
set_option maxRecDepth 100000 in
set_option maxHeartbeats 16000000 in
theorem u2 (h:CQ w.heap.size w o tv) (hp:Pow w) (hk:o.kind=3∧Hid True∨o.kind=13∧Hid True∨o.kind=2∧Hid True):Calls Tryz.prog 43 #[.agg (AQ o tv)] w (FO w o):=by
 rcases hk with ⟨hk,mr⟩ | ⟨hk,mr⟩ | ⟨hk,mR⟩
 all_goals
  have H:=Lib.hid (CG.new h hp)
  have HK:=Lib.hid hk;have HO:=Lib.hid h
  have c0:=H.out.st.cell 0 _ (kd hk)
  obtain ⟨c1,c2,c3,c4,c5,c6,c7,c8,c9,c10,c17,cv⟩:=H.out.cs
  obtain ⟨z1,z2,z3,z4,z5,z6,z7,z8⟩:=H.out.sz
  clear h hp hk
  try rw [mt.out] at c17
  try rw [mf.out] at c17
  cases hsm:CB o.node
  all_goals
   have HSM:=Lib.hid hsm
   clear hsm
   go_enter Tryz.func43,Tryz.ntmps43
   go_wp2_with (first
    | (go_at_call 34;refine (Hl _ _ HO.out.node H.out.pow).mono ?_;rintro e v ⟨rfl,hb⟩;have N:=Lib.hid (H.out.below hb);clear c0 c1 c2 c3 c4 c5 c6 c7 c8 c9 c10 c17 cv;clear H hb;have H:=N;clear N;have c0:=H.out.st.cell 0 _ (kd HK.out);obtain ⟨c1,c2,c3,c4,c5,c6,c7,c8,c9,c10,c17,cv⟩:=H.out.cs;(try rw [mt.out] at c17);(try rw [mf.out] at c17))
    | (go_at_call 83;refine (Hz _ _ (by rw [Aa];exact HO.out.name)).mono ?_;rintro e v ⟨rfl,hb⟩;have N:=Lib.hid (H.out.below hb);clear c0 c1 c2 c3 c4 c5 c6 c7 c8 c9 c10 c17 cv;clear H hb;have H:=N;clear N;have c0:=H.out.st.cell 0 _ (kd HK.out);obtain ⟨c1,c2,c3,c4,c5,c6,c7,c8,c9,c10,c17,cv⟩:=H.out.cs;(try rw [mt.out] at c17);(try rw [mf.out] at c17))
    | (go_at_call 82;refine (Ic _ _).mono ?_;rintro e v ⟨rfl,hw⟩;first | rw [hw,HSM.out] | rw [hw];clear hw)
    | (have gd:=mr;clear gd;go_at_call 84;refine (NH _ o.w HO.out.fw H.out.pow).mono ?_;rintro e v ⟨rfl,hb⟩;have z9:=NG (r:=o.w) HO.out.fw;have N:=Lib.hid (H.out.below hb);clear c0 c1 c2 c3 c4 c5 c6 c7 c8 c9 c10 c17 cv;clear H hb;have H:=N;clear N;have c0:=H.out.st.cell 0 _ (kd HK.out);obtain ⟨c1,c2,c3,c4,c5,c6,c7,c8,c9,c10,c17,cv⟩:=H.out.cs;(try rw [mt.out] at c17);(try rw [mf.out] at c17))
    | (have gd:=mR;clear gd;go_at_call 84;refine (LG _ o.w o.h HO.out.fw HO.out.fh H.out.pow).mono ?_;rintro e v ⟨rfl,hb⟩;have z9:=LD (r:=o.w) (q:=o.h) HO.out.fw HO.out.fh;have N:=Lib.hid (H.out.below hb);clear c0 c1 c2 c3 c4 c5 c6 c7 c8 c9 c10 c17 cv;clear H hb;have H:=N;clear N;have c0:=H.out.st.cell 0 _ (kd HK.out);obtain ⟨c1,c2,c3,c4,c5,c6,c7,c8,c9,c10,c17,cv⟩:=H.out.cs;(try rw [mt.out] at c17);(try rw [mf.out] at c17)))
   go_ret2
   have I1:=GM HO.out.node
   have I4:=HO.out.name
   have R1:=ET HO.out.fw
   have R2:=ET HO.out.fh
   first
    | exact ⟨sp.BB++32 :: sp.AP o.w.1 o.w.2,(CP o.w),Fp (by first | rfl | (apply ByteArray.ext;simp [AA])) (by first | rfl | simp [HSM.out,Fh]),DN (P:=sp.BM o.w.1 o.w.2) (by unfold sp.AU;rw [HK.out];rfl) (by simp [Cm,DZ]),by simp only [List.length_append,List.length_cons,sp.BD,sp.BI,sp.BF,sp.BG,sp.BH,sp.BJ,sp.BB,sp.BC,sp.BA,sp.Au,sp.Ar,sp.Bl,List.length_nil];omega,H.out.st.1⟩
    | exact ⟨sp.BC++32 :: sp.AP o.w.1 o.w.2,(CP o.w),Fp (by first | rfl | (apply ByteArray.ext;simp [AA])) (by first | rfl | simp [HSM.out,Fh]),DN (P:=sp.BM o.w.1 o.w.2) (by unfold sp.AU;rw [HK.out];rfl) (by simp [Cm,DZ]),by simp only [List.length_append,List.length_cons,sp.BD,sp.BI,sp.BF,sp.BG,sp.BH,sp.BJ,sp.BB,sp.BC,sp.BA,sp.Au,sp.Ar,sp.Bl,List.length_nil];omega,H.out.st.1⟩
    | exact ⟨sp.BA++32 :: sp.AP o.w.1 o.w.2++32 :: sp.AP o.h.1 o.h.2,(CP o.w&&CP o.h),Fp (by first | rfl | (apply ByteArray.ext;simp [AA])) (by first | rfl | simp [HSM.out,Fh]),DN (P:=sp.BM o.w.1 o.w.2∧sp.BM o.h.1 o.h.2) (by unfold sp.AU;rw [HK.out];rfl) (by simp [Cm,DZ]),by simp only [List.length_append,List.length_cons,sp.BD,sp.BI,sp.BF,sp.BG,sp.BH,sp.BJ,sp.BB,sp.BC,sp.BA,sp.Au,sp.Ar,sp.Bl,List.length_nil];omega,H.out.st.1⟩
set_option maxRecDepth 100000 in
set_option maxHeartbeats 16000000 in
theorem u3 (h:CQ w.heap.size w o tv) (hp:Pow w) (hk:o.kind=14∧Hid (o.on=true)∨o.kind=14∧Hid (o.on=false)):Calls Tryz.prog 43 #[.agg (AQ o tv)] w (FO w o):=by
 rcases hk with ⟨hk,mt⟩ | ⟨hk,mf⟩
 all_goals
  have H:=Lib.hid (CG.new h hp)
  have HK:=Lib.hid hk;have HO:=Lib.hid h
  have c0:=H.out.st.cell 0 _ (kd hk)
  obtain ⟨c1,c2,c3,c4,c5,c6,c7,c8,c9,c10,c17,cv⟩:=H.out.cs
  obtain ⟨z1,z2,z3,z4,z5,z6,z7,z8⟩:=H.out.sz
  clear h hp hk
  try rw [mt.out] at c17
  try rw [mf.out] at c17
  cases hsm:CB o.node
  all_goals
   have HSM:=Lib.hid hsm
   clear hsm
   go_enter Tryz.func43,Tryz.ntmps43
   go_wp2_with (first
    | (go_at_call 34;refine (Hl _ _ HO.out.node H.out.pow).mono ?_;rintro e v ⟨rfl,hb⟩;have N:=Lib.hid (H.out.below hb);clear c0 c1 c2 c3 c4 c5 c6 c7 c8 c9 c10 c17 cv;clear H hb;have H:=N;clear N;have c0:=H.out.st.cell 0 _ (kd HK.out);obtain ⟨c1,c2,c3,c4,c5,c6,c7,c8,c9,c10,c17,cv⟩:=H.out.cs;(try rw [mt.out] at c17);(try rw [mf.out] at c17))
    | (go_at_call 83;refine (Hz _ _ (by rw [Aa];exact HO.out.name)).mono ?_;rintro e v ⟨rfl,hb⟩;have N:=Lib.hid (H.out.below hb);clear c0 c1 c2 c3 c4 c5 c6 c7 c8 c9 c10 c17 cv;clear H hb;have H:=N;clear N;have c0:=H.out.st.cell 0 _ (kd HK.out);obtain ⟨c1,c2,c3,c4,c5,c6,c7,c8,c9,c10,c17,cv⟩:=H.out.cs;(try rw [mt.out] at c17);(try rw [mf.out] at c17))
    | (go_at_call 82;refine (Ic _ _).mono ?_;rintro e v ⟨rfl,hw⟩;first | rw [hw,HSM.out] | rw [hw];clear hw)
    | (have gd:=mr;clear gd;go_at_call 84;refine (NH _ o.w HO.out.fw H.out.pow).mono ?_;rintro e v ⟨rfl,hb⟩;have z9:=NG (r:=o.w) HO.out.fw;have N:=Lib.hid (H.out.below hb);clear c0 c1 c2 c3 c4 c5 c6 c7 c8 c9 c10 c17 cv;clear H hb;have H:=N;clear N;have c0:=H.out.st.cell 0 _ (kd HK.out);obtain ⟨c1,c2,c3,c4,c5,c6,c7,c8,c9,c10,c17,cv⟩:=H.out.cs;(try rw [mt.out] at c17);(try rw [mf.out] at c17))
    | (have gd:=mR;clear gd;go_at_call 84;refine (LG _ o.w o.h HO.out.fw HO.out.fh H.out.pow).mono ?_;rintro e v ⟨rfl,hb⟩;have z9:=LD (r:=o.w) (q:=o.h) HO.out.fw HO.out.fh;have N:=Lib.hid (H.out.below hb);clear c0 c1 c2 c3 c4 c5 c6 c7 c8 c9 c10 c17 cv;clear H hb;have H:=N;clear N;have c0:=H.out.st.cell 0 _ (kd HK.out);obtain ⟨c1,c2,c3,c4,c5,c6,c7,c8,c9,c10,c17,cv⟩:=H.out.cs;(try rw [mt.out] at c17);(try rw [mf.out] at c17)))
   go_ret2
   have I1:=GM HO.out.node
   have I4:=HO.out.name
   have R1:=ET HO.out.fw
   have R2:=ET HO.out.fh
   first
    | exact ⟨sp.Au++32 :: sp.Ar,true,Fp (by first | rfl | (apply ByteArray.ext;simp [AA])) (by first | rfl | simp [HSM.out,Fh]),DN (P:=True) (by unfold sp.AU;rw [HK.out,mt.out];rfl) (by simp [Cm,DZ]),by simp only [List.length_append,List.length_cons,sp.BD,sp.BI,sp.BF,sp.BG,sp.BH,sp.BJ,sp.BB,sp.BC,sp.BA,sp.Au,sp.Ar,sp.Bl,List.length_nil];omega,H.out.st.1⟩
    | exact ⟨sp.Au++32 :: sp.Bl,true,Fp (by first | rfl | (apply ByteArray.ext;simp [AA])) (by first | rfl | simp [HSM.out,Fh]),DN (P:=True) (by unfold sp.AU;rw [HK.out,mf.out];rfl) (by simp [Cm,DZ]),by simp only [List.length_append,List.length_cons,sp.BD,sp.BI,sp.BF,sp.BG,sp.BH,sp.BJ,sp.BB,sp.BC,sp.BA,sp.Au,sp.Ar,sp.Bl,List.length_nil];omega,H.out.st.1⟩
end
end Go.Proofs.YtihlneenajlhoaaGreatDoor
