/-
 The functions without a body that the run of jalousielaw27.awake calls, and what a closed run over known values tells of a function's call. Condition: the table strings.asciiSpace stands as it was laid.
-/
import Derived.Test.YtihlneenajlhoaaGreatDoorAw0
import Derived.Ground.GgzProg
import Derived.Laws.Externs
namespace Go.Proofs.YtihlneenajlhoaaGreatDoor
open Go Go.RowKit Go.Maps Go.Sort Go.Shelf Go.Proofs.YtihlneenajlhoaaGreatDoor Go.Proofs.YtihlneenajlhoaaGreatDoor.ae
def Tryz.keysA_ren:Go.Shelf.Ren:=⟨fun | 10=>479 | n=>n,fun | 33=>34 | 23=>280 | 0=>0 | 4=>4 | 26=>9 | 3=>3 | n=>n,fun | n=>n⟩
theorem Tryz.keysA:Go.Proofs.SlLaysZ.n10 Tryz.prog Tryz.keysA_ren:={
 mixed:=by kernel_rfl,
 f10:=⟨Tryz.f479.name,by kernel_rfl,Tryz.func479.trans (congrArg some (by kernel_rfl))⟩,
 t0:=Tryz.underlying0,
 a0:=Tryz.isAgg0,
 z0:=Tryz.sizeOf0,
 v0:=Tryz.zeroValue0,
 t4:=Tryz.underlying4,
 a4:=Tryz.isAgg4,
 z4:=Tryz.sizeOf4,
 v4:=Tryz.zeroValue4,
 t23:=Tryz.underlying280,
 a23:=Tryz.isAgg280,
 z23:=Tryz.sizeOf280,
 v23:=Tryz.zeroValue280,
 t26:=Tryz.underlying9,
 a26:=Tryz.isAgg9,
 z26:=Tryz.sizeOf9,
 v26:=Tryz.zeroValue9,
 t33:=Tryz.underlying34,
 a33:=Tryz.isAgg34,
 z33:=Tryz.sizeOf34,
 v33:=Tryz.zeroValue34 }
def Tryz.keysB_ren:Go.Shelf.Ren:=⟨fun | 10=>544 | n=>n,fun | 33=>34 | 23=>641 | 0=>0 | 4=>4 | 26=>9 | 3=>220 | n=>n,fun | n=>n⟩
theorem Tryz.keysB:Go.Proofs.SlLaysZ.n10 Tryz.prog Tryz.keysB_ren:={
 mixed:=by kernel_rfl,
 f10:=⟨Tryz.f544.name,by kernel_rfl,Tryz.func544.trans (congrArg some (by kernel_rfl))⟩,
 t0:=Tryz.underlying0,
 a0:=Tryz.isAgg0,
 z0:=Tryz.sizeOf0,
 v0:=Tryz.zeroValue0,
 t4:=Tryz.underlying4,
 a4:=Tryz.isAgg4,
 z4:=Tryz.sizeOf4,
 v4:=Tryz.zeroValue4,
 t23:=Tryz.underlying641,
 a23:=Tryz.isAgg641,
 z23:=Tryz.sizeOf641,
 v23:=Tryz.zeroValue641,
 t26:=Tryz.underlying9,
 a26:=Tryz.isAgg9,
 z26:=Tryz.sizeOf9,
 v26:=Tryz.zeroValue9,
 t33:=Tryz.underlying34,
 a33:=Tryz.isAgg34,
 z33:=Tryz.sizeOf34,
 v33:=Tryz.zeroValue34 }
def Tryz.kL:Go.Shelf.Ren:=⟨fun | 11=>550 | n=>n,fun | 24=>81 | 26=>9 | 28=>567 | 0=>0 | 33=>34 | 4=>4 | n=>n,fun | n=>n⟩
theorem Tryz.XH:Go.Proofs.SlLaysZ.n11 Tryz.prog Tryz.kL:={
 mixed:=by kernel_rfl,
 f11:=⟨Tryz.f550.name,by kernel_rfl,Tryz.func550.trans (congrArg some (by kernel_rfl))⟩,
 t0:=Tryz.underlying0,
 a0:=Tryz.isAgg0,
 z0:=Tryz.sizeOf0,
 v0:=Tryz.zeroValue0,
 t24:=Tryz.underlying81,
 a24:=Tryz.isAgg81,
 z24:=Tryz.sizeOf81,
 v24:=Tryz.zeroValue81,
 t26:=Tryz.underlying9,
 a26:=Tryz.isAgg9,
 z26:=Tryz.sizeOf9,
 v26:=Tryz.zeroValue9,
 t28:=Tryz.underlying567,
 a28:=Tryz.isAgg567,
 z28:=Tryz.sizeOf567,
 v28:=Tryz.zeroValue567,
 i26:=by kernel_rfl }
theorem mixed:Tryz.prog.follows .mixedOrders=true:=by kernel_rfl
theorem seq1:Pn Tryz.prog ⟨550,479,9⟩:=⟨_,_,Tryz.keysA,Tryz.XH,rfl,rfl,rfl,rfl,by kernel_rfl⟩
theorem seq2:Pn Tryz.prog ⟨550,544,9⟩:=⟨_,_,Tryz.keysB,Tryz.XH,rfl,rfl,rfl,rfl,by kernel_rfl⟩
theorem kM:Tryz.prog.funcs.toList.all (fun fn=>fn.body.isNone || !(fn.name == "runtime.NumGoroutine"))=true:=by kernel_rfl
theorem named:Named Tryz.prog:=by
 intro g fn c hf hb
 have hm:fn∈Tryz.prog.funcs.toList:=Array.mem_toList_iff.2 (Array.mem_of_getElem? hf)
 have:=List.all_eq_true.1 kM _ hm
 rw [hb] at this
 simpa using this
theorem xok:∀x∈xs,XOk Tryz.prog x.1 x.2:=by
 intro x hx
 simp only [xs,List.mem_cons,List.not_mem_nil,or_false] at hx
 rcases hx with rfl | rfl | rfl | rfl | rfl | rfl | rfl | rfl | rfl | rfl | rfl | rfl | rfl | rfl | rfl
 ·exact run_callFunc_extern Tryz.func113 (by kernel_rfl) (by kernel_rfl) (by kernel_rfl) (by kernel_rfl)
 ·exact run_callFunc_extern Tryz.func151 (by kernel_rfl) (by kernel_rfl) (by kernel_rfl) (by kernel_rfl)
 ·exact run_callFunc_extern Tryz.func205 (by kernel_rfl) (by kernel_rfl) (by kernel_rfl) (by kernel_rfl)
 ·exact run_callFunc_extern Tryz.func223 (by kernel_rfl) (by kernel_rfl) (by kernel_rfl) (by kernel_rfl)
 ·exact run_callFunc_extern Tryz.func224 (by kernel_rfl) (by kernel_rfl) (by kernel_rfl) (by kernel_rfl)
 ·exact run_callFunc_extern Tryz.func387 (by kernel_rfl) (by kernel_rfl) (by kernel_rfl) (by kernel_rfl)
 ·exact run_callFunc_extern Tryz.func506 (by kernel_rfl) (by kernel_rfl) (by kernel_rfl) (by kernel_rfl)
 ·exact run_callFunc_extern Tryz.func509 (by kernel_rfl) (by kernel_rfl) (by kernel_rfl) (by kernel_rfl)
 ·exact run_callFunc_extern Tryz.func511 (by kernel_rfl) (by kernel_rfl) (by kernel_rfl) (by kernel_rfl)
 ·exact run_callFunc_extern Tryz.func649 (by kernel_rfl) (by kernel_rfl) (by kernel_rfl) (by kernel_rfl)
 ·exact run_callFunc_extern Tryz.func650 (by kernel_rfl) (by kernel_rfl) (by kernel_rfl) (by kernel_rfl)
 ·exact run_callFunc_extern Tryz.func651 (by kernel_rfl) (by kernel_rfl) (by kernel_rfl) (by kernel_rfl)
 ·exact run_callFunc_extern Tryz.func652 (by kernel_rfl) (by kernel_rfl) (by kernel_rfl) (by kernel_rfl)
 ·exact run_callFunc_extern Tryz.func654 (by kernel_rfl) (by kernel_rfl) (by kernel_rfl) (by kernel_rfl)
 ·exact run_callFunc_extern Tryz.func655 (by kernel_rfl) (by kernel_rfl) (by kernel_rfl) (by kernel_rfl)
theorem XI:JQ Tryz.prog hh0 7 noD:=fun _ _ _ _ _ _ he=>by cases he
theorem iM:Bg Tryz.prog hh0 7 Pq:=EH (fC xok) (EH (WC seq1) (WC seq2))
theorem XJ:RgOk Tryz.prog hh0 7 rg:=iD mixed
theorem kN (l:List (FuncId×Nat×ae.Hint)):∀call,Bg Tryz.prog hh0 7 call→Bg Tryz.prog hh0 7 (sp l call):=gV XJ mixed named XI
theorem Eb {ext:Ah} (hx:Bg Tryz.prog hh0 7 ext) (l:List (FuncId×Nat×ae.Hint)) (d:Nat):Bg Tryz.prog hh0 7 (Gq Tryz.prog 7 rg ext (sp l) noD 1000 d):=eH XJ (kN l) mixed named hx XI d
theorem OG (i:Nat):hh0.get i=if i=6 then some (.cells ascii 314 true false) else if i<6 then some .dead else none:=by
 unfold hh0
 rw [T.get_put _ _ _ _ _ (by decide),T.get_put _ _ _ _ _ (by decide),T.get_put _ _ _ _ _ (by decide),T.get_put _ _ _ _ _ (by decide),T.get_put _ _ _ _ _ (by decide),T.get_put _ _ _ _ _ (by decide),T.get_put _ _ _ _ _ (by decide)]
 by_cases e4:i=6
 ·rw [if_pos e4,if_pos e4]
 rw [if_neg e4,if_neg e4]
 by_cases e:i<6
 ·rw [if_pos e]
  have:i=0∨i=1∨i=2∨i=3∨i=4∨i=5:=by omega
  rcases this with rfl | rfl | rfl | rfl | rfl | rfl<;>rfl
 ·rw [if_neg e,if_neg (by omega),if_neg (by omega),if_neg (by omega),if_neg (by omega),if_neg (by omega),if_neg (by omega)]
  rfl
theorem kP:Ro hh0 7:=by
 refine ⟨fun i ab hg => ?_,fun i hi => ?_⟩
 ·rw [OG] at hg
  split at hg
  ·cases hg;exact .inr ⟨_,_,_,rfl⟩
  ·split at hg
   ·cases hg;exact .inl rfl
   ·cases hg
 ·rw [OG]
  by_cases e:i=6
  ·rw [if_pos e];exact Option.isSome_some
  ·rw [if_neg e,if_pos (by omega)];exact Option.isSome_some
set_option maxRecDepth 100000 in
theorem step_ok {ext:Ah} (hx:Bg Tryz.prog hh0 7 ext) {tab:List IG} (hk:tab.all (chk Tryz.prog 7 7 hh0 rg ext (sp []) noD 1000 40)=true):Bg Tryz.prog hh0 7 (DI (sumF tab 7) ext) :=
 EH (fB fun s hs=>fE kP (Eb hx [] 40) (List.all_eq_true.1 hk s hs)) hx
def okB (r:R) (u:Value):Bool:=match r with | some (v,_,_)=>D7 12 v u | none=>false
theorem kJ {r:R} {u:Value} (h:okB r u=true):∃h' n',r=some (u,h',n'):=by
 unfold okB at h
 split at h
 ·have:=GH _ _ _ h
  subst this
  exact ⟨_,_,rfl⟩
 ·cases h
theorem kQ:ascii.all flat=true:=by kernel_rfl
theorem Qx {θ:Th}:∀l:List Value,l.all flat=true→VL θ l l:=fun l hl=>by
 induction l with
 | nil=>exact .nil
 | cons x l ih=>simp only [List.all_cons,Bool.and_eq_true] at hl;exact .cons (Gn hl.1) (ih hl.2)
theorem kK {call:Ah} (hc:Bg Tryz.prog hh0 7 call) {g:FuncId} {fn:Func} {b:Code} (hf:Tryz.prog.funcs[g]?=some fn) (hb:fn.body=some b) {u:Bool} {h':H} {n':Nat} (he:call g [] hh0 7=some (.bool u,h',n'))
  {w:World} {c:Array Value} {fz:Nat×Nat} (h:w.heap[6]?=some (.cells c 314 fz)) (hc':c.toList=ascii):Calls Tryz.prog g #[] w fun e w'=>e=.returned (.bool u)∧Keep w.heap.size w w':=by
 have hsz:6<w.heap.size:=Ii h
 have hx:∃θ:Th,θ=fun i=>if i<7 then some ⟨i,0,0⟩ else none:=⟨_,rfl⟩
 obtain ⟨θ,hθ⟩:=hx
 have ht:∀i,θ i=if i<7 then some ⟨i,0,0⟩ else none:=fun i=>by rw [hθ]
 have hv:VL θ ascii c.toList:=by
  rw [hc']
  exact Qx _ kQ
 have r:WR Tryz.prog w.heap.size θ hh0 w:=by
  refine ⟨fun i hg => ?_,fun i ab hg => ?_,fun i j p q x y hne g1 g2 l1 l2 _ _ => ?_⟩
  ·rw [OG] at hg
   by_cases e:i=6
   ·rw [if_pos e] at hg;cases hg
   ·rw [if_neg e] at hg
    by_cases e2:i<6
    ·rw [if_pos e2] at hg;cases hg
    ·rw [ht,if_neg (by omega)]
  ·rw [OG] at hg
   by_cases e:i=6
   ·rw [if_pos e] at hg
    cases hg
    subst e
    exact ⟨⟨6,0,0⟩,by rw [ht,if_pos (by omega)],.cells h hv fun e=>by cases e⟩
   ·rw [if_neg e] at hg
    by_cases e2:i<6
    ·rw [if_pos e2] at hg
     cases hg
     exact ⟨⟨i,0,0⟩,by rw [ht,if_pos (by omega)],.dead⟩
    ·rw [if_neg e2] at hg;cases hg
  ·rw [OG] at g1 g2
   by_cases e:i=6
   ·by_cases e2:j=6
    ·omega
    ·rw [if_neg e2] at g2
     by_cases e3:j<6
     ·rw [if_pos e3] at g2;cases g2;cases l2
     ·rw [if_neg e3] at g2;cases g2
   ·rw [if_neg e] at g1
    by_cases e3:i<6
    ·rw [if_pos e3] at g1;cases g1;cases l1
    ·rw [if_neg e3] at g1;cases g1
 have gl:Gl Tryz.prog hh0 7 w.heap.size θ w:=⟨θ,Ext.refl θ,fun i hi=>⟨⟨i,0,0⟩,by rw [ht,if_pos hi],rfl⟩,r,fun i p hp=>by
  rw [ht] at hp
  by_cases e:i<7
  ·rw [if_pos e] at hp;cases hp;show i<_;omega
  ·rw [if_neg e] at hp;cases hp⟩
 have ans:=hc _ _ _ _ _ _ _ he w.heap.size θ w #[] gl r (Nat.le_refl _) .nil
 have run:(callFunc g #[]).run Tryz.prog w=.ok (.enter g #[]) w:=by
  have:=named g fn b hf hb
  simpa [callFunc,hf,hb] using this
 cases ans with
 | op k =>
  obtain ⟨nx,θ',w',v',m1,m2,_⟩:=k
  rw [run] at m1
  cases m1
  rcases m2 with m2 | ⟨m2,_⟩<;>cases m2
 | enter hm k =>
  rw [run] at hm
  cases hm
  refine k.mono fun e w' he => ?_
  obtain ⟨v',θ',rfl,_,hv,_,kp⟩:=he
  refine ⟨?_,kp⟩
  cases hv with
  | same _ _=>rfl
end Go.Proofs.YtihlneenajlhoaaGreatDoor
