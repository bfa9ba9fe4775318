/-
 A run of one goroutine over known values: reslicing, append, copy, clear. Condition: the store and the world belong together (WR).
-/
import Derived.Test.YtihlneenajlhoaaGreatDoorAeA
import Derived.Laws.StructEq
import Derived.Laws.BytesString
import Derived.Laws.Cover4
import Derived.Orders
import Derived.Defers
set_option linter.unusedVariables false
set_option linter.unusedSimpArgs false
namespace Go.Proofs.YtihlneenajlhoaaGreatDoor.ae
open Go
def bounds (len cap:Nat) (lo hi mx:Option Value):Option (Nat×Nat×Nat) :=
 (match mx with | some v=>asNat v | none=>some cap).bind fun m =>
 (match hi with | some v=>asNat v | none=>some len).bind fun h =>
 (match lo with | some v=>asNat v | none=>some 0).bind fun l =>
 bif (mx.isNone||hi.isSome)&&Nat.ble l h&&Nat.ble h m&&Nat.ble m cap then some (l,h,m) else none
def PH (P:Program) (t:TypeId) (x:Value) (lo hi mx:Option Value) (hp:H):Option Value:=match P.underlying t,x with
 | some (.slice e),.slice (some ⟨i,o,none⟩) len cap=>(size P e).bind fun s=>(bounds len cap lo hi mx).bind fun (l,hh,m) =>
   bif Nat.beq cap big then (bif mx.isSome then (match hp.get i with
     | some (.cells c e' _ true)=>bif (e'==e)&&Nat.ble (o+m*s) c.length&&Nat.ble 1 s&&Nat.blt m big then some (.slice (some ⟨i,bif Nat.beq m l then o else o+l*s,none⟩) (hh-l) (m-l)) else none
     | _=>none) else match hp.get i with
     | some (.cells c e' _ true)=>bif (e'==e)&&Nat.ble (o+hh*s) c.length&&Nat.ble 1 s then some (bif Nat.beq hh l&&Nat.blt 0 l then emp else .slice (some ⟨i,o+l*s,none⟩) (hh-l) big) else none
     | _=>none)
   else bif Nat.blt m big then some (.slice (some ⟨i,bif Nat.beq m l then o else o+l*s,none⟩) (hh-l) (m-l)) else none
 | some (.array k e),.pointer (some ⟨i,o,none⟩)=>(size P e).bind fun s=>(bounds k k lo hi mx).bind fun (l,hh,m)=>bif Nat.blt k 1000000 then some (.slice (some ⟨i,bif Nat.beq m l then o else o+l*s,none⟩) (hh-l) (m-l)) else none
 | _,_=>none
def OR (θ:Th) (a b:Option Value):Prop:=match a,b with
 | none,none=>True
 | some v,some v'=>VR θ v v'
 | _,_=>False
section
variable {P:Program} {base:Nat} {θ:Th} {w:World} {h h':H} {t:TypeId} {n:Nat}
theorem Ik {k:IntKind} {i y:Nat} {code:BoundsCode} (hi:i≤y):(Instr.sliceBound (.int k i) y code).run P w=.ok i w:=by
 simp [Instr.sliceBound,asIntOf,hi]
theorem OR.get {a b:Option Value} {v:Value} (h:OR θ a b) (ha:a=some v):∃v',b=some v'∧VR θ v v':=by
 subst ha
 cases b with
 | none=>exact h.elim
 | some v'=>exact ⟨v',rfl,h⟩
theorem OR.none {a b:Option Value} (h:OR θ a b) (ha:a=none):b=none:=by
 subst ha
 cases b with
 | none=>rfl
 | some v'=>exact h.elim
theorem PI {len cap cap' l hh m:Nat} {isS:Bool} {lo hi mx lo' hi' mx':Option Value} (hb:bounds len cap lo hi mx=some (l,hh,m)) (h1:OR θ lo lo') (h2:OR θ hi hi') (h3:OR θ mx mx')
  (hc:cap'=cap∨(mx=none∧hh≤cap')∨(mx.isSome=true∧m≤cap')) :
  (Instr.sliceBounds isS len cap' lo' hi' mx').run P w=.ok (l,hh,if mx=none then cap' else m) w∧l≤hh∧hh≤m∧m≤cap∧(mx=none→m=cap):=by
 unfold bounds at hb
 simp only [Option.bind_eq_some_iff] at hb
 obtain ⟨m0,hm,h0,hh0,l0,hl,hb⟩:=hb
 cases hcc:((mx.isNone||hi.isSome)&&Nat.ble l0 h0&&Nat.ble h0 m0&&Nat.ble m0 cap)
 ·rw [hcc] at hb;cases hb
 rw [hcc] at hb
 cases hb
 simp only [Bool.and_eq_true] at hcc
 obtain ⟨⟨⟨c0,c1⟩,c2⟩,c3⟩:=hcc
 have c1:=Nat.le_of_ble_eq_true c1
 have c2:=Nat.le_of_ble_eq_true c2
 have c3:=Nat.le_of_ble_eq_true c3
 cases lo with
 | none =>
  rw [h1.none rfl]
  cases hl
  cases mx with
  | none =>
   rw [h3.none rfl]
   cases hm
   cases hi with
   | none =>
    rw [h2.none rfl];cases hh0
    exact ⟨by simp [Instr.sliceBounds],c1,c2,c3,fun _=>rfl⟩
   | some v =>
    obtain ⟨v',rfl,hv⟩:=h2.get rfl
    obtain ⟨k,rfl⟩:=Gp hh0 hv
    have hle:hh≤cap':=by rcases hc with rfl | ⟨_,h⟩ | ⟨h,_⟩<;>first | omega | cases h
    exact ⟨by simp [Instr.sliceBounds,Ik hle],c1,c2,c3,fun _=>rfl⟩
  | some u =>
   obtain ⟨u',rfl,hu⟩:=h3.get rfl
   obtain ⟨k,rfl⟩:=Gp hm hu
   have c4:m≤cap':=by
    rcases hc with h | ⟨h,_⟩ | ⟨_,h⟩
    ·omega
    ·cases h
    ·exact h
   cases hi with
   | none=>simp at c0
   | some v =>
    obtain ⟨v',rfl,hv⟩:=h2.get rfl
    obtain ⟨k2,rfl⟩:=Gp hh0 hv
    exact ⟨by simp [Instr.sliceBounds,Ik c4,Ik c2],c1,c2,c3,fun h=>by cases h⟩
 | some x =>
  obtain ⟨x',rfl,hx⟩:=h1.get rfl
  obtain ⟨kx,rfl⟩:=Gp hl hx
  cases mx with
  | none =>
   rw [h3.none rfl]
   cases hm
   cases hi with
   | none =>
    rw [h2.none rfl];cases hh0
    exact ⟨by simp [Instr.sliceBounds,Ik c1],c1,c2,c3,fun _=>rfl⟩
   | some v =>
    obtain ⟨v',rfl,hv⟩:=h2.get rfl
    obtain ⟨k,rfl⟩:=Gp hh0 hv
    have hle:hh≤cap':=by rcases hc with rfl | ⟨_,h⟩ | ⟨h,_⟩<;>first | omega | cases h
    exact ⟨by simp [Instr.sliceBounds,Ik hle,Ik c1],c1,c2,c3,fun _=>rfl⟩
  | some u =>
   obtain ⟨u',rfl,hu⟩:=h3.get rfl
   obtain ⟨k,rfl⟩:=Gp hm hu
   have c4:m≤cap':=by
    rcases hc with h | ⟨h,_⟩ | ⟨_,h⟩
    ·omega
    ·cases h
    ·exact h
   cases hi with
   | none=>simp at c0
   | some v =>
    obtain ⟨v',rfl,hv⟩:=h2.get rfl
    obtain ⟨k2,rfl⟩:=Gp hh0 hv
    exact ⟨by simp [Instr.sliceBounds,Ik c4,Ik c2,Ik c1],c1,c2,c3,fun h=>by cases h⟩
theorem PL {i:Nat} {c:List Value} {e:TypeId} {ro:Bool} (r:WR P base θ h w) (hg:h.get i=some (.cells c e ro true)) :
  ∃p c' fz pre rr,θ i=some p∧w.heap[p.b]?=some (.cells c' e fz)∧VL θ c pre∧c'.toList=pre++rr∧c'.size=p.k∧size P e=some p.s∧(ro=false→Wt base p.b c'.size fz):=by
 obtain ⟨p,hp,hb⟩:=r.at_ i _ hg
 cases hb with
 | grow g hv he hk hs hz=>exact ⟨p,_,_,_,_,hp,g,hv,he,hk,hs,hz⟩
theorem aC {x x' v:Value} {lo hi mx lo' hi' mx':Option Value} (r:WR P base θ h w) (hs:PH P t x lo hi mx h=some v) (hx:VR θ x x') (h1:OR θ lo lo') (h2:OR θ hi hi') (h3:OR θ mx mx') :
  ∃v',(Instr.sliceAt t x' lo' hi' mx').run P w=.ok v' w∧VR θ v v':=by
 unfold PH at hs
 split at hs
 ·rename_i e i o len cap hu
  simp only [Option.bind_eq_some_iff] at hs
  obtain ⟨s,hsz,⟨l,hh,m⟩,hb,hs⟩:=hs
  dsimp only at hs
  cases hx with
  | same hq _=>simp [atom] at hq
  | slice hp hc hnil =>
   rename_i p
   rw [EM hc,cond_false] at hs
   cases hmb:Nat.blt m big
   ·rw [hmb] at hs;cases hs
   rw [hmb,cond_true] at hs
   have hmb:m<big:=Nat.le_of_ble_eq_true hmb
   cases hs
   obtain ⟨g1,g2,g3,g4,g5⟩:=PI (P:=P) (w:=w) (isS:=true) hb h1 h2 h3 (.inl rfl)
   have em:(if mx=none then cap else m)=m:=by split<;>simp_all
   rw [em] at g1
   have hcap:m-l≠big:=by omega
   refine ⟨.slice (some ⟨p.b,bif Nat.beq m l then o else o+l*s,none⟩) (hh-l) (m-l),?_,.slice hp hcap .nil⟩
   simp only [Instr.sliceAt,Sem.run_bind,run_underlying hu,Result.andThen_ok,Instr.slice,g1,EF hsz,Sem.run_pure]
   by_cases e:m=l
   ·subst e;simp
   ·simp [e,EM e,add_eq]
  | Cf hp hk hnil =>
   rename_i c' p
   rw [GX rfl,cond_true] at hs
   cases hmx:mx.isSome
   ·rw [hmx,cond_false] at hs
    have hmn:mx=none:=by simpa using hmx
    subst hmn
    split at hs
    ·rename_i c e' ro hg
     cases hcc:((e'==e)&&Nat.ble (o+hh*s) c.length&&Nat.ble 1 s)
     ·rw [hcc] at hs;cases hs
     rw [hcc,cond_true] at hs
     simp only [Bool.and_eq_true,beq_iff_eq] at hcc
     obtain ⟨⟨rfl,a1⟩,a2⟩:=hcc
     have a1:=Nat.le_of_ble_eq_true a1
     have a2:=Nat.le_of_ble_eq_true a2
     obtain ⟨q,cc,fz,pre,rr,q1,q2,q3,q4,q5,q6,q7⟩:=PL r hg
     rw [hp] at q1;cases q1
     rw [hsz] at q6;cases q6
     have hlen:c.length≤p.k:=by
      rw [q3.len,←q5]
      have:cc.size=(pre++rr).length:=by rw [←q4];simp
      rw [this];simp
     have hhc:hh≤c':=by
      have:hh*p.s≤c'*p.s:=by omega
      exact Nat.le_of_mul_le_mul_right this (by omega)
     obtain ⟨g1,g2,g3,g4,g5⟩:=PI (P:=P) (w:=w) (isS:=true) (cap':=c') hb h1 h2 h3 (.inr (.inl ⟨rfl,hhc⟩))
     simp only [if_true] at g1
     cases hs
     by_cases e0:hh=l
     ·subst e0
      by_cases e1:0<hh
      ·have eb:(Nat.beq hh hh&&Nat.blt 0 hh)=true:=by simp [GX rfl,Nat.blt,Nat.ble_eq_true_of_le e1]
       rw [eb,cond_true]
       refine ⟨.slice (some (if c'=hh then ⟨p.b,o,none⟩ else ⟨p.b,o+hh*p.s,none⟩)) 0 (c'-hh),?_,.emp .nil⟩
       simp only [Instr.sliceAt,Sem.run_bind,run_underlying hu,Result.andThen_ok,Instr.slice,g1,EF hsz,Sem.run_pure,Nat.sub_self]
       by_cases e:c'=hh
       ·simp [e]
       ·simp [e,add_eq]
      ·obtain rfl:hh=0:=by omega
       have eb:(Nat.beq 0 0&&Nat.blt 0 0)=false:=rfl
       rw [eb,cond_false]
       refine ⟨.slice (some ⟨p.b,o+0*p.s,none⟩) (0-0) (c'-0),?_,.Cf hp (by simpa using hk) .nil⟩
       simp only [Instr.sliceAt,Sem.run_bind,run_underlying hu,Result.andThen_ok,Instr.slice,g1,EF hsz,Sem.run_pure]
       by_cases e:c'=0
       ·simp [e]
       ·simp [e,add_eq]
     ·rw [EM e0,Bool.false_and,cond_false]
      have hlt:l<c':=by omega
      refine ⟨.slice (some ⟨p.b,o+l*p.s,none⟩) (hh-l) (c'-l),?_,.Cf hp ?_ .nil⟩
      ·simp only [Instr.sliceAt,Sem.run_bind,run_underlying hu,Result.andThen_ok,Instr.slice,g1,EF hsz,Sem.run_pure]
       simp [show ¬(c'=l) by omega,add_eq]
      ·rw [Nat.sub_mul]
       have:l*p.s≤c'*p.s:=Nat.mul_le_mul_right _ (by omega)
       omega
    ·cases hs
   ·rw [hmx,cond_true] at hs
    split at hs
    ·rename_i c e' ro hg
     cases hcc:((e'==e)&&Nat.ble (o+m*s) c.length&&Nat.ble 1 s&&Nat.blt m big)
     ·rw [hcc] at hs;cases hs
     rw [hcc,cond_true] at hs
     simp only [Bool.and_eq_true,beq_iff_eq] at hcc
     obtain ⟨⟨⟨rfl,a1⟩,a2⟩,a3⟩:=hcc
     have a1:=Nat.le_of_ble_eq_true a1
     have a2:=Nat.le_of_ble_eq_true a2
     have a3:m<big:=Nat.le_of_ble_eq_true a3
     obtain ⟨q,cc,fz,pre,rr,q1,q2,q3,q4,q5,q6,q7⟩:=PL r hg
     rw [hp] at q1;cases q1
     rw [hsz] at q6;cases q6
     have hlen:c.length≤p.k:=by
      rw [q3.len,←q5]
      have:cc.size=(pre++rr).length:=by rw [←q4];simp
      rw [this];simp
     have hmc:m≤c':=by
      have:m*p.s≤c'*p.s:=by omega
      exact Nat.le_of_mul_le_mul_right this (by omega)
     obtain ⟨g1,g2,g3,g4,g5⟩:=PI (P:=P) (w:=w) (isS:=true) (cap':=c') hb h1 h2 h3 (.inr (.inr ⟨hmx,hmc⟩))
     have em:(if mx=none then c' else m)=m:=by
      split
      ·rename_i e;rw [e] at hmx;cases hmx
      ·rfl
     rw [em] at g1
     cases hs
     have hcap:m-l≠big:=by omega
     refine ⟨.slice (some ⟨p.b,bif Nat.beq m l then o else o+l*p.s,none⟩) (hh-l) (m-l),?_,.slice hp hcap .nil⟩
     simp only [Instr.sliceAt,Sem.run_bind,run_underlying hu,Result.andThen_ok,Instr.slice,g1,EF hsz,Sem.run_pure]
     by_cases e:m=l
     ·subst e;simp
     ·simp [e,EM e,add_eq]
    ·cases hs
 ·rename_i k e i o hu
  simp only [Option.bind_eq_some_iff] at hs
  obtain ⟨s,hsz,⟨l,hh,m⟩,hb,hs⟩:=hs
  dsimp only at hs
  cases hk:Nat.blt k 1000000
  ·rw [hk] at hs;cases hs
  rw [hk,cond_true] at hs
  have hk:k<1000000:=Nat.le_of_ble_eq_true hk
  cases hs
  cases hx with
  | same hq _=>simp [atom] at hq
  | ptr hp hnil =>
   rename_i p
   obtain ⟨g1,g2,g3,g4,g5⟩:=PI (P:=P) (w:=w) (isS:=false) hb h1 h2 h3 (.inl rfl)
   have em:(if mx=none then k else m)=m:=by split<;>simp_all
   rw [em] at g1
   refine ⟨.slice (some ⟨p.b,bif Nat.beq m l then o else o+l*s,none⟩) (hh-l) (m-l),?_,.slice hp (by unfold big;omega) .nil⟩
   simp only [Instr.sliceAt,Sem.run_bind,run_underlying hu,Result.andThen_ok,Instr.sureAddr,g1,EF hsz,Sem.run_pure]
   by_cases e:m=l
   ·subst e;simp
   ·simp [e,EM e,add_eq]
 ·cases hs
end
end Go.Proofs.YtihlneenajlhoaaGreatDoor.ae
/-
 A run of one goroutine over known values: append, copy, clear. Condition: the store and the world belong together (WR).
-/
set_option linter.unusedVariables false
set_option linter.unusedSimpArgs false
namespace Go.Proofs.YtihlneenajlhoaaGreatDoor.ae
open Go
def RJ (sz:Nat) (h:H) (x:Value):Option (List Value×Nat):=match x with
 | .slice (some ⟨i,o,none⟩) k _=>(rd h i o (k*sz)).map fun l=>(l,k)
 | .slice none 0 _=>some ([],0)
 | .string s=>some (((s.extract 0 s.size).data.map fun b=>Value.int .u8 b.toNat).toList,s.size)
 | _=>none
def PM (P:Program) (t:Option TypeId):Bool:=match t with
 | some t=>(match P.underlying t with | some (.int _)=>false | some _=>true | none=>false)
 | none=>false
def RN (P:Program) (st:TypeId) (s x:Value) (h:H) (n:Nat):R :=
 (elemOf P st).bind fun e=>(P.info? e).bind fun inf=>(inf.zero).bind fun z=>(RJ inf.size h x).bind fun (new,k) =>
  bif !(Nat.ble inf.bytes 10000&&((lst z).length==inf.size)&&(new.length==k*inf.size)&&Nat.ble 1 inf.size) then none else match s with
 | .slice none 0 0=>bif Nat.beq k 0 then some (.slice none 0 0,h,n) else bif Nat.ble k 1000000 then (fresh h n (.cells new e false true)).map fun h=>(.slice (some ⟨n,0,none⟩) k big,h,n+1) else none
 | .slice (some ⟨i,o,none⟩) len cap =>
  bif !Nat.ble (len+k) 1000000 then none else
  bif Nat.beq cap big then
   (match h.get i with
    | some (.cells c e' false true) =>
     bif Nat.ble (o+(len+k)*inf.size) c.length&&(e'==e) then (wr h i (o+len*inf.size) new).map fun h=>(.slice (some ⟨i,o,none⟩) (len+k) big,h,n) else
     bif (c.length==len*inf.size)&&(e'==e)&&Nat.beq o 0&&new.all FX then
      (hput h i .dead).bind fun h1=>(fresh h1 n (.cells (c++new) e false true)).map fun h=>(.slice (some ⟨n,0,none⟩) (len+k) big,h,n+1)
     else none
    | _=>none)
  else bif Nat.ble (len+k) cap then (wr h i (o+len*inf.size) new).map fun h=>(.slice (some ⟨i,o,none⟩) (len+k) cap,h,n)
  else (rd h i o (len*inf.size)).bind fun old=>(fresh h n (.cells (old++new) e false true)).map fun h=>(.slice (some ⟨n,0,none⟩) (len+k) big,h,n+1)
 | _=>none
section
variable {P:Program} {base:Nat} {θ:Th} {w:World} {h h':H} {t:TypeId} {n:Nat}
theorem VT {sz k:Nat} {x x':Value} {l:List Value} (r:WR P base θ h w) (ha:RJ sz h x=some (l,k)) (hx:VR θ x x') :
  (Builtin.lenOf x').run P w=.ok k w∧∃l',(Builtin.firstCells sz k x').run P w=.ok l'.toArray w∧VL θ l l':=by
 unfold RJ at ha
 split at ha
 ·rename_i i o k' c
  rw [Option.map_eq_some_iff] at ha
  obtain ⟨l0,hr,e⟩:=ha
  cases e
  obtain ⟨p,c',e,fz,l',g1,g2,g3,g4⟩:=Jn r hr
  cases hx with
  | same hq _=>simp [atom] at hq
  | slice hp _ _ =>
   rw [hp] at g1;cases g1
   exact ⟨by simp [Builtin.lenOf],l',by simp [Builtin.firstCells,Jo g2 g3],g4⟩
  | Cf hp _ _ =>
   rw [hp] at g1;cases g1
   exact ⟨by simp [Builtin.lenOf],l',by simp [Builtin.firstCells,Jo g2 g3],g4⟩
 ·cases ha
  cases hx with
  | same hq _=>exact ⟨by simp [Builtin.lenOf],[],by simp [Builtin.firstCells],.nil⟩
 ·rename_i s
  cases ha
  cases hx with
  | same hq _ =>
   refine ⟨by simp [Builtin.lenOf],((s.extract 0 s.size).data.map fun b=>Value.int .u8 b.toNat).toList,by simp only [Builtin.firstCells,Sem.run_pure,Array.toArray_toList],?_⟩
   refine Ij ?_
   rw [List.all_eq_true]
   intro v hv
   simp only [Array.toList_map,List.mem_map] at hv
   obtain ⟨b,_,rfl⟩:=hv
   rfl
 ·cases ha
theorem aF (N:Nat):∀(r c:Nat),Builtin.growBy N r c≤max c (2*N+200):=by
 intro r
 induction r with
 | zero=>intro c;simp only [Builtin.growBy];omega
 | succ r ih =>
  intro c
  simp only [Builtin.growBy]
  split
  ·omega
  ·have:=ih (c+(c+768) / 4)
   omega
theorem aG {need cap:Nat} (h:cap<need):Builtin.nextslicecap need cap≤2*need+200:=by
 unfold Builtin.nextslicecap
 split
 ·omega
 ·split
  ·omega
  ·have:=aF need 4 cap;omega
theorem grown {e:TypeId} {inf:TypeInfo} {z:Value} {all all':List Value} {need q:Nat} (r:WR P base θ h w) (hb:base≤w.heap.size) (hi:P.info? e=some inf) (hzl:(lst z).length=inf.size)
  (hall:VL θ all all') (hlen:all'.length=need*inf.size) (hqn:need≤q) (hf:fresh h n (.cells all e false true)=some h') :
  ∃θ',Ext θ θ'∧VR θ' (.slice (some ⟨n,0,none⟩) need big) (.slice (some ⟨w.heap.size,0,none⟩) need q)∧WR P base θ' h' (w.drew.alloc (.cells (all'.toArray++Builtin.zeroCells z.cells (q-need)) e)) ∧
   Keep base w (w.drew.alloc (.cells (all'.toArray++Builtin.zeroCells z.cells (q-need)) e)):=by
 have r1:WR P base θ h w.drew:=r.heap rfl
 have hz2:z.cells.size=inf.size:=by simpa [lst] using hzl
 obtain ⟨θ',g1,g2,g3,g4⟩:=NW (o:=.cells (all'.toArray++Builtin.zeroCells z.cells (q-need)) e) (p:=⟨w.heap.size,q*inf.size,inf.size⟩) r1 hb hf rfl (fun θ' w' hx hw=>by
  refine .grow (r:=(Builtin.zeroCells z.cells (q-need)).toList) hw (hall.mono hx) (by simp) ?_ (by simp [size,hi]) fun _=>⟨hb,.inl rfl⟩
  simp only [Array.size_append,List.size_toArray,hlen,Builtin.zeroCells,Array.size_map,Array.size_range,hz2]
  rw [←Nat.add_mul]
  congr 1
  omega)
 exact ⟨θ',g2,.Cf g1 (by simp) .nil,g3,⟨g4.os,g4.tape,g4.output,g4.size,g4.block⟩⟩
section
variable {types:Array TypeId} {xt ty e:TypeId} {d:TypeDesc} {len cap k sz:Nat} {x':Value} {new:Array Value} {w':World}
set_option maxHeartbeats 8000000 in
theorem RP (h0:types[0]?=some t) (h1:types[1]?=some xt) (hu:P.underlying t=some (.slice e)) (hd:P.underlying xt=some d) (hdi:∀k,d≠.int k) (hisz:(sizeOf e).run P w=.ok sz w) (hlen:(Builtin.lenOf x').run P w=.ok k w) (hroom:len+k≤cap) {a:Addr}
  (hnew:(Builtin.firstCells sz k x').run P w=.ok new w) (hst:(storeCells (a.add (len*sz)) new.toList).run P w=.ok () w'):(Builtin.append_ types ty #[.slice (some a) len cap,x']).run P w=.ok (.slice (some a) (len+k) cap) w':=by
 cases d<;>first | exact absurd rfl (hdi _) | simp [Builtin.append_,h0,h1,run_underlying hu,run_underlying hd,hisz,hlen,hroom,hnew,hst]
set_option maxHeartbeats 8000000 in
theorem aH (h0:types[0]?=some t) (h1:types[1]?=some xt) (hu:P.underlying t=some (.slice e)) (hd:P.underlying xt=some d) (hdi:∀k,d≠.int k) (hisz:(sizeOf e).run P w=.ok sz w) (hlen:(Builtin.lenOf x').run P w=.ok 0 w)
  (hnew:(Builtin.firstCells sz 0 x').run P w=.ok new w):(Builtin.append_ types ty #[.slice none 0 0,x']).run P w=.ok (.slice none 0 0) w:=by
 cases d<;>first | exact absurd rfl (hdi _) | simp [Builtin.append_,h0,h1,run_underlying hu,run_underlying hd,hisz,hlen,hnew]
set_option maxHeartbeats 8000000 in
theorem RQ {b:Option Addr} {old:Array Value} {inf:TypeInfo} {z:Value} {q:Nat} (h0:types[0]?=some t) (h1:types[1]?=some xt) (hu:P.underlying t=some (.slice e)) (hd:P.underlying xt=some d) (hdi:∀k,d≠.int k) (hi:P.info? e=some inf) (hz:inf.zero=some z) (hlen:(Builtin.lenOf x').run P w=.ok k w)
  (hroom:¬len+k≤cap) (ACE:len+k≤1000000) (hby:inf.bytes≤10000) (hq:q=(Question.appendCap (len+k) cap e).cut (w.tape w.drawn (.appendCap (len+k) cap e)))
  (hold:(Builtin.firstCells inf.size len (.slice b len cap)).run P w.drew=.ok old w.drew) (hnew:(Builtin.firstCells inf.size k x').run P w.drew=.ok new w.drew) :
  (Builtin.append_ types ty #[.slice b len cap,x']).run P w=.ok (.slice (some ⟨w.heap.size,0,none⟩) (len+k) q) (w.drew.alloc (.cells (old++new++Builtin.zeroCells z.cells (q-(len+k))) e)):=by
 have h63:¬(9223372036854775807<((len:Int)+(k:Int))):=by omega
 have h48:¬(281474976710656<Builtin.nextslicecap (len+k) cap*inf.bytes):=by
  have a1:=aG (need:=len+k) (cap:=cap) (by omega)
  have a2:Builtin.nextslicecap (len+k) cap*inf.bytes≤(2*1000000+200)*10000:=Nat.mul_le_mul (by omega) hby
  omega
 cases d<;>first | exact absurd rfl (hdi _) | simp [Builtin.append_,h0,h1,run_underlying hu,run_underlying hd,sizeOf,typeInfo,zeroValue,hi,hz,hlen,hroom,h63,h48,Question.forced,hold,hnew,newRow,←hq]
end
end
end Go.Proofs.YtihlneenajlhoaaGreatDoor.ae
/-
 A run of one goroutine over known values: append; copy, clear. Condition: the store and the world belong together (WR).
-/
set_option linter.unusedVariables false
set_option linter.unusedSimpArgs false
namespace Go.Proofs.YtihlneenajlhoaaGreatDoor.ae
open Go
theorem aI {o:Nat} {vs l:List Value} (h:o+vs.length≤l.length):BV o vs l=some (l.take o++vs++l.drop (o+vs.length)):=by
 induction l generalizing o vs with
 | nil =>
  cases vs with
  | nil=>simp at h;subst h;rfl
  | cons v vs=>simp at h
 | cons y l ih =>
  cases vs with
  | nil=>rw [NS];simp
  | cons v vs =>
   cases o with
   | zero =>
    have:=ih (o:=0) (vs:=vs) (by simp at h ⊢; omega)
    simp only [BV,this,Option.map_some]
    simp
   | succ o =>
    have:=ih (o:=o) (vs:=v :: vs) (by simp at h ⊢; omega)
    simp only [BV,this,Option.map_some]
    simp [Nat.add_right_comm o 1]
theorem VU {θ:Th} {vs vs':List Value} (hv:VL θ vs vs') (ha:vs.all FX=true):vs'.all FX=true:=by
 induction vs generalizing vs' with
 | nil=>rw [hv.Ci];rfl
 | cons v vs ih =>
  obtain ⟨v',vs',rfl,h1,h2⟩:=hv.DY
  simp only [List.all_cons,Bool.and_eq_true] at ha ⊢
  refine ⟨?_,ih h2 ha.2⟩
  have:=ha.1
  cases h1<;>first | assumption | rfl | (simp [FX] at this)
section
variable {P:Program} {base:Nat} {θ:Th} {w:World} {h h':H} {t:TypeId} {n:Nat}
theorem aJ {types:Array TypeId} {ty:TypeId} {s s' x x' v:Value} {n':Nat} (r:WR P base θ h w) (hb:base≤w.heap.size) (h0:types[0]?=some t) (hni:PM P types[1]?=true) (ha:RN P t s x h n=some (v,h',n')) (hs:VR θ s s') (hx:VR θ x x') :
  CE P base θ w (Builtin.append_ types ty #[s',x']) v h':=by
 unfold RN at ha
 simp only [Option.bind_eq_some_iff] at ha
 obtain ⟨e,he,inf,IE,z,hz,⟨new,k⟩,hap,ha⟩:=ha
 dsimp only at ha
 cases hcc:(Nat.ble inf.bytes 10000&&((lst z).length==inf.size)&&(new.length==k*inf.size)&&Nat.ble 1 inf.size)
 ·rw [hcc] at ha;cases ha
 rw [hcc,Bool.not_true,cond_false] at ha
 simp only [Bool.and_eq_true,beq_iff_eq] at hcc
 obtain ⟨⟨⟨c1,c2⟩,c3⟩,c4⟩:=hcc
 have c1:=Nat.le_of_ble_eq_true c1
 have c4:=Nat.le_of_ble_eq_true c4
 have hu:=NY he
 obtain ⟨xt,d,hx1,hd,hdi⟩:∃xt d,types[1]?=some xt∧P.underlying xt=some d∧∀k,d≠.int k:=by
  unfold PM at hni
  cases e1:types[1]? with
  | none=>rw [e1] at hni;cases hni
  | some xt =>
   rw [e1] at hni
   cases e2:P.underlying xt with
   | none=>simp [e2] at hni
   | some d=>exact ⟨xt,d,rfl,e2,fun k hk=>by subst hk;simp [e2] at hni⟩
 obtain ⟨hlen,new',hnew,hvl⟩:=VT r hap hx
 have r1:WR P base θ h w.drew:=r.heap rfl
 obtain ⟨_,aK,RS,PN⟩:=VT r1 hap hx
 have RU:aK.length=k*inf.size:=by rw [←PN.len,c3]
 have hisz:∀w,(sizeOf e).run P w=.ok inf.size w:=fun w=>by simp [sizeOf,typeInfo,IE]
 split at ha
 ·cases hk:Nat.beq k 0
  ·rw [hk,cond_false] at ha
   cases hkk:Nat.ble k 1000000
   ·rw [hkk] at ha;cases ha
   rw [hkk,cond_true,Option.map_eq_some_iff] at ha
   obtain ⟨h1,hf,e1⟩:=ha
   cases e1
   have hkk:=Nat.le_of_ble_eq_true hkk
   have hk0:k≠0:=fun e=>by subst e;simp at hk
   cases hs with
   | same _ _ =>
    obtain ⟨q,hq⟩:∃q,q=(Question.appendCap (0+k) 0 e).cut (w.tape w.drawn (.appendCap (0+k) 0 e)):=⟨_,rfl⟩
    have hqn:0+k≤q:=by rw [hq];unfold Question.cut;simp
    have hold:(Builtin.firstCells inf.size 0 (.slice none 0 0)).run P w.drew=.ok #[] w.drew:=by simp [Builtin.firstCells]
    have hr:=RQ (ty:=ty) (b:=none) (len:=0) (cap:=0) h0 hx1 hu hd hdi IE hz hlen (by omega) (by omega) c1 hq hold RS
    obtain ⟨θ',g1,g2,g3,g4⟩:=grown (need:=0+k) (z:=z) r hb IE c2 PN (by rw [Nat.zero_add];exact RU) hqn hf
    rw [Nat.zero_add] at *
    refine ⟨_,θ',_,hr,g1,g2,?_,?_⟩<;>simpa using (by assumption)
  ·rw [hk,cond_true] at ha
   cases ha
   have hk0:=Nat.eq_of_beq_eq_true hk
   subst hk0
   cases hs with
   | same _ _=>exact CE.same r (aH h0 hx1 hu hd hdi (hisz w) hlen hnew) (.same rfl .nil)
 ·rename_i i o len cap
  cases hkk:Nat.ble (len+k) 1000000
  ·rw [hkk] at ha;cases ha
  rw [hkk,Bool.not_true,cond_false] at ha
  have hkk:=Nat.le_of_ble_eq_true hkk
  cases hs with
  | same hq _=>simp [atom] at hq
  | slice hp hc hnil =>
   rename_i p
   rw [EM hc,cond_false] at ha
   cases hr:Nat.ble (len+k) cap
   ·rw [hr,cond_false,Option.bind_eq_some_iff] at ha
    obtain ⟨old,hrd,ha⟩:=ha
    rw [Option.map_eq_some_iff] at ha
    obtain ⟨h1,hf,e1⟩:=ha
    cases e1
    have hroom:¬len+k≤cap:=fun hle=>by rw [Nat.ble_eq_true_of_le hle] at hr;cases hr
    obtain ⟨q,hq⟩:∃q,q=(Question.appendCap (len+k) cap e).cut (w.tape w.drawn (.appendCap (len+k) cap e)):=⟨_,rfl⟩
    have hqn:len+k≤q:=by rw [hq];unfold Question.cut;simp
    obtain ⟨p2,c',e',fz,old',g1,g2,g3,g4⟩:=Jn r1 hrd
    rw [hp] at g1;cases g1
    have hold:(Builtin.firstCells inf.size len (.slice (some ⟨p.b,o,none⟩) len cap)).run P w.drew=.ok old'.toArray w.drew:=by simp [Builtin.firstCells,Jo g2 g3]
    have hol:=(LJ _ _ _ _ g3).2.1
    have hr:=RQ (ty:=ty) h0 hx1 hu hd hdi IE hz hlen hroom hkk c1 hq hold RS
    obtain ⟨θ',g1,g2,g3,g4⟩:=grown (need:=len+k) (z:=z) r hb IE c2 (g4.append PN) (by simp [hol,RU,Nat.add_mul]) hqn hf
    refine ⟨_,θ',_,hr,g1,g2,?_,?_⟩<;>simpa using (by assumption)
   ·rw [hr,cond_true,Option.map_eq_some_iff] at ha
    obtain ⟨h1,hw,e1⟩:=ha
    cases e1
    have hroom:=Nat.le_of_ble_eq_true hr
    obtain ⟨p2,w',g1,g2,g3,g4⟩:=NT (P:=P) r hb hw hvl
    rw [hp] at g1;cases g1
    exact ⟨_,θ,w',RP h0 hx1 hu hd hdi (hisz w) hlen hroom hnew (by rw [add_eq];simpa using g2),Ext.refl θ,.slice hp hc .nil,g3,g4⟩
  | Cf hp hk hnil =>
   rename_i c' p
   rw [GX rfl,cond_true] at ha
   split at ha
   ·rename_i c e' hg
    obtain ⟨q,cc,fz,pre,rr,q1,q2,q3,q4,q5,q6,q7⟩:=PL r hg
    rw [hp] at q1;cases q1
    obtain ⟨hbase,NU⟩:=q7 rfl
    have hfz:=(q7 rfl).no
    have ACF:c.length≤p.k:=by
     rw [q3.len,←q5]
     have:cc.size=(pre++rr).length:=by rw [←q4];simp
     rw [this];simp
    cases ha1:(Nat.ble (o+(len+k)*inf.size) c.length&&(e'==e))
    ·rw [ha1,cond_false] at ha
     cases ha2:((c.length==len*inf.size)&&(e'==e)&&Nat.beq o 0&&new.all FX)
     ·rw [ha2] at ha;cases ha
     rw [ha2,cond_true,Option.bind_eq_some_iff] at ha
     obtain ⟨h1,hd1,ha⟩:=ha
     rw [Option.map_eq_some_iff] at ha
     obtain ⟨h2,hf,e1⟩:=ha
     cases e1
     simp only [Bool.and_eq_true,beq_iff_eq] at ha2
     obtain ⟨⟨⟨a1,rfl⟩,a3⟩,a4⟩:=ha2
     have a3:=Nat.eq_of_beq_eq_true a3
     subst a3
     have hps:p.s=inf.size:=by simp [size,IE] at q6;exact q6.symm
     have AY:WR P base θ h1 w:=r.set hd1 hg hp rfl .dead fun _ _=>rfl
     obtain ⟨hn1,hpt⟩:=NV hf
     have hpl:pre.length=len*inf.size:=by rw [←q3.len,a1]
     have aN:cc.toList.length=p.k:=by rw [←q5];simp
     by_cases hroom:len+k≤c'
     ·have hle:(len+k)*inf.size≤p.k:=by
       rw [←hk,hps]
       have:=Nat.mul_le_mul_right inf.size hroom
       omega
      have hnl:new'.length=k*inf.size:=by rw [←hvl.len,c3]
      have hex:=aI (o:=len*inf.size) (vs:=new') (l:=cc.toList) (by rw [hnl,aN,←Nat.add_mul];exact hle)
      have hy:cc.toList.take (len*inf.size)++new'++cc.toList.drop (len*inf.size+new'.length)=pre++new'++rr.drop new'.length:=by
       rw [q4,←hpl,List.take_left',List.drop_append]
       ·simp
       ·rfl
      rw [hy] at hex
      obtain ⟨y,hyd⟩:∃y,y=pre++new'++rr.drop new'.length:=⟨_,rfl⟩
      rw [←hyd] at hex
      obtain ⟨w',s1,s2,s3,s4,s5,s6,s7⟩:=Q7 (P:=P) (b:=p.b) (o:=len*inf.size) new' 0 w cc _ q2 hfz (VU hvl a4) (by simpa using hex)
      have VV:y.toArray.size=cc.size:=by
       have:=(Qz hex).1
       simp only [List.size_toArray,this];simp
      obtain ⟨g1,g2⟩:=AY.new (θ':=fun j=>if j=n then some p else θ j) (p:=p) (w':=w') hpt hn1 (fun j=>rfl) (.grow (r:=rr.drop new'.length) s2 ((q3.append hvl).mono (fun j q hq=>by
        show (if j=n then some p else θ j)=some q
        split
        ·rename_i e;subst e;rw [AY.dom _ hn1] at hq;cases hq
        ·exact hq)) (by simp [hyd]) (by rw [VV];exact q5) (by simp [size,IE,hps]) (fun _=>⟨hbase,by rw [VV];exact NU⟩)) (fun j x q hj hl hq=>by
       rw [IB hd1] at hj
       split at hj
       ·cases hj;cases hl
       ·rename_i hji
        have hne:=r.inj j i q p x _ hji hj hg hl rfl hq hp
        exact ⟨s3 _ hne,hne⟩)
      refine ⟨.slice (some ⟨p.b,0,none⟩) (len+k) c',_,w',RP h0 hx1 hu hd hdi (hisz w) hlen hroom hnew (by rw [add_eq];simpa using s1),g2,.Cf (p:=p) (by simp) hk .nil,g1,⟨s5,s6,s7,by omega,fun k hk=>s3 k (by omega)⟩⟩
     ·obtain ⟨q,hq⟩:∃q,q=(Question.appendCap (len+k) c' e').cut (w.tape w.drawn (.appendCap (len+k) c' e')):=⟨_,rfl⟩
      have hqn:len+k≤q:=by rw [hq];unfold Question.cut;simp
      have htk:takeN 0 (len*inf.size) cc.toList=some pre:=by
       rw [q4,←hpl];exact Qy (Zq pre)
      have hold:(Builtin.firstCells inf.size len (.slice (some ⟨p.b,0,none⟩) len c')).run P w.drew=.ok pre.toArray w.drew:=by
       have q2':w.drew.heap[p.b]?=some (.cells cc e' fz):=q2
       simp [Builtin.firstCells,Jo q2' htk]
      have hr:=RQ (ty:=ty) h0 hx1 hu hd hdi IE hz hlen hroom hkk c1 hq hold RS
      obtain ⟨θ',g1,g2,g3,g4⟩:=grown (need:=len+k) (z:=z) AY hb IE c2 (q3.append PN) (by simp [hpl,RU,Nat.add_mul]) hqn hf
      refine ⟨_,θ',_,hr,g1,g2,?_,?_⟩<;>simpa using (by assumption)
    ·rw [ha1,cond_true,Option.map_eq_some_iff] at ha
     obtain ⟨h1,hw,e1⟩:=ha
     cases e1
     simp only [Bool.and_eq_true,beq_iff_eq] at ha1
     obtain ⟨a1,rfl⟩:=ha1
     have a1:=Nat.le_of_ble_eq_true a1
     have hps:p.s=inf.size:=by simp [size,IE] at q6;exact q6.symm
     have hroom:len+k≤c':=by
      have:(len+k)*inf.size≤c'*inf.size:=by rw [hps] at hk;omega
      exact Nat.le_of_mul_le_mul_right this (by omega)
     obtain ⟨p2,w',g1,g2,g3,g4⟩:=NT (P:=P) r hb hw hvl
     rw [hp] at g1;cases g1
     exact ⟨_,θ,w',RP h0 hx1 hu hd hdi (hisz w) hlen hroom hnew (by rw [add_eq];simpa using g2),Ext.refl θ,.Cf hp hk .nil,g3,g4⟩
   ·cases ha
 ·cases ha
end
end Go.Proofs.YtihlneenajlhoaaGreatDoor.ae
/-
 A run of one goroutine over known values: maps with keys that are numbers or texts, and what goes over them. Condition: the store and the world belong together (WR).
-/
set_option linter.unusedVariables false
set_option linter.unusedSimpArgs false
namespace Go.Proofs.YtihlneenajlhoaaGreatDoor.ae
open Go
def RX (P:Program) (t:TypeId):Option TypeDesc:=match P.underlying t with
 | some (.int k)=>some (.int k)
 | some .string=>some .string
 | some (.struct fs)=>some (.struct fs)
 | _=>none
def JJ {α:Type} (P:Program):Sem α→Option α
 | .pure a=>some a
 | .program k=>JJ P (k P)
 | .mark _ k=>JJ P k
 | _=>none
def RY (P:Program) (t:TypeId) (x y:Value):Option Bool:=match P.underlying t,x,y with
 | some (.int _),.int k a,.int k' b=>if k=k' then some (a==b) else none
 | some .string,.string a,.string b=>some (a==b)
 | some .bool,.bool a,.bool b=>some (a==b)
 | some (.pointer _),.pointer none,.pointer none=>some true
 | some (.pointer e),.pointer (some ⟨i,o,none⟩),.pointer (some ⟨j,p,none⟩)=>bif Nat.beq i j&&(match size P e with | some (_+1)=>true | _=>false) then some (Nat.beq o p) else none
 | _,_,_=>none
def Na (P:Program) (xs ys:List Value):List Field→Option Bool
 | []=>some true
 | f :: fs=>bif decide (f.name ≠ "_") then (Jp P f.type xs f.offset).bind fun a=>(Jp P f.type ys f.offset).bind fun b=>(RY P f.type a b).bind fun r=>bif r then Na P xs ys fs else some false
  else Na P xs ys fs
def RZ (P:Program) (kt:TypeId) (fs:Array Field) (k e:Value):Option Bool:=match k,e with
 | .agg xs,.agg ys=>bif P.stoodInHeld kt then none else Na P xs.toList ys.toList fs.toList
 | _,_=>none
def Rh (P:Program) (t:TypeId):Bool:=match P.underlying t with
 | some (.int _) | some .string | some .bool | some (.pointer _)=>true
 | _=>false
def LP (P:Program) (xs:List Value) (fs:List Field):Bool:=fs.all fun f=>(Jp P f.type xs f.offset).isSome&&Rh P f.type
def Nb (P:Program) (kt:TypeId) (fs:Array Field) (k:Value):List MapEntry→Nat→Option (Option (Nat×Value))
 | [],_=>some none
 | e :: es,i=>(match RZ P kt fs k e.key with
  | some true=>some (some (i,e.val))
  | some false=>Nb P kt fs k es (i+1)
  | none=>none)
def Nc (P:Program) (kt:TypeId) (d:TypeDesc) (k:Value) (es:List MapEntry):Option (Option (Nat×Value)):=match d with
 | .struct fs=>(match k with
  | .agg xs=>bif LP P xs.toList fs.toList then Nb P kt fs k es 0 else none
  | _=>none)
 | d=>Instr.findNow d k es 0
def Nh (P:Program) (t:TypeId):Option (TypeId×TypeDesc×TypeId):=match P.underlying t with
 | some (.map k e)=>(RX P k).map fun d=>(k,d,e)
 | _=>none
def Ri (P:Program) (t:TypeId) (m k:Value) (ok:Bool) (h:H):Option Value:=(Nh P t).bind fun (kt,d,e) =>
 (match m with
  | .map none=>some []
  | .map (some r)=>(match h.get r with | some (.map es _)=>some es | _=>none)
  | _=>none).bind fun es=>(Nc P kt d k es).bind fun f =>
 (match f with
  | some (_,v)=>some (v,true)
  | none=>(zero P e).bind fun z=>bif atoms z then some (z,false) else none).map fun (v,b)=>bif ok then .tuple #[v,.bool b] else v
def Rj (P:Program) (t:TypeId) (m k x:Value) (h:H):Option H:=(Nh P t).bind fun (kt,d,e)=>match m with
 | .map (some r)=>(match h.get r with
  | some (.map es c)=>bif true then (Nc P kt d k es).bind fun f=>(match f with
   | some (i,_)=>bif (match es[i]? with | some e=>Instr.sameBits 10000 e.key k | none=>false) then hput h r (.map (es.modify i fun e=>{ e with key:=k,val:=x }) c) else none
   | none=>hput h r (.map (es++[{ key:=k,val:=x,born:=c }]) (c+1))) else none
  | _=>none)
 | _=>none
def Js (b:AB) (f:Nat→Value) (h:H) (n:Nat):R:=(fresh h n b).map fun h=>(f n,h,n+1)
def Nj (i:Nat):Value:=.map (some i)
def PO (P:Program) (t:TypeId) (x:Value) (h:H) (n:Nat):R:=match P.underlying t,x with
 | some .string,.string b=>Js (.Eh b 0) ptrTo h n
 | some (.map _ _),.map none=>Js (.iter none 0 [] 0) ptrTo h n
 | some (.map _ _),.map (some m)=>(match h.get m with | some (.map _ c)=>Js (.iter (some m) c [] c) ptrTo h n | _=>none)
 | _,_=>none
def PP (it:Value) (isS:Bool) (h:H):Option (Value×H):=match it with
 | .pointer (some ⟨r,0,none⟩)=>(match h.get r,isS with
  | some (.Eh b pos),true=>bif Nat.blt pos b.size then (hput h r (.Eh b (pos+(Utf8.decode b pos).2))).map fun h=>(.tuple #[.bool true,goInt pos,.int .i32 (Utf8.decode b pos).1],h) else some (.tuple #[.bool false],h)
  | some (.iter none _ _ _),false=>some (.tuple #[.bool false],h)
  | some (.iter (some m) since seen last),false=>(match h.get m with
   | some (.map [] _)=>some (.tuple #[.bool false],h)
   | some (.map [e] clock)=>(match seen with
    | []=>bif Nat.blt e.born since then (hput h r (.iter (some m) since [e.born] clock)).map fun h=>(.tuple #[.bool true,e.key,e.val],h) else none
    | [b]=>bif Nat.beq b e.born&&Nat.blt e.born last then some (.tuple #[.bool false],h) else none
    | _=>none)
   | _=>none)
  | _,_=>none)
 | _=>none
def Rk (it:Value) (h:H):Option Value:=match it with
 | .pointer (some ⟨r,0,none⟩)=>(match h.get r with
  | some (.iter (some m) _ [b] stepped)=>(match h.get m with
   | some (.map [e] clock)=>bif Nat.beq clock stepped&&Nat.beq b e.born then some (.tuple #[e.key,e.val]) else none
   | _=>none)
  | _=>none)
 | _=>none
section
variable {P:Program} {base:Nat} {θ:Th} {w:World} {h h':H} {t:TypeId} {n:Nat}
theorem bytes_beq (a b:ByteArray):(a==b)=true↔a=b:=by
 cases a with | mk x => ?_
 cases b with | mk y => ?_
 show (x==y)=true↔_
 simp
def Kd (d:TypeDesc):Prop:=((∃k,d=.int k)∨d=.string)∨∃fs,d=.struct fs
theorem VW {α:Type} {m:Sem α} {a:α} (e:JJ P m=some a):m.run P w=.ok a w:=by
 induction m generalizing a with
 | pure x=>simp only [JJ,Option.some.injEq] at e;subst e;rfl
 | program k ih=>exact ih P e
 | mark x k ih=>exact ih e
 | _=>cases e
theorem aO {d:TypeDesc} (hk:RX P t=some d):P.underlying t=some d∧Kd d:=by
 unfold RX at hk
 split at hk
 ·cases hk;rename_i k e;exact ⟨e,.inl (.inl ⟨k,rfl⟩)⟩
 ·cases hk;rename_i e;exact ⟨e,.inl (.inr rfl)⟩
 ·cases hk;rename_i fs e;exact ⟨e,.inr ⟨fs,rfl⟩⟩
 ·cases hk
theorem Rl {kt e:TypeId} {d:TypeDesc} (hm:Nh P t=some (kt,d,e)):P.underlying t=some (.map kt e)∧P.underlying kt=some d∧Kd d:=by
 unfold Nh at hm
 split at hm
 ·rename_i k e' hu
  rw [Option.map_eq_some_iff] at hm
  obtain ⟨d',hd,e1⟩:=hm
  cases e1
  exact ⟨hu,aO hd⟩
 ·cases hm
theorem run_checkKey {d:TypeDesc} {b:Bool} {v:Value} (hu:P.underlying t=some d) (hd:(∃k,d=.int k)∨d=.string):(Instr.checkKey b 10000 t v).run P w=.ok () w:=by
 rcases hd with ⟨k,rfl⟩ | rfl<;>(unfold Instr.checkKey;simp [run_underlying hu])
theorem VX {d:TypeDesc} {k k' x x':Value} {b:Bool} (hd:(∃k,d=.int k)∨d=.string) (hs:Instr.sameNow d k x=some b) (hk:VR θ k k') (hx:VR θ x x'):k'=k∧x'=x∧(b=true→x=k):=by
 rcases hd with ⟨j,rfl⟩ | rfl
 ·unfold Instr.sameNow at hs
  split at hs<;>first | (rename_i heq;cases heq) | skip
  ·rename_i k1 a k2 b2
   cases hk with | same _ _ => ?_
   cases hx with | same _ _ => ?_
   refine ⟨rfl,rfl,fun hb => ?_⟩
   subst hb
   split at hs
   ·rename_i e;subst e;simp at hs;subst hs;rfl
   ·cases hs
  all_goals (first | cases hs | skip)
 ·unfold Instr.sameNow at hs
  split at hs<;>first | (rename_i heq;cases heq;done) | skip
  ·rename_i a b2 
   cases hk with | same _ _ => ?_
   cases hx with | same _ _ => ?_
   refine ⟨rfl,rfl,fun hb => ?_⟩
   subst hb
   simp only [Option.some.injEq] at hs
   rw [(bytes_beq _ _).1 hs]
  all_goals (first | cases hs | skip)
theorem ER.cons {e e':MapEntry} {es es':List MapEntry} (h:ER θ (e :: es) (e' :: es')):VR θ e.key e'.key∧VR θ e.val e'.val∧e.born=e'.born∧ER θ es es':=by
 obtain ⟨h1,h2,h3⟩:=h
 simp only [List.map_cons] at h1 h2 h3
 obtain ⟨a1,a2⟩:=h1.Jm
 obtain ⟨b1,b2⟩:=h2.Jm
 simp only [List.cons.injEq] at h3
 exact ⟨a1,b1,h3.1,a2,b2,h3.2⟩
theorem ER.mk {e e':MapEntry} {es es':List MapEntry} (h1:VR θ e.key e'.key) (h2:VR θ e.val e'.val) (h3:e.born=e'.born) (h:ER θ es es'):ER θ (e :: es) (e' :: es') :=
 ⟨.cons h1 h.1,.cons h2 h.2.1,by simp only [List.map_cons,h3,h.2.2]⟩
theorem ER.inv {e:MapEntry} {es es':List MapEntry} (h:ER θ (e :: es) es'):∃e' l,es'=e' :: l:=by
 have:=h.1.len
 cases es' with
 | nil=>simp at this
 | cons e' l=>exact ⟨e',l,rfl⟩
theorem ER.Ci {es':List MapEntry} (h:ER θ [] es'):es' = []:=by
 have:=h.1.len
 cases es' with
 | nil=>rfl
 | cons e' l=>simp at this
theorem ER.len {es es':List MapEntry} (h:ER θ es es'):es.length=es'.length:=by simpa using h.1.len
theorem aP {d:TypeDesc} {k k':Value} (hd:(∃k,d=.int k)∨d=.string) (hk:VR θ k k'):∀ {es es':List MapEntry} {i:Nat} {f:Option (Nat×Value)},ER θ es es'→Instr.findNow d k es i=some f →
  (f=none→Instr.findNow d k' es' i=some none)∧(∀j v,f=some (j,v)→∃v',Instr.findNow d k' es' i=some (some (j,v'))∧VR θ v v'∧i≤j∧∃e e',es[j-i]?=some e∧es'[j-i]?=some e'∧e'.key=e.key∧e.key=k∧k'=k):=by
 intro es
 induction es with
 | nil =>
  intro es' i f her hf
  rw [her.Ci]
  rw [Instr.findNow,Option.some.injEq] at hf
  subst hf
  exact ⟨fun _=>rfl,fun j v h=>(by cases h)⟩
 | cons e es ih =>
  intro es' i f her hf
  obtain ⟨e',l,rfl⟩:=her.inv
  obtain ⟨h1,h2,h3,h4⟩:=her.cons
  rw [Instr.findNow] at hf
  split at hf
  ·rename_i hs
   cases hf
   obtain ⟨g1,g2,g3⟩:=VX hd hs hk h1
   have hs':Instr.sameNow d k' e'.key=some true:=by rw [g1,g2];exact hs
   have hst:Instr.findNow d k' (e' :: l) i=some (some (i,e'.val)):=by rw [Instr.findNow,hs']
   refine ⟨fun h=>(by cases h),fun j v h => ?_⟩
   cases h
   exact ⟨e'.val,hst,h2,Nat.le_refl _,e,e',by simp,by simp,g2,g3 rfl,g1⟩
  ·rename_i hs
   obtain ⟨g1,g2,_⟩:=VX hd hs hk h1
   have hs':Instr.sameNow d k' e'.key=some false:=by rw [g1,g2];exact hs
   have hst:Instr.findNow d k' (e' :: l) i=Instr.findNow d k' l (i+1):=by rw [Instr.findNow,hs']
   obtain ⟨q1,q2⟩:=ih h4 hf
   refine ⟨fun h=>by rw [hst];exact q1 h,fun j v h => ?_⟩
   obtain ⟨v',a1,a2,a3,x,x',a4,a5,a6,a7,a8⟩:=q2 j v h
   refine ⟨v',by rw [hst];exact a1,a2,by omega,x,x',?_,?_,a6,a7,a8⟩
   ·rw [show j-i=(j-(i+1))+1 by omega];simpa using a4
   ·rw [show j-i=(j-(i+1))+1 by omega];simpa using a5
  ·cases hf
theorem Rn {z:Value} (ha:atoms z=true):VR θ z z:=by
 have:=Ij (θ:=θ) ha
 cases z<;>first | exact this | exact .agg this .nil
theorem G7 {r:Nat} {es:List MapEntry} {c:Nat} (hr:WR P base θ h w) (hg:h.get r=some (.map es c)):∃p es',θ r=some p∧w.heap[p.b]?=some (.map es' c)∧ER θ es es'.toList∧base≤p.b:=by
 obtain ⟨p,hp,hb⟩:=hr.at_ r _ hg
 cases hb with
 | map g hv hb=>exact ⟨p,_,hp,g,hv,hb⟩
theorem Ey {r:Nat} {o:Obj} (h:w.heap[r]?=some o) (hn:∀c e f,o≠.cells c e f):(getObj r).run P w=.ok o w:=by
 simp only [getObj,Sem.run,h]
theorem aQ {r:Nat} {o o':Obj} (h:w.heap[r]?=some o) (hn:∀c e f,o≠.cells c e f):(setObj r o').run P w=.ok () { w with heap:=w.heap.setIfInBounds r o' }:=by
 simp only [setObj,Sem.run,h]
theorem aS {t:TypeId} {x x' y y':Value} {b:Bool} (n:Nat) (he:RY P t x y=some b) (hx:VR θ x x') (hy:VR θ y y'):(Op.equalIn (n+1) t x' y').run P w=.ok b w:=by
 unfold RY at he
 split at he
 ·rename_i k a k' b' hu
  split at he
  ·rename_i hk
   cases he
   have e1:=Dz hx rfl
   have e2:=Dz hy rfl
   subst e1 e2 hk
   exact run_equalIn_int w n t _ _ _ _ hu
  ·cases he
 ·rename_i a b' hu
  cases he
  have e1:=Dz hx rfl
  have e2:=Dz hy rfl
  subst e1 e2
  rw [run_equalIn_string w n t _ _ hu,beq_toListBytes]
 ·rename_i a b' hu
  cases he
  have e1:=Dz hx rfl
  have e2:=Dz hy rfl
  subst e1 e2
  exact run_equalIn_bool' w n t _ _ hu
 ·rename_i e hu
  cases he
  have e1:=Dz hx rfl
  have e2:=Dz hy rfl
  subst e1 e2
  simp [Op.equalIn,run_underlying hu]
 ·rename_i e i o j p hu
  cases hc:(Nat.beq i j&&(match size P e with | some (_+1)=>true | _=>false))
  ·rw [hc] at he;cases he
  rw [hc,cond_true] at he
  cases he
  simp only [Bool.and_eq_true] at hc
  obtain ⟨c1,c2⟩:=hc
  have c1:=Nat.eq_of_beq_eq_true c1
  subst c1
  split at c2
  ·rename_i sz hsz
   cases hx with
   | same hq _=>simp [atom] at hq
   | ptr hp _ =>
    cases hy with
    | same hq _=>simp [atom] at hq
    | ptr hp2 _ =>
     rw [hp] at hp2;cases hp2
     simp only [Op.equalIn,Sem.run_bind,run_underlying hu,Result.andThen_ok,EF hsz,sameAddr]
     by_cases e:o=p
     ·subst e;simp
     ·simp [e,EM e]
  ·cases c2
 ·cases he
theorem aT {xs ys:List Value} {xs' ys':Array Value} {n:Nat} (hx:VL θ xs xs'.toList) (hy:VL θ ys ys'.toList):∀ {fs:List Field} {b:Bool},Na P xs ys fs=some b→(Op.eqFields (n+1) xs' ys' fs).run P w=.ok b w:=by
 intro fs
 induction fs with
 | nil=>intro b h;cases h;rfl
 | cons f fs ih =>
  intro b h
  unfold Na at h
  unfold Op.eqFields
  cases hd:decide (f.name ≠ "_")
  ·rw [hd,cond_false] at h
   rw [if_neg (of_decide_eq_false hd)]
   exact ih h
  ·rw [hd,cond_true] at h
   rw [if_pos (of_decide_eq_true hd)]
   simp only [Option.bind_eq_some_iff] at h
   obtain ⟨a,ha,c,hc,r,hr,h⟩:=h
   obtain ⟨a',g1,g2⟩:=NZ (w:=w) ha hx
   obtain ⟨c',g3,g4⟩:=NZ (w:=w) hc hy
   have g5:=aS (w:=w) n hr g2 g4
   simp only [Sem.run_bind,g1,g3,g5,Result.andThen_ok]
   cases r
   ·cases h;rfl
   ·rw [cond_true] at h;simpa using ih h
theorem VY {kt:TypeId} {fs:Array Field} {k k' e e':Value} {b:Bool} (hu:P.underlying kt=some (.struct fs)) (he:RZ P kt fs k e=some b) (hk:VR θ k k') (hx:VR θ e e'):(Op.equal kt k' e').run P w=.ok b w:=by
 unfold RZ at he
 split at he
 ·rename_i xs ys
  cases hs:P.stoodInHeld kt
  ·rw [hs,cond_false] at he
   cases hk with
   | same hq _=>simp [atom] at hq
   | @agg _ xs' _ _ h1 _ =>
    cases hx with
    | same hq _=>simp [atom] at hq
    | @agg _ ys' _ _ h2 _ =>
     have hf:P.fieldsOf kt=fs:=by simp [Program.fieldsOf,hu]
     have:=run_equalIn_struct (P:=P) w 9999 kt xs' ys' (by rw [hf];exact hu) hs
     show (Op.equalIn (9999+1) kt (.agg xs') (.agg ys')).run P w=.ok b w
     rw [this,hf]
     exact aT (n:=9998) h1 h2 he
  ·rw [hs] at he;cases he
 ·cases he
theorem aU {t:TypeId} {v:Value} {b:Bool} {n:Nat} (h:Rh P t=true):(Instr.checkKey b (n+1) t v).run P w=.ok () w:=by
 unfold Rh at h
 split at h
 ·rename_i k hu;unfold Instr.checkKey;simp [run_underlying hu]
 ·rename_i hu;unfold Instr.checkKey;simp [run_underlying hu]
 ·rename_i hu;unfold Instr.checkKey;simp [run_underlying hu]
 ·rename_i e hu;unfold Instr.checkKey;simp [run_underlying hu]
 ·cases h
theorem aV {xs:List Value} {xs':Array Value} {b:Bool} {n:Nat} (hx:VL θ xs xs'.toList):∀ {fs:List Field},LP P xs fs=true →
  (forIn fs PUnit.unit fun f _=>(do
   if f.name ≠ "_" then Instr.checkKey b (n+1) f.type (←part f.type xs' f.offset)
   pure (ForInStep.yield PUnit.unit):Sem (ForInStep PUnit))).run P w=.ok PUnit.unit w:=by
 intro fs
 induction fs with
 | nil=>intro _;rfl
 | cons f fs ih =>
  intro h
  simp only [LP,List.all_cons,Bool.and_eq_true] at h
  obtain ⟨⟨h1,h2⟩,h3⟩:=h
  obtain ⟨a,ha⟩:=Option.isSome_iff_exists.1 h1
  obtain ⟨a',g1,g2⟩:=NZ (w:=w) ha hx
  have h4:=ih (by simpa [LP] using h3)
  simp only [List.forIn_cons,Sem.run_bind]
  by_cases hn:f.name ≠ "_"
  ·simp only [hn,if_true,Sem.run_bind,g1,Result.andThen_ok,aU h2,Sem.run_pure,not_false_eq_true,ne_eq]
   exact h4
  ·simp only [hn,if_false,Sem.run_pure,Result.andThen_ok]
   exact h4
theorem aW {kt:TypeId} {fs:Array Field} {xs:List Value} {xs':Array Value} {b:Bool} (hu:P.underlying kt=some (.struct fs)) (hx:VL θ xs xs'.toList) (hk:LP P xs fs.toList=true):(Instr.checkKey b 10000 kt (.agg xs')).run P w=.ok () w:=by
 have:=aV (w:=w) (b:=b) (n:=9998) hx hk
 show (Instr.checkKey b (9999+1) kt (.agg xs')).run P w=.ok () w
 unfold Instr.checkKey
 simp only [Sem.run_bind,run_underlying hu,Result.andThen_ok]
 rw [←Array.forIn_toList]
 simp only [Sem.run_bind] at this ⊢
 erw [this]
 rfl
theorem aX {kt:TypeId} {fs:Array Field} {k k':Value} (hu:P.underlying kt=some (.struct fs)) (hk:VR θ k k'):∀ {es es':List MapEntry} {i:Nat} {f:Option (Nat×Value)},ER θ es es'→Nb P kt fs k es i=some f →
  (f=none→(Instr.findAsking kt k' es' i).run P w=.ok none w)∧(∀j v,f=some (j,v)→∃v',(Instr.findAsking kt k' es' i).run P w=.ok (some (j,v')) w∧VR θ v v'∧i≤j∧∃e e',es[j-i]?=some e∧es'[j-i]?=some e'∧VR θ e.key e'.key):=by
 intro es
 induction es with
 | nil =>
  intro es' i f her hf
  rw [her.Ci]
  rw [Nb,Option.some.injEq] at hf
  subst hf
  exact ⟨fun _=>rfl,fun j v h=>(by cases h)⟩
 | cons e es ih =>
  intro es' i f her hf
  obtain ⟨e',l,rfl⟩:=her.inv
  obtain ⟨h1,h2,h3,h4⟩:=her.cons
  rw [Nb] at hf
  split at hf
  ·rename_i hs
   cases hf
   have hrun:=VY (w:=w) hu hs hk h1
   refine ⟨fun h=>(by cases h),fun j v h => ?_⟩
   cases h
   refine ⟨e'.val,?_,h2,Nat.le_refl _,e,e',by simp,by simp,h1⟩
   simp [Instr.findAsking,hrun]
  ·rename_i hs
   have hrun:=VY (w:=w) hu hs hk h1
   have hst:(Instr.findAsking kt k' (e' :: l) i).run P w=(Instr.findAsking kt k' l (i+1)).run P w:=by simp [Instr.findAsking,hrun]
   obtain ⟨q1,q2⟩:=ih h4 hf
   refine ⟨fun h=>by rw [hst];exact q1 h,fun j v h => ?_⟩
   obtain ⟨v',a1,a2,a3,x,x',a4,a5,a6⟩:=q2 j v h
   refine ⟨v',by rw [hst];exact a1,a2,by omega,x,x',?_,?_,a6⟩
   ·rw [show j-i=(j-(i+1))+1 by omega];simpa using a4
   ·rw [show j-i=(j-(i+1))+1 by omega];simpa using a5
  ·cases hf
theorem Rq {d:TypeDesc} {kt:TypeId} {k k':Value} (hku:P.underlying kt=some d) (hd:Kd d) (hk:VR θ k k') {es:List MapEntry} {es':Array MapEntry} {f:Option (Nat×Value)} (her:ER θ es es'.toList) (hf:Nc P kt d k es=some f) :
  (∀b,(Instr.checkKey b 10000 kt k').run P w=.ok () w) ∧
  (f=none→(Instr.findKey kt k' es'.toList).run P w=.ok none w)∧(∀j v,f=some (j,v)→∃v',(Instr.findKey kt k' es'.toList).run P w=.ok (some (j,v')) w∧VR θ v v'∧∃e e',es[j]?=some e∧es'.toList[j]?=some e'∧VR θ e.key e'.key):=by
 rcases hd with hd | ⟨fs,rfl⟩
 ·have hfk:∀f',Instr.findNow d k' es'.toList 0=some f'→(Instr.findKey kt k' es'.toList).run P w=.ok f' w:=fun f' hf'=>by
   simp [Instr.findKey,run_underlying hku,hf']
  have hf':Instr.findNow d k es 0=some f:=by rcases hd with ⟨j,rfl⟩ | rfl<;>exact hf
  obtain ⟨q1,q2⟩:=aP hd hk her hf'
  refine ⟨fun b=>run_checkKey hku hd,fun h=>hfk _ (q1 h),fun j v h => ?_⟩
  obtain ⟨v',a1,a2,a3,e,e',a4,a5,a6,a7,a8⟩:=q2 j v h
  have a9:VR θ e.key e'.key:=by
   obtain ⟨y',g1,g2⟩:=her.1.get (i:=j) (v:=e.key) (by rw [List.getElem?_map,show es[j]?=some e by simpa using a4];rfl)
   rw [List.getElem?_map,show es'.toList[j]?=some e' by simpa using a5] at g1
   cases g1
   exact g2
  exact ⟨v',hfk _ a1,a2,e,e',by simpa using a4,by simpa using a5,a9⟩
 ·simp only [Nc] at hf
  split at hf
  ·rename_i xs
   cases hc:LP P xs.toList fs.toList
   ·rw [hc] at hf;cases hf
   rw [hc,cond_true] at hf
   obtain ⟨q1,q2⟩:=aX (w:=w) hku hk her hf
   have hst:(Instr.findKey kt k' es'.toList).run P w=(Instr.findAsking kt k' es'.toList).run P w:=by
    simp only [Instr.findKey,Sem.run_bind,run_underlying hku,Result.andThen_ok]
    generalize es'.toList=l
    cases l with
    | nil=>rfl
    | cons x l=>rfl
   refine ⟨fun b => ?_,fun h=>by rw [hst];exact q1 h,fun j v h => ?_⟩
   ·cases hk with
    | same hq _=>simp [atom] at hq
    | agg h1 _=>exact aW hku h1 hc
   ·obtain ⟨v',a1,a2,a3,e,e',a4,a5,a6⟩:=q2 j v h
    exact ⟨v',by rw [hst];exact a1,a2,e,e',by simpa using a4,by simpa using a5,a6⟩
  ·cases hf
theorem Dp {x x':Value} (h:VR θ x x') (ha:atom x=true):x'=x:=by
 cases h<;>first | rfl | (simp [atom,ae.emp] at ha;done)
theorem VZ:∀(n:Nat) {x x' y y':Value},VR θ x x'→VR θ y y'→Instr.sameBits n x y=true→Instr.sameBits n x' y'=true:=by
 intro n
 induction n with
 | zero =>
  intro x x' y y' hx hy h
  unfold Instr.sameBits at h
  split at h
  case _ =>
   rw [Dp hx rfl,Dp hy rfl];simpa [Instr.sameBits] using h
  case _=>rw [Dp hx rfl,Dp hy rfl];simpa [Instr.sameBits] using h
  case _=>rw [Dp hx rfl,Dp hy rfl];simpa [Instr.sameBits] using h
  case _=>rw [Dp hx rfl,Dp hy rfl];simpa [Instr.sameBits] using h
  case _=>rw [Dp hx rfl,Dp hy rfl];simpa [Instr.sameBits] using h
  case _ a b =>
   have h:a=b:=by simpa using h
   subst h
   have:∀u v,VR θ (.pointer a) u→VR θ (.pointer a) v→u=v:=fun u v h1 h2=>by
    cases h1 with
    | same ha _=>exact (Dp h2 ha).symm
    | ptr hp _=>cases h2 with
     | same hq _=>simp [atom] at hq
     | ptr hq _=>rw [hp] at hq;cases hq;rfl
   have h1:=this x' y' hx hy
   subst h1
   cases hx<;>simp [Instr.sameBits]
  case _ a b =>
   cases hx with | same _ _ => ?_
   cases hy with | same _ _ => ?_
   simpa [Instr.sameBits] using h
  case _=>rw [Dp hx rfl,Dp hy rfl];simp [Instr.sameBits]
  all_goals (first | cases h | skip)
  all_goals (rename_i e;cases e)
 | succ n ih =>
  intro x x' y y' hx hy h
  unfold Instr.sameBits at h
  split at h
  case _=>rw [Dp hx rfl,Dp hy rfl];simpa [Instr.sameBits] using h
  case _=>rw [Dp hx rfl,Dp hy rfl];simpa [Instr.sameBits] using h
  case _=>rw [Dp hx rfl,Dp hy rfl];simpa [Instr.sameBits] using h
  case _=>rw [Dp hx rfl,Dp hy rfl];simpa [Instr.sameBits] using h
  case _=>rw [Dp hx rfl,Dp hy rfl];simpa [Instr.sameBits] using h
  case _ a b =>
   have h:a=b:=by simpa using h
   subst h
   have:∀u v,VR θ (.pointer a) u→VR θ (.pointer a) v→u=v:=fun u v h1 h2=>by
    cases h1 with
    | same ha _=>exact (Dp h2 ha).symm
    | ptr hp _=>cases h2 with
     | same hq _=>simp [atom] at hq
     | ptr hq _=>rw [hp] at hq;cases hq;rfl
   have h1:=this x' y' hx hy
   subst h1
   cases hx<;>simp [Instr.sameBits]
  case _ a b =>
   cases hx with | same _ _ => ?_
   cases hy with | same _ _ => ?_
   simpa [Instr.sameBits] using h
  case _=>rw [Dp hx rfl,Dp hy rfl];simp [Instr.sameBits]
  case _ n' t v u w' e =>
   cases e
   cases hx with
   | same ha _=>simp [atom] at ha
   | iface h1 _ =>
    cases hy with
    | same hb _=>simp [atom] at hb
    | iface h2 _ =>
     simp only [Instr.sameBits,Bool.and_eq_true] at h ⊢
     exact ⟨h.1,ih h1 h2 h.2⟩
  case _ n' a b e =>
   cases e
   cases hx with
   | same ha _=>simp [atom] at ha
   | @agg a a' _ _ h1 _ =>
    cases hy with
    | same hb _=>simp [atom] at hb
    | @agg b b' _ _ h2 _ =>
     simp only [Instr.sameBits,Bool.and_eq_true,beq_iff_eq] at h ⊢
     refine ⟨by have e1:=h1.len;have e2:=h2.len;simp at e1 e2;omega,?_⟩
     have h3:=h.2
     clear h
     generalize a.toList=l1 at h1 h3
     generalize a'.toList=l1' at h1
     generalize b.toList=l2 at h2 h3
     generalize b'.toList=l2' at h2
     induction l1 generalizing l1' l2 l2' with
     | nil=>rw [h1.Ci];rfl
     | cons v l1 ih1 =>
      obtain ⟨v',l1',rfl,k1,k2⟩:=h1.DY
      cases l2 with
      | nil=>rw [h2.Ci];simp
      | cons u l2 =>
       obtain ⟨u',l2',rfl,k3,k4⟩:=h2.DY
       simp only [List.zip_cons_cons,List.all_cons,Bool.and_eq_true] at h3 ⊢
       exact ⟨ih k1 k3 h3.1,ih1 _ k2 _ h3.2 _ k4⟩
  all_goals (cases h)
theorem aY {m m' k k' v:Value} {ok:Bool} (r:WR P base θ h w) (hl:Ri P t m k ok h=some v) (hm:VR θ m m') (hk:VR θ k k'):∃v',(Instr.lookup t m' k' ok).run P w=.ok v' w∧VR θ v v':=by
 unfold Ri at hl
 simp only [Option.bind_eq_some_iff,Option.map_eq_some_iff] at hl
 obtain ⟨⟨kt,d,e⟩,hmd,es,hes,f,hf,⟨x,b⟩,hx,hv⟩:=hl
 obtain ⟨hu,hku,hd⟩:=Rl hmd
 have core:∀es':Array MapEntry,ER θ es es'.toList→∃x',VR θ x x'∧((do
   Instr.checkKey es'.isEmpty 10000 kt k'
   let (v,ok) ←match ←Instr.findKey kt k' es'.toList with
    | some (_,v)=>pure (v,true)
    | none=>pure (←zeroValue e,false)
   pure (v,ok):Sem (Value×Bool)).run P w=.ok (x',b) w):=by
  intro es' he2
  obtain ⟨q0,q1,q2⟩:=Rq (w:=w) hku hd hk he2 hf
  cases f with
  | none =>
   simp only [Option.bind_eq_some_iff] at hx
   obtain ⟨z,hz,hx⟩:=hx
   cases ha:atoms z
   ·rw [ha] at hx;cases hx
   rw [ha,cond_true] at hx
   cases hx
   exact ⟨x,Rn ha,by simp [q0,q1 rfl,Jr hz]⟩
  | some a =>
   obtain ⟨j,v0⟩:=a
   cases hx
   obtain ⟨v',a1,a2,_⟩:=q2 j _ rfl
   exact ⟨v',a2,by simp [q0,a1]⟩
 have fin:∀x',VR θ x x'→VR θ v (if ok=true then .tuple #[x',.bool b] else x'):=fun x' hx'=>by
  subst hv
  cases ok
  ·exact hx'
  ·exact .tup (.cons hx' (.same rfl .nil)) .nil
 split at hes
 ·cases hes
  cases hm with | same _ _ => ?_
  obtain ⟨x',g1,g2⟩:=core #[] ⟨.nil,.nil,rfl⟩
  refine ⟨_,?_,fin x' g1⟩
  simp only [Sem.run_bind] at g2
  simp only [Instr.lookup,Sem.run_bind,run_underlying hu,Result.andThen_ok,Sem.run_pure]
  revert g2
  generalize (Instr.checkKey (#[]:Array MapEntry).isEmpty 10000 kt k').run P w=r1
  intro g2
  cases r1 with
  | halt _ _=>simp at g2
  | ok a w1 =>
   simp only [Result.andThen_ok] at g2 ⊢
   generalize (Instr.findKey kt k' (#[]:Array MapEntry).toList).run P w1=r2 at g2 ⊢
   cases r2 with
   | halt _ _=>simp at g2
   | ok a w1 =>
    cases a with
    | none =>
     simp only [Result.andThen_ok,Sem.run_bind] at g2 ⊢
     generalize (zeroValue e).run P w1=r3 at g2 ⊢
     cases r3 with
     | halt _ _=>simp at g2
     | ok a w1=>simp at g2 ⊢; obtain ⟨⟨rfl,rfl⟩,rfl⟩:=g2;exact ⟨rfl,rfl⟩
    | some a=>simp at g2 ⊢; obtain ⟨⟨rfl,rfl⟩,rfl⟩:=g2;exact ⟨rfl,rfl⟩
 ·split at hes
  ·rename_i r0 es0 c hg
   cases hes
   obtain ⟨p,es',g1,g2,g3,g4⟩:=G7 r hg
   cases hm with
   | same hq _=>simp [atom] at hq
   | map hp _ =>
    rw [hp] at g1;cases g1
    obtain ⟨x',q1,q2⟩:=core es' g3
    refine ⟨_,?_,fin x' q1⟩
    simp only [Sem.run_bind] at q2
    simp only [Instr.lookup,Sem.run_bind,run_underlying hu,Result.andThen_ok,Sem.run_pure,Ey g2 (by simp)]
    revert q2
    generalize (Instr.checkKey es'.isEmpty 10000 kt k').run P w=r1
    intro q2
    cases r1 with
    | halt _ _=>simp at q2
    | ok a w1 =>
     simp only [Result.andThen_ok] at q2 ⊢
     generalize (Instr.findKey kt k' es'.toList).run P w1=r2 at q2 ⊢
     cases r2 with
     | halt _ _=>simp at q2
     | ok a w1 =>
      cases a with
      | none =>
       simp only [Result.andThen_ok,Sem.run_bind] at q2 ⊢
       generalize (zeroValue e).run P w1=r3 at q2 ⊢
       cases r3 with
       | halt _ _=>simp at q2
       | ok a w1=>simp at q2 ⊢; obtain ⟨⟨rfl,rfl⟩,rfl⟩:=q2;exact ⟨rfl,rfl⟩
      | some a=>simp at q2 ⊢; obtain ⟨⟨rfl,rfl⟩,rfl⟩:=q2;exact ⟨rfl,rfl⟩
  ·cases hes
 ·cases hes
end
end Go.Proofs.YtihlneenajlhoaaGreatDoor.ae
/-
 A run of one goroutine over known values: maps written, gone over. Condition: the store and the world belong together (WR).
-/
set_option linter.unusedVariables false
set_option linter.unusedSimpArgs false
namespace Go.Proofs.YtihlneenajlhoaaGreatDoor.ae
open Go
section
variable {P:Program} {base:Nat} {θ:Th} {w:World} {h h':H} {t:TypeId} {n:Nat}
theorem aZ {a:Array Obj} {k:Nat} {o:Obj} (hk:k<a.size):(a.setIfInBounds k o)[k]?=some o:=by simp [hk]
theorem Va {a:Array Obj} {k j:Nat} {o:Obj} (hk:j≠k):(a.setIfInBounds k o)[j]?=a[j]?:=by
 rw [Array.getElem?_setIfInBounds_ne (Ne.symm hk)]
theorem Jt {i:Nat} {x b:AB} {o o':Obj} {p:Pl} (r:WR P base θ h w) (hp:hput h i b=some h') (hi:h.get i=some x) (hx:live x=true) (ht:θ i=some p) (ho:w.heap[p.b]?=some o) (hn:∀c e f,o≠.cells c e f) (hb:base≤p.b)
  (hbr:∀w':World,w'.heap[p.b]?=some o'→BR P θ base p w' b) :
  ∃w',(setObj p.b o').run P w=.ok () w'∧WR P base θ h' w'∧Keep base w w':=by
 have hlt:=Ii ho
 refine ⟨{ w with heap:=w.heap.setIfInBounds p.b o' },aQ ho hn,r.set hp hi ht hx (hbr _ (aZ hlt)) fun k hk=>Va hk,⟨rfl,rfl,rfl,by simp,fun k hk=>Va (by omega)⟩⟩
theorem PQ {b:AB} {o:Obj} {f f':Nat→Value} {v:Value} {n':Nat} (r:WR P base θ h w) (hb:base≤w.heap.size) (hn:Js b f h n=some (v,h',n')) (hbr:∀(p:Pl) θ' w',Ext θ θ'→base≤p.b→w'.heap[p.b]?=some o→BR P θ' base p w' b)
  (hf:∀θ' p,θ' n=some p→VR θ' (f n) (f' p.b)):CE P base θ w (do pure (f' (←newObj o))) v h':=by
 unfold Js at hn
 rw [Option.map_eq_some_iff] at hn
 obtain ⟨h1,hf1,e1⟩:=hn
 cases e1
 obtain ⟨θ',g1,g2,g3,g4⟩:=NW (o:=o) (p:=⟨w.heap.size,0,0⟩) r hb hf1 rfl (fun θ' w' hx hw=>hbr _ θ' w' hx hb hw)
 exact ⟨f' w.heap.size,θ',_,by simp [newObj,Sem.run],g2,hf _ _ g1,g3,g4⟩
theorem bC {rv rv':Option Value} {v:Value} {n':Nat} (r:WR P base θ h w) (hb:base≤w.heap.size) (hm:∃k e,P.underlying t=some (.map k e)) (hr:∀x,rv'=some x→∃k i,x=.int k i) (hn:Js (.map [] 0) Nj h n=some (v,h',n')):CE P base θ w (Instr.makeMap t rv') v h':=by
 obtain ⟨v',θ',w',h1,h2⟩:=PQ (o:=.map #[] 0) (f':=Nj) r hb hn (fun p θ' w' hx hb hw=>.map hw ⟨.nil,.nil,rfl⟩ hb) (fun θ' p hp=>.map hp .nil)
 refine ⟨v',θ',w',?_,h2⟩
 rw [←h1]
 obtain ⟨k,e,hu⟩:=hm
 cases rv' with
 | none=>simp [Instr.makeMap,Nj]
 | some x =>
  obtain ⟨k,i,rfl⟩:=hr x rfl
  simp [Instr.makeMap,Nj,run_underlying hu,asInt,asIntOf]
theorem ER.push {es es':List MapEntry} {e e':MapEntry} (h:ER θ es es') (h1:VR θ e.key e'.key) (h2:VR θ e.val e'.val) (h3:e.born=e'.born):ER θ (es++[e]) (es'++[e']):=by
 obtain ⟨a,b,c⟩:=h
 refine ⟨?_,?_,?_⟩
 ·simpa using a.append (.cons h1 .nil)
 ·simpa using b.append (.cons h2 .nil)
 ·simp [c,h3]
theorem ER.modify {f f':MapEntry→MapEntry} (hf:∀e e',VR θ e.key e'.key→VR θ e.val e'.val→e.born=e'.born→VR θ (f e).key (f' e').key∧VR θ (f e).val (f' e').val∧(f e).born=(f' e').born):∀ {es es':List MapEntry} {i:Nat},ER θ es es'→ER θ (es.modify i f) (es'.modify i f'):=by
 intro es
 induction es with
 | nil=>intro es' i h;have e:=h.Ci;subst e;simpa using h
 | cons e es ih =>
  intro es' i h
  obtain ⟨e',l,rfl⟩:=h.inv
  obtain ⟨h1,h2,h3,h4⟩:=h.cons
  cases i with
  | zero =>
   obtain ⟨g1,g2,g3⟩:=hf e e' h1 h2 h3
   simpa using ER.mk g1 g2 g3 h4
  | succ i=>simpa using ER.mk h1 h2 h3 (ih h4)
theorem Vb {m m' k k' x x':Value} (r:WR P base θ h w) (hl:Rj P t m k x h=some h') (hm:VR θ m m') (hk:VR θ k k') (hx:VR θ x x'):CG P base θ w (Instr.mapUpdate t m' k' x') h':=by
 unfold Rj at hl
 rw [Option.bind_eq_some_iff] at hl
 obtain ⟨⟨kt,d,e⟩,hmd,hl⟩:=hl
 obtain ⟨hu,hku,hd⟩:=Rl hmd
 dsimp only at hl
 split at hl
 ·rename_i r0
  split at hl
  ·rename_i es c hg
   rw [cond_true,Option.bind_eq_some_iff] at hl
   obtain ⟨f,hf,hl⟩:=hl
   obtain ⟨p,es',g1,g2,g3,g4⟩:=G7 r hg
   cases hm with
   | same hq _=>simp [atom] at hq
   | map hp _ =>
    rw [hp] at g1;cases g1
    obtain ⟨q0,q1,q2⟩:=Rq (w:=w) hku hd hk g3 hf
    split at hl
    ·rename_i i v0
     obtain ⟨v',a1,a2,y,y',a4,a5,a6⟩:=q2 i v0 rfl
     rw [a4] at hl
     cases hsb:Instr.sameBits 10000 y.key k
     ·simp only [hsb,cond_false] at hl;cases hl
     simp only [hsb,cond_true] at hl
     have Rt:Instr.sameBits 10000 y'.key k'=true:=VZ 10000 a6 hk hsb
     have a5':es'[i]?=some y':=by simpa using a5
     obtain ⟨w',s1,s2,s3⟩:=Jt (o':=.map (es'.modify i fun e=>{ e with key:=k',val:=x' }) c) r hl hg rfl hp g2 (by simp) g4 (fun w' hw'=>by
      refine .map hw' ?_ g4
      rw [Array.toList_modify]
      exact ER.modify (f:=fun e=>{ e with key:=k,val:=x }) (f':=fun e=>{ e with key:=k',val:=x' }) (fun e e' _ _ hb=>⟨hk,hx,hb⟩) g3)
     refine ⟨θ,w',?_,Ext.refl θ,s2,s3⟩
     simp only [Instr.mapUpdate,Sem.run_bind,run_underlying hu,Result.andThen_ok,Ey g2 (by simp),q0,a1,a5',Option.map_some,Option.getD_some,Instr.keyThatStays,Rt,if_true,Sem.run_pure]
     exact s1
    ·obtain ⟨w',s1,s2,s3⟩:=Jt (o':=.map (es'.push { key:=k',val:=x',born:=c }) (c+1)) r hl hg rfl hp g2 (by simp) g4 (fun w' hw'=>by
      refine .map hw' ?_ g4
      rw [Array.toList_push]
      exact g3.push hk hx rfl)
     refine ⟨θ,w',?_,Ext.refl θ,s2,s3⟩
     simp only [Instr.mapUpdate,Sem.run_bind,run_underlying hu,Result.andThen_ok,Ey g2 (by simp),q0,q1 rfl]
     exact s1
  ·cases hl
 ·cases hl
def Ru (P:Program) (t:TypeId) (m k:Value) (h:H):Option (Value×H):=(Nh P t).bind fun (kt,d,e)=>match m with
 | .map (some r)=>(match h.get r with
  | some (.map es c)=>bif true then (Nc P kt d k es).bind fun f=>(match f with
   | some (i,v)=>(match es[i]? with
    | some y=>bif Instr.sameBits 10000 y.key k then (hput h r (.map (es.modify i fun e=>{ e with key:=k }) c)).map fun h=>(.tuple #[v,goInt y.born],h) else none
    | none=>none)
   | none=>(zero P e).bind fun z=>bif atoms z then (hput h r (.map (es++[{ key:=k,val:=z,born:=c }]) (c+1))).map fun h=>(.tuple #[z,goInt c],h) else none) else none
  | _=>none)
 | _=>none
def Rx (m s x:Value) (h:H):Option H:=match m,s with
 | .map (some r),.int _ b=>(match h.get r with
  | some (.map es c)=>(match es.findIdx? (fun e=>(e.born:Int)==b) with
   | some i=>hput h r (.map (es.modify i fun e=>{ e with val:=x }) c)
   | none=>none)
  | _=>none)
 | _,_=>none
theorem bD {m m' k k' v:Value} (r:WR P base θ h w) (hl:Ru P t m k h=some (v,h')) (hm:VR θ m m') (hk:VR θ k k'):CE P base θ w (Instr.mapEntry t m' k') v h':=by
 unfold Ru at hl
 rw [Option.bind_eq_some_iff] at hl
 obtain ⟨⟨kt,d,e⟩,hmd,hl⟩:=hl
 obtain ⟨hu,hku,hd⟩:=Rl hmd
 dsimp only at hl
 split at hl
 ·rename_i r0
  split at hl
  ·rename_i es c hg
   rw [cond_true,Option.bind_eq_some_iff] at hl
   obtain ⟨f,hf,hl⟩:=hl
   obtain ⟨p,es',g1,g2,g3,g4⟩:=G7 r hg
   cases hm with
   | same hq _=>simp [atom] at hq
   | map hp _ =>
    rw [hp] at g1;cases g1
    obtain ⟨q0,q1,q2⟩:=Rq (w:=w) hku hd hk g3 hf
    split at hl
    ·rename_i i v0
     obtain ⟨v',a1,a2,y,y',a4,a5,a6⟩:=q2 i v0 rfl
     rw [a4] at hl
     dsimp only at hl
     cases hsb:Instr.sameBits 10000 y.key k
     ·simp only [hsb,cond_false] at hl;cases hl
     simp only [hsb,cond_true,Option.map_eq_some_iff] at hl
     obtain ⟨h1,hput,e1⟩:=hl
     cases e1
     have Rt:Instr.sameBits 10000 y'.key k'=true:=VZ 10000 a6 hk hsb
     have a5':es'[i]?=some y':=by simpa using a5
     have hborn:y'.born=y.born:=by
      have h3:=congrArg (fun l=>l[i]?) g3.2.2
      simp only [List.getElem?_map,a4,a5,Option.map_some,Option.some.injEq] at h3
      exact h3.symm
     obtain ⟨w',s1,s2,s3⟩:=Jt (o':=.map (es'.modify i fun e=>{ e with key:=k' }) c) r hput hg rfl hp g2 (by simp) g4 (fun w' hw'=>by
      refine .map hw' ?_ g4
      rw [Array.toList_modify]
      exact ER.modify (f:=fun e=>{ e with key:=k }) (f':=fun e=>{ e with key:=k' }) (fun e e' _ hb hc=>⟨hk,hb,hc⟩) g3)
     refine ⟨.tuple #[v',goInt y.born],θ,w',?_,Ext.refl θ,.tup (.cons a2 (.same rfl .nil)) .nil,s2,s3⟩
     simp only [Instr.mapEntry,Sem.run_bind,run_underlying hu,Result.andThen_ok,Ey g2 (by simp),q0,a1,a5',Option.map_some,Option.getD_some,Instr.keyThatStays,Rt,if_true,Sem.run_pure,hborn]
     rw [s1]
     rfl
    ·rw [Option.bind_eq_some_iff] at hl
     obtain ⟨z,hz,hl⟩:=hl
     cases ha:atoms z
     ·rw [ha] at hl;cases hl
     rw [ha,cond_true,Option.map_eq_some_iff] at hl
     obtain ⟨h1,hput,e1⟩:=hl
     cases e1
     obtain ⟨w',s1,s2,s3⟩:=Jt (o':=.map (es'.push { key:=k',val:=z,born:=c }) (c+1)) r hput hg rfl hp g2 (by simp) g4 (fun w' hw'=>by
      refine .map hw' ?_ g4
      rw [Array.toList_push]
      exact g3.push hk (Rn ha) rfl)
     refine ⟨.tuple #[z,goInt c],θ,w',?_,Ext.refl θ,.tup (.cons (Rn ha) (.same rfl .nil)) .nil,s2,s3⟩
     simp only [Instr.mapEntry,Sem.run_bind,run_underlying hu,Result.andThen_ok,Ey g2 (by simp),q0,q1 rfl,Jr hz]
     rw [s1]
     rfl
  ·cases hl
 ·cases hl
theorem bF {m m' s s' x x':Value} (r:WR P base θ h w) (hl:Rx m s x h=some h') (hm:VR θ m m') (hs:VR θ s s') (hx:VR θ x x'):CG P base θ w (Instr.entryStore t m' s' x') h':=by
 unfold Rx at hl
 split at hl
 ·rename_i r0 k b
  split at hl
  ·rename_i es c hg
   split at hl
   ·rename_i i hi
    obtain ⟨p,es',g1,g2,g3,g4⟩:=G7 r hg
    have:=Dz hs rfl
    subst this
    cases hm with
    | same hq _=>simp [atom] at hq
    | map hp _ =>
     rw [hp] at g1;cases g1
     have hi':es'.findIdx? (fun e=>(e.born:Int)==b)=some i:=by
      have e1:∀l:List MapEntry,l.findIdx? (fun e=>(e.born:Int)==b)=(l.map (fun e:MapEntry=>e.born)).findIdx? (fun n:Nat=>(n:Int)==b):=fun l=>by
       rw [List.findIdx?_map];rfl
      have e2:es'.findIdx? (fun e=>(e.born:Int)==b)=es'.toList.findIdx? (fun e=>(e.born:Int)==b):=by
       rcases es' with ⟨l⟩
       simp
      rw [e2,e1,←g3.2.2,←e1]
      exact hi
     obtain ⟨w',s1,s2,s3⟩:=Jt (o':=.map (es'.modify i fun e=>{ e with val:=x' }) c) r hl hg rfl hp g2 (by simp) g4 (fun w' hw'=>by
      refine .map hw' ?_ g4
      rw [Array.toList_modify]
      exact ER.modify (f:=fun e=>{ e with val:=x }) (f':=fun e=>{ e with val:=x' }) (fun e e' ha _ hc=>⟨ha,hx,hc⟩) g3)
     refine ⟨θ,w',?_,Ext.refl θ,s2,s3⟩
     simp only [Instr.entryStore,Sem.run_bind,Ey g2 (by simp),Result.andThen_ok,asInt,asIntOf,Sem.run_pure,hi']
     exact s1
   ·cases hl
  ·cases hl
 ·cases hl
theorem bG {x x' v:Value} {n':Nat} (r:WR P base θ h w) (hb:base≤w.heap.size) (hn:PO P t x h n=some (v,h',n')) (hx:VR θ x x'):CE P base θ w (Instr.range t x') v h':=by
 unfold PO at hn
 split at hn
 ·rename_i b hu
  have e0:=Dz hx rfl
  subst e0
  obtain ⟨v',θ',w',h1,h2⟩:=PQ (o:=.stringIter b 0) (f':=ptrTo) r hb hn (fun p θ' w' hx hb hw=>.Eh hw hb) (fun θ' p hp=>.ptr hp .nil)
  refine ⟨v',θ',w',?_,h2⟩
  rw [←h1]
  simp [Instr.range,run_underlying hu,ptrTo]
 ·rename_i k e hu
  cases hx with | same _ _ => ?_
  obtain ⟨v',θ',w',h1,h2⟩:=PQ (o:=.mapIter none 0 #[] 0) (f':=ptrTo) r hb hn (fun p θ' w' hx hb hw=>.JI hw rfl hb) (fun θ' p hp=>.ptr hp .nil)
  refine ⟨v',θ',w',?_,h2⟩
  rw [←h1]
  simp [Instr.range,run_underlying hu,ptrTo]
 ·rename_i k e m hu
  split at hn
  ·rename_i es c hg
   obtain ⟨p,es',g1,g2,g3,g4⟩:=G7 r hg
   cases hx with
   | same hq _=>simp [atom] at hq
   | map hp _ =>
    rw [hp] at g1;cases g1
    obtain ⟨v',θ',w',h1,h2⟩:=PQ (o:=.mapIter (some p.b) c #[] c) (f':=ptrTo) r hb hn (fun p θ' w' hx hb hw=>.iter hw (hx _ _ hp) rfl hb) (fun θ' p hp=>.ptr hp .nil)
    refine ⟨v',θ',w',?_,h2⟩
    rw [←h1]
    simp [Instr.range,run_underlying hu,ptrTo,Ey g2]
  ·cases hn
 ·cases hn
theorem PR {α:Type} {a:Array α} {x:α} (h:a.toList = [x]):a=#[x]:=by
 apply Array.toList_inj.1;simpa using h
theorem toList_nil {α:Type} {a:Array α} (h:a.toList = []):a=#[]:=by
 apply Array.toList_inj.1;simpa using h
theorem bH {it it' v:Value} {isS:Bool} {ty:TypeId} (r:WR P base θ h w) (hn:PP it isS h=some (v,h')) (hi:VR θ it it'):CE P base θ w (Instr.next it' isS ty) v h':=by
 unfold PP at hn
 split at hn
 ·rename_i i
  cases hi with
  | same hq _=>simp [atom] at hq
  | ptr hp _ =>
   rename_i p
   split at hn
   ·rename_i b pos hg
    obtain ⟨q,hq,hb⟩:=r.at_ _ _ hg
    rw [hp] at hq;cases hq
    cases hb with
    | Eh g hbase =>
     cases hlt:Nat.blt pos b.size
     ·rw [hlt] at hn;cases hn
      have:¬pos<b.size:=fun h=>by rw [show Nat.blt pos b.size=true from Nat.ble_eq_true_of_le h] at hlt;cases hlt
      exact CE.same r (by simp [Instr.next,Ey g,this]) (Gn (by rfl))
     ·rw [hlt,cond_true,Option.map_eq_some_iff] at hn
      obtain ⟨h1,hput,e1⟩:=hn
      cases e1
      have hlt:pos<b.size:=Nat.le_of_ble_eq_true hlt
      obtain ⟨w',s1,s2,s3⟩:=Jt (o':=.stringIter b (pos+(Utf8.decode b pos).2)) r hput hg rfl hp g (by simp) hbase (fun w' hw'=>.Eh hw' hbase)
      refine ⟨_,θ,w',?_,Ext.refl θ,.tup (.cons (.same rfl .nil) (.cons (.same rfl .nil) (.cons (.same rfl .nil) .nil))) .nil,s2,s3⟩
      simp [Instr.next,Ey g,hlt,s1]
   ·rename_i hg
    cases hn
    obtain ⟨q,hq,hb⟩:=r.at_ _ _ hg
    rw [hp] at hq;cases hq
    cases hb with
    | JI g hs hb=>exact CE.same r (by simp [Instr.next,Ey g]) (Gn (by rfl))
   ·rename_i m since seen last hg
    obtain ⟨q,hq,hb⟩:=r.at_ _ _ hg
    rw [hp] at hq;cases hq
    cases hb with
    | iter g hm hs hbase =>
     rename_i qm seen'
     split at hn
     ·rename_i hgm
      cases hn
      obtain ⟨p2,es',g1,g2,g3,g4⟩:=G7 r hgm
      rw [hm] at g1;cases g1
      have:=toList_nil g3.Ci
      subst this
      exact CE.same r (by simp [Instr.next,Ey g,Ey g2,choose,Sem.run,Question.forced]) (Gn (by rfl))
     ·rename_i e clock hgm
      obtain ⟨p2,es',g1,g2,g3,g4⟩:=G7 r hgm
      rw [hm] at g1;cases g1
      obtain ⟨e',l,hl⟩:=g3.inv
      have hl2:l = []:=by have:=g3.len;rw [hl] at this;simpa using this
      subst hl2
      have:=PR hl
      subst this
      obtain ⟨k1,k2,k3,_⟩:=g3.cons
      split at hn
      ·cases hlt:Nat.blt e.born since
       ·rw [hlt] at hn;cases hn
       rw [hlt,cond_true,Option.map_eq_some_iff] at hn
       obtain ⟨h1,hput,e1⟩:=hn
       cases e1
       have hlt:e.born<since:=Nat.le_of_ble_eq_true hlt
       have hse:=toList_nil hs
       subst hse
       obtain ⟨w',s1,s2,s3⟩:=Jt (o':=.mapIter (some qm.b) since #[e'.born] clock) r hput hg rfl hp g (by simp) hbase (fun w' hw'=>.iter hw' hm (by simp [k3]) hbase)
       rw [k3] at hlt
       refine ⟨.tuple #[.bool true,e'.key,e'.val],θ,w',?_,Ext.refl θ,.tup (.cons (.same rfl .nil) (.cons k1 (.cons k2 .nil))) .nil,s2,s3⟩
       simp [Instr.next,Ey g,Ey g2,choose,Sem.run,Question.forced,hlt,show ¬(since≤e'.born) by omega,s1]
      ·rename_i b
       cases hc:(Nat.beq b e.born&&Nat.blt e.born last)
       ·rw [hc] at hn;cases hn
       rw [hc,cond_true] at hn
       cases hn
       simp only [Bool.and_eq_true] at hc
       have hc1:=Nat.eq_of_beq_eq_true hc.1
       have hc2:e.born<last:=Nat.le_of_ble_eq_true hc.2
       have hse:=PR hs
       subst hse
       subst hc1
       rw [k3] at hc2
       exact CE.same r (by simp [Instr.next,Ey g,Ey g2,choose,Sem.run,Question.forced,k3,show ¬(last≤e'.born) by omega]) (Gn (by rfl))
      ·cases hn
     ·cases hn
   ·cases hn
 ·cases hn
theorem bI {it it' v:Value} (r:WR P base θ h w) (hn:Rk it h=some v) (hi:VR θ it it'):∃v',(Instr.entry it').run P w=.ok v' w∧VR θ v v':=by
 unfold Rk at hn
 split at hn
 ·rename_i i
  cases hi with
  | same hq _=>simp [atom] at hq
  | ptr hp _ =>
   rename_i p
   split at hn
   ·rename_i m since b stepped hg
    obtain ⟨q,hq,hb⟩:=r.at_ _ _ hg
    rw [hp] at hq;cases hq
    cases hb with
    | iter g hm hs hbase =>
     rename_i qm seen'
     split at hn
     ·rename_i e clock hgm
      cases hc:(Nat.beq clock stepped&&Nat.beq b e.born)
      ·rw [hc] at hn;cases hn
      rw [hc,cond_true] at hn
      cases hn
      simp only [Bool.and_eq_true] at hc
      have hc1:=Nat.eq_of_beq_eq_true hc.1
      have hc2:=Nat.eq_of_beq_eq_true hc.2
      obtain ⟨p2,es',g1,g2,g3,g4⟩:=G7 r hgm
      rw [hm] at g1;cases g1
      obtain ⟨e',l,hl⟩:=g3.inv
      have hl2:l = []:=by have:=g3.len;rw [hl] at this;simpa using this
      subst hl2
      have:=PR hl
      subst this
      obtain ⟨k1,k2,k3,_⟩:=g3.cons
      have hse:=PR hs
      subst hse hc1 hc2
      exact ⟨.tuple #[e'.key,e'.val],by simp [Instr.entry,Ey g,Ey g2,k3],.tup (.cons k1 (.cons k2 .nil)) .nil⟩
     ·cases hn
   ·cases hn
 ·cases hn
end
end Go.Proofs.YtihlneenajlhoaaGreatDoor.ae
/-
 A run of one goroutine over known values: lengths, clear, copy of nothing, nil and equality, texts and bytes, unsafe pointers. Condition: the store and the world belong together (WR).
-/
set_option linter.unusedVariables false
set_option linter.unusedSimpArgs false
namespace Go.Proofs.YtihlneenajlhoaaGreatDoor.ae
open Go
def PT (P:Program) (t:TypeId) (x:Value) (h:H):Option Value:=match P.underlying t,x with
 | some (.slice _),.slice _ k _=>some (goInt k)
 | some (.map _ _),.map none=>some (goInt 0)
 | some (.map _ _),.map (some r)=>(match h.get r with | some (.map es _)=>some (goInt es.length) | _=>none)
 | _,_=>none
def Ry (P:Program) (t:TypeId) (x:Value) (h:H):Option H:=match P.underlying t,x with
 | some (.slice _),.slice _ 0 _=>some h
 | some (.slice e),.slice (some ⟨i,o,none⟩) k _=>(zero P e).bind fun z=>bif atoms z then wr h i o (rep k (lst z)) else none
 | _,_=>none
def Rz (P:Program) (t:TypeId) (d s:Value):Option Value:=match elemOf P t,d,s with
 | some e,.slice _ _ _,.slice none 0 _=>(size P e).map fun _=>goInt 0
 | _,_,_=>none
def eqA (P:Program) (t:TypeId) (x y:Value) (h:H):Option Bool:=match P.underlying t,x,y with
 | some (.pointer _),.pointer none,.pointer b=>some b.isNone
 | some (.pointer _),.pointer (some _),.pointer none=>some false
 | some (.pointer e),.pointer (some ⟨i,o,none⟩),.pointer (some ⟨j,p,none⟩)=>bif Nat.beq i j&&(match size P e with | some (_+1)=>true | _=>false) then some (Nat.beq o p) else none
 | some (.slice _),.slice none _ _,.slice b _ _=>some b.isNone
 | some (.slice _),.slice (some _) _ _,.slice none _ _=>some false
 | some (.map _ _),.map none,.map b=>some b.isNone
 | some (.map _ _),.map (some _),.map none=>some false
 | some (.func _ _ _),.nilFunc,.func (.func _) _ _=>some false
 | some (.func _ _ _),.func (.func _) _ _,.nilFunc=>some false
 | _,_,_=>none
def LQ:List Value→Option (List Int)
 | []=>some []
 | .int .u8 n :: l=>(LQ l).map (n :: ·)
 | _=>none
def Nk:List Value→Option (List Int)
 | []=>some []
 | .int .i32 n :: l=>(Nk l).map (n :: ·)
 | _=>none
def bytes (l:List Int):ByteArray:=l.foldl (fun r n=>r.push (UInt8.ofNat n.toNat)) ByteArray.empty
def strCells (s:ByteArray):List Value:=(s.data.map fun b=>Value.int .u8 b.toNat).toList
def SA (P:Program) (s d:TypeId) (x:Value) (h:H) (n:Nat):R:=match P.underlying s,P.underlying d,x with
 | some .string,some (.slice e),.string b=>match P.underlying e,size P e with
  | some (.int .u8),some 1=>(fresh h n (.cells (strCells b) e false true)).map fun h=>(.slice (some ⟨n,0,none⟩) b.size big,h,n+1)
  | _,_=>none
 | some (.slice _),some (.slice e),.slice (some ⟨i,o,none⟩) len cap=>match P.underlying e,h.get i with
  | some (.int .u8),some (.cells c e' false g)=>bif Nat.beq s d then some (.slice (some ⟨i,o,none⟩) len cap,h,n) else none
  | _,_=>none
 | some (.slice e),some .string,.slice (some ⟨i,o,none⟩) len _=>match P.underlying e with
  | some (.int .u8)=>((rd h i o len).bind LQ).map fun l=>(.string (bytes l),h,n)
  | some (.int .i32)=>((rd h i o len).bind Nk).map fun l=>(.string (runesBytes l),h,n)
  | _=>none
 | some (.pointer t),some .unsafePointer,.pointer (some ⟨i,o,none⟩)=>match size P t,h.get i with
  | some (_+1),some (.cells c _ _ false)=>bif Nat.blt o c.length then some (.pointer (some ⟨i,o,none⟩),h,n) else none
  | _,_=>none
 | some .unsafePointer,some (.pointer u),.pointer (some ⟨i,o,none⟩)=>match size P u,h.get i with
  | some (_+1),some (.cells c e _ false)=>bif liesAt P P.depth e (c.length / P.cellsOf e) o u 1 then some (.pointer (some ⟨i,o,none⟩),h,n) else none
  | _,_=>none
 | _,_,_=>none
section
variable {P:Program} {base:Nat} {θ:Th} {w:World} {h h':H} {t:TypeId} {n:Nat}
theorem bJ {ts:Array TypeId} {ty:TypeId} {x x' v:Value} (r:WR P base θ h w) (h0:ts[0]?=some t) (hl:PT P t x h=some v) (hx:VR θ x x'):∃v',(Builtin.len_ ts ty #[x']).run P w=.ok v' w∧VR θ v v':=by
 unfold PT at hl
 split at hl
 ·rename_i e a k c hu
  cases hl
  refine ⟨goInt k,?_,.same rfl .nil⟩
  cases hx<;>first | (simp [Builtin.len_,h0,run_underlying hu];done) | skip
 ·rename_i k e hu
  cases hl
  cases hx with | same _ _ => ?_
  exact ⟨goInt 0,by simp [Builtin.len_,h0,run_underlying hu],.same rfl .nil⟩
 ·rename_i k e r0 hu
  split at hl
  ·rename_i es c hg
   cases hl
   obtain ⟨p,es',g1,g2,g3,g4⟩:=G7 r hg
   cases hx with
   | same hq _=>simp [atom] at hq
   | map hp _ =>
    rw [hp] at g1;cases g1
    have:es'.size=es.length:=by have:=g3.len;simp at this;omega
    exact ⟨goInt es.length,by simp [Builtin.len_,h0,run_underlying hu,Ey g2,this],.same rfl .nil⟩
  ·cases hl
 ·cases hl
theorem bK {ts:Array TypeId} {ty:TypeId} {x x':Value} (r:WR P base θ h w) (hb:base≤w.heap.size) (h0:ts[0]?=some t) (hl:Ry P t x h=some h') (hx:VR θ x x') :
  CE P base θ w (Builtin.clear_ ts ty #[x']) (.tuple #[]) h':=by
 unfold Ry at hl
 split at hl
 ·rename_i e a c hu
  cases hl
  refine CE.same r ?_ (Gn (by rfl))
  cases hx<;>first | (simp [Builtin.clear_,h0,run_underlying hu];done) | skip
  rename_i hq _
  cases a<;>simp [atom] at hq
  simp [Builtin.clear_,h0,run_underlying hu]
 ·rename_i e i o k c _ hu
  rw [Option.bind_eq_some_iff] at hl
  obtain ⟨z,hz,hl⟩:=hl
  cases ha:atoms z
  ·rw [ha] at hl;cases hl
  rw [ha,cond_true] at hl
  obtain ⟨p,w',g1,g2,g3,g4⟩:=NT (P:=P) r hb hl (Ij (RI k ha))
  have hzc:(Builtin.zeroCells z.cells k).toList=rep k (lst z):=by
   have:=RH k z.cells.size z.cells rfl
   simp only [Builtin.zeroCells,this,lst]
  have hfin:∀c',(Builtin.clear_ ts ty #[.slice (some ⟨p.b,o,none⟩) k c']).run P w=.ok (.tuple #[]) w':=fun c'=>by
   cases k with
   | zero=>simp [rep,storeCells] at g2;subst g2;simp [Builtin.clear_,h0,run_underlying hu]
   | succ k=>simp [Builtin.clear_,h0,run_underlying hu,Jr hz,hzc,g2]
  cases hx with
  | same hq _=>simp [atom] at hq
  | slice hp _ _=>rw [hp] at g1;cases g1;exact ⟨_,θ,w',hfin _,Ext.refl θ,Gn (by rfl),g3,g4⟩
  | Cf hp _ _=>rw [hp] at g1;cases g1;exact ⟨_,θ,w',hfin _,Ext.refl θ,Gn (by rfl),g3,g4⟩
 ·cases hl
theorem bM {ts:Array TypeId} {ty:TypeId} {d d' s s' v:Value} (r:WR P base θ h w) (h0:ts[0]?=some t) (hl:Rz P t d s=some v) (hd:VR θ d d') (hs:VR θ s s'):∃v',(Builtin.copy_ ts ty #[d',s']).run P w=.ok v' w∧VR θ v v':=by
 unfold Rz at hl
 split at hl
 ·rename_i e a k c c2 he
  rw [Option.map_eq_some_iff] at hl
  obtain ⟨sz,hsz,e1⟩:=hl
  cases e1
  have hu:=NY he
  cases hs with | same _ _ => ?_
  refine ⟨goInt 0,?_,.same rfl .nil⟩
  have key:∀(b:Option Addr) (k c':Nat),(Builtin.copy_ ts ty #[.slice b k c',.slice none 0 c2]).run P w=.ok (goInt 0) w:=fun b k c'=>by
   cases b<;>simp [Builtin.copy_,h0,run_underlying hu,Builtin.lenOf,Builtin.firstCells,EF hsz,storeCells]
  cases hd<;>first | exact key _ _ _ | skip
 ·cases hl
theorem Vd {x x' y y':Value} {b:Bool} {ox oy:Operand} (he:eqA P t x y h=some b) (hx:VR θ x x') (hy:VR θ y y') :
  (do eqGuard .eql t ox oy x' y';binOp .eql t x' y':Sem Value).run P w=.ok (.bool b) w∧(do eqGuard .neq t ox oy x' y';binOp .neq t x' y':Sem Value).run P w=.ok (.bool !b) w:=by
 have key:∀x' y',(∀a b,¬(x'=.nilIface∧y'=.nilIface)∧¬(x'=.agg a∧y'=.agg b))→(∀k a,x'≠.int k a)→(∀k a,x'≠.float k a)→(∀k a b,x'≠.complex k a b)→(∀a,x'≠.string a)→(Op.equal t x' y').run P w=.ok b w →
   (do eqGuard .eql t ox oy x' y';binOp .eql t x' y':Sem Value).run P w=.ok (.bool b) w∧(do eqGuard .neq t ox oy x' y';binOp .neq t x' y':Sem Value).run P w=.ok (.bool !b) w:=by
  intro x' y' h1 h2 h3 h4 h5 hr
  have hg:∀op,op=.eql∨op=.neq→(eqGuard op t ox oy x' y').run P w=.ok () w:=fun op ho=>by
   rcases ho with rfl | rfl<;>(unfold eqGuard;simp only [Bool.not_true,Bool.false_eq_true,if_false];split)
   ·exact absurd ⟨rfl,rfl⟩ (h1 #[] #[]).1
   ·exact absurd ⟨rfl,rfl⟩ (h1 _ _).2
   ·rfl
   ·exact absurd ⟨rfl,rfl⟩ (h1 #[] #[]).1
   ·exact absurd ⟨rfl,rfl⟩ (h1 _ _).2
   ·rfl
  constructor
  ·rw [Sem.run_bind,hg _ (.inl rfl)]
   cases x'<;>first | exact absurd rfl (h2 _ _) | exact absurd rfl (h3 _ _) | exact absurd rfl (h4 _ _ _) | exact absurd rfl (h5 _) | simp [binOp,hr]
  ·rw [Sem.run_bind,hg _ (.inr rfl)]
   cases x'<;>first | exact absurd rfl (h2 _ _) | exact absurd rfl (h3 _ _) | exact absurd rfl (h4 _ _ _) | exact absurd rfl (h5 _) | simp [binOp,hr]
 have eqd:∀x' y',(∀n,(Op.equalIn (n+1) t x' y').run P w=.ok b w)→(Op.equal t x' y').run P w=.ok b w:=fun x' y' h=>h 9999
 unfold eqA at he
 split at he
 ·rename_i e a hu
  cases he
  cases hx with | same _ _ => ?_
  refine key _ _ (by simp) (by simp) (by simp) (by simp) (by simp) (eqd _ _ fun n => ?_)
  cases hy<;>first | (simp [Op.equalIn,run_underlying hu];done) | skip
 ·rename_i e a hu
  cases he
  cases hy with | same _ _ => ?_
  cases hx with
  | same hq _=>simp [atom] at hq
  | ptr hp _ =>
   refine key _ _ (by simp) (by simp) (by simp) (by simp) (by simp) (eqd _ _ fun n => ?_)
   simp [Op.equalIn,run_underlying hu]
 ·rename_i e i o j p hu
  cases hc:(Nat.beq i j&&(match size P e with | some (_+1)=>true | _=>false))
  ·rw [hc] at he;cases he
  rw [hc,cond_true] at he
  cases he
  simp only [Bool.and_eq_true] at hc
  obtain ⟨c1,c2⟩:=hc
  have c1:=Nat.eq_of_beq_eq_true c1
  subst c1
  obtain ⟨s,hs⟩:∃s,size P e=some (s+1):=by
   cases hs:size P e with
   | none=>simp [hs] at c2
   | some s=>cases s with
    | zero=>simp [hs] at c2
    | succ s=>exact ⟨s,rfl⟩
  cases hx with
  | same hq _=>simp [atom] at hq
  | ptr hp _ =>
   cases hy with
   | same hq _=>simp [atom] at hq
   | ptr hp2 _ =>
    rw [hp] at hp2;cases hp2
    refine key _ _ (by simp) (by simp) (by simp) (by simp) (by simp) (eqd _ _ fun n => ?_)
    simp only [Op.equalIn,Sem.run_bind,run_underlying hu,Result.andThen_ok,EF hs,sameAddr]
    by_cases e:o=p
    ·subst e;simp
    ·simp [e,EM e]
 ·rename_i e a k c b k2 c2 hu
  cases he
  cases hx with | same _ _ => ?_
  refine key _ _ (by simp) (by simp) (by simp) (by simp) (by simp) (eqd _ _ fun n => ?_)
  cases hy<;>first | (simp [Op.equalIn,run_underlying hu];done) | skip
 ·rename_i e a k c k2 c2 hu
  cases he
  cases hy with | same _ _ => ?_
  refine key _ _ (by cases hx<;>simp) (by cases hx<;>simp) (by cases hx<;>simp) (by cases hx<;>simp) (by cases hx<;>simp) (eqd _ _ fun n => ?_)
  cases hx<;>first | (simp [Op.equalIn,run_underlying hu];done) | (rename_i hq _;simp [atom] at hq;done) | skip
 ·rename_i k e b hu
  cases he
  cases hx with | same _ _ => ?_
  refine key _ _ (by simp) (by simp) (by simp) (by simp) (by simp) (eqd _ _ fun n => ?_)
  cases hy<;>first | (simp [Op.equalIn,run_underlying hu];done) | skip
 ·rename_i k e a hu
  cases he
  cases hy with | same _ _ => ?_
  cases hx with
  | same hq _=>simp [atom] at hq
  | map hp _ =>
   refine key _ _ (by simp) (by simp) (by simp) (by simp) (by simp) (eqd _ _ fun n => ?_)
   simp [Op.equalIn,run_underlying hu]
 ·rename_i k e f b c d hu
  cases he
  cases hx with | same _ _ => ?_
  cases hy with
  | same hq _=>simp [atom] at hq
  | func _ _ _ =>
   refine key _ _ (by simp) (by simp) (by simp) (by simp) (by simp) (eqd _ _ fun n => ?_)
   simp [Op.equalIn,run_underlying hu]
 ·rename_i k e f b c d hu
  cases he
  cases hy with | same _ _ => ?_
  cases hx with
  | same hq _=>simp [atom] at hq
  | func _ _ _ =>
   refine key _ _ (by simp) (by simp) (by simp) (by simp) (by simp) (eqd _ _ fun n => ?_)
   simp [Op.equalIn,run_underlying hu]
 ·cases he
theorem Ve {l l':List Value} {ns:List Int} (h:LQ l=some ns) (hv:VL θ l l'):l'=ns.map (Value.int .u8):=by
 induction l generalizing l' ns with
 | nil=>rw [hv.Ci];simp [LQ] at h;subst h;rfl
 | cons v l ih =>
  obtain ⟨v',l',rfl,h1,h2⟩:=hv.DY
  unfold LQ at h
  split at h
  ·rename_i e;cases e
  ·rename_i n l0 e
   cases e
   rw [Option.map_eq_some_iff] at h
   obtain ⟨ms,hm,rfl⟩:=h
   cases h1 with | same _ _ => ?_
   rw [ih hm h2];rfl
  ·cases h
theorem bP {l l':List Value} {ns:List Int} (h:Nk l=some ns) (hv:VL θ l l'):l'=ns.map (Value.int .i32):=by
 induction l generalizing l' ns with
 | nil=>rw [hv.Ci];simp [Nk] at h;subst h;rfl
 | cons v l ih =>
  obtain ⟨v',l',rfl,h1,h2⟩:=hv.DY
  unfold Nk at h
  split at h
  ·rename_i e;cases e
  ·rename_i n l0 e
   cases e
   rw [Option.map_eq_some_iff] at h
   obtain ⟨ms,hm,rfl⟩:=h
   cases h1 with | same _ _ => ?_
   rw [ih hm h2];rfl
  ·cases h
theorem run_shape {b:Nat} {c:Array Value} {e:TypeId} {fz:Nat×Nat} (h:w.heap[b]?=some (.cells c e fz)):(shape b).run P w=.ok (some (e,c.size)) w:=by
 simp [shape,Sem.run,World.shape?,h]
end
end Go.Proofs.YtihlneenajlhoaaGreatDoor.ae
/-
 A run of one goroutine over known values: texts and bytes, unsafe pointers. Condition: the store and the world belong together (WR).
-/
set_option linter.unusedVariables false
set_option linter.unusedSimpArgs false
namespace Go.Proofs.YtihlneenajlhoaaGreatDoor.ae
open Go
section
variable {P:Program} {base:Nat} {θ:Th} {w:World} {h h':H} {t:TypeId} {n:Nat}
theorem Vf {a:Array Obj} {k:Nat} {f:Obj→Obj} {o:Obj} (h:a[k]?=some o):(a.modify k f)[k]?=some (f o):=by
 rw [Array.getElem?_modify,if_pos rfl,h];rfl
theorem SB {a:Array Obj} {k j:Nat} {f:Obj→Obj} (h:j≠k):(a.modify k f)[j]?=a[j]?:=by
 rw [Array.getElem?_modify,if_neg (Ne.symm h)]
theorem WR.ext {h1:H} (r:WR P base θ h w) (he:∀j,h1.get j=h.get j):WR P base θ h1 w :=
 ⟨fun i g=>r.dom i (by rw [←he];exact g),fun i ab g=>r.at_ i ab (by rw [←he];exact g),fun i j p q x y a b c=>r.inj i j p q x y a (by rw [←he];exact b) (by rw [←he];exact c)⟩
theorem WR.turn {i:Nat} {x:AB} {p:Pl} {w':World} (r:WR P base θ h w) (hi:h.get i=some x) (hx:live x=true) (ht:θ i=some p) (hb:BR P θ base p w' x) (hw:∀k,k≠p.b→w'.heap[k]?=w.heap[k]?):WR P base θ h w':=by
 refine ⟨r.dom,fun j ab g => ?_,r.inj⟩
 by_cases e:j=i
 ·subst e;rw [hi] at g;cases g;exact ⟨p,ht,hb⟩
 ·obtain ⟨q,h1,h2⟩:=r.at_ j ab g
  exact ⟨q,h1,h2.mono (Ext.refl θ) fun hl=>hw _ (r.inj j i q p ab x e g hi hl hx h1 ht)⟩
theorem Vg {i o:Nat} {c:List Value} {e:TypeId} {g:Bool} {p:Pl} (r:WR P base θ h w) (hg:h.get i=some (.cells c e false g)) (hp:θ i=some p) :
  ∃w',(markStringish ⟨p.b,o,none⟩).run P w=.ok () w'∧WR P base θ h w'∧Keep base w w':=by
 obtain ⟨q,hq,hbr⟩:=r.at_ i _ hg
 rw [hp] at hq;cases hq
 have keep:∀f:Obj→Obj,base≤p.b→Keep base w { w with heap:=w.heap.modify p.b f }:=fun f hb=>⟨rfl,rfl,rfl,by simp,fun k hk=>SB (by omega)⟩
 have wt:∀(n:Nat) (fz:Nat×Nat),Wt base p.b n fz→Wt base p.b n (if fz.1==fz.2 then (n,n+1) else (min fz.1 n,max fz.2 (n+1))):=fun n fz hz=>by
  refine ⟨hz.1,?_⟩
  by_cases e:fz.1=fz.2
  ·rw [if_pos (by simpa using e)];exact .inr (Nat.le_refl _)
  ·rw [if_neg (by simpa using e)]
   rcases hz.2 with e2 | e2
   ·exact absurd e2 e
   ·exact .inr (by show n≤min fz.1 n;omega)
 cases hbr with
 | cells g1 hv hz =>
  rename_i c' fz
  refine ⟨_,by simp [markStringish,run_shape g1,freeze,Sem.run,World.freeze];rfl,r.turn hg rfl hp (.cells (fz:=if fz.1==fz.2 then (c'.size,c'.size+1) else (min fz.1 c'.size,max fz.2 (c'.size+1))) ?_ hv fun h=>wt _ _ (hz h)) fun k hk=>SB hk,keep _ (hz rfl).1⟩
  rw [Vf g1]
  obtain ⟨lo,hi⟩:=fz
  by_cases e:lo=hi<;>simp [e]
 | grow g1 hv he hk hs hz =>
  rename_i pre rr c' fz
  refine ⟨_,by simp [markStringish,run_shape g1,freeze,Sem.run,World.freeze];rfl,r.turn hg rfl hp (.grow (fz:=if fz.1==fz.2 then (c'.size,c'.size+1) else (min fz.1 c'.size,max fz.2 (c'.size+1))) ?_ hv he hk hs fun h=>wt _ _ (hz h)) fun k hk=>SB hk,keep _ (hz rfl).1⟩
  rw [Vf g1]
  obtain ⟨lo,hi⟩:=fz
  by_cases e:lo=hi<;>simp [e]
theorem bQ (s:ByteArray):(strCells s).all atom=true:=by
 rw [List.all_eq_true]
 intro v hv
 simp only [strCells,Array.toList_map,List.mem_map] at hv
 obtain ⟨b,_,rfl⟩:=hv
 rfl
theorem bT {s d e:TypeId} {b:ByteArray} {h1:H} (r:WR P base θ h w) (hb:base≤w.heap.size) (hs:P.underlying s=some .string) (hd:P.underlying d=some (.slice e)) (he:P.underlying e=some (.int .u8)) (hsz:size P e=some 1)
  (hf:fresh h n (.cells (strCells b) e false true)=some h1):CE P base θ w (convert s d (.string b)) (.slice (some ⟨n,0,none⟩) b.size big) h1:=by
 obtain ⟨q,hq⟩:∃q,q=(Question.appendCap b.size 0 e).cut (w.tape w.drawn (.appendCap b.size 0 e)):=⟨_,rfl⟩
 have hqn:b.size≤q:=by rw [hq];unfold Question.cut;simp
 have r1:WR P base θ h w.drew:=r.heap rfl
 have hbs:b.data.size=b.size:=rfl
 obtain ⟨θ',g1,g2,g3,g4⟩:=NW (o:=.cells ((b.data.map fun b=>Value.int .u8 b.toNat)++Array.replicate (q-b.size) (.int .u8 0)) e) (p:=⟨w.heap.size,q,1⟩) r1 hb hf rfl (fun θ' w' hx hw=>by
  refine .grow (r:=List.replicate (q-b.size) (.int .u8 0)) hw (Ij (bQ b)) ?_ ?_ hsz fun _=>⟨hb,.inl rfl⟩
  ·simp [strCells]
  ·simp [hbs];omega)
 have hget:h1.get n=some (.cells (strCells b) e false true):=by
  rw [IB (NV hf).2,if_pos rfl]
 obtain ⟨w',k1,k2,k3⟩:=Vg (o:=0) g3 hget g1
 refine ⟨.slice (some ⟨w.heap.size,0,none⟩) b.size q,θ',w',?_,g2,.Cf g1 (by simp) .nil,k2,Keep.trans ⟨g4.os,g4.tape,g4.output,g4.size,g4.block⟩ k3⟩
 have bU:(Question.appendCap b.size 0 e).forced=false:=rfl
 simp only [convert,Sem.run_bind,run_underlying hs,run_underlying hd,run_underlying he,Result.andThen_ok,Conv.stringToBytes]
 rw [show (choose (Question.appendCap b.size 0 e)).run P w=.ok q w.drew by simp [choose,Sem.run,bU,←hq]]
 simp only [Result.andThen_ok,newRow,Sem.run_bind,newObj,Sem.run,Sem.run_pure]
 rw [show w.drew.heap.size=w.heap.size from rfl]
 have k1':=k1
 simp only [] at k1'
 erw [k1']
 rfl
theorem bV {s d:TypeId} {x x' v:Value} {n':Nat} (r:WR P base θ h w) (hb:base≤w.heap.size) (hc:SA P s d x h n=some (v,h',n')) (hx:VR θ x x'):CE P base θ w (convert s d x') v h':=by
 unfold SA at hc
 split at hc
 ·rename_i e b hs hd
  split at hc
  ·rename_i he hsz
   rw [Option.map_eq_some_iff] at hc
   obtain ⟨h1,hf,e1⟩:=hc
   cases e1
   cases hx with | same _ _ => ?_
   exact bT r hb hs hd he hsz hf
  ·cases hc
 ·rename_i e0 e i o len cap hs hd
  split at hc
  ·rename_i c e' g he hg
   cases hsd:Nat.beq s d
   ·rw [hsd] at hc;cases hc
   rw [hsd,cond_true] at hc
   cases hc
   have hsd:=Nat.eq_of_beq_eq_true hsd
   subst hsd
   obtain ⟨p,hp,hbr⟩:=r.at_ _ _ hg
   obtain ⟨w',k1,k2,k3⟩:=Vg (P:=P) (o:=o) r hg hp
   have key:∀cap',(convert s s (.slice (some ⟨p.b,o,none⟩) len cap')).run P w=.ok (.slice (some ⟨p.b,o,none⟩) len cap') w':=fun cap'=>by
    rw [hs] at hd;cases hd
    simp [convert,run_underlying hs,run_underlying he,k1]
   cases hx with
   | same hq _=>simp [atom] at hq
   | slice hp2 hcc _=>rw [hp] at hp2;cases hp2;exact ⟨_,θ,w',key _,Ext.refl θ,.slice hp hcc .nil,k2,k3⟩
   | Cf hp2 hk _=>rw [hp] at hp2;cases hp2;exact ⟨_,θ,w',key _,Ext.refl θ,.Cf hp hk .nil,k2,k3⟩
  ·cases hc
 ·rename_i e i o len c hs hd
  split at hc
  ·rename_i he
   rw [Option.map_eq_some_iff] at hc
   obtain ⟨l,hl,e1⟩:=hc
   cases e1
   rw [Option.bind_eq_some_iff] at hl
   obtain ⟨cs,hr,hi⟩:=hl
   obtain ⟨p,c',e2,fz,l',g1,g2,g3,g4⟩:=Jn r hr
   have hl':=Ve hi g4
   have key:∀cap',(convert s d (.slice (some ⟨p.b,o,none⟩) len cap')).run P w=.ok (.string (bytes l)) w:=fun cap'=>by
    rw [run_convert_bytes_string w s d e _ _ _ hs he hd,run_bytesToString w _ _ _ l (by rw [Jo g2 g3,hl'])]
    rfl
   cases hx with
   | same hq _=>simp [atom] at hq
   | slice hp _ _=>rw [hp] at g1;cases g1;exact CE.same r (key _) (.same rfl .nil)
   | Cf hp _ _=>rw [hp] at g1;cases g1;exact CE.same r (key _) (.same rfl .nil)
  ·rename_i he
   rw [Option.map_eq_some_iff] at hc
   obtain ⟨l,hl,e1⟩:=hc
   cases e1
   rw [Option.bind_eq_some_iff] at hl
   obtain ⟨cs,hr,hi⟩:=hl
   obtain ⟨p,c',e2,fz,l',g1,g2,g3,g4⟩:=Jn r hr
   have hl':=bP hi g4
   have key:∀cap',(convert s d (.slice (some ⟨p.b,o,none⟩) len cap')).run P w=.ok (.string (runesBytes l)) w:=fun cap'=>by
    rw [run_convert_runes_string w s d e _ _ _ hs he hd,run_runesToString w _ _ _ l (by rw [Jo g2 g3,hl'])]
   cases hx with
   | same hq _=>simp [atom] at hq
   | slice hp _ _=>rw [hp] at g1;cases g1;exact CE.same r (key _) (.same rfl .nil)
   | Cf hp _ _=>rw [hp] at g1;cases g1;exact CE.same r (key _) (.same rfl .nil)
  ·cases hc
 ·rename_i u i o hs hd
  split at hc
  ·rename_i k c e ro hsz hg
   cases hlt:Nat.blt o c.length
   ·rw [hlt] at hc;cases hc
   rw [hlt,cond_true] at hc
   cases hc
   have hlt:o<c.length:=Nat.le_of_ble_eq_true hlt
   obtain ⟨p,hp,hbr⟩:=r.at_ _ _ hg
   cases hx with
   | same hq _=>simp [atom] at hq
   | ptr hp2 _ =>
    rw [hp] at hp2;cases hp2
    cases hbr with
    | cells g1 hv hz =>
     rename_i c' fz
     have hcs:c'.size=c.length:=by have:=hv.len;simp at this;omega
     refine CE.same r ?_ (.ptr hp .nil)
     have hnl:¬(c.length≤o):=by omega
     have hsh:w.shape? p.b=some (e,c.length):=by simp [World.shape?,g1,hcs]
     simp [convert,run_underlying hs,run_underlying hd,Conv.unsafePointer,Conv.seenAt,viewAt,hsh,cellsIn,hnl,EF hsz]
  ·cases hc
 ·rename_i u i o hs hd
  split at hc
  ·rename_i k c e ro hsz hg
   cases hlt:liesAt P P.depth e (c.length / P.cellsOf e) o u 1
   ·rw [hlt] at hc;cases hc
   rw [hlt,cond_true] at hc
   cases hc
   obtain ⟨p,hp,hbr⟩:=r.at_ _ _ hg
   cases hx with
   | same hq _=>simp [atom] at hq
   | ptr hp2 _ =>
    rw [hp] at hp2;cases hp2
    cases hbr with
    | cells g1 hv hz =>
     rename_i c' fz
     have hcs:c'.size=c.length:=by have:=hv.len;simp at this;omega
     refine CE.same r ?_ (.ptr hp .nil)
     have hsh:w.shape? p.b=some (e,c.length):=by simp [World.shape?,g1,hcs]
     simp [convert,run_underlying hs,run_underlying hd,Conv.unsafePointer,Conv.seenAt,viewAt,hsh,EF hsz,variablesAt,program,Sem.run,hlt]
  ·cases hc
 ·cases hc
end
end Go.Proofs.YtihlneenajlhoaaGreatDoor.ae
/-
 A run of one goroutine over known values: the bytes of a text, the text of bytes, without a copy. Condition: the store and the world belong together (WR).
-/
set_option linter.unusedVariables false
set_option linter.unusedSimpArgs false
namespace Go.Proofs.YtihlneenajlhoaaGreatDoor.ae
open Go
def SC (x:Value) (h:H):Option Value:=match x with
 | .slice (some ⟨i,o,none⟩) _ c=>bif Nat.beq c big then (match h.get i with
   | some (.cells cs _ _ true)=>bif Nat.ble (o+1) cs.length then some (.pointer (some ⟨i,o,none⟩)) else none
   | _=>none)
  else bif Nat.ble 1 c then some (.pointer (some ⟨i,o,none⟩)) else none
 | _=>none
def SE (P:Program) (t:TypeId) (p l:Value) (h:H):Option (Value×H):=match P.underlying t,p,asNat l with
 | some (.pointer u),.pointer (some ⟨i,o,none⟩),some (k+1)=>(match h.get i with
  | some (.cells c e false g)=>bif Nat.beq u e&&Nat.beq (P.cellsOf e) 1&&sameLayout P P.depth e u&&Nat.ble k 1000000&&Nat.ble 1 P.depth then
    (takeN o (k+1) c).bind fun cs=>(LQ cs).bind fun l=>(hput h i (.cells c e true g)).map fun h=>(.string (bytes l),h) else none
  | _=>none)
 | _,_,_=>none
section
variable {P:Program} {base:Nat} {θ:Th} {w:World} {h h':H} {t:TypeId} {n:Nat}
theorem Vh {ts:Array TypeId} {ty:TypeId} {a:Addr} {l c:Nat} (hc:c≠0):(Builtin.unsafeSliceData_ ts ty #[.slice (some a) l c]).run P w=.ok (.pointer (some a)) w:=by
 obtain ⟨k,rfl⟩:∃k,c=k+1:=⟨c-1,by omega⟩
 rfl
theorem bW {ts:Array TypeId} {ty:TypeId} {x x' v:Value} (r:WR P base θ h w) (hl:SC x h=some v) (hx:VR θ x x'):∃v',(Builtin.unsafeSliceData_ ts ty #[x']).run P w=.ok v' w∧VR θ v v':=by
 unfold SC at hl
 split at hl
 ·rename_i i o k c
  cases hx with
  | same hq _=>simp [atom] at hq
  | slice hp hc _ =>
   rw [EM hc,cond_false] at hl
   cases h1:Nat.ble 1 c
   ·rw [h1] at hl;cases hl
   rw [h1,cond_true] at hl
   cases hl
   have h1:=Nat.le_of_ble_eq_true h1
   exact ⟨_,Vh (by omega),.ptr hp .nil⟩
  | Cf hp hk hnil =>
   rename_i c' p
   rw [GX rfl,cond_true] at hl
   split at hl
   ·rename_i cs e ro hg
    cases h1:Nat.ble (o+1) cs.length
    ·rw [h1] at hl;cases hl
    rw [h1,cond_true] at hl
    cases hl
    have h1:=Nat.le_of_ble_eq_true h1
    obtain ⟨q,cc,fz,pre,rr,q1,q2,q3,q4,q5,q6,q7⟩:=PL r hg
    rw [hp] at q1;cases q1
    have hlen:cs.length≤p.k:=by
     rw [q3.len,←q5]
     have:cc.size=(pre++rr).length:=by rw [←q4];simp
     rw [this];simp
    have hc0:c'≠0:=fun e=>by subst e;simp at hk;omega
    exact ⟨_,Vh hc0,.ptr hp .nil⟩
   ·cases hl
 ·cases hl
theorem bY:∀(ns:List Int) (o:Nat) (acc:ByteArray) {b:Nat},(∀j x,ns[j]?=some x→w.cell? ⟨b,o+j,none⟩=some (.int .u8 x))→(loadBytes ⟨b,o,none⟩ acc ns.length).run P w=.ok (ns.foldl (fun r n=>r.push (UInt8.ofNat n.toNat)) acc) w:=by
 intro ns
 induction ns with
 | nil=>intro o acc b _;simp [loadBytes]
 | cons x ns ih =>
  intro o acc b hc
  have h0:=hc 0 x rfl
  rw [Nat.add_zero] at h0
  simp only [List.length_cons,loadBytes,Sem.run_bind,run_load,h0,Result.andThen_ok,add_eq,List.foldl_cons]
  exact ih (o+1) _ fun j y hj=>by
   have:=hc (j+1) y (by simpa using hj)
   rwa [show o+1+j=o+(j+1) by omega]
theorem bZ {d e count off n:Nat} (hs:P.cellsOf e=1) (hl:sameLayout P P.depth e e=true) (hd:P.depth=d+1) (hc:off+n≤count):liesAt P P.depth e count off e n=true:=by
 have hrow:rowAt P (sameLayout P P.depth · e) (d+1) e count off n=true:=by
  unfold rowAt
  simp [hs,hc,hl,Nat.mod_one]
 rw [hd] at hrow ⊢
 unfold liesAt
 rw [hd]
 simp [hrow]
theorem cO {a:Addr} {k:Nat}:(freeze a k).run P w=.ok () (w.freeze a k):=by simp [freeze,Sem.run]
theorem cZ {b o k:Nat} {c:Array Value} {e:TypeId} {fz:Nat×Nat} (hg:w.heap[b]?=some (.cells c e fz)):∃fz',(w.freeze ⟨b,o,none⟩ k).heap[b]?=some (.cells c e fz'):=by
 unfold World.freeze
 split
 ·exact ⟨fz,hg⟩
 ·simp only [Array.getElem?_modify,hg]
  obtain ⟨lo,hi⟩:=fz
  exact ⟨_,by simp;rfl⟩
theorem dA {b o k:Nat}:(∀j,j≠b→(w.freeze ⟨b,o,none⟩ k).heap[j]?=w.heap[j]?)∧(w.freeze ⟨b,o,none⟩ k).heap.size=w.heap.size∧(w.freeze ⟨b,o,none⟩ k).os=w.os∧(w.freeze ⟨b,o,none⟩ k).tape=w.tape∧(w.freeze ⟨b,o,none⟩ k).output=w.output:=by
 unfold World.freeze
 split
 ·exact ⟨fun _ _=>rfl,rfl,rfl,rfl,rfl⟩
 ·refine ⟨fun j hj => ?_,by simp,rfl,rfl,rfl⟩
  simp only [Array.getElem?_modify]
  rw [if_neg (Ne.symm hj)]
theorem dB {ts:Array TypeId} {ty:TypeId} {p p' l l' v:Value} (r:WR P base θ h w) (h0:ts[0]?=some t) (hl:SE P t p l h=some (v,h')) (hp:VR θ p p') (hl2:VR θ l l'):CE P base θ w (Builtin.unsafeString_ ts ty #[p',l']) v h':=by
 unfold SE at hl
 split at hl
 ·rename_i u i o k hu hk
  obtain ⟨kk,rfl⟩:=Gp hk hl2
  split at hl
  ·rename_i c e g hg
   cases hc:(Nat.beq u e&&Nat.beq (P.cellsOf e) 1&&sameLayout P P.depth e u&&Nat.ble k 1000000&&Nat.ble 1 P.depth)
   ·rw [hc] at hl;cases hl
   rw [hc,cond_true] at hl
   simp only [Option.bind_eq_some_iff,Option.map_eq_some_iff] at hl
   obtain ⟨cs,htk,ns,hns,h1,hput,e1⟩:=hl
   cases e1
   simp only [Bool.and_eq_true] at hc
   obtain ⟨⟨⟨⟨c1,c2⟩,c3⟩,c4⟩,c5⟩:=hc
   have c1:=Nat.eq_of_beq_eq_true c1
   have c2:=Nat.eq_of_beq_eq_true c2
   have c4:=Nat.le_of_ble_eq_true c4
   have c5:=Nat.le_of_ble_eq_true c5
   subst c1
   obtain ⟨d,hd⟩:∃d,P.depth=d+1:=⟨P.depth-1,by omega⟩
   obtain ⟨q,hq,hbr⟩:=r.at_ _ _ hg
   cases hp with
   | same hx _=>simp [atom] at hx
   | ptr hp2 _ =>
    rw [hq] at hp2;cases hp2
    have hbase:base≤q.b:=by
     cases hbr with
     | cells g1 hv hz=>exact (hz rfl).1
     | grow g1 hv he hk2 hs hz=>exact (hz rfl).1
    have main:∀(c':Array Value) (fz:Nat×Nat) (l':List Value),w.heap[q.b]?=some (.cells c' u fz)→takeN o (k+1) c'.toList=some l'→VL θ cs l'→(∀fz',(w.freeze ⟨q.b,o,none⟩ (k+1)).heap[q.b]?=some (.cells c' u fz')→BR P θ base q (w.freeze ⟨q.b,o,none⟩ (k+1)) (.cells c u true g)) →
      CE P base θ w (Builtin.unsafeString_ ts ty #[.pointer (some ⟨q.b,o,none⟩),.int kk (k+1:Nat)]) (.string (bytes ns)) h':=by
     intro c' fz l' g1 g2 g3 g4
     have hl':=Ve hns g3
     have hsp:=LJ _ _ _ _ g2
     have hlen:ns.length=k+1:=by rw [←hsp.2.1,hl'];simp
     have hle:o+(k+1)≤c'.size:=by
      rcases hsp.2.2 with e | e
      ·omega
      ·simpa using e
     obtain ⟨fz',f1⟩:=cZ (o:=o) (k:=k+1) g1
     obtain ⟨f2,f3,f4,f5,f6⟩:=dA (w:=w) (b:=q.b) (o:=o) (k:=k+1)
     refine ⟨.string (bytes ns),θ,w.freeze ⟨q.b,o,none⟩ (k+1),?_,Ext.refl θ,.same rfl .nil,r.set hput hg hq rfl (g4 fz' f1) f2,⟨f4,f5,f6,by omega,fun j hj=>f2 j (by omega)⟩⟩
     have hsh:w.shape? q.b=some (u,c'.size):=by simp [World.shape?,g1]
     have hlies:liesAt P P.depth u (c'.size / P.cellsOf u) o u (k+1)=true:=by rw [c2,Nat.div_one];exact bZ c2 c3 hd hle
     have hbytes:=bY (P:=P) (w:=w) ns o ByteArray.empty (b:=q.b) (fun j x hj=>by
      have hjn:j<k+1:=by
       rw [←hlen]
       rcases Nat.lt_or_ge j ns.length with z | z
       ·exact z
       ·rw [List.getElem?_eq_none z] at hj;cases hj
      rw [cell_of g1,NR g2 j hjn,hl',List.getElem?_map,hj];rfl)
     rw [hlen] at hbytes
     have n1:¬(((k:Int)+1)<0):=by omega
     have n2:¬((9223372036854775807:Int)<((k:Int)+1)):=by omega
     have n3:¬(((k:Int)+1)=0):=by omega
     have n4:((k:Int)+1).toNat=k+1:=by omega
     have hdef:Builtin.unsafeString_ ts ty #[.pointer (some ⟨q.b,o,none⟩),.int kk (k+1:Nat)]=(do
       let n ←asInt (.int kk (k+1:Nat))
       let some pt:=ts[0]? | stuck "unsafe.String: no argument types"
       if n<0 then runtimePanic (.error "unsafe.String: len out of range")
       if n>IntKind.i64.max then unsupported (.unsafePointer "String: a length above the largest int")
       if n=0 then pure (.string .empty)
       else if ←variablesAt ⟨q.b,o,none⟩ (←Go.elemOf pt) n.toNat then do
        let s ←loadBytes ⟨q.b,o,none⟩ .empty n.toNat
        freeze ⟨q.b,o,none⟩ n.toNat
        pure (.string s)
       else unsupported (.unsafePointer "String: not so many bytes at ptr")):=rfl
     rw [hdef]
     simp [asInt,asIntOf,h0,n1,n2,n3,n4,Go.elemOf,run_underlying hu,variablesAt,program,Sem.run,hsh,hlies,hbytes,cO,bytes]
    cases hbr with
    | cells g1 hv hz =>
     obtain ⟨l',g2,g3⟩:=LK htk hv
     exact main _ _ l' g1 g2 g3 fun fz' hf=>.cells hf hv fun e=>(by cases e)
    | grow g1 hv he hk2 hs hz =>
     obtain ⟨l',g2,g3⟩:=LK htk hv
     exact main _ _ l' g1 (by rw [he];exact Qy g2) g3 fun fz' hf=>.grow hf hv he hk2 hs fun e=>(by cases e)
  ·cases hl
 ·cases hl
end
end Go.Proofs.YtihlneenajlhoaaGreatDoor.ae
/-
 A run of one goroutine over known values: what an operation of any kind does. Condition: the store and the world belong together (WR).
-/
set_option linter.unusedVariables false
set_option linter.unusedSimpArgs false
namespace Go.Proofs.YtihlneenajlhoaaGreatDoor.ae
open Go
def Il:Op→Bool
 | .binOp .. | .unOp .. | .convert .. | .index .. | .slice ..=>true
 | .call c=>match c.callee with
  | .builtin .len | .builtin .cap | .builtin .max | .builtin .min=>true
  | _=>false
 | _=>false
def DF (P:Program) (ρ:Operand→Value) (o:Oper):Option Value :=
 bif Il o.op&&o.op.operands.toList.all (fun x=>flat (ρ x)) then (match JJ P (execOp ρ o) with
  | some (.value v)=>bif flat v then some v else none
  | _=>none) else none
def keepA (v:Option Value) (h:H) (n:Nat):R:=v.map fun v=>(v,h,n)
def LU (h:Option H) (n:Nat):R:=h.map fun h=>(undef,h,n)
def Ju (P:Program) (b:Builtin) (ts:Array TypeId) (args:List Value) (h:H) (n:Nat):R:=match b,args with
 | .len,[x]=>(ts[0]?).bind fun t=>keepA (PT P t x h) h n
 | .append,[s,x]=>(ts[0]?).bind fun t=>bif PM P ts[1]? then RN P t s x h n else none
 | .copy,[d,s]=>(ts[0]?).bind fun t=>keepA (Rz P t d s) h n
 | .clear,[x]=>(ts[0]?).bind fun t=>(Ry P t x h).map fun h=>(.tuple #[],h,n)
 | .unsafeSliceData,[x]=>keepA (SC x h) h n
 | .unsafeString,[p,l]=>(ts[0]?).bind fun t=>(SE P t p l h).map fun r=>(r.1,r.2,n)
 | _,_=>none
def JK (ρ:Operand→Value) (parts:Array (Nat×Operand)):List (Nat×Value):=parts.toList.map fun p=>(p.1,ρ p.2)
def isInt:Option Value→Bool
 | none | some (.int _ _)=>true
 | _=>false
def Af (P:Program) (ρ:Operand→Value) (op:Op) (h:H) (n:Nat):R:=match op with
 | .move x | .assign x=>some (ρ x,h,n)
 | .pick c a b=>(match ρ c with | .bool t=>some (bif t then ρ a else ρ b,h,n) | _=>none)
 | .alloc e=>(zero P e).bind fun z=>bif (lst z).all atom then IC e (lst z) ptrTo h n else none
 | .box e x=>IC e (lst (ρ x)) ptrTo h n
 | .build t parts=>keepA (O6 P t (JK ρ parts)) h n
 | .buildSlice t len parts=>O7 P t len (JK ρ parts) h n
 | .load t a=>keepA (LM P t (ρ a) h) h n
 | .store t a x=>LU (O1 P t (ρ a) (ρ x) h) n
 | .nilCheck x=>keepA (RG (ρ x)) h n
 | .binOp .eql t x y _=>keepA ((eqA P t (ρ x) (ρ y) h).map .bool) h n
 | .binOp .neq t x y _=>keepA ((eqA P t (ρ x) (ρ y) h).map fun b=>.bool !b) h n
 | .convert s d x=>SA P s d (ρ x) h n
 | .makeFunc (.func f) first cap=>some (.func (.func f) (first.map ρ) (cap.map ρ),h,n)
 | .makeMap t r=>(match P.underlying t with | some (.map _ _)=>bif isInt (r.map ρ) then Js (.map [] 0) Nj h n else none | _=>none)
 | .makeSlice t l c=>RD P t (ρ l) (ρ c) h n
 | .slice t x lo hi mx=>keepA (PH P t (ρ x) (lo.map ρ) (hi.map ρ) (mx.map ρ) h) h n
 | .fieldAddr s x f=>keepA (O8 P s (ρ x) f) h n
 | .field t x f=>keepA (O9 P t (ρ x) f) h n
 | .indexAddr t x i=>keepA (PD P t (ρ x) (ρ i)) h n
 | .index t x i=>keepA (RF P t (ρ x) (ρ i)) h n
 | .lookup t m k ok=>keepA (Ri P t (ρ m) (ρ k) ok h) h n
 | .mapEntry t m k=>(Ru P t (ρ m) (ρ k) h).map fun r=>(r.1,r.2,n)
 | .entryStore _ m s x=>LU (Rx (ρ m) (ρ s) (ρ x) h) n
 | .mapUpdate t m k x | .insert t m k x=>LU (Rj P t (ρ m) (ρ k) (ρ x) h) n
 | .range t x=>PO P t (ρ x) h n
 | .next it isS=>(PP (ρ it) isS h).map fun r=>(r.1,r.2,n)
 | .entry it=>keepA (Rk (ρ it) h) h n
 | .extract t i=>keepA (PE (ρ t) i) h n
 | .call c=>(match c.callee with | .builtin b=>Ju P b c.argTypes (c.args.toList.map ρ) h n | _=>none)
 | _=>none
def OpN (P:Program) (base:Nat) (θ:Th) (w:World) (m:Sem Next) (v:Value) (h':H):Prop :=
 ∃nx θ' w' v',m.run P w=.ok nx w'∧(nx=.value v'∨nx=.skip∧v'=undef)∧Ext θ θ'∧VR θ' v v'∧WR P base θ' h' w'∧Keep base w w'
section
variable {P:Program} {base:Nat} {θ:Th} {w:World} {h h':H} {t:TypeId} {n n':Nat}
theorem Io:VR θ undef undef:=.tup .nil .nil
theorem OpN.of {s:Sem Value} {v:Value} (k:CE P base θ w s v h'):OpN P base θ w (do pure (.value (←s))) v h':=by
 obtain ⟨v',θ',w',h1,h2,h3,h4,h5⟩:=k
 exact ⟨.value v',θ',w',v',by simp [h1],.inl rfl,h2,h3,h4,h5⟩
theorem OpN.unit {s:Sem Unit} (k:CG P base θ w s h'):OpN P base θ w (do s;pure .skip) undef h':=by
 obtain ⟨θ',w',h1,h2,h4,h5⟩:=k
 exact ⟨.skip,θ',w',undef,by simp [h1],.inr ⟨rfl,rfl⟩,h2,Io,h4,h5⟩
theorem OpN.val {m:Sem Next} {v v':Value} (r:WR P base θ h w) (hm:m.run P w=.ok (.value v') w) (hv:VR θ v v'):OpN P base θ w m v h :=
 ⟨.value v',θ,w,v',hm,.inl rfl,Ext.refl θ,hv,r,Keep.refl base w⟩
theorem OpN.keep {s:Sem Value} {v:Value} (r:WR P base θ h w) (k:∃v',s.run P w=.ok v' w∧VR θ v v'):OpN P base θ w (do pure (.value (←s))) v h:=by
 obtain ⟨v',h1,h2⟩:=k
 exact OpN.val r (by simp [h1]) h2
theorem dC {ρ ρ':Operand→Value} {o:Oper} {v:Value} (hf:DF P ρ o=some v) (hρ:∀x,VR θ (ρ x) (ρ' x)):(execOp ρ' o).run P w=.ok (.value v) w∧flat v=true:=by
 unfold DF at hf
 cases hc:(Il o.op&&o.op.operands.toList.all (fun x=>flat (ρ x)))
 ·rw [hc] at hf;cases hf
 rw [hc,cond_true] at hf
 simp only [Bool.and_eq_true,List.all_eq_true] at hc
 have hs:∀cs b,o.op≠.select cs b:=fun cs b e=>by have:=hc.1;rw [e] at this;cases this
 have he:execOp ρ o=execOp ρ' o:=execOp_congr o hs fun x hx=>(Dz (hρ x) (hc.2 x (by simpa using hx))).symm
 split at hf
 ·rename_i u hu
  cases hfl:flat u
  ·rw [hfl] at hf;cases hf
  rw [hfl] at hf;cases hf
  exact ⟨by rw [←he];exact VW hu,hfl⟩
 ·cases hf
theorem FY {x:Option Value} {v:Value} (hk:keepA x h n=some (v,h',n')):x=some v∧h'=h∧n'=n:=by
 unfold keepA at hk
 rw [Option.map_eq_some_iff] at hk
 obtain ⟨y,hy,e⟩:=hk
 cases e
 exact ⟨hy,rfl,rfl⟩
theorem PU {x:Option H} {v:Value} (hk:LU x n=some (v,h',n')):x=some h'∧v=undef∧n'=n:=by
 unfold LU at hk
 rw [Option.map_eq_some_iff] at hk
 obtain ⟨y,hy,e⟩:=hk
 cases e
 exact ⟨hy,rfl,rfl⟩
theorem LV {ρ ρ':Operand→Value} (hρ:∀x,VR θ (ρ x) (ρ' x)) (l:List Operand):VL θ (l.map ρ) (l.map ρ'):=by
 induction l with
 | nil=>exact .nil
 | cons x l ih=>exact .cons (hρ x) ih
theorem Vj {ρ ρ':Operand→Value} (hρ:∀x,VR θ (ρ x) (ρ' x)) (parts:Array (Nat×Operand)) :
  (JK ρ parts)=(parts.map fun p=>(p.1,ρ p.2)).toList∧(parts.map fun p=>(p.1,ρ p.2)).toList.map (·.1)=(parts.map fun p=>(p.1,ρ' p.2)).toList.map (·.1) ∧
  VL θ ((parts.map fun p=>(p.1,ρ p.2)).toList.map (·.2)) ((parts.map fun p=>(p.1,ρ' p.2)).toList.map (·.2)):=by
 refine ⟨by simp [JK],by simp,?_⟩
 have:=LV hρ (parts.toList.map (·.2))
 simpa [Function.comp_def] using this
theorem SG {ρ ρ':Operand→Value} (hρ:∀x,VR θ (ρ x) (ρ' x)) (x:Option Operand):OR θ (x.map ρ) (x.map ρ'):=by
 cases x with
 | none=>trivial
 | some x=>exact hρ x
theorem Jv {l:List Value} {x:Value} {a:Array Value} (h1:VL θ [x] a.toList):∃x',a=#[x']∧VR θ x x':=by
 obtain ⟨x',l',e,h2,h3⟩:=h1.DY
 have:=h3.Ci
 subst this
 exact ⟨x',Array.toList_inj.1 (by simpa using e),h2⟩
theorem LX {x y:Value} {a:Array Value} (h1:VL θ [x,y] a.toList):∃x' y',a=#[x',y']∧VR θ x x'∧VR θ y y':=by
 obtain ⟨x',l',e,h2,h3⟩:=h1.DY
 obtain ⟨y',l'',e2,h4,h5⟩:=h3.DY
 have:=h5.Ci
 subst this
 subst e2
 exact ⟨x',y',Array.toList_inj.1 (by simpa using e),h2,h4⟩
theorem dD {b:Builtin} {ts:Array TypeId} {ty:TypeId} {cs:Array Bool} {args:List Value} {args':Array Value} {v:Value} (r:WR P base θ h w) (hb:base≤w.heap.size)
  (he:Ju P b ts args h n=some (v,h',n')) (ha:VL θ args args'.toList):OpN P base θ w (builtin b ts ty cs args') v h':=by
 unfold Ju at he
 split at he
 ·obtain ⟨x',rfl,hx⟩:=Jv (l:=[]) ha
  rw [Option.bind_eq_some_iff] at he
  obtain ⟨t,ht,he⟩:=he
  obtain ⟨h1,rfl,rfl⟩:=FY he
  exact OpN.keep r (bJ r ht h1 hx)
 ·obtain ⟨x',y',rfl,hx,hy⟩:=LX ha
  rw [Option.bind_eq_some_iff] at he
  obtain ⟨t,ht,he⟩:=he
  cases hn:PM P ts[1]?
  ·rw [hn] at he;cases he
  rw [hn,cond_true] at he
  exact OpN.of (aJ r hb ht hn he hx hy)
 ·obtain ⟨x',y',rfl,hx,hy⟩:=LX ha
  rw [Option.bind_eq_some_iff] at he
  obtain ⟨t,ht,he⟩:=he
  obtain ⟨h1,rfl,rfl⟩:=FY he
  exact OpN.keep r (bM r ht h1 hx hy)
 ·obtain ⟨x',rfl,hx⟩:=Jv (l:=[]) ha
  rw [Option.bind_eq_some_iff] at he
  obtain ⟨t,ht,he⟩:=he
  rw [Option.map_eq_some_iff] at he
  obtain ⟨h1,hc,e⟩:=he
  cases e
  exact OpN.of (bK r hb ht hc hx)
 ·obtain ⟨x',rfl,hx⟩:=Jv (l:=[]) ha
  obtain ⟨h1,rfl,rfl⟩:=FY he
  exact OpN.keep r (bW r h1 hx)
 ·obtain ⟨x',y',rfl,hx,hy⟩:=LX ha
  rw [Option.bind_eq_some_iff] at he
  obtain ⟨t,ht,he⟩:=he
  rw [Option.map_eq_some_iff] at he
  obtain ⟨⟨u,h1⟩,hc,e⟩:=he
  cases e
  exact OpN.of (dB r ht hc hx hy)
 ·cases he
end
end Go.Proofs.YtihlneenajlhoaaGreatDoor.ae
/-
 A run of one goroutine over known values: an operation of any kind, in the store and in the world. Condition: the store and the world belong together (WR).
-/
set_option linter.unusedVariables false
set_option linter.unusedSimpArgs false
namespace Go.Proofs.YtihlneenajlhoaaGreatDoor.ae
open Go
section
variable {P:Program} {base:Nat} {θ:Th} {w:World} {h h':H} {n n':Nat}
theorem dE {ρ ρ':Operand→Value} {o:Oper} {v:Value} (r:WR P base θ h w) (hb:base≤w.heap.size) (he:Af P ρ o.op h n=some (v,h',n')) (hρ:∀x,VR θ (ρ x) (ρ' x)) :
  OpN P base θ w (execOp ρ' o) v h':=by
 obtain ⟨dst,op,type,pos,after,guard⟩:=o
 dsimp only at he
 cases op with
 | move x =>
  simp only [Af,Option.some.injEq,Prod.mk.injEq] at he
  obtain ⟨rfl,rfl,rfl⟩:=he
  exact OpN.val r rfl (hρ x)
 | assign x =>
  simp only [Af,Option.some.injEq,Prod.mk.injEq] at he
  obtain ⟨rfl,rfl,rfl⟩:=he
  exact OpN.val r rfl (hρ x)
 | pick c a b =>
  simp only [Af] at he
  split at he
  ·rename_i t hc
   have e1:=Dz (hρ c) (by rw [hc];rfl)
   rw [hc] at e1
   cases he
   cases t
   ·exact OpN.val r (by simp [execOp,e1,asBool]) (hρ b)
   ·exact OpN.val r (by simp [execOp,e1,asBool]) (hρ a)
  ·cases he
 | alloc e =>
  simp only [Af,Option.bind_eq_some_iff] at he
  obtain ⟨z,hz,he⟩:=he
  cases ha:(lst z).all atom
  ·rw [ha] at he;cases he
  rw [ha,cond_true] at he
  exact OpN.of (Zu r hb hz ha he)
 | box e x =>
  simp only [Af] at he
  exact OpN.of (Zv r hb he (hρ x))
 | build t parts =>
  simp only [Af] at he
  obtain ⟨h1,rfl,rfl⟩:=FY he
  obtain ⟨p1,p2,p3⟩:=Vj hρ parts
  rw [p1] at h1
  exact OpN.keep r (Zy h1 p2 p3)
 | buildSlice t len parts =>
  simp only [Af] at he
  obtain ⟨p1,p2,p3⟩:=Vj hρ parts
  rw [p1] at he
  exact OpN.of (Z4 r hb he p2 p3)
 | load t a =>
  simp only [Af] at he
  obtain ⟨h1,rfl,rfl⟩:=FY he
  exact OpN.keep r (VS r h1 (hρ a))
 | store t a x =>
  simp only [Af] at he
  obtain ⟨h1,rfl,rfl⟩:=PU he
  exact OpN.unit (Zt r hb h1 (hρ a) (hρ x))
 | nilCheck x =>
  simp only [Af] at he
  obtain ⟨h1,rfl,rfl⟩:=FY he
  have hx:=hρ x
  generalize hy:ρ' x=y at hx
  generalize ρ x=x0 at hx h1
  unfold RG at h1
  split at h1
  ·cases h1
   cases hx with
   | same hh _=>simp [atom] at hh
   | ptr hp _=>exact OpN.val r (by simp [execOp,hy]) (.ptr hp .nil)
  ·cases h1
 | binOp op t x y yt =>
  cases op with
  | eql =>
   simp only [Af] at he
   obtain ⟨h1,rfl,rfl⟩:=FY he
   rw [Option.map_eq_some_iff] at h1
   obtain ⟨b,hbq,rfl⟩:=h1
   exact OpN.of (CE.same r (Vd hbq (hρ x) (hρ y)).1 (.same rfl .nil))
  | neq =>
   simp only [Af] at he
   obtain ⟨h1,rfl,rfl⟩:=FY he
   rw [Option.map_eq_some_iff] at h1
   obtain ⟨b,hbq,rfl⟩:=h1
   exact OpN.of (CE.same r (Vd hbq (hρ x) (hρ y)).2 (.same rfl .nil))
  | _=>simp [Af] at he
 | convert s d x =>
  simp only [Af] at he
  exact OpN.of (bV r hb he (hρ x))
 | makeFunc fn first cap =>
  cases fn with
  | func f =>
   simp only [Af,Option.some.injEq,Prod.mk.injEq] at he
   obtain ⟨rfl,rfl,rfl⟩:=he
   exact OpN.val (v':=.func (.func f) (first.map ρ') (cap.map ρ')) r (by simp [execOp,Instr.makeFunc]) (.func (by simpa using LV hρ first.toList) (by simpa using LV hρ cap.toList) .nil)
  | _=>simp [Af] at he
 | makeMap t rv =>
  simp only [Af] at he
  split at he
  ·rename_i k e hu
   cases hi:isInt (rv.map ρ)
   ·rw [hi] at he;cases he
   rw [hi,cond_true] at he
   refine OpN.of (bC (rv:=rv.map ρ) r hb ⟨k,e,hu⟩ (fun x hx => ?_) he)
   cases rv with
   | none=>cases hx
   | some x0 =>
    simp only [Option.map_some,Option.some.injEq] at hx hi
    subst hx
    unfold isInt at hi
    split at hi
    ·rename_i e0;cases e0
    ·rename_i k i e0
     simp only [Option.some.injEq] at e0
     have:=Dz (hρ x0) (by rw [e0];rfl)
     exact ⟨k,i,by rw [this,e0]⟩
    ·cases hi
  ·cases he
 | makeSlice t l c =>
  simp only [Af] at he
  exact OpN.of (aB r hb he (hρ l) (hρ c))
 | slice t x lo hi mx =>
  simp only [Af] at he
  obtain ⟨h1,rfl,rfl⟩:=FY he
  exact OpN.keep r (aC r h1 (hρ x) (SG hρ lo) (SG hρ hi) (SG hρ mx))
 | fieldAddr t x f =>
  simp only [Af] at he
  obtain ⟨h1,rfl,rfl⟩:=FY he
  exact OpN.keep r (Z5 h1 (hρ x))
 | field t x f =>
  simp only [Af] at he
  obtain ⟨h1,rfl,rfl⟩:=FY he
  exact OpN.keep r (Z7 h1 (hρ x))
 | indexAddr t x i =>
  simp only [Af] at he
  obtain ⟨h1,rfl,rfl⟩:=FY he
  exact OpN.keep r (Z8 h1 (hρ x) (hρ i))
 | index t x i =>
  simp only [Af] at he
  obtain ⟨h1,rfl,rfl⟩:=FY he
  exact OpN.keep r (Z9 h1 (hρ x) (hρ i))
 | lookup t m k ok =>
  simp only [Af] at he
  obtain ⟨h1,rfl,rfl⟩:=FY he
  exact OpN.keep r (aY r h1 (hρ m) (hρ k))
 | mapEntry t m k =>
  simp only [Af] at he
  rw [Option.map_eq_some_iff] at he
  obtain ⟨⟨u,h1⟩,hc,e⟩:=he
  cases e
  exact OpN.of (bD r hc (hρ m) (hρ k))
 | entryStore t m s x =>
  simp only [Af] at he
  obtain ⟨h1,rfl,rfl⟩:=PU he
  exact OpN.unit (bF r h1 (hρ m) (hρ s) (hρ x))
 | mapUpdate t m k x =>
  simp only [Af] at he
  obtain ⟨h1,rfl,rfl⟩:=PU he
  exact OpN.unit (Vb r h1 (hρ m) (hρ k) (hρ x))
 | insert t m k x =>
  simp only [Af] at he
  obtain ⟨h1,rfl,rfl⟩:=PU he
  exact OpN.unit (Vb r h1 (hρ m) (hρ k) (hρ x))
 | range t x =>
  simp only [Af] at he
  exact OpN.of (bG r hb he (hρ x))
 | next it isS =>
  simp only [Af] at he
  rw [Option.map_eq_some_iff] at he
  obtain ⟨⟨u,h1⟩,hc,e⟩:=he
  cases e
  exact OpN.of (bH r hc (hρ it))
 | entry it =>
  simp only [Af] at he
  obtain ⟨h1,rfl,rfl⟩:=FY he
  exact OpN.keep r (bI r h1 (hρ it))
 | extract t i =>
  simp only [Af] at he
  obtain ⟨h1,rfl,rfl⟩:=FY he
  exact OpN.keep r (aA h1 (hρ t))
 | call c =>
  simp only [Af] at he
  split at he
  ·rename_i b hcl
   have hm:execOp ρ' ⟨dst,.call c,type,pos,after,guard⟩=builtin b c.argTypes type (c.args.map fun | .const _=>true | _=>false) (c.args.map ρ'):=by
    simp only [execOp,resolve,hcl]
    rfl
   rw [hm]
   exact dD r hb he (by simpa using LV hρ c.args.toList)
  ·cases he
 | _=>simp [Af] at he
end
end Go.Proofs.YtihlneenajlhoaaGreatDoor.ae
/-
 A run of one goroutine over known values: temporaries and operands; an operation, calls among them, and a row of operations. Conditions: the store and the world belong together (WR), calls do what is said of them (CallOk).
-/
set_option linter.unusedVariables false
set_option linter.unusedSimpArgs false
namespace Go.Proofs.YtihlneenajlhoaaGreatDoor.ae
open Go
def Dw (tm:T Value) (t:Nat):Value:=(tm.get t).getD undef
def CO (N:Nat) (tm:T Value) (dst:Option Tmp) (v:Value):Option (T Value):=match dst with
 | none=>some tm
 | some d=>bif Nat.blt d N&&Nat.ble d lim then some (T.put v 24 tm d) else none
def okO (G:Nat):Operand→Bool
 | .const v=>flat v
 | .global g=>Nat.blt g G
 | _=>true
def evA (G:Nat) (tm:T Value):Operand→Value
 | .tmp t=>Dw tm t
 | .const v=>bif flat v then v else undef
 | .global g=>bif Nat.blt g G then .pointer (some ⟨g,0,none⟩) else undef
 | .func f=>.func (.func f) #[] #[]
def evC (G:Nat) (a:Act) (x:Operand):Value:=bif okO G x then a.eval x else undef
def Gl (P:Program) (h0:H) (G base:Nat) (θ:Th) (w:World):Prop:=∃θ0,Ext θ0 θ∧(∀g,g<G→∃p,θ0 g=some p∧p.b=g)∧WR P base θ0 h0 w∧∀i p,θ0 i=some p→p.b<base
abbrev DV:=FuncId×List Value
inductive DL (θ:Th):List DV→List Deferred→Prop
 | nil:DL θ [] []
 | cons {g:FuncId} {l:List Value} {cap dargs:Array Value} {ds:List DV} {dds:List Deferred} (hv:VL θ l (dargs++cap).toList) (t:DL θ ds dds):DL θ ((g,l) :: ds) ({ target:=.fn (.func g) cap,args:=dargs } :: dds)
structure AR (θ:Th) (N:Nat) (tm:T Value) (ds:List DV) (a:Act):Prop where
 defers:DL θ ds a.defers
 size:a.tmps.size=N
 val:∀x,VR θ (Dw tm x) (a.tmps.getD x undef)
abbrev Ah:=FuncId→List Value→H→Nat→R
def Ret (P:Program) (base:Nat) (θ:Th) (w:World) (v:Value) (h':H) (e:Ending) (w':World):Prop :=
 ∃v' θ',e=.returned v'∧Ext θ θ'∧VR θ' v v'∧WR P base θ' h' w'∧Keep base w w'
inductive Ans (P:Program) (base:Nat) (θ:Th) (w:World) (m:Sem Next) (v:Value) (h':H):Prop
 | op (k:OpN P base θ w m v h'):Ans P base θ w m v h'
 | enter {f:FuncId} {args:Array Value} (hm:m.run P w=.ok (.enter f args) w) (k:Calls P f args w (Ret P base θ w v h')):Ans P base θ w m v h'
def Bg (P:Program) (h0:H) (G:Nat) (call:Ah):Prop:=∀(g:FuncId) (args:List Value) (h:H) (n:Nat) (v:Value) (h':H) (n':Nat),call g args h n=some (v,h',n') →
 ∀(base:Nat) (θ:Th) (w:World) (args':Array Value),Gl P h0 G base θ w→WR P base θ h w→base≤w.heap.size→VL θ args args'.toList→Ans P base θ w (callFunc g args') v h'
def evalOp (P:Program) (G:Nat) (call:Ah) (tm:T Value) (o:Oper) (h:H) (n:Nat):R :=
 bif o.op.operands.toList.all (okO G) then
  (match o.op with
  | .call c=>(match c.callee with
   | .value f=>(match evA G tm f with
    | .func (.func g) first cap=>call g (first.toList++(c.args.toList.map (evA G tm)++cap.toList)) h n
    | _=>none)
   | _=>(match DF P (evA G tm) o with
    | some v=>some (v,h,n)
    | none=>Af P (evA G tm) o.op h n))
  | _=>(match DF P (evA G tm) o with
   | some v=>some (v,h,n)
   | none=>Af P (evA G tm) o.op h n))
 else none
def PV (G:Nat) (tm:T Value) (o:Oper):Option DV:=match o.op with
 | .defer c=>bif o.op.operands.toList.all (okO G) then (match c.callee with
   | .value f=>(match evA G tm f with
    | .func (.func g) first cap=>some (g,first.toList++(c.args.toList.map (evA G tm)++cap.toList))
    | _=>none)
   | _=>none) else none
 | _=>none
structure St where
 tm:T Value
 h:H
 n:Nat
 ds:List DV
def EP (ops:Array Oper) (tm:T Value) (j:Nat):Option Bool:=match (ops[j]?).bind (·.dst) with
 | some t=>(match Dw tm t with | .bool b=>some b | _=>none)
 | none=>none
def Jw:Op→Bool
 | .call c=>(match c.callee with | .value _=>true | _=>false)
 | _=>false
def Ei (P:Program) (G:Nat) (call:Ah) (N:Nat) (ops:Array Oper) (dr:Option Nat) (i:Nat) (s:St):Option St:=match ops[i]? with
 | none=>some s
 | some o=>bif Region.wanted o (EP ops s.tm) then
   (match dr with
   | none=>(match PV G s.tm o with
    | some d=>(CO N s.tm o.dst undef).map fun tm=>⟨tm,s.h,s.n,d :: s.ds⟩
    | none=>(evalOp P G call s.tm o s.h s.n).bind fun r=>(CO N s.tm o.dst r.1).map fun tm=>⟨tm,r.2.1,r.2.2,s.ds⟩)
   | some n0=>bif Jw o.op then (evalOp P G call s.tm o s.h s.n).bind fun r=>(CO N s.tm o.dst r.1).map fun tm=>⟨tm,r.2.1,r.2.2,s.ds⟩
    else (evalOp P G call s.tm o s.h (n0+i)).bind fun r=>(CO N s.tm o.dst r.1).map fun tm=>⟨tm,r.2.1,s.n,s.ds⟩)
  else (CO N s.tm o.dst undef).map fun tm=>⟨tm,s.h,s.n,s.ds⟩
def FZ (P:Program) (G:Nat) (call:Ah) (N:Nat) (ops:Array Oper) (dr:Option Nat):List Nat→St→Option St
 | [],s=>some s
 | i :: l,s=>(Ei P G call N ops dr i s).bind (FZ P G call N ops dr l)
section
variable {P:Program} {G N base:Nat} {θ θ':Th} {w w':World} {h h' h0:H} {n n':Nat} {call:Ah} {tm tm':T Value} {ds ds':List DV} {a:Act} {v v':Value}
theorem DL.mono {dds:List Deferred} (r:DL θ ds dds) (hx:Ext θ θ'):DL θ' ds dds:=by
 induction r with
 | nil=>exact .nil
 | cons hv _ ih=>exact .cons (hv.mono hx) ih
theorem AR.mono (r:AR θ N tm ds a) (hx:Ext θ θ'):AR θ' N tm ds a:=⟨r.defers.mono hx,r.size,fun x=>(r.val x).mono hx⟩
theorem Gl.at_ (gl:Gl P h0 G base θ w) (g:Nat) (hg:g<G):∃p,θ g=some p∧p.b=g :=
 let ⟨θ0,h1,h2,h3,h4⟩:=gl
 let ⟨p,k1,k2⟩:=h2 g hg
 ⟨p,h1 _ _ k1,k2⟩
theorem Gl.mono (gl:Gl P h0 G base θ w) (hx:Ext θ θ') (k:Keep base w w'):Gl P h0 G base θ' w':=by
 obtain ⟨θ0,h1,h2,h3,h4⟩:=gl
 refine ⟨θ0,h1.trans hx,h2,⟨h3.dom,fun i ab g => ?_,h3.inj⟩,h4⟩
 obtain ⟨p,k1,k2⟩:=h3.at_ i ab g
 exact ⟨p,k1,k2.mono (Ext.refl θ0) fun _=>k.block _ (h4 i p k1)⟩
theorem AR.put {a':Act} {dst:Option Tmp} (r:AR θ N tm ds a) (hv:VR θ v v') (hp:CO N tm dst v=some tm') (ht:a'.tmps=(a.put dst v').tmps) (hd:DL θ ds' a'.defers):AR θ N tm' ds' a':=by
 refine ⟨hd,?_,fun x => ?_⟩
 ·rw [ht];cases dst<;>simp [Act.put,r.size]
 ·rw [ht]
  unfold CO at hp
  cases dst with
  | none=>cases hp;exact r.val x
  | some d =>
   dsimp only at hp
   cases hc:(Nat.blt d N&&Nat.ble d lim)
   ·rw [hc] at hp;cases hp
   rw [hc] at hp
   simp only [cond_true,Option.some.injEq] at hp
   subst hp
   simp only [Bool.and_eq_true] at hc
   have c1:d<N:=Nat.le_of_ble_eq_true hc.1
   unfold Dw
   rw [T.get_put v 24 tm d x (O0 hc.2)]
   by_cases e:x=d
   ·subst e
    have:((a.put (some x) v').tmps.getD x undef)=v':=by simp [Act.put,r.size,c1]
    rw [if_pos rfl,this];exact hv
   ·have:((a.put (some d) v').tmps.getD x undef)=a.tmps.getD x undef:=by
     simp [Act.put,Array.getElem?_setIfInBounds_ne (Ne.symm e)]
    rw [if_neg e,this];exact r.val x
theorem JL (r:AR θ N tm ds a) (gl:Gl P h0 G base θ w) (x:Operand):VR θ (evA G tm x) (evC G a x):=by
 cases x with
 | tmp t=>exact r.val t
 | const u =>
  simp only [evA,evC,okO,Act.eval]
  cases hf:flat u
  ·exact Io
  ·exact Gn hf
 | global g =>
  simp only [evA,evC,okO,Act.eval]
  cases hf:Nat.blt g G
  ·exact Io
  ·obtain ⟨p,h1,h2⟩:=gl.at_ g (Nat.le_of_ble_eq_true hf)
   subst h2
   exact .ptr h1 .nil
 | func f=>exact .func .nil .nil .nil
theorem SH {o:Oper} (hs:∀cs b,o.op≠.select cs b) (hk:o.op.operands.toList.all (okO G)=true):execOp a.eval o=execOp (evC G a) o :=
 execOp_congr o hs fun x hx=>by
  have:=List.all_eq_true.1 hk x (by simpa using hx)
  simp [evC,this]
theorem SI {g:FuncId} {b c:Array Value} (k:VR θ (.func (.func g) b c) v'):∃b' c',v'=.func (.func g) b' c'∧VL θ b.toList b'.toList∧VL θ c.toList c'.toList:=by
 cases k with
 | same hh _=>simp [atom] at hh
 | func h1 h2 _=>exact ⟨_,_,rfl,h1,h2⟩
theorem Vk {o:Oper} (gl:Gl P h0 G base θ w) (ar:AR θ N tm ds a) (r:WR P base θ h w) (hb:base≤w.heap.size) (he:execOp a.eval o=execOp (evC G a) o)
  (hv:(match DF P (evA G tm) o with | some v=>some (v,h,n) | none=>Af P (evA G tm) o.op h n)=some (v,h',n')):Ans P base θ w (execOp a.eval o) v h':=by
 rw [he]
 split at hv
 ·rename_i u hu
  cases hv
  obtain ⟨h1,h2⟩:=dC (P:=P) (w:=w) hu (JL ar gl)
  exact .op (OpN.val r h1 (Gn h2))
 ·exact .op (dE r hb hv (JL ar gl))
theorem dF {o:Oper} (hc:Bg P h0 G call) (gl:Gl P h0 G base θ w) (ar:AR θ N tm ds a) (r:WR P base θ h w) (hb:base≤w.heap.size)
  (hv:evalOp P G call tm o h n=some (v,h',n')):Ans P base θ w (execOp a.eval o) v h':=by
 unfold evalOp at hv
 cases hk:o.op.operands.toList.all (okO G)
 ·rw [hk] at hv;cases hv
 rw [hk,cond_true] at hv
 split at hv
 ·rename_i c hop
  have he:execOp a.eval o=execOp (evC G a) o:=SH (fun cs b e=>by rw [hop] at e;cases e) hk
  split at hv
  ·rename_i f hcl
   split at hv
   ·rename_i g first cap hf
    have hr:=JL ar gl f
    rw [hf] at hr
    obtain ⟨first',cap',e1,k1,k2⟩:=SI hr
    have hm:execOp a.eval o=callFunc g (first'++c.args.map (evC G a)++cap'):=by
     rw [he]
     simp only [execOp,hop,resolve,hcl,e1,Deferred.ofValue,pure_bind,invoke]
    rw [hm]
    refine hc _ _ _ _ _ _ _ hv base θ w _ gl r hb ?_
    have:=LV (JL ar gl) c.args.toList
    simp only [Array.toList_append,Array.toList_map,List.append_assoc]
    exact k1.append (this.append k2)
   ·cases hv
  ·exact Vk gl ar r hb he hv
 ·rename_i hn1
  have hs:∀cs b,o.op≠.select cs b:=fun cs b e=>by
   have e1:DF P (evA G tm) o=none:=by simp [DF,e,Il]
   rw [e1,e] at hv
   simp [Af] at hv
  exact Vk gl ar r hb (SH hs hk) hv
theorem put_defers {dst:Option Tmp}:(a.put dst v').defers=a.defers:=by cases dst<;>rfl
theorem Ans.wp {o:Oper} {next:Act→World→Prop} {Q:Exit→Act→World→Prop} (k:Ans P base θ w (execOp a.eval o) v h') (ar:AR θ N tm ds a) (hp:CO N tm o.dst v=some tm')
  (hn:∀a' θ' w',Ext θ θ'→AR θ' N tm' ds a'→WR P base θ' h' w'→Keep base w w'→next a' w'):o.wp P a w next Q:=by
 unfold Oper.wp
 cases k with
 | op k =>
  obtain ⟨nx,θ',w',v',h1,h2,h3,h4,h5,h6⟩:=k
  rw [h1]
  rcases h2 with rfl | ⟨rfl,rfl⟩
  ·exact hn _ θ' w' h3 ((ar.mono h3).put h4 hp rfl (by rw [put_defers];exact (ar.mono h3).defers)) h5 h6
  ·exact hn _ θ' w' h3 ((ar.mono h3).put h4 hp rfl (by rw [put_defers];exact (ar.mono h3).defers)) h5 h6
 | enter hm k =>
  rw [hm]
  refine Calls.mono k fun e w' he => ?_
  obtain ⟨v',θ',rfl,h3,h4,h5,h6⟩:=he
  exact hn _ θ' w' h3 ((ar.mono h3).put h4 hp rfl (by rw [put_defers];exact (ar.mono h3).defers)) h5 h6
theorem dG {o:Oper} {d:DV} {next:Act→World→Prop} {Q:Exit→Act→World→Prop} (hd:PV G tm o=some d) (gl:Gl P h0 G base θ w) (ar:AR θ N tm ds a) (r:WR P base θ h w) (hp:CO N tm o.dst undef=some tm')
  (hn:∀a' θ' w',Ext θ θ'→AR θ' N tm' (d :: ds) a'→WR P base θ' h w'→Keep base w w'→next a' w'):o.wp P a w next Q:=by
 unfold PV at hd
 split at hd
 ·rename_i c hop
  cases hk:o.op.operands.toList.all (okO G)
  ·rw [hk] at hd;cases hd
  rw [hk,cond_true] at hd
  have he:execOp a.eval o=execOp (evC G a) o:=SH (fun cs b e=>by rw [hop] at e;cases e) hk
  split at hd
  ·rename_i f hcl
   split at hd
   ·rename_i g first cap hf
    cases hd
    have hr:=JL ar gl f
    rw [hf] at hr
    obtain ⟨first',cap',e1,k1,k2⟩:=SI hr
    have hm:(execOp a.eval o).run P w=.ok (.defer { target:=.fn (.func g) cap',args:=first'++c.args.map (evC G a) }) w:=by
     rw [he]
     simp [execOp,hop,resolve,hcl,e1,Deferred.ofValue]
    unfold Oper.wp
    rw [hm]
    refine hn _ θ w (Ext.refl θ) (ar.put Io hp (v':=undef) ?_ ?_) r (Keep.refl base w)
    ·cases ho:o.dst<;>simp [Act.put]
    ·have:=LV (JL ar gl) c.args.toList
     have hv:VL θ (first.toList++(c.args.toList.map (evA G tm)++cap.toList)) (first'++c.args.map (evC G a)++cap').toList:=by
      simp only [Array.toList_append,Array.toList_map,List.append_assoc]
      exact k1.append (this.append k2)
     rw [put_defers]
     exact .cons hv ar.defers
   ·cases hd
  ·cases hd
 ·cases hd
def SK:Value→Option Bool
 | .bool b=>some b
 | _=>none
theorem dH {x u:Value} (k:VR θ x u):SK u=SK x:=by
 cases k with
 | same _ _=>rfl
 | _=>rfl
theorem dI (u:Value):(match u with | .bool b=>some b | _=>none)=SK u:=by cases u<;>rfl
theorem SL (ar:AR θ N tm ds a) (ops:Array Oper):yielded ops a.tmps=EP ops tm:=by
 funext j
 unfold yielded EP
 cases hd:(ops[j]?).bind (·.dst) with
 | none=>rfl
 | some t =>
  have hv:=dH (ar.val t)
  simp only [Option.bind_some]
  refine Eq.trans ?_ (hv.trans (dI _).symm)
  cases hg:a.tmps[t]? with
  | none=>rw [show a.tmps.getD t undef=undef by simp [hg]];rfl
  | some u=>rw [show a.tmps.getD t undef=u by simp [hg]];cases u<;>rfl
def PW (P:Program) (ops:Array Oper) (Q:Exit→Act→World→Prop) (i:Nat) (K:Act→World→Prop) (a:Act) (w:World):Prop:=match ops[i]? with
 | none=>K a w
 | some o=>if Region.wanted o (yielded ops a.tmps) then o.wp P a w K Q else K (a.put o.dst undef) w
theorem Vl {ops:Array Oper} {dr:Option Nat} {i:Nat} {s s':St} {K:Act→World→Prop} {Q:Exit→Act→World→Prop} (hc:Bg P h0 G call) (gl:Gl P h0 G base θ w) (ar:AR θ N s.tm s.ds a) (r:WR P base θ s.h w) (hb:base≤w.heap.size)
  (hv:Ei P G call N ops dr i s=some s')
  (hn:∀a' θ' w',Ext θ θ'→AR θ' N s'.tm s'.ds a'→WR P base θ' s'.h w'→Keep base w w'→K a' w'):PW P ops Q i K a w:=by
 unfold Ei at hv
 unfold PW
 split at hv
 ·rename_i ho
  cases hv
  first | simp only [ho] | skip
  exact hn a θ w (Ext.refl θ) ar r (Keep.refl base w)
 ·rename_i o ho
  first | simp only [ho,SL ar ops] | simp only [SL ar ops]
  cases hw:Region.wanted o (EP ops s.tm)
  ·rw [hw,cond_false,Option.map_eq_some_iff] at hv
   obtain ⟨tm',hp,rfl⟩:=hv
   simp only [Bool.false_eq_true,if_false]
   exact hn _ θ w (Ext.refl θ) (ar.put Io hp rfl (by rw [put_defers];exact ar.defers)) r (Keep.refl base w)
  ·rw [hw,cond_true] at hv
   simp only [if_true]
   have key:∀(nn:Nat) (n2:Value×H×Nat→Nat),((evalOp P G call s.tm o s.h nn).bind fun r=>(CO N s.tm o.dst r.1).map fun tm=>(⟨tm,r.2.1,n2 r,s.ds⟩:St))=some s'→o.wp P a w K Q:=fun nn n2 hv=>by
    rw [Option.bind_eq_some_iff] at hv
    obtain ⟨⟨v,h',n'⟩,hv1,hv⟩:=hv
    rw [Option.map_eq_some_iff] at hv
    obtain ⟨tm',hp,rfl⟩:=hv
    exact (dF hc gl ar r hb hv1).wp ar hp hn
   split at hv
   ·split at hv
    ·rename_i d hd
     rw [Option.map_eq_some_iff] at hv
     obtain ⟨tm',hp,rfl⟩:=hv
     exact dG hd gl ar r hp hn
    ·exact key _ (fun r=>r.2.2) hv
   ·cases hcl:Jw o.op
    ·rw [hcl] at hv;exact key _ (fun _=>s.n) hv
    ·rw [hcl] at hv;exact key _ (fun r=>r.2.2) hv
theorem dJ {ops:Array Oper} {dr:Option Nat} {i:Nat} {s s':St} {K:Act→World→Prop} {Q:Exit→Act→World→Prop} (hc:Bg P h0 G call) (gl:Gl P h0 G base θ w) (ar:AR θ N s.tm s.ds a) (r:WR P base θ s.h w) (hb:base≤w.heap.size)
  (hv:Ei P G call N ops dr i s=some s')
  (hn:∀a' θ' w',Ext θ θ'→AR θ' N s'.tm s'.ds a'→WR P base θ' s'.h w'→Keep base w w'→K a' w'):wpOp P ops Q i K a w:=by
 have:=Vl hc gl ar r hb hv hn (Q:=Q)
 unfold PW at this
 unfold wpOp
 split
 ·rename_i e;rw [e] at this;exact this
 ·rename_i o e
  rw [e] at this
  dsimp only at this
  split
  ·rename_i hw;rw [if_pos hw] at this;exact .inl this
  ·rename_i hw;rw [if_neg hw] at this;exact this
theorem Nl {ops:Array Oper} {dr:Option Nat} {Q:Exit→Act→World→Prop} (hc:Bg P h0 G call):∀(l:List Nat) (s s':St) (a:Act) (θ:Th) (w:World),FZ P G call N ops dr l s=some s' →
  Gl P h0 G base θ w→AR θ N s.tm s.ds a→WR P base θ s.h w→base≤w.heap.size →
  (∀a' θ' w',Ext θ θ'→AR θ' N s'.tm s'.ds a'→WR P base θ' s'.h w'→Keep base w w'→Q .normal a' w')→wpOps P ops Q l a w:=by
 intro l
 induction l with
 | nil =>
  intro s s' a θ w hv gl ar r hb hn
  cases hv
  exact hn a θ w (Ext.refl θ) ar r (Keep.refl base w)
 | cons i l ih =>
  intro s s' a θ w hv gl ar r hb hn
  simp only [FZ,Option.bind_eq_some_iff] at hv
  obtain ⟨s1,h1,h2⟩:=hv
  rw [wpOps_cons]
  refine dJ hc gl ar r hb h1 fun a1 θ1 w1 x1 ar1 r1 k1 => ?_
  exact ih s1 s' a1 θ1 w1 h2 (gl.mono x1 k1) ar1 r1 (Nat.le_trans hb k1.size) fun a2 θ2 w2 x2 ar2 r2 k2=>hn a2 θ2 w2 (x1.trans x2) ar2 r2 (k1.trans k2)
end
end Go.Proofs.YtihlneenajlhoaaGreatDoor.ae
