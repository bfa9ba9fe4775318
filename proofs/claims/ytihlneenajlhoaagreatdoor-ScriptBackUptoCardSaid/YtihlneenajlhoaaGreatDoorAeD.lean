/-
 A run of one goroutine over known values: a region whose order is drawn leaves one state behind, whatever the order. Condition: the look at its operations (anyA) finds it so.
-/
import Derived.Test.YtihlneenajlhoaaGreatDoorAeB
import Derived.Deep.LoopGhost
import Derived.Scope
import Derived.Recover
import Derived.Laws.Externs
import Derived.Lib.MakeNoZero
import Derived.Conc.AtomicLaws2
import GoSem.Extern.Table
import Derived.Shelf.SlIter.Collect
set_option linter.unusedVariables false
set_option linter.unusedSimpArgs false
namespace Go.Proofs.YtihlneenajlhoaaGreatDoor.ae
open Go
/-! Puts at two places. -/
theorem T.GG {α:Type} (x:α) (f:Nat) (v:Option α) (l r:T α) (k:Nat) :
  T.put x (f+1) (.node v l r) k=if k=0 then .node (some x) l r else if k%2=1 then .node v (T.put x f l (k / 2)) r else .node v l (T.put x f r (k / 2-1)):=by
 simp only [T.put]
 by_cases h:k=0
 ·subst h;rfl
 ·rw [EM h,cond_false,if_neg h]
  by_cases h2:k%2=1
  ·rw [GX h2,cond_true,if_pos h2]
  ·rw [EM h2,cond_false,if_neg h2]
theorem T.Vm {α:Type} (x:α) (f:Nat) (k:Nat):T.put x (f+1) .nil k=T.put x (f+1) (.node none .nil .nil) k:=rfl
theorem T.put_comm {α:Type} (x y:α):∀(f:Nat) (t:T α) (j k:Nat),j≠k→T.put y f (T.put x f t j) k=T.put x f (T.put y f t k) j:=by
 intro f
 induction f with
 | zero=>intro t j k h;rfl
 | succ f ih =>
  have node:∀(v:Option α) (l r:T α) (j k:Nat),j≠k→T.put y (f+1) (T.put x (f+1) (.node v l r) j) k=T.put x (f+1) (T.put y (f+1) (.node v l r) k) j:=by
   intro v l r j k h
   rw [T.GG x f v l r j,T.GG y f v l r k]
   by_cases hj:j=0
   ·have hk:k≠0:=fun e=>h (by omega)
    rw [if_pos hj,if_neg hk,T.GG,if_neg hk]
    split<;>rw [T.GG,if_pos hj]
   ·rw [if_neg hj]
    by_cases hk:k=0
    ·rw [if_pos hk,T.GG x,if_neg hj]
     split<;>rw [T.GG,if_pos hk]
    ·rw [if_neg hk]
     by_cases j2:j%2=1<;>by_cases k2:k%2=1
     ·rw [if_pos j2,if_pos k2,T.GG,T.GG,if_neg hk,if_neg hj,if_pos j2,if_pos k2,ih l (j / 2) (k / 2) (by omega)]
     ·rw [if_pos j2,if_neg k2,T.GG,T.GG,if_neg hk,if_neg hj,if_pos j2,if_neg k2]
     ·rw [if_neg j2,if_pos k2,T.GG,T.GG,if_neg hk,if_neg hj,if_neg j2,if_pos k2]
     ·rw [if_neg j2,if_neg k2,T.GG,T.GG,if_neg hk,if_neg hj,if_neg j2,if_neg k2,ih r (j / 2-1) (k / 2-1) (by omega)]
  intro t j k h
  cases t with
  | nil=>rw [T.Vm,T.Vm];exact node _ _ _ j k h
  | node v l r=>exact node v l r j k h
/-! Operations that only read. -/
def isRead:Op→Bool
 | .move _ | .assign _ | .pick .. | .build .. | .load .. | .nilCheck _ | .binOp .. | .unOp .. | .makeFunc .. | .slice .. | .fieldAddr .. | .field .. | .indexAddr .. | .index .. | .lookup .. | .entry _ | .extract ..=>true
 | .call c=>(match c.callee with | .builtin .len | .builtin .unsafeSliceData=>true | _=>false)
 | _=>false
def Jy:Op→Bool
 | .move _ | .assign _ | .pick .. | .build .. | .nilCheck _ | .makeFunc .. | .fieldAddr .. | .field .. | .indexAddr .. | .index .. | .extract ..=>true
 | _=>false
def Fv (P:Program) (G:Nat) (tm:T Value) (o:Oper) (h:H):Option Value :=
 bif o.op.operands.toList.all (okO G) then (match DF P (evA G tm) o with
  | some v=>some v
  | none=>bif isRead o.op then (Af P (evA G tm) o.op h 0).map (·.1) else none) else none
def JM (P:Program) (G:Nat) (tm:T Value) (o:Oper):Option Value :=
 bif o.op.operands.toList.all (okO G) then (match DF P (evA G tm) o with
  | some v=>some v
  | none=>bif Jy o.op then (Af P (evA G tm) o.op .nil 0).map (·.1) else none) else none
structure Entry where
 tm:T Value
 o:Oper
 v:Value
 i:Nat
def Held (P:Program) (G:Nat) (L:List Entry) (h:H):Prop:=∀e∈L,Fv P G e.tm e.o h=some e.v
/-! Are two values, blocks, stores the same? -/
def same2 {α:Type} (f:α→α→Bool):List α→List α→Bool
 | [],[]=>true
 | a :: l,b :: m=>f a b&&same2 f l m
 | _,_=>false
def D7:Nat→Value→Value→Bool
 | 0,_,_=>false
 | n+1,x,y=>match x,y with
  | .bool a,.bool b=>a==b
  | .int k a,.int j b=>(k==j)&&(a==b)
  | .string a,.string b=>a==b
  | .pointer a,.pointer b=>a==b
  | .slice a l c,.slice b m d=>(a==b)&&Nat.beq l m&&Nat.beq c d
  | .map a,.map b=>a==b
  | .nilFunc,.nilFunc=>true
  | .nilIface,.nilIface=>true
  | .func (.func f) a b,.func (.func g) c d=>Nat.beq f g&&same2 (D7 n) a.toList c.toList&&same2 (D7 n) b.toList d.toList
  | .iface t v,.iface u w=>Nat.beq t u&&D7 n v w
  | .agg a,.agg b=>same2 (D7 n) a.toList b.toList
  | .tuple a,.tuple b=>same2 (D7 n) a.toList b.toList
  | _,_=>false
def SN (a b:MapEntry):Bool:=D7 12 a.key b.key&&D7 12 a.val b.val&&Nat.beq a.born b.born
def Jz:AB→AB→Bool
 | .dead,.dead=>true
 | .cells c e r g,.cells c' e' r' g'=>same2 (D7 12) c c'&&Nat.beq e e'&&(r==r')&&(g==g')
 | .map a b,.map c d=>same2 SN a c&&Nat.beq b d
 | .iter a b c d,.iter a' b' c' d'=>(a==a')&&Nat.beq b b'&&(c==c')&&Nat.beq d d'
 | .Eh a b,.Eh c d=>(a==c)&&Nat.beq b d
 | _,_=>false
def T.same {α:Type} (f:α→α→Bool):T α→T α→Bool
 | .nil,.nil=>true
 | .node v l r,.node v' l' r'=>(match v,v' with | none,none=>true | some a,some b=>f a b | _,_=>false)&&T.same f l l'&&T.same f r r'
 | _,_=>false
def sameD (a b:DV):Bool:=Nat.beq a.1 b.1&&same2 (D7 12) a.2 b.2
def SQ (a b:St):Bool:=T.same (D7 12) a.tm b.tm&&T.same Jz a.h b.h&&Nat.beq a.n b.n&&same2 sameD a.ds b.ds
theorem J3 {α:Type} {f:α→α→Bool} (hf:∀a b,f a b=true→a=b):∀l m:List α,same2 f l m=true→l=m:=by
 intro l
 induction l with
 | nil=>intro m h;cases m with | nil=>rfl | cons=>cases h
 | cons a l ih=>intro m h;cases m with
  | nil=>cases h
  | cons b m =>
   simp only [same2,Bool.and_eq_true] at h
   rw [hf a b h.1,ih m h.2]
theorem GH:∀(n:Nat) (x y:Value),D7 n x y=true→x=y:=by
 intro n
 induction n with
 | zero=>intro x y h;cases h
 | succ n ih =>
  intro x y h
  unfold D7 at h
  have arr:∀a b:Array Value,same2 (D7 n) a.toList b.toList=true→a=b:=fun a b hh=>Array.toList_inj.1 (J3 ih _ _ hh)
  split at h
  ·rw [eq_of_beq h]
  ·simp only [Bool.and_eq_true] at h;rw [eq_of_beq h.1,eq_of_beq h.2]
  ·rw [(bytes_beq _ _).1 h]
  ·rw [eq_of_beq h]
  ·simp only [Bool.and_eq_true] at h;rw [eq_of_beq h.1.1,Nat.eq_of_beq_eq_true h.1.2,Nat.eq_of_beq_eq_true h.2]
  ·rw [eq_of_beq h]
  ·rfl
  ·rfl
  ·simp only [Bool.and_eq_true] at h;rw [Nat.eq_of_beq_eq_true h.1.1,arr _ _ h.1.2,arr _ _ h.2]
  ·simp only [Bool.and_eq_true] at h;rw [Nat.eq_of_beq_eq_true h.1,ih _ _ h.2]
  ·rw [arr _ _ h]
  ·rw [arr _ _ h]
  ·cases h
theorem dK (a b:MapEntry) (h:SN a b=true):a=b:=by
 cases a;cases b
 simp only [SN,Bool.and_eq_true] at h
 rw [GH _ _ _ h.1.1,GH _ _ _ h.1.2,Nat.eq_of_beq_eq_true h.2]
theorem PX (a b:AB) (h:Jz a b=true):a=b:=by
 unfold Jz at h
 split at h
 ·rfl
 ·simp only [Bool.and_eq_true] at h;rw [J3 (GH 12) _ _ h.1.1.1,Nat.eq_of_beq_eq_true h.1.1.2,eq_of_beq h.1.2,eq_of_beq h.2]
 ·simp only [Bool.and_eq_true] at h;rw [J3 dK _ _ h.1,Nat.eq_of_beq_eq_true h.2]
 ·simp only [Bool.and_eq_true] at h;rw [eq_of_beq h.1.1.1,Nat.eq_of_beq_eq_true h.1.1.2,eq_of_beq h.1.2,Nat.eq_of_beq_eq_true h.2]
 ·simp only [Bool.and_eq_true] at h;rw [(bytes_beq _ _).1 h.1,Nat.eq_of_beq_eq_true h.2]
 ·cases h
theorem T.same_eq {α:Type} {f:α→α→Bool} (hf:∀a b,f a b=true→a=b):∀t u:T α,T.same f t u=true→t=u:=by
 intro t
 induction t with
 | nil=>intro u h;cases u with | nil=>rfl | node=>cases h
 | node v l r i1 i2 =>
  intro u h
  cases u with
  | nil=>cases h
  | node v' l' r' =>
   simp only [T.same,Bool.and_eq_true] at h
   rw [i1 _ h.1.2,i2 _ h.2]
   have:=h.1.1
   split at this
   ·rfl
   ·rw [hf _ _ this]
   ·cases this
theorem dL (a b:DV) (h:sameD a b=true):a=b:=by
 simp only [sameD,Bool.and_eq_true] at h
 exact Prod.ext (Nat.eq_of_beq_eq_true h.1) (J3 (GH 12) _ _ h.2)
theorem dM {a b:St} (h:SQ a b=true):a=b:=by
 cases a;cases b
 simp only [SQ,Bool.and_eq_true] at h
 rw [T.same_eq (GH 12) _ _ h.1.1.1,T.same_eq PX _ _ h.1.1.2,Nat.eq_of_beq_eq_true h.1.2,J3 dL _ _ h.2]
def Np (P:Program) (G:Nat) (L:List Entry) (h:H):Bool:=L.all fun e=>match Fv P G e.tm e.o h with
 | some v=>D7 12 v e.v
 | none=>false
def takeA (P:Program) (G:Nat) (ops:Array Oper) (listed:Array Bool) (s:St):List Nat→Option (Nat×Oper×Value×Bool)
 | []=>none
 | i :: rs=>match ops[i]? with
  | none=>takeA P G ops listed s rs
  | some o=>bif Region.free .any ops listed i then
    (bif Region.wanted o (EP ops s.tm) then (match JM P G s.tm o with
     | some v=>some (i,o,v,true)
     | none=>(match Fv P G s.tm o s.h with
      | some v=>some (i,o,v,false)
      | none=>takeA P G ops listed s rs)) else some (i,o,undef,true))
   else takeA P G ops listed s rs
def EG (ops:Array Oper) (listed:Array Bool) (j:Nat) (L:List Entry):List Entry:=L.filter fun e=>(Region.ready .any ops (listed.setIfInBounds e.i false)).contains j
def JO (P:Program) (G:Nat) (call:Ah) (N:Nat) (ops:Array Oper) (n0:Nat):Nat→List Entry→Array Bool→St→Option St
 | 0,L,listed,s=>(match Region.ready .any ops listed with | []=>some s | _=>none)
 | f+1,L,listed,s=>match Region.ready .any ops listed with
  | []=>some s
  | i :: rs=>match takeA P G ops listed s (i :: rs) with
   | some (i,o,v,p)=>(CO N s.tm o.dst v).bind fun tm=>JO P G call N ops n0 f (bif p then L else ⟨s.tm,o,v,i⟩ :: L) (listed.setIfInBounds i true) ⟨tm,s.h,s.n,s.ds⟩
   | none=>((Ei P G call N ops (some n0) i s).bind fun s1=>bif Np P G (EG ops listed i L) s1.h then JO P G call N ops n0 f (EG ops listed i L) (listed.setIfInBounds i true) s1 else none).bind fun s' =>
     bif rs.all (fun j=>match (Ei P G call N ops (some n0) j s).bind fun s1=>bif Np P G (EG ops listed j L) s1.h then JO P G call N ops n0 f (EG ops listed j L) (listed.setIfInBounds j true) s1 else none with
      | some s2=>SQ s' s2
      | none=>false) then some s' else none
def Ip (P:Program) (G:Nat) (call:Ah) (N:Nat) (ops:Array Oper) (n0:Nat):Nat→List Entry→Array Bool→St→St→Prop
 | 0,L,listed,s,s'=>Region.ready .any ops listed = []∧s=s'
 | f+1,L,listed,s,s'=>(Region.ready .any ops listed = []→s=s') ∧
  ∀i∈Region.ready .any ops listed,∃s1,Ei P G call N ops (some n0) i s=some s1∧Held P G (EG ops listed i L) s1.h∧Ip P G call N ops n0 f (EG ops listed i L) (listed.setIfInBounds i true) s1 s'
section
variable {P:Program} {G N n0:Nat} {h h':H} {n n':Nat} {call:Ah} {tm tm':T Value} {v v':Value} {ops:Array Oper} {L L':List Entry} {s s':St}
theorem SS {x:Option Value} {n2:Nat} {h2:H}:(keepA x h2 n2).map (·.1)=x:=by cases x<;>rfl
theorem dN {ρ:Operand→Value} {op:Op} (hr:isRead op=true) (hv:(Af P ρ op h 0).map (·.1)=some v) (n:Nat):Af P ρ op h n=some (v,h,n):=by
 have key:∀x:Option Value,(keepA x h 0).map (·.1)=some v→keepA x h n=some (v,h,n):=fun x hx=>by
  rw [SS] at hx;rw [hx];rfl
 cases op<;>first | (cases hr;done) | skip
 case move x=>simp only [Af,Option.map_some,Option.some.injEq] at hv ⊢; rw [hv]
 case assign x=>simp only [Af,Option.map_some,Option.some.injEq] at hv ⊢; rw [hv]
 case pick c a b =>
  simp only [Af] at hv ⊢
  split at hv
  ·simp only [Option.map_some,Option.some.injEq] at hv ⊢; rw [hv]
  ·cases hv
 case binOp op t x y yt=>cases op<;>first | exact key _ hv | (simp [Af] at hv;done)
 case makeFunc fn a b=>cases fn<;>first | (simp only [Af,Option.map_some,Option.some.injEq] at hv ⊢; rw [hv];done) | (simp [Af] at hv;done)
 case call c =>
  simp only [Af] at hv ⊢
  simp only [isRead] at hr
  split at hr
  ·rename_i hcl
   rw [hcl] at hv ⊢
   dsimp only at hv ⊢
   unfold Ju at hv ⊢
   split at hv<;>first | (cases hv;done) | skip
   all_goals first | (cases ‹Builtin.len=_›; done) | skip
   rw [Option.map_eq_some_iff] at hv
   obtain ⟨r,h1,h2⟩:=hv
   rw [Option.bind_eq_some_iff] at h1
   obtain ⟨t,ht,h1⟩:=h1
   simp only [ht,Option.bind_some]
   exact key _ (by rw [h1];simpa using h2)
  ·rename_i hcl
   rw [hcl] at hv ⊢
   dsimp only at hv ⊢
   unfold Ju at hv ⊢
   split at hv<;>first | (cases hv;done) | skip
   all_goals first | (cases ‹Builtin.unsafeSliceData=_›; done) | skip
   exact key _ hv
  ·cases hr
 all_goals first | exact key _ hv | (simp [Af] at hv;done)
theorem dO {o:Oper} (hr:Fv P G tm o h=some v) (n:Nat):evalOp P G call tm o h n=some (v,h,n)∧Jw o.op=false:=by
 unfold Fv at hr
 cases hk:o.op.operands.toList.all (okO G)
 ·rw [hk] at hr;cases hr
 rw [hk,cond_true] at hr
 unfold evalOp
 rw [hk,cond_true]
 have fin:(match DF P (evA G tm) o with | some v=>some v | none=>bif isRead o.op then (Af P (evA G tm) o.op h 0).map (·.1) else none)=some v →
   (match DF P (evA G tm) o with | some v=>some (v,h,n) | none=>Af P (evA G tm) o.op h n)=some (v,h,n):=fun hh=>by
  split at hh
  ·rename_i u hu;cases hh;first | rfl | rw [hu]
  ·rename_i hu
   first | rw [hu] | skip
   cases hrd:isRead o.op
   ·rw [hrd] at hh;cases hh
   rw [hrd,cond_true] at hh
   exact dN hrd hh n
 split
 ·rename_i c hop
  split
  ·rename_i f hcl
   have e1:DF P (evA G tm) o=none:=by simp [DF,hop,Il,hcl]
   have e2:isRead o.op=false:=by simp [hop,isRead,hcl]
   rw [e1,e2] at hr
   cases hr
  ·rename_i hcl
   refine ⟨fin hr,?_⟩
   unfold Jw
   rw [hop]
   dsimp only
   split
   ·rename_i f hf;exact absurd hf (hcl f)
   ·rfl
 ·rename_i h1
  refine ⟨fin hr,?_⟩
  unfold Jw
  split
  ·rename_i c hop;exact absurd hop (h1 c)
  ·rfl
theorem dP {ρ:Operand→Value} {op:Op} (hr:Jy op=true) (h:H) (n:Nat):(Af P ρ op h n).map (·.1)=(Af P ρ op .nil 0).map (·.1):=by
 have key:∀x:Option Value,(keepA x h n).map (·.1)=(keepA x .nil 0).map (·.1):=fun x=>by rw [SS,SS]
 cases op<;>first | (cases hr;done) | skip
 case pick c a b=>simp only [Af];split<;>rfl
 case makeFunc fn a b=>cases fn<;>rfl
 all_goals first | exact key _ | rfl
theorem Vo {o:Oper} (hr:JM P G tm o=some v) (h:H):Fv P G tm o h=some v:=by
 unfold JM at hr
 unfold Fv
 cases hk:o.op.operands.toList.all (okO G)
 ·first | (rw [hk] at hr;cases hr;done) | cases hr
 first | rw [hk,cond_true] at hr | rw [cond_true] at hr
 first | rw [hk,cond_true] | rw [cond_true]
 split at hr
 ·rename_i u hu;first | exact hr | (rw [hu];exact hr)
 ·rename_i hu
  first | rw [hu] | skip
  cases hp:Jy o.op
  ·rw [hp] at hr;cases hr
  rw [hp,cond_true] at hr
  have hrd:isRead o.op=true:=by cases ho:o.op<;>rw [ho] at hp<;>first | rfl | cases hp
  rw [hrd,cond_true]
  rw [←hr]
  exact dP hp h 0
end
end Go.Proofs.YtihlneenajlhoaaGreatDoor.ae
/-
 A run of one goroutine over known values: an operation that only reads, and touches what nobody else touches, may be taken first; a look at a region's operations answers for every order. Condition: none.
-/
set_option linter.unusedVariables false
set_option linter.unusedSimpArgs false
namespace Go.Proofs.YtihlneenajlhoaaGreatDoor.ae
open Go
section
variable {P:Program} {G N n0:Nat} {h h':H} {n n':Nat} {call:Ah} {tm tm':T Value} {v v':Value} {ops:Array Oper} {L L':List Entry} {s s':St}
theorem Vp {ρ ρ':Operand→Value} (op:Op) (hx:∀x∈op.operands,ρ x=ρ' x):Af P ρ op h n=Af P ρ' op h n:=by
 have pairs:∀ps:Array (Nat×Operand),(∀x∈(ps.toList.map (·.2)).toArray,ρ x=ρ' x)→JK ρ ps=JK ρ' ps:=fun ps hp =>
  List.map_congr_left fun p hm=>by rw [hp p.2 (by simpa using ⟨p.1,Array.mem_toList_iff.1 hm⟩)]
 cases op<;>simp only [Op.operands] at hx<;>first | rfl | skip
 case build t ps=>simp only [Af];rw [pairs ps hx]
 case buildSlice t k ps=>simp only [Af];rw [pairs ps hx]
 case makeFunc fn first captured =>
  cases fn<;>first | rfl | skip
  simp only [Af]
  rw [Array.map_congr_left (xs:=first) fun x h=>hx x (by simp [h]),Array.map_congr_left (xs:=captured) fun x h=>hx x (by simp [h])]
 case call c =>
  simp only [Af]
  have:c.args.toList.map ρ=c.args.toList.map ρ':=List.map_congr_left fun x h=>hx x (by
   simp only [Call.operands,Array.mem_append]
   exact .inr (by simpa using h))
  rw [this]
 case makeMap t r=>cases r<;>simp_all [Af]
 case slice t x lo hi mx=>cases lo<;>cases hi<;>cases mx<;>simp_all [Af]
 case binOp op t x y yt=>cases op<;>simp_all [Af]
 all_goals (simp_all [Af];done)
theorem Vq {ρ ρ':Operand→Value} (o:Oper) (hx:∀x∈o.op.operands,ρ x=ρ' x):DF P ρ o=DF P ρ' o:=by
 unfold DF
 cases hf:Il o.op
 ·rfl
 have hs:∀cs b,o.op≠.select cs b:=fun cs b e=>by rw [e] at hf;cases hf
 have e1:(o.op.operands.toList.all fun x=>flat (ρ x))=o.op.operands.toList.all fun x=>flat (ρ' x):=by
  rw [Bool.eq_iff_iff,List.all_eq_true,List.all_eq_true]
  exact ⟨fun k x hm=>by rw [←hx x (by simpa using hm)];exact k x hm,fun k x hm=>by rw [hx x (by simpa using hm)];exact k x hm⟩
 rw [e1,execOp_congr o hs hx]
theorem Vr (o:Oper) (hl:∀t∈o.looksAt ops,Dw tm t=Dw tm' t):∀x∈o.op.operands,evA G tm x=evA G tm' x:=by
 intro x hx
 cases x with
 | tmp t=>exact hl t (List.mem_append_left _ (List.mem_filterMap.2 ⟨.tmp t,by simpa using hx,rfl⟩))
 | _=>rfl
theorem Vs (o:Oper) (hl:∀t∈o.looksAt ops,Dw tm t=Dw tm' t):evalOp P G call tm o h n=evalOp P G call tm' o h n:=by
 have he:=Vr (G:=G) o hl
 unfold evalOp
 rw [Vq o he,Vp o.op he]
 cases o.op.operands.toList.all (okO G)
 ·rfl
 simp only [cond_true]
 cases hop:o.op<;>first | rfl | skip
 case call c =>
  rw [hop] at he
  simp only [Op.operands,Call.operands] at he
  dsimp only
  cases hcl:c.callee<;>first | rfl | skip
  case value f =>
   rw [hcl] at he
   dsimp only
   rw [he f (by simp),List.map_congr_left fun x hm=>he x (by simp only [Array.mem_append];exact .inr (by simpa using hm))]
theorem dQ (o:Oper) (hl:∀t∈o.looksAt ops,Dw tm t=Dw tm' t):Fv P G tm o h=Fv P G tm' o h:=by
 have he:=Vr (G:=G) o hl
 unfold Fv
 rw [Vq o he,Vp o.op he]
theorem Vt (o:Oper) (hl:∀t∈o.looksAt ops,Dw tm t=Dw tm' t):Region.wanted o (EP ops tm)=Region.wanted o (EP ops tm'):=by
 unfold Region.wanted
 cases hg:o.guard with
 | none=>rfl
 | some gw =>
  obtain ⟨g,want⟩:=gw
  have hy:EP ops tm g=EP ops tm' g:=by
   unfold EP
   cases ht:(ops[g]?).bind (·.dst) with
   | none=>rfl
   | some t =>
    have:=hl t (List.mem_append_right _ (by simp [hg,ht]))
    simp only [this]
  simp only [hy]
theorem Vu {dst:Option Tmp} (hp:CO N tm dst v=some tm') (t:Nat) (ht:dst≠some t):Dw tm' t=Dw tm t:=by
 unfold CO at hp
 cases dst with
 | none=>cases hp;rfl
 | some d =>
  dsimp only at hp
  cases hc:(Nat.blt d N&&Nat.ble d lim)
  ·rw [hc] at hp;cases hp
  rw [hc] at hp
  simp only [cond_true,Option.some.injEq] at hp
  subst hp
  simp only [Bool.and_eq_true] at hc
  unfold Dw
  rw [T.get_put v 24 tm d t (O0 hc.2),if_neg (fun e=>ht (by rw [e]))]
theorem dR {x y:Option Tmp} {u:Value} {t1 t2:T Value} (h1:CO N tm x v=some t1) (h2:CO N t1 y u=some t2) (hd:∀d,x=some d→y≠some d):∃t3,CO N tm y u=some t3∧CO N t3 x v=some t2:=by
 unfold CO at h1 h2 ⊢
 cases x with
 | none=>cases h1;exact ⟨t2,h2,rfl⟩
 | some d =>
  cases y with
  | none=>cases h2;exact ⟨tm,rfl,h1⟩
  | some e =>
   dsimp only at h1 h2 ⊢
   cases c1:(Nat.blt d N&&Nat.ble d lim)
   ·rw [c1] at h1;cases h1
   cases c2:(Nat.blt e N&&Nat.ble e lim)
   ·rw [c2] at h2;cases h2
   rw [c1] at h1;rw [c2] at h2
   cases h1;cases h2
   refine ⟨T.put u 24 tm e,rfl,?_⟩
   have hne:d≠e:=fun he=>hd d rfl (by rw [he])
   rw [cond_true,T.put_comm v u 24 tm d e hne]
def SV (P:Program) (G:Nat) (E:Option Entry) (h:H):Prop:=∀e,E=some e→Fv P G e.tm e.o h=some e.v
def J4 (P:Program) (G:Nat) (ops:Array Oper) (tm:T Value) (o:Oper) (v:Value) (E:Option Entry):Prop :=
 (Region.wanted o (EP ops tm)=true∧∀h,SV P G E h→Fv P G tm o h=some v)∨(Region.wanted o (EP ops tm)=false∧v=undef)
theorem J4.congr {o:Oper} {E:Option Entry} (k:J4 P G ops tm o v E) (hl:∀t∈o.looksAt ops,Dw tm t=Dw tm' t):J4 P G ops tm' o v E:=by
 unfold J4 at k ⊢
 rw [←Vt o hl]
 exact k.imp (fun hk=>⟨hk.1,fun h hh=>by rw [←dQ o hl];exact hk.2 h hh⟩) id
theorem J4.step {o:Oper} {E:Option Entry} {i:Nat} {tm1:T Value} (ho:ops[i]?=some o) (k:J4 P G ops s.tm o v E) (hh:SV P G E s.h) (hp:CO N s.tm o.dst v=some tm1) :
  Ei P G call N ops (some n0) i s=some ⟨tm1,s.h,s.n,s.ds⟩:=by
 unfold Ei
 rw [ho]
 dsimp only
 rcases k with ⟨h1,h2⟩ | ⟨h1,rfl⟩
 ·obtain ⟨e1,e2⟩:=dO (call:=call) (h2 s.h hh) (n0+i)
  rw [h1,cond_true,e2,cond_false,e1]
  simp [hp]
 ·rw [h1,cond_false,hp]
  rfl
theorem dS {i j:Nat} {oi oj:Oper} {tm1:T Value} {s2:St} (hp:CO N s.tm oi.dst v=some tm1) (hj:ops[j]?=some oj) (hap:oi.apart ops oj=true) (hs:Ei P G call N ops (some n0) j ⟨tm1,s.h,s.n,s.ds⟩=some s2) :
  ∃s3,Ei P G call N ops (some n0) j s=some s3∧CO N s3.tm oi.dst v=some s2.tm∧s3.h=s2.h∧s3.n=s2.n∧s3.ds=s2.ds∧∀t∈oi.looksAt ops,Dw s.tm t=Dw s3.tm t:=by
 obtain ⟨a1,a2,a3⟩:=Oper.apart_spec hap
 have hl:∀t∈oj.looksAt ops,Dw tm1 t=Dw s.tm t:=fun t ht=>Vu hp t fun e=>a1 t e ht
 have fin:∀(u:Value) (LY:T Value),CO N tm1 oj.dst u=some LY→∃t3,CO N s.tm oj.dst u=some t3∧CO N t3 oi.dst v=some LY∧∀t∈oi.looksAt ops,Dw s.tm t=Dw t3 t:=fun u LY h2=>by
  obtain ⟨t3,g1,g2⟩:=dR hp h2 a2
  exact ⟨t3,g1,g2,fun t ht=>(Vu g1 t fun e=>a3 t e ht).symm⟩
 unfold Ei at hs ⊢
 rw [hj] at hs ⊢
 dsimp only at hs ⊢
 rw [Vt oj hl] at hs
 cases hw:Region.wanted oj (EP ops s.tm)
 ·rw [hw] at hs
  simp only [cond_false,Option.map_eq_some_iff] at hs ⊢
  obtain ⟨LY,h2,rfl⟩:=hs
  obtain ⟨t3,g1,g2,g3⟩:=fin _ _ h2
  exact ⟨_,⟨t3,g1,rfl⟩,g2,rfl,rfl,rfl,g3⟩
 ·rw [hw] at hs
  simp only [cond_true] at hs ⊢
  cases hc:Jw oj.op
  ·rw [hc,cond_false,Vs oj hl,Option.bind_eq_some_iff] at hs
   obtain ⟨r,hr,hs⟩:=hs
   rw [Option.map_eq_some_iff] at hs
   obtain ⟨LY,h2,rfl⟩:=hs
   obtain ⟨t3,g1,g2,g3⟩:=fin _ _ h2
   refine ⟨⟨t3,r.2.1,s.n,s.ds⟩,?_,g2,rfl,rfl,rfl,g3⟩
   rw [cond_false,hr,Option.bind_some,g1,Option.map_some]
  ·rw [hc,cond_true,Vs oj hl,Option.bind_eq_some_iff] at hs
   obtain ⟨r,hr,hs⟩:=hs
   rw [Option.map_eq_some_iff] at hs
   obtain ⟨LY,h2,rfl⟩:=hs
   obtain ⟨t3,g1,g2,g3⟩:=fin _ _ h2
   refine ⟨⟨t3,r.2.1,r.2.2,s.ds⟩,?_,g2,rfl,rfl,rfl,g3⟩
   rw [cond_true,hr,Option.bind_some,g1,Option.map_some]
theorem Vw {listed:Array Bool} {j:Nat} (hL:∀e∈L,e∈L'):∀e∈EG ops listed j L,e∈EG ops listed j L':=fun e he=>by
 unfold EG at he ⊢
 rw [List.mem_filter] at he ⊢
 exact ⟨hL e he.1,he.2⟩
theorem PY {listed:Array Bool} {j:Nat}:∀e∈EG ops listed j L,e∈L:=fun e he=>(List.mem_filter.1 he).1
theorem Held.sub (hL:∀e∈L,e∈L') (hh:Held P G L' h):Held P G L h:=fun e he=>hh e (hL e he)
theorem PZ:∀(f:Nat) (L L':List Entry) (listed:Array Bool) (s:St),(∀e∈L,e∈L')→Ip P G call N ops n0 f L' listed s s'→Ip P G call N ops n0 f L listed s s':=by
 intro f
 induction f with
 | zero=>intro L L' listed s _ k;exact k
 | succ f ih=>exact fun L L' listed s hL k=>⟨k.1,fun i hi=>let ⟨s1,h1,h2,h3⟩:=k.2 i hi; ⟨s1,h1,h2.sub (Vw hL),ih _ _ _ _ (Vw hL) h3⟩⟩
theorem Vx {listed:Array Bool} {i:Nat} (hi:listed.getD i true=false):(listed.setIfInBounds i true).setIfInBounds i false=listed:=by
 apply Array.ext_getElem?
 intro k
 by_cases e:i=k
 ·subst e
  have hlt:i<listed.size:=by
   rcases Nat.lt_or_ge i listed.size with h | h
   ·exact h
   ·simp [Array.getElem?_eq_none h] at hi
  rw [Array.getElem?_setIfInBounds_self_of_lt (by simpa using hlt),Array.getElem?_eq_getElem hlt]
  congr 1
  simpa [hlt] using hi.symm
 ·rw [Array.getElem?_setIfInBounds_ne e,Array.getElem?_setIfInBounds_ne e]
theorem Nq {i:Nat} {oi:Oper} {E:Option Entry} (hi:ops[i]?=some oi) (hE:∀e,E=some e→e.i=i):∀(f:Nat) (L:List Entry) (listed:Array Bool) (s:St) (tm1:T Value),
  (∀j oj,ops[j]?=some oj→j≠i→listed.getD j true=false→(∀e∈oj.after,Region.binds .any e=true→e.on≠i)→oi.apart ops oj=true) →
  i∈Region.ready .any ops listed→J4 P G ops s.tm oi v E→SV P G E s.h→Held P G L s.h→CO N s.tm oi.dst v=some tm1 →
  Ip P G call N ops n0 f (E.toList++L) (listed.setIfInBounds i true) ⟨tm1,s.h,s.n,s.ds⟩ s'→Ip P G call N ops n0 (f+1) L listed s s':=by
 intro f
 induction f with
 | zero =>
  intro L listed s tm1 _ hr hy hh hl hp H
  refine ⟨fun h=>(by rw [h] at hr;cases hr),fun j hj => ?_⟩
  by_cases hji:j=i
  ·subst hji
   exact ⟨_,hy.step hi hh hp,hl.sub PY,PZ _ _ _ _ _ (fun e he=>List.mem_append_right _ (PY e he)) H⟩
  ·have:=ready_mono hj hji
   rw [H.1] at this
   cases this
 | succ f ih =>
  intro L listed s tm1 hfree hr hy hh hl hp H
  refine ⟨fun h=>(by rw [h] at hr;cases hr),fun j hj => ?_⟩
  by_cases hji:j=i
  ·subst hji
   exact ⟨_,hy.step hi hh hp,hl.sub PY,PZ _ _ _ _ _ (fun e he=>List.mem_append_right _ (PY e he)) H⟩
  ·obtain ⟨s2,h1,h2,h3⟩:=H.2 j (ready_mono hj hji)
   obtain ⟨hjun,oj,hoj,hall⟩:=mem_ready.1 hj
   have Vy:=(mem_ready.1 hr).1
   have hnot:∀e∈oj.after,Region.binds .any e=true→e.on≠i:=fun e he hb heq=>by
    have h1:=hall e he hb
    have h0:=(mem_ready.1 hr).1
    rw [heq] at h1
    rcases Nat.lt_or_ge i listed.size with h' | h'
    ·simp [h'] at h0 h1;rw [h0] at h1;cases h1
    ·simp [Array.getElem?_eq_none h'] at h1
   obtain ⟨s3,g1,g2,g3,g4,g6,g5⟩:=dS (i:=i) hp hoj (hfree j oj hoj hji hjun hnot) h1
   have hfree':∀k ok,ops[k]?=some ok→k≠i→(listed.setIfInBounds j true).getD k true=false →
     (∀e∈ok.after,Region.binds .any e=true→e.on≠i)→oi.apart ops ok=true:=fun k ok hk hki hun hno=>by
    refine hfree k ok hk hki ?_ hno
    by_cases hjk:j=k
    ·subst hjk;exact hjun
    ·rw [getD_set_ne true hjk] at hun;exact hun
   have inE:∀e,E=some e→e∈EG ops (listed.setIfInBounds i true) j (E.toList++L):=fun e he=>by
    unfold EG
    rw [List.mem_filter]
    refine ⟨List.mem_append_left _ (by simp [he]),?_⟩
    rw [hE e he,Vx Vy]
    simpa using hj
   have inL:∀e∈EG ops listed j L,e∈EG ops (listed.setIfInBounds i true) j (E.toList++L):=fun e he=>by
    unfold EG at he ⊢
    rw [List.mem_filter] at he ⊢
    refine ⟨List.mem_append_right _ he.1,?_⟩
    have h4:j∈Region.ready .any ops (listed.setIfInBounds e.i false):=by simpa using he.2
    by_cases ee:e.i=i
    ·rw [ee,Vx Vy];simpa using hj
    ·rw [Array.setIfInBounds_comm _ _ (Ne.symm ee)]
     simpa using ready_mono h4 hji
   rw [←g3] at h2
   refine ⟨s3,g1,h2.sub inL,ih (EG ops listed j L) (listed.setIfInBounds j true) s3 s2.tm hfree' (ready_mono hr (Ne.symm hji)) (hy.congr g5) (fun e he=>h2 e (inE e he)) (h2.sub inL) g2 ?_⟩
   rw [Array.setIfInBounds_comm _ _ hji,g3,g4,g6]
   refine PZ _ _ _ _ _ (fun e he => ?_) h3
   rcases List.mem_append.1 he with he | he
   ·exact inE e (by simpa using he)
   ·exact inL e he
theorem Vz (hb:Np P G L h=true):Held P G L h:=by
 intro e he
 have:=List.all_eq_true.1 hb e he
 split at this
 ·rename_i u hu;rw [hu,GH _ _ _ this]
 ·cases this
theorem dU {listed:Array Bool} {i:Nat} {o:Oper} {p:Bool}:∀rs:List Nat,takeA P G ops listed s rs=some (i,o,v,p)→i∈rs∧ops[i]?=some o∧Region.free .any ops listed i=true ∧
  ((Region.wanted o (EP ops s.tm)=true∧((p=true∧JM P G s.tm o=some v)∨(p=false∧Fv P G s.tm o s.h=some v)))∨(Region.wanted o (EP ops s.tm)=false∧v=undef∧p=true)):=by
 intro rs
 induction rs with
 | nil=>intro h;cases h
 | cons j rs ih =>
  intro h
  have tail:=fun k:takeA P G ops listed s rs=some (i,o,v,p)=>(ih k).imp (List.mem_cons_of_mem j) id
  unfold takeA at h
  split at h
  ·exact tail h
  ·rename_i oj hoj
   cases hf:Region.free .any ops listed j
   ·rw [hf] at h;exact tail h
   rw [hf,cond_true] at h
   cases hw:Region.wanted oj (EP ops s.tm)
   ·rw [hw] at h
    cases h
    exact ⟨List.mem_cons_self ..,hoj,hf,.inr ⟨hw,rfl,rfl⟩⟩
   ·rw [hw,cond_true] at h
    split at h
    ·rename_i u hu
     cases h
     exact ⟨List.mem_cons_self ..,hoj,hf,.inl ⟨hw,.inl ⟨rfl,hu⟩⟩⟩
    ·split at h
     ·rename_i u hu
      cases h
      exact ⟨List.mem_cons_self ..,hoj,hf,.inl ⟨hw,.inr ⟨rfl,hu⟩⟩⟩
     ·exact tail h
theorem dV:∀(f:Nat) (L:List Entry) (listed:Array Bool) (s s':St),Held P G L s.h→JO P G call N ops n0 f L listed s=some s'→Ip P G call N ops n0 f L listed s s':=by
 intro f
 induction f with
 | zero =>
  intro L listed s s' hh h
  unfold JO at h
  split at h
  ·rename_i hr;cases h;exact ⟨hr,rfl⟩
  ·cases h
 | succ f ih =>
  intro L listed s s' hh h
  unfold JO at h
  split at h
  ·rename_i hr
   cases h
   exact ⟨fun _=>rfl,fun i hi=>by rw [hr] at hi;cases hi⟩
  ·rename_i i0 rs hr
   split at h
   ·rename_i i o v p ht
    obtain ⟨t1,t2,t3,t4⟩:=dU _ ht
    rw [Option.bind_eq_some_iff] at h
    obtain ⟨tm1,hp,h⟩:=h
    have hmem:i∈Region.ready .any ops listed:=by rw [hr];exact t1
    cases p with
    | true =>
     rw [cond_true] at h
     refine Nq t2 (E:=none) (fun e he=>by cases he) f L listed s tm1 (Region.free_spec t2 t3) hmem ?_ (fun e he=>by cases he) hh hp (ih _ _ _ _ hh h)
     rcases t4 with ⟨w1,⟨_,w2⟩ | ⟨w2,_⟩⟩ | ⟨w1,w2,_⟩
     ·exact .inl ⟨w1,fun h _=>Vo w2 h⟩
     ·cases w2
     ·exact .inr ⟨w1,w2⟩
    | false =>
     rw [cond_false] at h
     rcases t4 with ⟨w1,⟨w2,_⟩ | ⟨_,w2⟩⟩ | ⟨_,_,w2⟩
     ·cases w2
     ·have hh':Held P G (⟨s.tm,o,v,i⟩ :: L) s.h:=fun e he=>by
       rcases List.mem_cons.1 he with rfl | he
       ·exact w2
       ·exact hh e he
      exact Nq t2 (E:=some ⟨s.tm,o,v,i⟩) (fun e he=>by cases he;rfl) f L listed s tm1 (Region.free_spec t2 t3) hmem (.inl ⟨w1,fun h k=>k _ rfl⟩) (fun e he=>by cases he;exact w2) hh hp (ih _ _ _ _ hh' h)
     ·cases w2
   ·rw [Option.bind_eq_some_iff] at h
    obtain ⟨s1,h1,h⟩:=h
    have one:∀j s2,((Ei P G call N ops (some n0) j s).bind fun s1=>bif Np P G (EG ops listed j L) s1.h then JO P G call N ops n0 f (EG ops listed j L) (listed.setIfInBounds j true) s1 else none)=some s2 →
      ∃s1,Ei P G call N ops (some n0) j s=some s1∧Held P G (EG ops listed j L) s1.h∧Ip P G call N ops n0 f (EG ops listed j L) (listed.setIfInBounds j true) s1 s2:=fun j s2 hj=>by
     rw [Option.bind_eq_some_iff] at hj
     obtain ⟨s1,g1,g2⟩:=hj
     cases hb:Np P G (EG ops listed j L) s1.h
     ·rw [hb] at g2;cases g2
     rw [hb,cond_true] at g2
     exact ⟨s1,g1,Vz hb,ih _ _ _ _ (Vz hb) g2⟩
    have same:∀ {b:Bool} {x y:St},(bif b then some x else none)=some y→b=true∧x=y:=fun {b x y} k=>by
     cases b
     ·cases k
     ·cases k;exact ⟨rfl,rfl⟩
    obtain ⟨hall,rfl⟩:=same h
    refine ⟨fun e=>(by rw [hr] at e;cases e),fun j hj => ?_⟩
    rw [hr] at hj
    rcases List.mem_cons.1 hj with rfl | hj
    ·exact one _ _ h1
    ·have:=List.all_eq_true.1 hall j hj
     split at this
     ·rename_i s2 hs2
      rw [dM this]
      exact one _ _ hs2
     ·cases this
theorem V3:∀(f t:Nat) (L:List Entry) (listed:Array Bool) (s:St),Ip P G call N ops n0 f L listed s s'→FZ P G call N ops (some n0) (Region.linearise.go .any ops f t listed []) s=some s':=by
 intro f
 induction f with
 | zero=>intro t L listed s k;simp [Region.linearise.go,FZ,k.2]
 | succ f ih =>
  intro t L listed s k
  obtain ⟨h₀,h₁⟩:=k
  simp only [Region.linearise.go]
  change FZ P G call N ops (some n0) (match (Region.ready .any ops listed)[t%(Region.ready .any ops listed).length]? with
   | some i=>Region.linearise.go .any ops f (t / (Region.ready .any ops listed).length) (listed.setIfInBounds i true) [i]
   | none=>[].reverse) s=some s'
  cases hi:(Region.ready .any ops listed)[t%(Region.ready .any ops listed).length]? with
  | none =>
   have hnil:Region.ready .any ops listed = []:=by
    cases hr:Region.ready .any ops listed with
    | nil=>rfl
    | cons x xs =>
     rw [hr] at hi
     have hlt:t%(x :: xs).length<(x :: xs).length:=Nat.mod_lt _ (by simp)
     simp at hi
     simp at hlt
     omega
   simp [FZ,h₀ hnil]
  | some i =>
   simp only []
   rw [linearise_go_acc,List.reverse_singleton,List.singleton_append]
   obtain ⟨s1,g1,g2,g3⟩:=h₁ i (List.mem_of_getElem? hi)
   simp only [FZ,g1,Option.bind_some]
   exact ih _ _ _ _ g3
end
end Go.Proofs.YtihlneenajlhoaaGreatDoor.ae
/-
 A run of one goroutine over known values: code and calls. Conditions: calls that are known otherwise do what is said of them (CallOk), orders are drawn as under 'wide' (mixedOrders), no function with a body bears the name that is answered otherwise (Named).
-/
set_option linter.unusedVariables false
set_option linter.unusedSimpArgs false
namespace Go.Proofs.YtihlneenajlhoaaGreatDoor.ae
open Go
inductive Ex where
 | normal:Ex
 | exit (id:Nat):Ex
 | ret:Ex
def Ex.to:Ex→Exit
 | .normal=>.normal
 | .exit id=>.exit id
 | .ret=>.ret
def J5 (P:Program) (G:Nat) (call:Ah) (N:Nat) (ops:Array Oper) (draw:Bool) (s:St):Option St :=
 bif draw then JO P G call N ops s.n ops.size [] (Array.replicate ops.size false) ⟨s.tm,s.h,s.n+ops.size,s.ds⟩
 else FZ P G call N ops none (List.range ops.size) s
abbrev Ej:=Array Oper→Bool→St→Option St
def evalCode (G:Nat) (reg:Ej):Nat→Code→St→Option (Ex×St)
 | 0,_,_=>none
 | f+1,c,s=>match c with
  | .skip=>some (.normal,s)
  | .label _=>some (.normal,s)
  | .region _ ops d=>(reg ops d s).map fun s=>(.normal,s)
  | .seq a b=>(match evalCode G reg f a s with
   | some (.normal,s1)=>evalCode G reg f b s1
   | r=>r)
  | .cond c a b=>(match evA G s.tm c with
   | .bool t=>evalCode G reg f (bif t then a else b) s
   | _=>none)
  | .block id b=>(match evalCode G reg f b s with
   | some (.exit j,s1)=>some (bif Nat.beq j id then .normal else .exit j,s1)
   | r=>r)
  | .loop b=>(match evalCode G reg f b s with
   | some (.normal,s1)=>evalCode G reg f (.loop b) s1
   | r=>r)
  | .scope b=>evalCode G reg f b s
  | .exit id=>some (.exit id,s)
  | .ret=>some (.ret,s)
  | _=>none
def GI (P:Program):List ResultVar→St→Option (List Value)
 | [],_=>some []
 | .tmp t :: l,s=>(GI P l s).map (Dw s.tm t :: ·)
 | .cell a t :: l,s=>(LM P t (Dw s.tm a) s.h).bind fun v=>(GI P l s).map (v :: ·)
def JP:List Value→Value
 | [v]=>v
 | l=>.tuple l.toArray
def J6 (N:Nat):Nat→List Value→T Value→Option (T Value)
 | _,[],t=>some t
 | i,v :: l,t=>(CO N t (some i) v).bind (J6 N (i+1) l)
abbrev EW:=FuncId→List Value→H→Nat→Option (H×Nat)
def Iq (dcall:EW):List DV→H→Nat→Option (H×Nat)
 | [],h,n=>some (h,n)
 | d :: ds,h,n=>(dcall d.1 d.2 h n).bind fun r=>Iq dcall ds r.1 r.2
def SY (P:Program) (G:Nat) (reg:Ej) (dcall:EW) (F:Nat) (fn:Func) (c:Code) (args:List Value) (h:H) (n:Nat):R :=
 (J6 fn.ntmps 0 args .nil).bind fun tm=>(match evalCode G reg F c ⟨tm,h,n,[]⟩ with
  | some (.exit _,_)=>none
  | some (_,s)=>(Iq dcall s.ds s.h s.n).bind fun r=>(GI P fn.results.toList ⟨s.tm,r.1,r.2,[]⟩).map fun l=>(JP l,r.1,r.2)
  | none=>none)
def isRecover:Op→Bool
 | .call c=>(match c.callee with | .builtin .recover=>true | _=>false)
 | _=>false
def V4 (P:Program) (G:Nat) (call:Ah) (N:Nat) (ops:Array Oper) (i:Nat) (s:St):Option St:=match ops[i]? with
 | none=>some s
 | some o=>bif isRecover o.op&&Region.wanted o (EP ops s.tm) then (CO N s.tm o.dst .nilIface).map fun tm=>⟨tm,s.h,s.n,s.ds⟩ else Ei P G call N ops none i s
def Pe (P:Program) (G:Nat) (call:Ah) (N:Nat) (ops:Array Oper):List Nat→St→Option St
 | [],s=>some s
 | i :: l,s=>(V4 P G call N ops i s).bind (Pe P G call N ops l)
def J7 (P:Program) (G:Nat) (call:Ah) (N F:Nat):Code→St→Option (Ex×St)
 | .region id ops d,s=>bif d then evalCode G (J5 P G call N) F (.region id ops d) s else (Pe P G call N ops (List.range ops.size) s).map fun s=>(.normal,s)
 | .seq a b,s=>(match J7 P G call N F a s with
  | some (.normal,s1)=>evalCode G (J5 P G call N) F b s1
  | r=>r)
 | c,s=>evalCode G (J5 P G call N) F c s
def Si (P:Program) (G:Nat) (call:Ah) (F:Nat) (fn:Func) (c:Code) (args:List Value) (h:H) (n:Nat):Option (H×Nat) :=
 (J6 fn.ntmps 0 args .nil).bind fun tm=>(match J7 P G call fn.ntmps F c ⟨tm,h,n,[]⟩ with
  | some (.exit _,_)=>none
  | some (_,s)=>(match s.ds with
   | []=>(GI P fn.results.toList s).map fun _=>(s.h,s.n)
   | _ :: _=>none)
  | none=>none)
def Pg (P:Program) (G:Nat) (Dq:EW) (call:Ah) (F:Nat):EW:=fun g args h n=>match Dq g args h n with
 | some r=>some r
 | none=>(match P.funcs[g]? with
  | none=>none
  | some fn=>(match fn.body with
   | none=>none
   | some c=>Si P G call F fn c args h n))
def Gq (P:Program) (G:Nat) (rg:Ah→Nat→Ej) (ext:Ah) (sp:Ah→Ah) (Dq:EW) (F:Nat):Nat→Ah
 | 0,_,_,_,_=>none
 | d+1,g,args,h,n=>match ext g args h n with
  | some r=>some r
  | none=>(match sp (Gq P G rg ext sp Dq F d) g args h n with
   | some r=>some r
   | none=>(match P.funcs[g]? with
   | none=>none
   | some fn=>(match fn.body with
    | none=>none
    | some c=>SY P G (rg (Gq P G rg ext sp Dq F d) fn.ntmps) (Pg P G Dq (Gq P G rg ext sp Dq F d) F) F fn c args h n)))
def JQ (P:Program) (h0:H) (G:Nat) (dcall:EW):Prop:=∀(g:FuncId) (args:List Value) (h:H) (n:Nat) (h':H) (n':Nat),dcall g args h n=some (h',n') →
 ∀(base:Nat) (θ:Th) (w:World) (args':Array Value),Gl P h0 G base θ w→WR P base θ h w→base≤w.heap.size→VL θ args args'.toList →
  ∃f Ph,(callFunc g args').run P w=.ok (.enter f Ph) w∧CallsD P f Ph .returning w fun e u w'=>(∃v,e=.returned v)∧u=.returning∧∃θ',Ext θ θ'∧WR P base θ' h' w'∧Keep base w w'
def Named (P:Program):Prop:=∀(g:FuncId) (fn:Func) (c:Code),P.funcs[g]?=some fn→fn.body=some c→(fn.name == "runtime.NumGoroutine")=false
section
variable {P:Program} {G N base:Nat} {θ θ':Th} {w w':World} {h h' h0:H} {n n':Nat} {call:Ah} {tm tm':T Value} {a:Act} {v v':Value} {s s':St}
theorem V5 {ops:Array Oper} {draw:Bool} {id:Nat} {Q:Exit→Act→World→Prop} (hm:P.follows .mixedOrders=true) (hc:Bg P h0 G call) (he:J5 P G call N ops draw s=some s') (gl:Gl P h0 G base θ w) (ar:AR θ N s.tm s.ds a) (r:WR P base θ s.h w) (hb:base≤w.heap.size)
  (hn:∀a' θ' w',Ext θ θ'→AR θ' N s'.tm s'.ds a'→WR P base θ' s'.h w'→Keep base w w'→Q .normal a' w'):(Code.region id ops draw).wp P Q a w:=by
 unfold J5 at he
 cases draw with
 | false =>
  rw [cond_false] at he
  exact wp_region (Nl hc _ s s' a θ w he gl ar r hb hn)
 | true =>
  rw [cond_true] at he
  have hall:=dV _ _ _ _ _ (fun e he=>by cases he) he
  refine wp_region_draw fun t => ?_
  have ho:=V3 _ t _ _ _ hall
  simp only [Region.schedule,hm,Bool.true_or,if_true]
  exact Nl hc _ _ s' a θ { w with drawn:=w.drawn+1 } ho (gl.mono (Ext.refl θ) ⟨rfl,rfl,rfl,Nat.le_refl _,fun _ _=>rfl⟩) ar (r.heap rfl) hb fun a' θ' w' x1 x2 x3 x4=>hn a' θ' w' x1 x2 x3 ⟨x4.os,x4.tape,x4.output,x4.size,x4.block⟩
def RgOk (P:Program) (h0:H) (G:Nat) (rg:Ah→Nat→Ej):Prop:=∀(call:Ah),Bg P h0 G call→∀(N base:Nat) (ops:Array Oper) (draw:Bool) (id:Nat) (s s':St) (a:Act) (θ:Th) (w:World) (Q:Exit→Act→World→Prop),rg call N ops draw s=some s' →
 Gl P h0 G base θ w→AR θ N s.tm s.ds a→WR P base θ s.h w→base≤w.heap.size →
 (∀a' θ' w',Ext θ θ'→AR θ' N s'.tm s'.ds a'→WR P base θ' s'.h w'→Keep base w w'→Q .normal a' w')→(Code.region id ops draw).wp P Q a w
theorem Sj (hm:P.follows .mixedOrders=true):RgOk P h0 G (J5 P G):=fun call hc N base ops draw id s s' a θ w Q he gl ar r hb hn=>V5 hm hc he gl ar r hb hn
theorem Pi {rg:Ah→Nat→Ej} (hrg:RgOk P h0 G rg) (hm:P.follows .mixedOrders=true) (hc:Bg P h0 G call):∀(f:Nat) (c:Code) (s s':St) (ex:Ex) (a:Act) (θ:Th) (w:World) (Q:Exit→Act→World→Prop),evalCode G (rg call N) f c s=some (ex,s') →
  Gl P h0 G base θ w→AR θ N s.tm s.ds a→WR P base θ s.h w→base≤w.heap.size →
  (∀a' θ' w',Ext θ θ'→AR θ' N s'.tm s'.ds a'→WR P base θ' s'.h w'→Keep base w w'→Q ex.to a' w')→c.wp P Q a w:=by
 intro f
 induction f using Nat.strongRecOn with
 | _ f ih =>
  intro c s s' ex a θ w Q he gl ar r hb hn
  cases f with
  | zero=>cases he
  | succ f =>
   cases c with
   | skip=>simp only [evalCode,Option.some.injEq,Prod.mk.injEq] at he;obtain ⟨rfl,rfl⟩:=he;exact wp_skip (hn a θ w (Ext.refl θ) ar r (Keep.refl base w))
   | label l=>simp only [evalCode,Option.some.injEq,Prod.mk.injEq] at he;obtain ⟨rfl,rfl⟩:=he;exact wp_label (hn a θ w (Ext.refl θ) ar r (Keep.refl base w))
   | exit id=>simp only [evalCode,Option.some.injEq,Prod.mk.injEq] at he;obtain ⟨rfl,rfl⟩:=he;exact wp_exit (hn a θ w (Ext.refl θ) ar r (Keep.refl base w))
   | ret=>simp only [evalCode,Option.some.injEq,Prod.mk.injEq] at he;obtain ⟨rfl,rfl⟩:=he;exact wp_ret (hn a θ w (Ext.refl θ) ar r (Keep.refl base w))
   | region id ops d =>
    simp only [evalCode,Option.map_eq_some_iff,Prod.mk.injEq] at he
    obtain ⟨s1,h1,rfl,rfl⟩:=he
    exact hrg call hc N base ops d id s s1 a θ w Q h1 gl ar r hb hn
   | scope b =>
    simp only [evalCode] at he
    refine wp_scope_straight (ih f (by omega) b s s' ex a θ w _ he gl ar r hb fun a' θ' w' x1 x2 x3 x4 => ?_)
    have:=hn a' θ' w' x1 x2 x3 x4
    cases ex<;>exact this
   | cond c x y =>
    simp only [evalCode] at he
    split at he
    ·rename_i t ht
     have hr:=JL ar gl c
     rw [ht] at hr
     have e1:=Dz hr rfl
     have e2:a.eval c=.bool t:=by
      cases hk:okO G c
      ·exfalso
       cases c<;>first | (cases hk;done) | skip
       all_goals (simp only [okO] at hk;simp only [evA,hk,cond_false] at ht;cases ht)
      ·rw [←e1];simp [evC,hk]
     refine wp_cond e2 ?_
     have:=ih f (by omega) (bif t then x else y) s s' ex a θ w Q he gl ar r hb hn
     cases t<;>exact this
    ·cases he
   | block id b =>
    simp only [evalCode] at he
    refine wp_block ?_
    split at he
    ·rename_i j s1 h1
     simp only [Option.some.injEq,Prod.mk.injEq] at he
     obtain ⟨rfl,rfl⟩:=he
     refine ih f (by omega) b s s1 (.exit j) a θ w _ h1 gl ar r hb fun a' θ' w' x1 x2 x3 x4 => ?_
     have:=hn a' θ' w' x1 x2 x3 x4
     show (if j=id then Q .normal a' w' else Q (.exit j) a' w')
     by_cases e:j=id
     ·rw [if_pos e];rw [GX e] at this;exact this
     ·rw [if_neg e];rw [EM e] at this;exact this
    ·rename_i hne
     refine ih f (by omega) b s s' ex a θ w _ he gl ar r hb fun a' θ' w' x1 x2 x3 x4 => ?_
     have:=hn a' θ' w' x1 x2 x3 x4
     cases ex with
     | exit j=>exact absurd he (hne j s')
     | normal=>exact this
     | ret=>exact this
   | seq x y =>
    simp only [evalCode] at he
    refine wp_seq ?_
    split at he
    ·rename_i s1 h1
     refine ih f (by omega) x s s1 .normal a θ w _ h1 gl ar r hb fun a' θ' w' x1 x2 x3 x4 => ?_
     exact ih f (by omega) y s1 s' ex a' θ' w' Q he (gl.mono x1 x4) x2 x3 (Nat.le_trans hb x4.size) fun a2 θ2 w2 y1 y2 y3 y4=>hn a2 θ2 w2 (x1.trans y1) y2 y3 (x4.trans y4)
    ·rename_i hne
     refine ih f (by omega) x s s' ex a θ w _ he gl ar r hb fun a' θ' w' x1 x2 x3 x4 => ?_
     have:=hn a' θ' w' x1 x2 x3 x4
     cases ex with
     | normal=>exact absurd he (hne s')
     | exit j=>exact this
     | ret=>exact this
   | loop b =>
    refine wp_loop_ghost (fun k a1 w1=>k≤f+1∧∃s1 θ1,Ext θ θ1∧evalCode G (rg call N) k (.loop b) s1=some (ex,s')∧AR θ1 N s1.tm s1.ds a1∧WR P base θ1 s1.h w1∧Keep base w w1) (f+1) ⟨Nat.le_refl _,s,θ,Ext.refl θ,he,ar,r,Keep.refl base w⟩ ?_
    rintro k a1 w1 ⟨hk,s1,θ1,x1,h1,ar1,r1,k1⟩
    cases k with
    | zero=>cases h1
    | succ k =>
     simp only [evalCode] at h1
     split at h1
     ·rename_i s2 h2
      refine ih k (by omega) b s1 s2 .normal a1 θ1 w1 _ h2 (gl.mono x1 k1) ar1 r1 (Nat.le_trans hb k1.size) fun a' θ' w' y1 y2 y3 y4 => ?_
      exact ⟨k,by omega,by omega,s2,θ',x1.trans y1,h1,y2,y3,k1.trans y4⟩
     ·rename_i hne
      refine ih k (by omega) b s1 s' ex a1 θ1 w1 _ h1 (gl.mono x1 k1) ar1 r1 (Nat.le_trans hb k1.size) fun a' θ' w' y1 y2 y3 y4 => ?_
      have:=hn a' θ' w' (x1.trans y1) y2 y3 (k1.trans y4)
      cases ex with
      | normal=>exact absurd h1 (hne s')
      | exit j=>exact this
      | ret=>exact this
   | _=>simp [evalCode] at he
theorem dW {g:ResultVar→Sem Value} (g1:∀t,g (.tmp t)=pure (a.tmps.getD t undef)) (g2:∀x t,g (.cell x t)=(do loadVar t (←asAddr (a.tmps.getD x undef)))) {fs:List ResultVar} {l:List Value} (r:WR P base θ s.h w) (ar:AR θ N s.tm s.ds a) (he:GI P fs s=some l) :
  ∃l',(fs.mapM g).run P w=.ok l' w∧VL θ l l':=by
 induction fs generalizing l with
 | nil=>cases he;exact ⟨[],rfl,.nil⟩
 | cons f fs ih =>
  cases f with
  | tmp t =>
   simp only [GI,Option.map_eq_some_iff] at he
   obtain ⟨l1,h1,rfl⟩:=he
   obtain ⟨l',k1,k2⟩:=ih h1
   exact ⟨a.tmps.getD t undef :: l',by rw [List.mapM_cons,g1];simp [k1],.cons (ar.val t) k2⟩
  | cell x t =>
   simp only [GI,Option.bind_eq_some_iff,Option.map_eq_some_iff] at he
   obtain ⟨u,hu,l1,h1,rfl⟩:=he
   obtain ⟨l',k1,k2⟩:=ih h1
   obtain ⟨u',m1,m2⟩:=VS r hu (ar.val x)
   have hx:∃ad,a.tmps.getD x undef=.pointer (some ad)∧(loadVar t ad).run P w=.ok u' w:=by
    have hv:=ar.val x
    unfold LM at hu
    split at hu
    ·rename_i i o he
     rw [he] at hv
     generalize a.tmps.getD x undef=y at hv m1
     cases hv with
     | same hh _=>simp [atom] at hh
     | ptr hp _ =>
      refine ⟨_,rfl,?_⟩
      rw [←m1]
      simp [Instr.loadAt,Instr.sureAddr]
    ·cases hu
   obtain ⟨ad,q1,q2⟩:=hx
   exact ⟨u' :: l',by rw [List.mapM_cons,g2];simp [q1,asAddr,q2,k1],.cons m2 k2⟩
theorem Sl {fn:Func} {l:List Value} (r:WR P base θ s.h w) (ar:AR θ N s.tm s.ds a) (he:GI P fn.results.toList s=some l):∃v',(results fn a.tmps).run P w=.ok v' w∧VR θ (JP l) v':=by
 obtain ⟨l',h1,h2⟩:=dW (a:=a) (g:=fun r=>match r with | .tmp t=>pure (a.tmps.getD t undef) | .cell x t=>do loadVar t (←asAddr (a.tmps.getD x undef))) (fun _=>rfl) (fun _ _=>rfl) r ar he
 have e:(results fn a.tmps).run P w=.ok (if h:l'.toArray.size=1 then l'.toArray[0] else .tuple l'.toArray) w:=by
  unfold results
  rw [Array.mapM_eq_mapM_toList]
  simp only [Sem.run_bind,Sem.run_map]
  erw [h1]
  rfl
 refine ⟨_,e,?_⟩
 rcases l with _ | ⟨x,_ | ⟨y,l⟩⟩
 ·rw [h2.Ci];exact .tup .nil .nil
 ·obtain ⟨x',l'',rfl,k1,k2⟩:=h2.DY
  rw [k2.Ci];exact k1
 ·obtain ⟨x',l'',rfl,k1,k2⟩:=h2.DY
  obtain ⟨y',l3,rfl,k3,k4⟩:=k2.DY
  exact .tup (.cons k1 (.cons k3 k4)) .nil
theorem dX:∀(l:List Value) (i:Nat) (t t':T Value),J6 N i l t=some t'→(l = []∨i+l.length≤N)∧∀x,t'.get x=if i≤x∧x<i+l.length then l[x-i]? else t.get x:=by
 intro l
 induction l with
 | nil =>
  intro i t t' h
  cases h
  exact ⟨.inl rfl,fun x=>by rw [if_neg (by first | (simp;done) | (simp;omega))]⟩
 | cons v l ih =>
  intro i t t' h
  simp only [J6,Option.bind_eq_some_iff] at h
  obtain ⟨t1,h1,h2⟩:=h
  obtain ⟨k1,k2⟩:=ih (i+1) t1 t' h2
  unfold CO at h1
  dsimp only at h1
  cases hc:(Nat.blt i N&&Nat.ble i lim)
  ·rw [hc] at h1;cases h1
  rw [hc] at h1
  cases h1
  simp only [Bool.and_eq_true] at hc
  have c1:i<N:=Nat.le_of_ble_eq_true hc.1
  refine ⟨.inr ?_,fun x => ?_⟩
  ·rcases k1 with rfl | k1
   ·simp;omega
   ·simp;omega
  ·rw [k2 x,T.get_put v 24 t i x (O0 hc.2)]
   by_cases e:x=i
   ·subst e
    rw [if_neg (by omega),if_pos rfl,if_pos (by simp)]
    simp
   ·by_cases e2:i+1≤x∧x<i+1+l.length
    ·rw [if_pos e2,if_pos (by simp;omega)]
     have:x-i=(x-(i+1))+1:=by omega
     rw [this,List.getElem?_cons_succ]
    ·rw [if_neg e2,if_neg e,if_neg (by simp;omega)]
theorem Sm {args:List Value} {args':Array Value} {tm:T Value} (h:J6 N 0 args .nil=some tm) (hv:VL θ args args'.toList):AR θ N tm [] { tmps:=args'++Array.replicate (N-args'.size) undef,defers:=[] }:=by
 obtain ⟨h1,h2⟩:=dX args 0 .nil tm h
 have hl:args.length=args'.size:=by simpa using hv.len
 refine ⟨.nil,?_,fun x => ?_⟩
 ·rcases h1 with rfl | h1
  ·simp at hl;simp [←hl]
  ·simp;omega
 ·unfold Dw
  rw [h2 x]
  by_cases e:x<args'.size
  ·rw [if_pos (by omega)]
   have e1:args[x-0]?=some (args[x]'(by omega)):=by rw [Nat.sub_zero,List.getElem?_eq_getElem]
   rw [e1]
   obtain ⟨v',k1,k2⟩:=hv.get (i:=x) (v:=args[x]'(by omega)) (by rw [List.getElem?_eq_getElem])
   have e2:(args'++Array.replicate (N-args'.size) undef).getD x undef=v':=by
    rw [Array.getElem?_toList] at k1
    simp [Array.getElem?_append,e]
    rw [Array.getElem?_eq_getElem e] at k1
    simpa using k1
   rw [e2]
   exact k2
  ·rw [if_neg (by omega)]
   have e2:(args'++Array.replicate (N-args'.size) undef).getD x undef=undef:=by
    simp [Array.getElem?_append,e,Array.getElem?_replicate]
    split<;>rfl
   rw [e2]
   exact Io
theorem V6 {dcall:EW} {fn:Func} {tmps:Array Value} {R:Ending→World→Prop} (hd:JQ P h0 G dcall):∀(ds:List DV) (dds:List Deferred) (h h':H) (n n':Nat) (θ:Th) (w:World),Iq dcall ds h n=some (h',n')→DL θ ds dds →
  Gl P h0 G base θ w→WR P base θ h w→base≤w.heap.size →
  (∀θ' w',Ext θ θ'→WR P base θ' h' w'→Keep base w w'→∃v,(results fn tmps).run P w'=.ok v w'∧R (.returned v) w')→Leaves P fn tmps R dds .returning w:=by
 intro ds
 induction ds with
 | nil =>
  intro dds h h' n n' θ w he dl gl r hb hn
  cases he
  cases dl
  exact hn θ w (Ext.refl θ) r (Keep.refl base w)
 | cons d ds ih =>
  intro dds h h' n n' θ w he dl gl r hb hn
  simp only [Iq,Option.bind_eq_some_iff] at he
  obtain ⟨⟨h1,n1⟩,e1,e2⟩:=he
  cases dl with
  | @cons g l cap dargs _ dds hv t =>
   obtain ⟨f,Ph,k1,k2⟩:=hd g l h n h1 n1 e1 base θ w _ gl r hb hv
   refine leaves_cons (by intro e;cases e) (f:=f) (args:=Ph) k1 (k2.mono fun e u w' he => ?_)
   obtain ⟨⟨v,rfl⟩,rfl,θ1,x1,x2,x3⟩:=he
   exact ih dds h1 h' n1 n' θ1 w' e2 (t.mono x1) (gl.mono x1 x3) x2 (Nat.le_trans hb x3.size) fun θ' w2 y1 y2 y3=>hn θ' w2 (x1.trans y1) y2 (x3.trans y3)
theorem dY {rg:Ah→Nat→Ej} (hrg:RgOk P h0 G rg) {F:Nat} {dcall:EW} {g:FuncId} {fn:Func} {c:Code} {args:List Value} {args':Array Value} (hm:P.follows .mixedOrders=true) (hc:Bg P h0 G call) (hd:JQ P h0 G dcall) (hf:P.funcs[g]?=some fn) (hbd:fn.body=some c)
  (he:SY P G (rg call fn.ntmps) dcall F fn c args h n=some (v,h',n')) (gl:Gl P h0 G base θ w) (r:WR P base θ h w) (hb:base≤w.heap.size) (hv:VL θ args args'.toList):Calls P g args' w (Ret P base θ w v h'):=by
 unfold SY at he
 rw [Option.bind_eq_some_iff] at he
 obtain ⟨tm,ht,he⟩:=he
 refine calls_of_wp_defers hf hbd ?_
 have fin:∀(ex:Ex) (s:St) (r1:H×Nat) (l:List Value),(ex=.normal∨ex=.ret)→evalCode G (rg call fn.ntmps) F c ⟨tm,h,n,[]⟩=some (ex,s)→Iq dcall s.ds s.h s.n=some r1→GI P fn.results.toList ⟨s.tm,r1.1,r1.2,[]⟩=some l→v=JP l→h'=r1.1 →
   c.wp P (bodyPostD P fn (Ret P base θ w v h')) { tmps:=args'++Array.replicate (fn.ntmps-args'.size) undef,defers:=[] } w:=by
  rintro ex s ⟨h1,n1⟩ l hex e1 e2 e3 rfl rfl
  refine Pi hrg hm hc F c ⟨tm,h,n,[]⟩ s ex _ θ w _ e1 gl (Sm ht hv) r hb fun a' θ' w' x1 x2 x3 x4 => ?_
  have key:Leaves P fn a'.tmps (Ret P base θ w (JP l) h') a'.defers .returning w':=by
   refine V6 hd s.ds a'.defers s.h h' s.n n1 θ' w' e2 x2.defers (gl.mono x1 x4) x3 (Nat.le_trans hb x4.size) fun θ2 w2 y1 y2 y3 => ?_
   have ar2:AR θ2 fn.ntmps s.tm [] ⟨a'.tmps,[]⟩:=⟨.nil,x2.size,fun x=>(x2.val x).mono y1⟩
   obtain ⟨v',m1,m2⟩:=Sl (s:=⟨s.tm,h',n1,[]⟩) (a:=⟨a'.tmps,[]⟩) y2 ar2 e3
   exact ⟨v',m1,v',θ2,rfl,x1.trans y1,m2,y2,x4.trans y3⟩
  rcases hex with rfl | rfl<;>exact key
 split at he
 ·cases he
 ·rename_i ex s hne h1
  rw [Option.bind_eq_some_iff] at he
  obtain ⟨r1,h2,he⟩:=he
  rw [Option.map_eq_some_iff] at he
  obtain ⟨l,h3,e⟩:=he
  cases e
  refine fin ex s r1 l ?_ h1 h2 h3 rfl rfl
  cases ex with
  | normal=>exact .inl rfl
  | ret=>exact .inr rfl
  | exit j=>exact absurd rfl (hne j)
 ·cases he
theorem dZ {c₀:Frame} {cs:List Frame} {ops:Array Oper} {Q:Exit→Act→List Frame→World→Prop} (hu:c₀.mode=.returning) (hc:Bg P h0 G call):∀(l:List Nat) (s s':St) (a:Act) (θ:Th) (w:World),Pe P G call N ops l s=some s' →
  Gl P h0 G base θ w→AR θ N s.tm s.ds a→WR P base θ s.h w→base≤w.heap.size →
  (∀a' θ' w',Ext θ θ'→AR θ' N s'.tm s'.ds a'→WR P base θ' s'.h w'→Keep base w w'→Q .normal a' (c₀ :: cs) w')→wpOpsS P ops Q l a (c₀ :: cs) w:=by
 intro l
 induction l with
 | nil =>
  intro s s' a θ w hv gl ar r hb hn
  cases hv
  exact hn a θ w (Ext.refl θ) ar r (Keep.refl base w)
 | cons i l ih =>
  intro s s' a θ w hv gl ar r hb hn
  simp only [Pe,Option.bind_eq_some_iff] at hv
  obtain ⟨s1,h1,h2⟩:=hv
  have go:∀a1 θ1 w1,Ext θ θ1→AR θ1 N s1.tm s1.ds a1→WR P base θ1 s1.h w1→Keep base w w1→wpOpsS P ops Q l a1 (c₀ :: cs) w1:=fun a1 θ1 w1 x1 ar1 r1 k1 =>
   ih s1 s' a1 θ1 w1 h2 (gl.mono x1 k1) ar1 r1 (Nat.le_trans hb k1.size) fun a2 θ2 w2 x2 ar2 r2 k2=>hn a2 θ2 w2 (x1.trans x2) ar2 r2 (k1.trans k2)
  unfold V4 at h1
  simp only [wpOpsS]
  cases ho:ops[i]? with
  | none =>
   rw [ho] at h1
   cases h1
   exact go a θ w (Ext.refl θ) ar r (Keep.refl base w)
  | some o =>
   rw [ho] at h1
   dsimp only at h1 ⊢
   cases hr:isRecover o.op&&Region.wanted o (EP ops s.tm)
   ·rw [hr,cond_false] at h1
    have k:=Vl hc gl ar r hb h1 go (Q:=fun e a' w'=>Q e a' (c₀ :: cs) w')
    unfold PW at k
    rw [ho] at k
    dsimp only at k
    split
    ·rename_i hw
     rw [if_pos hw] at k
     unfold Oper.wp at k
     generalize (execOp a.eval o).run P w=rr at k
     cases rr with
     | ok nx w'=>cases nx<;>first | exact k | exact k.elim
     | _=>exact k
    ·rename_i hw
     rw [if_neg hw] at k
     exact k
   ·rw [hr,cond_true,Option.map_eq_some_iff] at h1
    obtain ⟨tm,hp,rfl⟩:=h1
    rw [Bool.and_eq_true] at hr
    rw [SL ar ops,if_pos hr.2]
    have he:(execOp a.eval o).run P w=.ok .recover w:=by
     have h1:=hr.1
     unfold isRecover at h1
     split at h1
     ·rename_i c hop
      split at h1
      ·rename_i hcl
       simp [execOp,hop,resolve,hcl,invoke,builtin]
      ·cases h1
     ·cases h1
    have hrec:recoverD (c₀ :: cs)=none:=by simp [recoverD,hu]
    rw [he,hrec]
    exact go _ θ w (Ext.refl θ) (ar.put (.same rfl .nil) hp rfl (by rw [put_defers];exact ar.defers)) r (Keep.refl base w)
theorem eF {F:Nat} {c₀:Frame} {cs:List Frame} (hu:c₀.mode=.returning) (hm:P.follows .mixedOrders=true) (hc:Bg P h0 G call):∀(c:Code) (s s':St) (ex:Ex) (a:Act) (θ:Th) (w:World) (Q:Exit→Act→List Frame→World→Prop),J7 P G call N F c s=some (ex,s') →
  Gl P h0 G base θ w→AR θ N s.tm s.ds a→WR P base θ s.h w→base≤w.heap.size →
  (∀a' θ' w',Ext θ θ'→AR θ' N s'.tm s'.ds a'→WR P base θ' s'.h w'→Keep base w w'→Q ex.to a' (c₀ :: cs) w')→c.wpS P Q a (c₀ :: cs) w:=by
 intro c
 induction c with
 | seq x y ihx ihy =>
  intro s s' ex a θ w Q he gl ar r hb hn
  simp only [J7] at he
  refine wpS_seq ?_
  split at he
  ·rename_i s1 h1
   refine ihx s s1 .normal a θ w _ h1 gl ar r hb fun a' θ' w' x1 x2 x3 x4 => ?_
   exact wpS_of_wp (Pi (Sj hm) hm hc F y s1 s' ex a' θ' w' _ he (gl.mono x1 x4) x2 x3 (Nat.le_trans hb x4.size) fun a2 θ2 w2 y1 y2 y3 y4=>hn a2 θ2 w2 (x1.trans y1) y2 y3 (x4.trans y4))
  ·rename_i hne
   refine ihx s s' ex a θ w _ he gl ar r hb fun a' θ' w' x1 x2 x3 x4 => ?_
   have:=hn a' θ' w' x1 x2 x3 x4
   cases ex with
   | normal=>exact absurd he (hne s')
   | exit j=>exact this
   | ret=>exact this
 | region id ops d =>
  intro s s' ex a θ w Q he gl ar r hb hn
  simp only [J7] at he
  cases d with
  | true =>
   rw [cond_true] at he
   exact wpS_of_wp (Pi (Sj hm) hm hc F _ s s' ex a θ w _ he gl ar r hb hn)
  | false =>
   rw [cond_false,Option.map_eq_some_iff] at he
   obtain ⟨s1,h1,e⟩:=he
   cases e
   exact wpS_region (dZ hu hc _ s _ a θ w h1 gl ar r hb hn)
 | _ =>
  intro s s' ex a θ w Q he gl ar r hb hn
  exact wpS_of_wp (Pi (Sj hm) hm hc F _ s s' ex a θ w _ (by simpa only [J7] using he) gl ar r hb hn)
theorem eG {F:Nat} {g:FuncId} {fn:Func} {c:Code} {args:List Value} {args':Array Value} (hm:P.follows .mixedOrders=true) (hc:Bg P h0 G call) (hf:P.funcs[g]?=some fn) (hbd:fn.body=some c)
  (he:Si P G call F fn c args h n=some (h',n')) (gl:Gl P h0 G base θ w) (r:WR P base θ h w) (hb:base≤w.heap.size) (hv:VL θ args args'.toList) :
  CallsD P g args' .returning w fun e u w'=>(∃v,e=.returned v)∧u=.returning∧∃θ',Ext θ θ'∧WR P base θ' h' w'∧Keep base w w':=by
 unfold Si at he
 rw [Option.bind_eq_some_iff] at he
 obtain ⟨tm,ht,he⟩:=he
 refine callsD_of_wpS hf hbd fun c₀ cs hu => ?_
 have fin:∀(ex:Ex) (s:St) (l:List Value),(ex=.normal∨ex=.ret)→J7 P G call fn.ntmps F c ⟨tm,h,n,[]⟩=some (ex,s)→s.ds = []→GI P fn.results.toList s=some l→h'=s.h →
   c.wpS P (bodyPostS P fn c₀ cs fun e u w'=>(∃v,e=.returned v)∧u=.returning∧∃θ',Ext θ θ'∧WR P base θ' h' w'∧Keep base w w') { tmps:=args'++Array.replicate (fn.ntmps-args'.size) undef,defers:=[] } (c₀ :: cs) w:=by
  rintro ex s l hex e1 e2 e3 rfl
  refine eF hu hm hc c ⟨tm,h,n,[]⟩ s ex _ θ w _ e1 gl (Sm ht hv) r hb fun a' θ' w' x1 x2 x3 x4 => ?_
  have hd:=x2.defers
  rw [e2] at hd
  have hd0:a'.defers = []:=by generalize a'.defers=q at hd;cases hd;rfl
  obtain ⟨v',m1,m2⟩:=Sl x3 x2 e3
  have key:a'.defers = []∧∃u',c₀ :: cs={ c₀ with mode:=u' } :: cs∧∃v,(results fn a'.tmps).run P w'=.ok v w'∧(∃v0,Ending.returned v=.returned v0)∧u'=.returning∧∃θ',Ext θ θ'∧WR P base θ' s.h w'∧Keep base w w' :=
   ⟨hd0,.returning,by rw [←hu],v',m1,⟨v',rfl⟩,rfl,θ',x1,x3,x4⟩
  rcases hex with rfl | rfl<;>exact key
 split at he
 ·cases he
 ·rename_i ex s hne h1
  split at he
  ·rename_i hds
   rw [Option.map_eq_some_iff] at he
   obtain ⟨l,h3,e⟩:=he
   cases e
   refine fin ex s l ?_ h1 hds h3 rfl
   cases ex with
   | normal=>exact .inl rfl
   | ret=>exact .inr rfl
   | exit j=>exact absurd rfl (hne j)
  ·cases he
 ·cases he
theorem V7 {F:Nat} {Dq:EW} (hm:P.follows .mixedOrders=true) (hn:Named P) (hc:Bg P h0 G call) (hd:JQ P h0 G Dq):JQ P h0 G (Pg P G Dq call F):=by
 intro g args h n h' n' he base θ w args' gl r hb hv
 unfold Pg at he
 split at he
 ·rename_i rr hr
  cases he
  exact hd g args h n h' n' hr base θ w args' gl r hb hv
 ·split at he
  ·cases he
  ·rename_i fn hf
   split at he
   ·cases he
   ·rename_i c hbd
    refine ⟨g,args',?_,eG hm hc hf hbd he gl r hb hv⟩
    have:=hn g fn c hf hbd
    simpa [callFunc,hf,hbd] using this
theorem eH {rg:Ah→Nat→Ej} (hrg:RgOk P h0 G rg) {F:Nat} {ext:Ah} {sp:Ah→Ah} {Dq:EW} (hs:∀call,Bg P h0 G call→Bg P h0 G (sp call)) (hm:P.follows .mixedOrders=true) (hn:Named P) (hx:Bg P h0 G ext) (hd:JQ P h0 G Dq):∀d,Bg P h0 G (Gq P G rg ext sp Dq F d):=by
 intro d
 induction d with
 | zero=>intro g args h n v h' n' he;cases he
 | succ d ih =>
  intro g args h n v h' n' he base θ w args' gl r hb hv
  unfold Gq at he
  split at he
  ·rename_i rr hr
   cases he
   exact hx g args h n v h' n' hr base θ w args' gl r hb hv
  ·split at he
   ·rename_i rr hr
    cases he
    exact hs _ ih g args h n v h' n' hr base θ w args' gl r hb hv
   split at he
   ·cases he
   ·rename_i fn hf
    split at he
    ·cases he
    ·rename_i c hbd
     refine .enter (f:=g) (args:=args') ?_ (dY hrg hm ih (V7 hm hn ih hd) hf hbd he gl r hb hv)
     have:=hn g fn c hf hbd
     simpa [callFunc,hf,hbd] using this
end
end Go.Proofs.YtihlneenajlhoaaGreatDoor.ae
/-
 A run of one goroutine over known values: functions without a body (bytes counted and found, a pointer passed on, atomic cells, new bytes). Condition: a function is the entry that is said (XOk).
-/
set_option linter.unusedVariables false
set_option linter.unusedSimpArgs false
namespace Go.Proofs.YtihlneenajlhoaaGreatDoor.ae
open Go
inductive XK where
 | flat (e:Array Value→Sem Value):XK
 | same:XK
 | load (k:IntKind):XK
 | cas (k:IntKind):XK
 | add (k:IntKind):XK
 | store:XK
 | mark (m:Addr→Mark):XK
 | V8 (ps:Array TypeId) (t:TypeId):XK
def XK.entry:XK→Array Value→Sem Value
 | .flat e=>e
 | .same=>Extern.AbiNoEscape.same
 | .load k=>Extern.Atomic.loadT (.int k)
 | .cas k=>Extern.Atomic.casT (.int k)
 | .add k=>Extern.Atomic.update (Op.intArith .add) k true
 | .store=>Extern.Atomic.storeT
 | .mark m=>Extern.Race.marked m
 | .V8 ps t=>Extern.BytealgMakeNoZero.makeNoZero ps #[t]
def XOk (P:Program) (g:FuncId) (k:XK):Prop:=∀(args:Array Value) (w:World),(callFunc g args).run P w=((k.entry args).run P w).andThen fun v w'=>.ok (.value v) w'
def xA (P:Program) (k:XK) (args:List Value) (h:H) (n:Nat):R:=match k,args with
 | .flat e,args=>bif args.all flat then (match JJ P (e args.toArray) with
  | some v=>bif flat v then some (v,h,n) else none
  | none=>none) else none
 | .same,[x]=>some (x,h,n)
 | .load k,[.pointer (some ⟨i,o,none⟩)]=>(match rd h i o 1 with | some [.int k' x]=>bif k==k' then some (.int k x,h,n) else none | _=>none)
 | .cas k,[.pointer (some ⟨i,o,none⟩),.int k1 x,.int k2 y]=>(match rd h i o 1 with
  | some [.int k3 c]=>bif k1==k&&(k2==k)&&(k3==k)&&(c==x) then (wr h i o [.int k y]).map fun h=>(.bool true,h,n) else none
  | _=>none)
 | .add k,[.pointer (some ⟨i,o,none⟩),.int k1 y]=>(match rd h i o 1 with
  | some [.int k3 c]=>bif k1==k&&(k3==k) then (wr h i o [.int k (k.wrap (c+y))]).map fun h=>(.int k (k.wrap (c+y)),h,n) else none
  | _=>none)
 | .mark _,[.pointer (some ⟨_,_,none⟩)]=>some (.tuple #[],h,n)
 | .store,[.pointer (some ⟨i,o,none⟩),.pointer x]=>(wr h i o [.pointer x]).map fun h=>(.tuple #[],h,n)
 | .store,[.pointer (some ⟨i,o,none⟩),.int k x]=>(wr h i o [.int k x]).map fun h=>(.tuple #[],h,n)
 | .V8 ps t,[.int .i64 (.ofNat k)]=>(match elemOf P t with
  | some e=>bif Nat.ble k 1000000&&(size P e==some 1) then (fresh h n (.cells [] e false true)).map fun h=>(.slice (some ⟨n,0,none⟩) k big,h,n+1) else none
  | none=>none)
 | _,_=>none
section
variable {P:Program} {base:Nat} {θ:Th} {w:World} {h h':H} {n n':Nat} {v:Value}
theorem Sr {i o:Nat} {u:Value} (r:WR P base θ h w) (hw:wr h i o [u]=some h'):∃p x,θ i=some p∧w.cell? ⟨p.b,o,none⟩=some x∧w.frozen? ⟨p.b,o,none⟩=false∧(w.shape? p.b).isSome=true:=by
 unfold wr at hw
 split at hw
 ·rename_i c e g hg
  cases ha : [u].all FX
  ·rw [ha] at hw;cases hw
  rw [ha,cond_true,Option.bind_eq_some_iff] at hw
  obtain ⟨x,hx,hput⟩:=hw
  obtain ⟨hlt,_⟩:=Q4 hx
  obtain ⟨p,hp,hbr⟩:=r.at_ i _ hg
  have fin:∀(c':Array Value) (fz:Nat×Nat),w.heap[p.b]?=some (.cells c' e fz)→o<c'.size→Wt base p.b c'.size fz→∃q x,θ i=some q∧w.cell? ⟨q.b,o,none⟩=some x∧w.frozen? ⟨q.b,o,none⟩=false∧(w.shape? q.b).isSome=true:=fun c' fz h1 h2 h3=>by
   refine ⟨p,c'[o],hp,?_,?_,?_⟩
   ·rw [cell_of h1];simp [h2]
   ·have:=h3.no o h2
    simp only [World.frozen?,h1]
    simpa using this
   ·simp [World.shape?,h1]
  cases hbr with
  | cells g1 hl hz=>exact fin _ _ g1 (by have:=hl.len;simp at this;omega) (hz rfl)
  | grow g1 hl he hk hs hz=>exact fin _ _ g1 (by have:=hl.len;have h2:=congrArg List.length he;simp at h2;omega) (hz rfl)
 ·cases hw
theorem store_one {i o:Nat} {u u':Value} {m:Mode} (r:WR P base θ h w) (hb:base≤w.heap.size) (hw:wr h i o [u]=some h') (hv:VR θ u u') :
  ∃p w',θ i=some p∧(store ⟨p.b,o,none⟩ u' m).run P w=.ok () w'∧WR P base θ h' w'∧Keep base w w'∧w'=w.setCell ⟨p.b,o,none⟩ u':=by
 obtain ⟨p,x,hp,c1,c2,c3⟩:=Sr r hw
 have h1:FX u'=true:=by
  unfold wr at hw
  split at hw
  ·cases ha : [u].all FX
   ·rw [ha] at hw;cases hw
   have:=VU (vs:=[u]) (vs':=[u']) hv ha
   simpa using this
  ·cases hw
 obtain ⟨q,w',g1,g2,g3,g4⟩:=NT (P:=P) (vs:=[u]) (vs':=[u']) r hb hw hv
 rw [hp] at g1;cases g1
 have e:(storeCells ⟨p.b,o,none⟩ [u']).run P w=.ok () (w.setCell ⟨p.b,o,none⟩ u'):=by
  rw [storeCells,Sem.run_bind,add_eq,VP h1 (by simpa using c1) (by simpa using c2)]
  simp [storeCells]
 rw [g2] at e
 cases e
 refine ⟨p,_,hp,?_,g3,g4,rfl⟩
 cases u'<;>first | (simp [FX] at h1;done) | simp [store,Sem.run,c1,c2]
theorem ofX {g:FuncId} {k:XK} {args':Array Value} (hx:XOk P g k) (ho:CE P base θ w (k.entry args') v h'):OpN P base θ w (callFunc g args') v h':=by
 obtain ⟨v',θ',w',h1,h2,h3,h4,h5⟩:=ho
 exact ⟨.value v',θ',w',v',by rw [hx,h1];rfl,.inl rfl,h2,h3,h4,h5⟩
theorem V9 {l:List Value} {a:Array Value} (hv:VL θ l a.toList) (hf:l.all flat=true):a=l.toArray:=by
 have:a.toList=l:=by
  induction l generalizing a with
  | nil=>exact hv.Ci
  | cons x l ih =>
   obtain ⟨x',l',e,h1,h2⟩:=hv.DY
   simp only [List.all_cons,Bool.and_eq_true] at hf
   have:=ih (a:=l'.toArray) (by simpa using h2) hf.2
   rw [e,Dz h1 hf.1]
   simpa using this
 exact Array.toList_inj.1 (by simpa using this)
theorem J8 {i o:Nat} {x':Value} (k:VR θ (.pointer (some ⟨i,o,none⟩)) x'):∃p,θ i=some p∧x'=.pointer (some ⟨p.b,o,none⟩):=by
 cases k with
 | same hh _=>simp [atom] at hh
 | ptr hp _=>exact ⟨_,hp,rfl⟩
theorem Pj {i o:Nat} {x:Value} {p:Pl} (r:WR P base θ h w) (hr:rd h i o 1=some [x]) (hp:θ i=some p):∃x',w.cell? ⟨p.b,o,none⟩=some x'∧VR θ x x':=by
 obtain ⟨q,c',e,fz,l',h1,h2,h3,h4⟩:=Jn r hr
 rw [hp] at h1;cases h1
 obtain ⟨x',l'',rfl,k1,k2⟩:=h4.DY
 have:=NR h3 0 (by omega)
 simp only [Nat.add_zero] at this
 exact ⟨x',by rw [cell_of h2,this];rfl,k1⟩
theorem eP {l:List Value} {x y z:Value} {a:Array Value} (h1:VL θ [x,y,z] a.toList):∃x' y' z',a=#[x',y',z']∧VR θ x x'∧VR θ y y'∧VR θ z z':=by
 obtain ⟨x',l',e,h2,h3⟩:=h1.DY
 obtain ⟨y',l'',e2,h4,h5⟩:=h3.DY
 obtain ⟨z',l3,e3,h6,h7⟩:=h5.DY
 have:=h7.Ci
 subst this
 subst e3
 subst e2
 exact ⟨x',y',z',Array.toList_inj.1 (by simpa using e),h2,h4,h6⟩
theorem eQ {g:FuncId} {k:XK} {args:List Value} {args':Array Value} (hx:XOk P g k) (r:WR P base θ h w) (hb:base≤w.heap.size) (he:xA P k args h n=some (v,h',n')) (hv:VL θ args args'.toList):OpN P base θ w (callFunc g args') v h':=by
 refine ofX hx ?_
 unfold xA at he
 split at he
 ·rename_i e
  cases hf:args.all flat
  ·rw [hf] at he;cases he
  rw [hf,cond_true] at he
  rw [V9 hv hf]
  split at he
  ·rename_i u hu
   cases hfl:flat u
   ·rw [hfl] at he;cases he
   rw [hfl] at he;cases he
   exact CE.same r (VW hu) (Gn hfl)
  ·cases he
 ·obtain ⟨x',rfl,k1⟩:=Jv (l:=[]) hv
  cases he
  exact CE.same r rfl k1
 ·rename_i k i o
  obtain ⟨x',rfl,k1⟩:=Jv (l:=[]) hv
  obtain ⟨p,hp,rfl⟩:=J8 k1
  split at he
  ·rename_i k' x hr
   cases hk:(k==k')
   ·rw [hk] at he;cases he
   have hk:k=k':=by simpa using hk
   subst hk
   rw [beq_self_eq_true,cond_true] at he
   cases he
   obtain ⟨x',c1,c2⟩:=Pj r hr hp
   have:=Dz c2 rfl
   subst this
   refine CE.same r ?_ (.same rfl .nil)
   show (Sem.run P (do Extern.Atomic.read (.int k) (←asAddr (.pointer (some ⟨p.b,o,none⟩)))) w)=_
   simp [Extern.Atomic.read,asAddr,c1,Result.andThen]
  ·cases he
 ·rename_i k i o k1 x k2 y
  obtain ⟨x',y',z',rfl,q1,q2,q3⟩:=eP (l:=[]) hv
  obtain ⟨p,hp,rfl⟩:=J8 q1
  have:=Dz q2 rfl
  subst this
  have:=Dz q3 rfl
  subst this
  split at he
  ·rename_i k3 c hr
   cases hcx:(k1==k&&(k2==k)&&(k3==k)&&(c==x))
   ·rw [hcx] at he;cases he
   rw [hcx,cond_true,Option.map_eq_some_iff] at he
   obtain ⟨h1,hw,e⟩:=he
   cases e
   simp only [Bool.and_eq_true,beq_iff_eq] at hcx
   obtain ⟨⟨⟨rfl,rfl⟩,rfl⟩,rfl⟩:=hcx
   obtain ⟨x',c1,c2⟩:=Pj r hr hp
   have:=Dz c2 rfl
   subst this
   obtain ⟨q,z,g1,g2,g3,g4⟩:=Sr r hw
   rw [hp] at g1;cases g1
   obtain ⟨q,w',m1,m2,m3,m4,m5⟩:=store_one (m:=.atomic) r hb hw (.same rfl .nil:VR θ (.int k3 y) (.int k3 y))
   rw [hp] at m1;cases m1
   refine ⟨.bool true,θ,w',?_,Ext.refl θ,.same rfl .nil,m3,m4⟩
   show (Extern.Atomic.casT (.int k3) #[.pointer (some ⟨p.b,o,none⟩),.int k3 c,.int k3 y]).run P w=_
   rw [Conc.casT_eq,Conc.run_cas_hit_entry c1 g3,m5]
  ·cases he
 ·rename_i k i o k1 y
  obtain ⟨x',y',rfl,q1,q2⟩:=LX hv
  obtain ⟨p,hp,rfl⟩:=J8 q1
  have:=Dz q2 rfl
  subst this
  split at he
  ·rename_i k3 c hr
   cases hcx:(k1==k&&(k3==k))
   ·rw [hcx] at he;cases he
   rw [hcx,cond_true,Option.map_eq_some_iff] at he
   obtain ⟨h1,hw,e⟩:=he
   cases e
   simp only [Bool.and_eq_true,beq_iff_eq] at hcx
   obtain ⟨rfl,rfl⟩:=hcx
   obtain ⟨x',c1,c2⟩:=Pj r hr hp
   have:=Dz c2 rfl
   subst this
   obtain ⟨q,z,g1,g2,g3,g4⟩:=Sr r hw
   rw [hp] at g1;cases g1
   obtain ⟨q,w',m1,m2,m3,m4,m5⟩:=store_one (m:=.atomic) r hb hw (.same rfl .nil:VR θ (.int k3 (k3.wrap (c+y))) (.int k3 (k3.wrap (c+y))))
   rw [hp] at m1;cases m1
   refine ⟨_,θ,w',?_,Ext.refl θ,.same rfl .nil,m3,m4⟩
   show (Extern.Atomic.update (Op.intArith .add) k3 true #[.pointer (some ⟨p.b,o,none⟩),.int k3 y]).run P w=_
   rw [Conc.run_add_entry c1 g3,m5]
  ·cases he
 ·rename_i m i o
  obtain ⟨x',rfl,k1⟩:=Jv (l:=[]) hv
  obtain ⟨p,hp,rfl⟩:=J8 k1
  cases he
  exact CE.same r rfl Io
 ·rename_i i o x
  obtain ⟨x',y',rfl,k1,k2⟩:=LX hv
  obtain ⟨p,hp,rfl⟩:=J8 k1
  rw [Option.map_eq_some_iff] at he
  obtain ⟨h1,hw,e⟩:=he
  cases e
  obtain ⟨q,w',m1,m2,m3,m4,m5⟩:=store_one (m:=.atomic) r hb hw k2
  rw [hp] at m1;cases m1
  refine ⟨.tuple #[],θ,w',?_,Ext.refl θ,Io,m3,m4⟩
  show (Sem.run P (do store (←asAddr (.pointer (some ⟨p.b,o,none⟩))) y' .atomic;pure Extern.Atomic.none_) w)=_
  simp [asAddr,m2,Extern.Atomic.none_,Result.andThen]
 ·rename_i i o k x
  obtain ⟨x',y',rfl,k1,k2⟩:=LX hv
  obtain ⟨p,hp,rfl⟩:=J8 k1
  rw [Option.map_eq_some_iff] at he
  obtain ⟨h1,hw,e⟩:=he
  cases e
  obtain ⟨q,w',m1,m2,m3,m4,m5⟩:=store_one (m:=.atomic) r hb hw k2
  rw [hp] at m1;cases m1
  refine ⟨.tuple #[],θ,w',?_,Ext.refl θ,Io,m3,m4⟩
  show (Sem.run P (do store (←asAddr (.pointer (some ⟨p.b,o,none⟩))) y' .atomic;pure Extern.Atomic.none_) w)=_
  simp [asAddr,m2,Extern.Atomic.none_,Result.andThen]
 ·rename_i ps t k
  obtain ⟨x',rfl,k1⟩:=Jv (l:=[]) hv
  have:=Dz k1 rfl
  subst this
  split at he
  ·rename_i e hel
   cases hc:(Nat.ble k 1000000&&(size P e==some 1))
   ·rw [hc] at he;cases he
   rw [hc,cond_true,Option.map_eq_some_iff] at he
   obtain ⟨h1,hf,e1⟩:=he
   cases e1
   simp only [Bool.and_eq_true,beq_iff_eq] at hc
   have c1:=Nat.le_of_ble_eq_true hc.1
   obtain ⟨cs,g1,g2,g3⟩:=Lib.run_makeNoZero (P:=P) w ps t e (NY hel) k (by omega)
   obtain ⟨θ',m1,m2,m3,m4⟩:=NW (o:=.cells cs e) (p:=⟨w.heap.size,cs.size,1⟩) r hb hf rfl (fun θ' w' hx hw=>.grow (c:=[]) (pre:=[]) (r:=cs.toList) hw .nil rfl rfl hc.2 fun _=>⟨hb,.inl rfl⟩)
   refine ⟨_,θ',_,g1,m2,.Cf m1 (by simp) .nil,m3.heap rfl,⟨m4.os,m4.tape,m4.output,m4.size,m4.block⟩⟩
  ·cases he
 ·cases he
end
end Go.Proofs.YtihlneenajlhoaaGreatDoor.ae
/-
 A run of one goroutine over known values: what a call with flat arguments yields, once looked at, holds wherever it is called: its new blocks get new numbers. Condition: the blocks of the start are not to be written (Ro).
-/
set_option linter.unusedVariables false
set_option linter.unusedSimpArgs false
namespace Go.Proofs.YtihlneenajlhoaaGreatDoor.ae
open Go
/-! New numbers in values and blocks. -/
def G8 (f:Value→Option Value):List Value→Option (List Value)
 | []=>some []
 | v :: l=>(f v).bind fun v=>(G8 f l).map (v :: ·)
def rnV (m:Nat→Option Nat):Nat→Value→Option Value
 | 0,_=>none
 | k+1,v=>match v with
  | .pointer (some ⟨i,o,s⟩)=>(m i).map fun j=>.pointer (some ⟨j,o,s⟩)
  | .slice (some ⟨i,o,none⟩) l c=>(m i).map fun j=>.slice (some ⟨j,o,none⟩) l c
  | .slice (some ⟨_,_,some _⟩) l c=>bif D7 1 v emp then some emp else none
  | .map (some i)=>(m i).map fun j=>.map (some j)
  | .func (.func f) a b=>(G8 (rnV m k) a.toList).bind fun a=>(G8 (rnV m k) b.toList).map fun b=>.func (.func f) a.toArray b.toArray
  | .agg a=>(G8 (rnV m k) a.toList).map fun a=>.agg a.toArray
  | .tuple a=>(G8 (rnV m k) a.toList).map fun a=>.tuple a.toArray
  | .iface t u=>(rnV m k u).map (.iface t)
  | v=>bif atom v then some v else none
def rnE (m:Nat→Option Nat) (e:MapEntry):Option MapEntry:=(rnV m 12 e.key).bind fun k=>(rnV m 12 e.val).map fun v=>{ key:=k,val:=v,born:=e.born }
def J9 (m:Nat→Option Nat):List MapEntry→Option (List MapEntry)
 | []=>some []
 | e :: l=>(rnE m e).bind fun e=>(J9 m l).map (e :: ·)
def KA (m:Nat→Option Nat):AB→Option AB
 | .cells c e false g=>(G8 (rnV m 12) c).map fun c=>.cells c e false g
 | .map es c=>(J9 m es).map fun es=>.map es c
 | _=>some .dead
def Nr (m:Nat→Option Nat) (h:H):Nat→List AB→Option H
 | _,[]=>some h
 | i,b :: l=>(Nr m h (i+1) l).bind fun h=>(KA m b).bind fun b=>fresh h i b
def shift (K k n i:Nat):Option Nat:=bif Nat.blt i K then some i else bif Nat.blt i (K+k) then some (i-K+n) else none
structure IG where
 g:FuncId
 args:List Value
 v:Value
 new:List AB
def Ns (h:H) (K:Nat):List AB→Nat→Prop
 | [],_=>True
 | b :: l,j=>(b=.dead∨h.get (K+j)=some b)∧Ns h K l (j+1)
def WA (P:Program) (h0:H) (G K:Nat) (s:IG):Prop:=∀(base:Nat) (θ:Th) (w:World) (args':Array Value),Gl P h0 G base θ w→base≤w.heap.size→VL θ s.args args'.toList →
 ∃θ0 hs,Ext θ0 θ∧(∀i,i<K→θ0 i≠none)∧Ns hs K s.new 0∧Ans P w.heap.size θ0 w (callFunc s.g args') s.v hs
def sumF (tab:List IG) (K:Nat):Ah:=fun g args h n=>match tab.find? (fun s=>Nat.beq s.g g&&same2 (D7 12) s.args args) with
 | some s=>bif Nat.ble K n then (rnV (shift K s.new.length n) 12 s.v).bind fun v=>(Nr (shift K s.new.length n) h n s.new).map fun h=>(v,h,n+s.new.length) else none
 | none=>none
def DI (a b:Ah):Ah:=fun g args h n=>match a g args h n with
 | some r=>some r
 | none=>b g args h n
def xF (P:Program) (xs:List (FuncId×XK)):Ah:=fun g args h n=>match xs.find? (fun x=>Nat.beq x.1 g) with
 | some x=>xA P x.2 args h n
 | none=>none
def Nu (h:H) (K:Nat):List AB→Nat→Bool
 | [],_=>true
 | .dead :: l,j=>Nu h K l (j+1)
 | b :: l,j=>(match h.get (K+j) with | some c=>Jz c b | none=>false)&&Nu h K l (j+1)
def chk (P:Program) (G K:Nat) (h0:H) (rg:Ah→Nat→Ej) (ext:Ah) (sp:Ah→Ah) (Dq:EW) (F d:Nat) (s:IG):Bool:=s.args.all flat&&(match Gq P G rg ext sp Dq F d s.g s.args h0 K with
 | some (v,h,_)=>D7 12 v s.v&&Nu h K s.new 0
 | none=>false)
def Ro (h0:H) (K:Nat):Prop:=(∀i ab,h0.get i=some ab→ab=.dead∨∃c e g,ab=.cells c e true g)∧∀i,i<K→(h0.get i).isSome=true
section
variable {P:Program} {G K base:Nat} {θ θ' θ0 θs:Th} {w w':World} {h h' h0 hs:H} {n n':Nat} {v v':Value} {m:Nat→Option Nat} {new:List AB}
theorem Su {f:Value→Option Value} (hf:∀v v' u,VR θ v v'→f v=some u→VR θ' u v'):∀(l l' l2:List Value),VL θ l l'→G8 f l=some l2→VL θ' l2 l':=by
 intro l
 induction l with
 | nil=>intro l' l2 h1 h2;cases h2;rw [h1.Ci];exact .nil
 | cons v l ih =>
  intro l' l2 h1 h2
  obtain ⟨v',l'',rfl,k1,k2⟩:=h1.DY
  simp only [G8,Option.bind_eq_some_iff,Option.map_eq_some_iff] at h2
  obtain ⟨u,hu,l3,h3,rfl⟩:=h2
  exact .cons (hf _ _ _ k1 hu) (ih _ _ k2 h3)
theorem Nv (hm:∀i j p,m i=some j→θ i=some p→θ' j=some p):∀(k:Nat) (v v' u:Value),VR θ v v'→rnV m k v=some u→VR θ' u v':=by
 intro k
 induction k with
 | zero=>intro v v' u _ h;cases h
 | succ k ih =>
  intro v v' u hv hu
  have hl:=Su (θ:=θ) (θ':=θ') ih
  cases hv with
  | same ha _ =>
   have:u=v:=by
    cases v<;>first | (simp [atom] at ha;done) | (simp only [rnV,atom,cond_true,Option.some.injEq] at hu;exact hu.symm) | skip
    case pointer a=>cases a<;>first | (simp [atom] at ha;done) | (simp only [rnV,atom,cond_true,Option.some.injEq] at hu;exact hu.symm)
    case slice a l c=>cases a<;>first | (simp [atom] at ha;done) | (simp only [rnV,atom,cond_true,Option.some.injEq] at hu;exact hu.symm)
    case map a=>cases a<;>first | (simp [atom] at ha;done) | (simp only [rnV,atom,cond_true,Option.some.injEq] at hu;exact hu.symm)
    case chan a=>cases a<;>first | (simp [atom] at ha;done) | (simp only [rnV,atom,cond_true,Option.some.injEq] at hu;exact hu.symm)
   subst this
   exact .same ha .nil
  | ptr hp _ =>
   simp only [rnV,Option.map_eq_some_iff] at hu
   obtain ⟨j,hj,rfl⟩:=hu
   exact .ptr (hm _ _ _ hj hp) .nil
  | slice hp hc _ =>
   simp only [rnV,Option.map_eq_some_iff] at hu
   obtain ⟨j,hj,rfl⟩:=hu
   exact .slice (hm _ _ _ hj hp) hc .nil
  | Cf hp hc _ =>
   simp only [rnV,Option.map_eq_some_iff] at hu
   obtain ⟨j,hj,rfl⟩:=hu
   exact .Cf (hm _ _ _ hj hp) hc .nil
  | emp _ =>
   simp only [ae.emp,rnV] at hu
   cases hc:D7 1 (.slice (some ⟨0,0,some 0⟩) 0 big) (.slice (some ⟨0,0,some 0⟩) 0 big)
   ·rw [hc] at hu;cases hu
   ·rw [hc] at hu;cases hu;exact .emp .nil
  | map hp _ =>
   simp only [rnV,Option.map_eq_some_iff] at hu
   obtain ⟨j,hj,rfl⟩:=hu
   exact .map (hm _ _ _ hj hp) .nil
  | func ha hb _ =>
   simp only [rnV,Option.bind_eq_some_iff,Option.map_eq_some_iff] at hu
   obtain ⟨a2,h1,b2,h2,rfl⟩:=hu
   exact .func (by simpa using hl _ _ _ ha h1) (by simpa using hl _ _ _ hb h2) .nil
  | agg ha _ =>
   simp only [rnV,Option.map_eq_some_iff] at hu
   obtain ⟨a2,h1,rfl⟩:=hu
   exact .agg (by simpa using hl _ _ _ ha h1) .nil
  | tup ha _ =>
   simp only [rnV,Option.map_eq_some_iff] at hu
   obtain ⟨a2,h1,rfl⟩:=hu
   exact .tup (by simpa using hl _ _ _ ha h1) .nil
  | iface ha _ =>
   simp only [rnV,Option.map_eq_some_iff] at hu
   obtain ⟨a2,h1,rfl⟩:=hu
   exact .iface (ih _ _ _ ha h1) .nil
theorem eU (hm:∀i j p,m i=some j→θ i=some p→θ' j=some p):∀(es es' es2:List MapEntry),ER θ es es'→J9 m es=some es2→ER θ' es2 es':=by
 intro es
 induction es with
 | nil =>
  intro es' es2 h1 h2
  cases h2
  have:=h1.1.Ci
  simp only [List.map_eq_nil_iff] at this
  subst this
  exact ⟨.nil,.nil,rfl⟩
 | cons e es ih =>
  intro es' es2 h1 h2
  obtain ⟨k1,k2,k3⟩:=h1
  cases es' with
  | nil=>have:=k1.len;simp at this
  | cons e' es' =>
   simp only [J9,rnE,Option.bind_eq_some_iff,Option.map_eq_some_iff] at h2
   obtain ⟨e2,⟨kk,hk,vv,hv,rfl⟩,l3,h3,rfl⟩:=h2
   obtain ⟨a1,a2⟩:=k1.Jm
   obtain ⟨b1,b2⟩:=k2.Jm
   simp only [List.map_cons,List.cons.injEq] at k3
   obtain ⟨c1,c2,c3⟩:=ih es' l3 ⟨a2,b2,k3.2⟩ h3
   exact ⟨.cons (Nv hm 12 _ _ _ a1 hk) c1,.cons (Nv hm 12 _ _ _ b1 hv) c2,by simp [k3.1,c3]⟩
theorem eX {b b2:AB} {p:Pl} {Sv:Nat} (hm:∀i j p,m i=some j→θ i=some p→θ' j=some p) (hb:base≤Sv) (k:BR P θ Sv p w b) (hr:KA m b=some b2):BR P θ' base p w b2∧(live b2=true→Sv≤p.b∧live b=true):=by
 cases k with
 | dead=>cases hr;exact ⟨.dead,fun h=>by cases h⟩
 | cells g hv hz =>
  rename_i c c' e ro fz
  cases ro with
  | true=>cases hr;exact ⟨.dead,fun h=>by cases h⟩
  | false =>
   simp only [KA,Option.map_eq_some_iff] at hr
   obtain ⟨c2,h1,rfl⟩:=hr
   obtain ⟨z1,z2⟩:=hz rfl
   exact ⟨.cells g (Su (Nv hm 12) _ _ _ hv h1) fun _=>⟨by omega,z2⟩,fun _=>⟨z1,rfl⟩⟩
 | grow g hv he hk hs hz =>
  rename_i c pre rr c' e ro fz
  cases ro with
  | true=>cases hr;exact ⟨.dead,fun h=>by cases h⟩
  | false =>
   simp only [KA,Option.map_eq_some_iff] at hr
   obtain ⟨c2,h1,rfl⟩:=hr
   obtain ⟨z1,z2⟩:=hz rfl
   exact ⟨.grow g (Su (Nv hm 12) _ _ _ hv h1) he hk hs fun _=>⟨by omega,z2⟩,fun _=>⟨z1,rfl⟩⟩
 | map g hv hb1 =>
  simp only [KA,Option.map_eq_some_iff] at hr
  obtain ⟨es2,h1,rfl⟩:=hr
  exact ⟨.map g (eU hm _ _ _ hv h1) (by omega),fun _=>⟨hb1,rfl⟩⟩
 | JI=>cases hr;exact ⟨.dead,fun h=>by cases h⟩
 | iter=>cases hr;exact ⟨.dead,fun h=>by cases h⟩
 | Eh=>cases hr;exact ⟨.dead,fun h=>by cases h⟩
theorem eY:∀(l:List AB) (i:Nat) (h':H),Nr m h i l=some h' →
  (∀x b,i≤x→l[x-i]?=some b→h.get x=none∧∃b2,KA m b=some b2∧h'.get x=some b2)∧∀x,(x<i∨i+l.length≤x)→h'.get x=h.get x:=by
 intro l
 induction l with
 | nil=>intro i h' ha;cases ha;exact ⟨fun x b _ hx=>by simp at hx,fun _ _=>rfl⟩
 | cons b l ih =>
  intro i h' ha
  simp only [Nr,Option.bind_eq_some_iff] at ha
  obtain ⟨h1,e1,b2,e2,e3⟩:=ha
  obtain ⟨f1,f2⟩:=NV e3
  obtain ⟨k1,k2⟩:=ih (i+1) h1 e1
  have hget:=IB f2
  refine ⟨fun x c hx hc => ?_,fun x hx => ?_⟩
  ·by_cases e:x=i
   ·subst e
    simp at hc
    subst hc
    exact ⟨by rw [←k2 x (.inl (by omega))];exact f1,b2,e2,by rw [hget,if_pos rfl]⟩
   ·have e4:x-i=(x-(i+1))+1:=by omega
    rw [e4,List.getElem?_cons_succ] at hc
    obtain ⟨g1,c2,g2,g3⟩:=k1 x c (by omega) hc
    exact ⟨g1,c2,g2,by rw [hget,if_neg e];exact g3⟩
  ·rw [hget,if_neg (by simp at hx;omega)]
   exact k2 x (by simp at hx;omega)
theorem fA:∀(l:List AB) (j t:Nat) (b:AB),Ns hs K l j→l[t]?=some b→b=.dead∨hs.get (K+(j+t))=some b:=by
 intro l
 induction l with
 | nil=>intro j t b _ h;simp at h
 | cons c l ih =>
  intro j t b h1 h2
  cases t with
  | zero=>simp at h2;subst h2;exact h1.1
  | succ t =>
   have:=ih (j+1) t b h1.2 (by simpa using h2)
   have e:j+1+t=j+(t+1):=by omega
   rw [e] at this
   exact this
theorem combine (r:WR P base θ h w) (hb:base≤w.heap.size) (x0:Ext θ0 θ) (d0:∀i,i<K→θ0 i≠none) (hKn:K≤n) (ha:Nr (shift K new.length n) h n new=some h') (hn:Ns hs K new 0) (xs:Ext θ0 θs)
  (rs:WR P w.heap.size θs hs w') (kp:Keep w.heap.size w w'):∃θ2,Ext θ θ2∧(∀i j p,shift K new.length n i=some j→θs i=some p→θ2 j=some p)∧WR P base θ2 h' w':=by
 obtain ⟨s1,s2⟩:=eY _ _ _ ha
 have inr:∀x,n≤x→x<n+new.length→∃b b2,new[x-n]?=some b∧h.get x=none∧KA (shift K new.length n) b=some b2∧h'.get x=some b2:=fun x h1 h2=>by
  have hlt:x-n<new.length:=by omega
  obtain ⟨g1,b2,g2,g3⟩:=s1 x new[x-n] h1 (List.getElem?_eq_getElem hlt)
  exact ⟨_,b2,List.getElem?_eq_getElem hlt,g1,g2,g3⟩
 let θ2:Th:=fun i=>if n≤i∧i<n+new.length then some ((θs (K+(i-n))).getD ⟨0,0,0⟩) else θ i
 have t1:∀i,n≤i→i<n+new.length→θ2 i=some ((θs (K+(i-n))).getD ⟨0,0,0⟩):=fun i h1 h2=>if_pos ⟨h1,h2⟩
 have t2:∀i,(i<n∨n+new.length≤i)→θ2 i=θ i:=fun i h1=>if_neg (by omega)
 have hx:Ext θ θ2:=fun i p hp=>by
  by_cases e:n≤i∧i<n+new.length
  ·obtain ⟨b,b2,_,g,_,_⟩:=inr i e.1 e.2
   rw [r.dom i g] at hp;cases hp
  ·rw [t2 i (by omega)];exact hp
 have hm:∀i j p,shift K new.length n i=some j→θs i=some p→θ2 j=some p:=fun i j p hs hp=>by
  unfold shift at hs
  cases c1:Nat.blt i K
  ·rw [c1,cond_false] at hs
   have h1:¬i<K:=fun e=>by have:=Nat.ble_eq_true_of_le (Nat.succ_le_of_lt e);rw [show Nat.blt i K=Nat.ble (i+1) K from rfl,this] at c1;cases c1
   cases c2:Nat.blt i (K+new.length)
   ·rw [c2] at hs;cases hs
   rw [c2] at hs;cases hs
   have h2:i<K+new.length:=Nat.le_of_ble_eq_true c2
   rw [t1 _ (by omega) (by omega)]
   have:K+(i-K+n-n)=i:=by omega
   rw [this,hp];rfl
  ·rw [c1] at hs;cases hs
   have h1:i<K:=Nat.le_of_ble_eq_true c1
   rw [t2 i (by omega)]
   cases e:θ0 i with
   | none=>exact absurd e (d0 i h1)
   | some q =>
    have:=xs _ _ e
    rw [hp] at this;cases this
    exact x0 _ _ e
 have at1:∀i ab,n≤i→i<n+new.length→h'.get i=some ab→∃p,θ2 i=some p∧BR P θ2 base p w' ab∧(live ab=true→w.heap.size≤p.b∧θs (K+(i-n))=some p∧∃b,hs.get (K+(i-n))=some b∧live b=true):=fun i ab h1 h2 hg=>by
  obtain ⟨b,b2,g1,g2,g3,g4⟩:=inr i h1 h2
  rw [hg] at g4;cases g4
  have hnw:=fA _ _ _ _ hn g1
  rw [Nat.zero_add] at hnw
  rw [t1 i h1 h2]
  rcases hnw with rfl | hi
  ·cases g3
   exact ⟨_,rfl,.dead,fun h=>by cases h⟩
  ·obtain ⟨p,k1,k2⟩:=rs.at_ _ _ hi
   obtain ⟨k3,k4⟩:=eX hm hb k2 g3
   exact ⟨p,by rw [k1];rfl,k3,fun hl=>⟨(k4 hl).1,k1,b,hi,(k4 hl).2⟩⟩
 have at2:∀i ab,(i<n∨n+new.length≤i)→h'.get i=some ab→∃p,θ2 i=some p∧BR P θ2 base p w' ab∧h.get i=some ab∧θ i=some p∧(live ab=true→p.b<w.heap.size):=fun i ab h1 hg=>by
  rw [s2 i (by omega)] at hg
  obtain ⟨p,k1,k2⟩:=r.at_ i ab hg
  exact ⟨p,by rw [t2 i h1];exact k1,k2.mono hx fun hl=>kp.block _ (k2.lt hl),hg,k1,fun hl=>k2.lt hl⟩
 refine ⟨θ2,hx,hm,⟨fun i hg => ?_,fun i ab hg => ?_,fun i j p q x y hne g1 g2 l1 l2 e1 e2 => ?_⟩⟩
 ·by_cases e:n≤i∧i<n+new.length
  ·obtain ⟨b,b2,_,_,_,g⟩:=inr i e.1 e.2
   rw [hg] at g;cases g
  ·rw [t2 i (by omega)]
   exact r.dom i (by rw [←s2 i (by omega)];exact hg)
 ·by_cases e:n≤i∧i<n+new.length
  ·obtain ⟨p,k1,k2,_⟩:=at1 i ab e.1 e.2 hg;exact ⟨p,k1,k2⟩
  ·obtain ⟨p,k1,k2,_⟩:=at2 i ab (by omega) hg;exact ⟨p,k1,k2⟩
 ·by_cases ei:n≤i∧i<n+new.length
  ·obtain ⟨p',a1,a2,a3⟩:=at1 i x ei.1 ei.2 g1
   rw [e1] at a1;cases a1
   obtain ⟨a4,a7,b,a5,a6⟩:=a3 l1
   by_cases ej:n≤j∧j<n+new.length
   ·obtain ⟨q',b1,b2,b3⟩:=at1 j y ej.1 ej.2 g2
    rw [e2] at b1;cases b1
    obtain ⟨b4,b7,c,b5,b6⟩:=b3 l2
    exact rs.inj _ _ _ _ _ _ (by omega) a5 b5 a6 b6 a7 b7
   ·obtain ⟨q',b1,b2,b3,b4,b5⟩:=at2 j y (by omega) g2
    rw [e2] at b1;cases b1
    have:=b5 l2
    omega
  ·obtain ⟨p',a1,a2,a3,a4,a5⟩:=at2 i x (by omega) g1
   rw [e1] at a1;cases a1
   have a6:=a5 l1
   by_cases ej:n≤j∧j<n+new.length
   ·obtain ⟨q',b1,b2,b3⟩:=at1 j y ej.1 ej.2 g2
    rw [e2] at b1;cases b1
    have:=(b3 l2).1
    omega
   ·obtain ⟨q',b1,b2,b3,b4,b5⟩:=at2 j y (by omega) g2
    rw [e2] at b1;cases b1
    exact r.inj i j _ _ _ _ hne a3 b3 l1 l2 a4 b4
theorem fB {tab:List IG} (ht:∀s∈tab,WA P h0 G K s):Bg P h0 G (sumF tab K):=by
 intro g args h n v h' n' he base θ w args' gl r hb hv
 unfold sumF at he
 split at he
 ·rename_i s hf
  have hmem:=List.mem_of_find?_eq_some hf
  have hp:=List.find?_some hf
  simp only [Bool.and_eq_true] at hp
  have e1:=Nat.eq_of_beq_eq_true hp.1
  have e2:=J3 (GH 12) _ _ hp.2
  subst e1;subst e2
  cases hk:Nat.ble K n
  ·rw [hk] at he;cases he
  rw [hk,cond_true] at he
  have hKn:=Nat.le_of_ble_eq_true hk
  simp only [Option.bind_eq_some_iff,Option.map_eq_some_iff] at he
  obtain ⟨u,hu,h1,ha,e⟩:=he
  cases e
  obtain ⟨θ0,hs,x0,d0,hn,ans⟩:=ht s hmem base θ w args' gl hb hv
  have fin:∀θs w' v',Ext θ0 θs→VR θs s.v v'→WR P w.heap.size θs hs w'→Keep w.heap.size w w'→∃θ2,Ext θ θ2∧VR θ2 v v'∧WR P base θ2 h' w'∧Keep base w w':=fun θs w' v' xs hvr rs kp=>by
   obtain ⟨θ2,k1,k2,k3⟩:=combine r hb x0 d0 hKn ha hn xs rs kp
   exact ⟨θ2,k1,Nv k2 12 _ _ _ hvr hu,k3,kp.low hb⟩
  cases ans with
  | op k =>
   obtain ⟨nx,θs,w',v',m1,m2,m3,m4,m5,m6⟩:=k
   obtain ⟨θ2,q1,q2,q3,q4⟩:=fin θs w' v' m3 m4 m5 m6
   exact .op ⟨nx,θ2,w',v',m1,m2,q1,q2,q3,q4⟩
  | enter hm k =>
   refine .enter hm (k.mono fun e w' he => ?_)
   obtain ⟨v',θs,rfl,m3,m4,m5,m6⟩:=he
   obtain ⟨θ2,q1,q2,q3,q4⟩:=fin θs w' v' m3 m4 m5 m6
   exact ⟨v',θ2,rfl,q1,q2,q3,q4⟩
 ·cases he
theorem EH {a b:Ah} (ha:Bg P h0 G a) (hb:Bg P h0 G b):Bg P h0 G (DI a b):=by
 intro g args h n v h' n' he
 unfold DI at he
 split at he
 ·rename_i r hr;cases he;exact ha g args h n v h' n' hr
 ·exact hb g args h n v h' n' he
theorem fC {xs:List (FuncId×XK)} (hx:∀x∈xs,XOk P x.1 x.2):Bg P h0 G (xF P xs):=by
 intro g args h n v h' n' he base θ w args' gl r hb hv
 unfold xF at he
 split at he
 ·rename_i x hf
  have hmem:=List.mem_of_find?_eq_some hf
  have e1:=Nat.eq_of_beq_eq_true (List.find?_some (p:=fun x:FuncId×XK=>Nat.beq x.1 g) hf)
  subst e1
  exact .op (eQ (hx x hmem) r hb he hv)
 ·cases he
theorem fD:∀(l:List AB) (j:Nat),Nu hs K l j=true→Ns hs K l j:=by
 intro l
 induction l with
 | nil=>intro j _;trivial
 | cons b l ih =>
  intro j h1
  by_cases e:b=.dead
  ·subst e
   exact ⟨.inl rfl,ih _ h1⟩
  ·have h2:((match hs.get (K+j) with | some c=>Jz c b | none=>false)&&Nu hs K l (j+1))=true:=by
    cases b<;>first | exact h1 | exact absurd rfl e
   rw [Bool.and_eq_true] at h2
   refine ⟨.inr ?_,ih _ h2.2⟩
   have h3:=h2.1
   split at h3
   ·rename_i c hc;rw [hc,PX _ _ h3]
   ·cases h3
theorem fE {rg:Ah→Nat→Ej} {ext:Ah} {sp:Ah→Ah} {Dq:EW} {F d:Nat} {s:IG} (hro:Ro h0 K) (hc:Bg P h0 G (Gq P G rg ext sp Dq F d)) (hk:chk P G K h0 rg ext sp Dq F d s=true):WA P h0 G K s:=by
 intro base θ w args' gl hb hv
 simp only [chk,Bool.and_eq_true] at hk
 obtain ⟨hfl,hk⟩:=hk
 split at hk
 ·rename_i v h n' he
  simp only [Bool.and_eq_true] at hk
  have e1:=GH _ _ _ hk.1
  subst e1
  obtain ⟨θ0,g1,g2,g3,g4⟩:=gl
  have rb:WR P w.heap.size θ0 h0 w:=by
   refine ⟨g3.dom,fun i ab hg => ?_,g3.inj⟩
   obtain ⟨p,k1,k2⟩:=g3.at_ i ab hg
   refine ⟨p,k1,?_⟩
   rcases hro.1 i ab hg with rfl | ⟨c,e,gr,rfl⟩
   ·exact .dead
   ·cases k2 with
    | cells m1 m2 m3=>exact .cells m1 m2 fun e=>by cases e
    | grow m1 m2 m3 m4 m5 m6=>exact .grow m1 m2 m3 m4 m5 fun e=>by cases e
  have gl0:Gl P h0 G w.heap.size θ0 w:=⟨θ0,Ext.refl θ0,g2,rb,fun i p hp=>Nat.lt_of_lt_of_le (g4 i p hp) hb⟩
  refine ⟨θ0,h,g1,fun i hi => ?_,fD _ _ hk.2,hc _ _ _ _ _ _ _ he _ θ0 w args' gl0 rb (Nat.le_refl _) ?_⟩
  ·obtain ⟨ab,hab⟩:=Option.isSome_iff_exists.1 (hro.2 i hi)
   obtain ⟨p,k1,_⟩:=g3.at_ i ab hab
   rw [k1];intro e;cases e
  ·rw [V9 hv hfl]
   have:∀l:List Value,l.all flat=true→VL θ0 l l:=fun l hl=>by
    induction l with
    | nil=>exact .nil
    | cons x l ih=>simp only [List.all_cons,Bool.and_eq_true] at hl;exact .cons (Gn hl.1) (ih hl.2)
   simpa using this _ hfl
 ·cases hk
end
end Go.Proofs.YtihlneenajlhoaaGreatDoor.ae
/-
 A run of one goroutine over known values: slices.AppendSeq over a map's keys, where the map has one entry at most and its keys are texts. Condition: the program bears the two functions (SeqOk).
-/
set_option linter.unusedVariables false
set_option linter.unusedSimpArgs false
namespace Go.Proofs.YtihlneenajlhoaaGreatDoor.ae
open Go Go.RowKit Go.Maps Go.Sort Go.Shelf
structure Pm where
 ap:FuncId
 ks:FuncId
 e:TypeId
def Pn (P:Program) (x:Pm):Prop:=∃ρ ρ':Ren,SlLaysZ.n10 P ρ∧SlLaysZ.n11 P ρ'∧ρ.f 10=x.ks∧ρ'.f 11=x.ap∧ρ.t 26=x.e∧ρ'.t 26=x.e∧size P x.e=some 1
def Po (x:Pm):Ah:=fun g args h n=>bif Nat.beq g x.ap then (match args with
 | [.slice none 0 0,.func (.func k) a b]=>(match a.toList,b.toList with
  | [],[.pointer (some ⟨i,0,none⟩)]=>bif Nat.beq k x.ks then (match rd h i 0 1 with
   | some [.map (some r)]=>(match h.get r with
    | some (.map [] _)=>some (.slice none 0 0,h,n)
    | some (.map [e] clk)=>(match e.key with
     | .string s=>bif Nat.ble s.size 1000000&&Nat.blt e.born clk then (fresh h n (.cells [.string s] x.e false true)).map fun h=>(.slice (some ⟨n,0,none⟩) 1 big,h,n+1) else none
     | _=>none)
    | _=>none)
   | _=>none) else none
  | _,_=>none)
 | _=>none) else none
section
variable {P:Program} {base:Nat} {θ θ':Th} {w w':World} {h h' h0:H} {n n' G:Nat} {v v':Value}
def Nw:Value→Option (DataW Unit×List MemPlace):=fun _=>some (.nil,[])
theorem WR.below (r:WR P base θ h w) (k:Below w.heap.size w w'):WR P base θ h w' :=
 ⟨r.dom,fun i ab hg=>let ⟨p,h1,h2⟩:=r.at_ i ab hg; ⟨p,h1,h2.mono (Ext.refl θ) fun hl=>k.block _ (h2.lt hl)⟩,r.inj⟩
theorem Keep.below (k:Below w.heap.size w w') (hb:base≤w.heap.size):Keep base w w':=⟨k.os,k.tape,k.output,k.size,fun j hj=>k.block j (by omega)⟩
theorem WB {x:Pm} (hx:Pn P x) {b o nn:Nat} {D:DataW Unit} (hbw:b<w.heap.size) (hm:w.cell? ⟨b,0,none⟩=some (.map (some o))) (hown:w.ownsMap P x.e Nw o nn D) (hs:Maps.size D≤1) :
  Enters P x.ap∧Calls P x.ap #[.slice none 0 0,.func (.func x.ks) #[] #[.pointer (some ⟨b,0,none⟩)]] w fun e w'=>∃(v:Value) (ss:List (List UInt8)),e=.returned v∧ss.Perm (strKeys D)∧w'.ownsRow w.heap.size x.e 1 v ss.length (ss.map encStr)∧(v=.slice none 0 0↔ss = [])∧Below w.heap.size w w':=by
 obtain ⟨ρ,ρ',L,L',e1,e2,e3,e4,_⟩:=hx
 refine ⟨by rw [←e2];exact L'.f11.enters rfl,?_⟩
 have hseq:SeqGives Fence.wide 1 P (ρ.f 10) #[.pointer (some ⟨b,0,none⟩)] encStr (fun ss=>ss.Perm (strKeys D)) (Maps.size D) w :=
  AnyZ.keys_gives L Fence.wide 1 trivial rfl (Nat.le_refl _) b o nn D w hbw hm (by rw [e3];exact hown)
 have:=AnyZ.appendSeq_in L' Fence.wide 2 trivial rfl (Nat.le_refl _) (ρ.f 10) #[.pointer (some ⟨b,0,none⟩)] trivial (L.f10.enters rfl) (fun ss=>ss.Perm (strKeys D)) (Maps.size D) (by unfold maxLen;omega) (by omega) w hseq
 rw [e1,e2,e4] at this
 exact callsIn_wide.1 this
theorem WC {x:Pm} (hx:Pn P x):Bg P h0 G (Po x):=by
 intro g args h n v h' n' he base θ w args' gl r hb hv
 unfold Po at he
 cases hg:Nat.beq g x.ap
 ·rw [hg] at he;cases he
 rw [hg,cond_true] at he
 obtain rfl:=Nat.eq_of_beq_eq_true hg
 split at he<;>first | (cases he;done) | skip
 rename_i k a b
 split at he<;>first | (cases he;done) | skip
 rename_i i ha hbl
 cases hk:Nat.beq k x.ks
 ·rw [hk] at he;cases he
 rw [hk,cond_true] at he
 obtain rfl:=Nat.eq_of_beq_eq_true hk
 obtain ⟨x1,l1,q1,k1,k2⟩:=hv.DY
 obtain ⟨x2,l2,q2,k3,k4⟩:=k2.DY
 obtain rfl:=k4.Ci
 obtain rfl:=Dz k1 rfl
 obtain ⟨a',b',rfl,c1,c2⟩:=SI k3
 rw [ha] at c1
 rw [hbl] at c2
 obtain rfl:a'=#[]:=Array.toList_inj.1 (by rw [c1.Ci])
 obtain ⟨y,l3,q3,c3,c4⟩:=c2.DY
 obtain rfl:=c4.Ci
 obtain ⟨p,hp,rfl⟩:=J8 c3
 obtain rfl:b'=#[.pointer (some ⟨p.b,0,none⟩)]:=Array.toList_inj.1 (by rw [q3])
 obtain rfl:args'=#[.slice none 0 0,.func (.func x.ks) #[] #[.pointer (some ⟨p.b,0,none⟩)]]:=Array.toList_inj.1 (by rw [q1,q2])
 split at he<;>first | (cases he;done) | skip
 rename_i rr hr
 obtain ⟨m',hc,hvm⟩:=Pj r hr hp
 have hbw:p.b<w.heap.size:=by
  rcases Nat.lt_or_ge p.b w.heap.size with h1 | h1
  ·exact h1
  ·simp [World.cell?,Array.getElem?_eq_none h1] at hc
 obtain ⟨q,hq,rfl⟩:∃q,θ rr=some q∧m'=.map (some q.b):=by
  cases hvm with
  | same hh _=>simp [atom] at hh
  | map hq _=>exact ⟨_,hq,rfl⟩
 have hsz:size P x.e=some 1:=hx.choose_spec.choose_spec.2.2.2.2.2.2
 have hstr:P.underlying x.e=some .string:=by
  obtain ⟨ρ,ρ',L,L',e1,e2,e3,e4,_⟩:=hx
  rw [←e3];exact L.t26
 split at he<;>first | (cases he;done) | skip
 ·rename_i clk hmap
  cases he
  obtain ⟨q',es',hq',g1,g2,g3⟩:=G7 r hmap
  rw [hq] at hq';cases hq'
  have hes:es'=#[]:=Array.toList_inj.1 (by rw [g2.Ci])
  subst hes
  have hown:w.ownsMap P x.e Nw q.b 0 (.map []):=⟨_,_,g1,⟨by simp,⟨by simp,by simp,by simp⟩,by simp⟩,by simp,by simp⟩
  obtain ⟨m1,m2⟩:=WB hx hbw hc hown (by simp [Maps.size])
  refine .enter (m1 _ _) (m2.mono ?_)
  rintro e w' ⟨v1,ss,rfl,hp1,hrow,hnil,hbel⟩
  have:ss = []:=by simpa [strKeys] using hp1
  have e1:=hnil.2 this
  subst e1
  exact ⟨_,θ,rfl,Ext.refl θ,.same rfl .nil,r.below hbel,Keep.below hbel hb⟩
 ·rename_i e clk hmap
  split at he<;>first | (cases he;done) | skip
  rename_i s hkey
  cases hcc:(Nat.ble s.size 1000000&&Nat.blt e.born clk)
  ·rw [hcc] at he;cases he
  rw [hcc,cond_true,Option.map_eq_some_iff] at he
  obtain ⟨h1,hf,e1⟩:=he
  cases e1
  simp only [Bool.and_eq_true] at hcc
  have hs1:=Nat.le_of_ble_eq_true hcc.1
  have hs2:e.born<clk:=Nat.le_of_ble_eq_true hcc.2
  obtain ⟨q',es',hq',g1,g2,g3⟩:=G7 r hmap
  rw [hq] at hq';cases hq'
  obtain ⟨e',l',hes⟩:=g2.inv
  rw [hes] at g2
  obtain ⟨d1,d2,d3,d4⟩:=g2.cons
  have:=d4.Ci
  subst this
  have hes:es'=#[e']:=Array.toList_inj.1 (by rw [hes])
  subst hes
  have hk':e'.key=.string s:=by rw [hkey] at d1;exact Dz d1 rfl
  have hmx:s.size≤maxLen:=by unfold maxLen;omega
  have WE:keyOf P x.e (.string s)=some (.string s.data.toList):=by simp [keyOf,hstr,mapKey,hmx]
  have hown:w.ownsMap P x.e Nw q.b 1 (.map [(.string s.data.toList,.nil)]):=by
   refine ⟨_,_,g1,⟨by simp [maxLen],⟨by simp;omega,by simp,by simp⟩,?_⟩,by simp,?_⟩
   ·intro y hy
    simp at hy
    subst hy
    exact ⟨(.string s.data.toList,.nil),by simp [WideElems.rd,hk',WE,Nw]⟩
   ·simp [WideElems.rg,WideElems.rd,hk',WE,Nw,DataW.insert]
  obtain ⟨m1,m2⟩:=WB hx hbw hc hown (by simp [Maps.size])
  refine .enter (m1 _ _) (m2.mono ?_)
  rintro ee w' ⟨v1,ss,rfl,hp1,hrow,hnil,hbel⟩
  have hss:ss = [s.data.toList]:=by simpa [strKeys,strOf] using hp1
  subst hss
  obtain ⟨hlen,hcase⟩:=hrow
  rcases hcase with ⟨hv1,_⟩ | ⟨gb,cap,cur,rfl,hge,hheap,hcap,_,fF,htake⟩
  ·exact absurd (hnil.1 hv1) (by simp)
  ·obtain ⟨f1,f2⟩:=NV hf
   have fG:cur.toList.take 1 = [.string s]:=by simpa [encStr] using htake
   obtain ⟨rest,hrest⟩:∃rest,cur.toList = [.string s]++rest:=⟨cur.toList.drop 1,by rw [←fG,List.take_append_drop]⟩
   have Pq:Ext θ (fun j=>if j=n then some ⟨gb,cap,1⟩ else θ j):=fun j pp hj=>by
    show (if j=n then _ else θ j)=some pp
    split
    ·rename_i e0;subst e0;rw [r.dom _ f1] at hj;cases hj
    ·exact hj
   obtain ⟨hw,hx2⟩:=(r.below hbel).new (θ':=fun j=>if j=n then some ⟨gb,cap,1⟩ else θ j) (p:=⟨gb,cap,1⟩) (w':=w') f2 f1 (fun j=>rfl)
    (.grow (pre:=[.string s]) (r:=rest) hheap (.same rfl .nil) hrest (by simpa using fF) hsz fun _=>⟨by show base≤gb;omega,.inl rfl⟩)
    (fun j z pl hj hl hq2=>by
     obtain ⟨q2,u1,u2⟩:=r.at_ j z hj
     rw [hq2] at u1;cases u1
     have:=u2.lt hl
     exact ⟨rfl,by simp;omega⟩)
   exact ⟨_,_,rfl,hx2,.Cf (p:=⟨gb,cap,1⟩) (by simp) (by simp) .nil,hw,Keep.below hbel hb⟩
end
end Go.Proofs.YtihlneenajlhoaaGreatDoor.ae
/-
 A run of one goroutine over known values: the same evaluator, put so that the kernel runs it faster; that it is the same is proved. Condition: none.
-/
set_option linter.unusedVariables false
set_option linter.unusedSimpArgs false
namespace Go.Proofs.YtihlneenajlhoaaGreatDoor.ae
open Go
abbrev KF:=Program→Ah→Nat→T Value→H→Nat→R
def II (o:Oper):KF:=fun P call G tm h n=>evalOp P G call tm o h n
def k1 (x:Operand) (k:Program→Value→H→Nat→R):KF:=fun P _ G tm h n=>bif okO G x then k P (evA G tm x) h n else none
def k2 (x y:Operand) (k:Program→Value→Value→H→Nat→R):KF:=fun P _ G tm h n=>bif okO G x&&okO G y then k P (evA G tm x) (evA G tm y) h n else none
def Pv:Program→Value→H→Nat→R:=fun _ v h n=>some (v,h,n)
def WF (t:TypeId):Program→Value→H→Nat→R:=fun P v h n=>keepA (LM P t v h) h n
def WG (t:TypeId):Program→Value→Value→H→Nat→R:=fun P u v h n=>LU (O1 P t u v h) n
def WH:Program→Value→H→Nat→R:=fun _ v h n=>keepA (RG v) h n
def WI (s:TypeId) (f:Nat):Program→Value→H→Nat→R:=fun P v h n=>keepA (O8 P s v f) h n
def WJ (s:TypeId) (f:Nat):Program→Value→H→Nat→R:=fun P v h n=>keepA (O9 P s v f) h n
def WL (t:TypeId):Program→Value→Value→H→Nat→R:=fun P u v h n=>keepA (PD P t u v) h n
def WM (i:Nat):Program→Value→H→Nat→R:=fun _ v h n=>keepA (PE v i) h n
def WN (e:TypeId):Program→Value→H→Nat→R:=fun _ v h n=>IC e (lst v) ptrTo h n
def WO (t:TypeId):Program→Value→H→Nat→R:=fun P v h n=>PO P t v h n
def WP (b:Bool):Program→Value→H→Nat→R:=fun _ v h n=>(PP v b h).map fun r=>(r.1,r.2,n)
def WQ (c:Call) (f:Operand):KF:=fun P call G tm h n=>bif (Op.call c).operands.toList.all (okO G) then (match evA G tm f with
 | .func (.func g) first cap=>call g (first.toList++(c.args.toList.map (evA G tm)++cap.toList)) h n
 | _=>none) else none
def WS (e:TypeId):KF:=fun P _ _ _ h n=>(zero P e).bind fun z=>bif (lst z).all atom then IC e (lst z) ptrTo h n else none
def WU (t:TypeId) (parts:Array (Nat×Operand)):KF:=fun P _ G tm h n=>bif (parts.toList.map (·.2)).all (okO G) then keepA (O6 P t (JK (evA G tm) parts)) h n else none
def WV (t:TypeId) (len:Nat) (parts:Array (Nat×Operand)):KF:=fun P _ G tm h n=>bif (parts.toList.map (·.2)).all (okO G) then O7 P t len (JK (evA G tm) parts) h n else none
def LZ:List UInt8→List UInt8→Bool
 | [],[]=>true
 | a :: l,b :: m=>Nat.beq a.toNat b.toNat&&LZ l m
 | _,_=>false
def Px (op:BinOp) (a b:Value):Option Value:=match a,b with
 | .int k x,.int k' y=>if k=k' then (match op with
  | .add=>some (.int k (k.wrap (x+y)))
  | .sub=>some (.int k (k.wrap (x-y)))
  | .eql=>some (.bool (x==y))
  | .neq=>some (.bool (x != y))
  | .lss=>some (.bool (decide (x<y)))
  | .leq=>some (.bool (decide (x≤y)))
  | .gtr=>some (.bool (decide (x>y)))
  | .geq=>some (.bool (decide (x≥y)))
  | _=>none) else none
 | .string x,.string y=>(match op with
  | .eql=>some (.bool (LZ x.data.toList y.data.toList))
  | .neq=>some (.bool (!LZ x.data.toList y.data.toList))
  | _=>none)
 | _,_=>none
def WW (o:Oper) (op:BinOp) (x y:Operand):KF:=fun P call G tm h n=>bif okO G x&&okO G y then (match Px op (evA G tm x) (evA G tm y) with
 | some v=>some (v,h,n)
 | none=>II o P call G tm h n) else none
def WX (o:Oper) (x:Operand):KF:=fun P call G tm h n=>bif okO G x then (match evA G tm x with
 | .bool b=>some (.bool (!b),h,n)
 | _=>II o P call G tm h n) else none
def Sz (o:Oper) (t:TypeId) (x:Operand):KF:=fun P call G tm h n=>bif okO G x then (match evA G tm x with
 | .slice (some a) k c=>keepA (PT P t (.slice (some a) k c) h) h n
 | _=>II o P call G tm h n) else none
def WY (o:Oper) (t:TypeId) (x:Operand) (lo hi mx:Option Operand):KF:=fun P call G tm h n=>bif o.op.operands.toList.all (okO G) then (match evA G tm x with
 | .slice (some a) k c=>keepA (PH P t (.slice (some a) k c) (lo.map (evA G tm)) (hi.map (evA G tm)) (mx.map (evA G tm)) h) h n
 | _=>II o P call G tm h n) else none
def S9 (o:Oper) (c:Call) (b:Builtin):KF:=match b with
 | .append=>fun P _ G tm h n=>bif (Op.call c).operands.toList.all (okO G) then Ju P .append c.argTypes (c.args.toList.map (evA G tm)) h n else none
 | .len=>(match c.args.toList,c.argTypes[0]? with
  | [x],some t=>Sz o t x
  | _,_=>II o)
 | _=>II o
def opK (o:Oper):KF:=match o.op with
 | .move x=>k1 x Pv
 | .assign x=>k1 x Pv
 | .load t a=>k1 a (WF t)
 | .store t a x=>k2 a x (WG t)
 | .nilCheck x=>k1 x WH
 | .fieldAddr s x f=>k1 x (WI s f)
 | .field s x f=>k1 x (WJ s f)
 | .indexAddr t x i=>k2 x i (WL t)
 | .extract t i=>k1 t (WM i)
 | .box e x=>k1 x (WN e)
 | .range t x=>k1 x (WO t)
 | .next x b=>k1 x (WP b)
 | .alloc e=>WS e
 | .build t ps=>WU t ps
 | .buildSlice t k ps=>WV t k ps
 | .binOp op _ x y _=>WW o op x y
 | .unOp op _ x=>(match op with | .not=>WX o x | _=>II o)
 | .slice t x lo hi mx=>WY o t x lo hi mx
 | .call c=>(match c.callee with
  | .value f=>WQ c f
  | .builtin b=>S9 o c b
  | _=>II o)
 | _=>II o
def TA (P:Program) (G:Nat) (call:Ah) (N:Nat) (ops:Array Oper) (i:Nat) (s:St):Option St:=match ops[i]? with
 | none=>some s
 | some o=>bif Region.wanted o (EP ops s.tm) then
   (match PV G s.tm o with
    | some d=>(CO N s.tm o.dst undef).map fun tm=>⟨tm,s.h,s.n,d :: s.ds⟩
    | none=>(opK o P call G s.tm s.h s.n).bind fun r=>(CO N s.tm o.dst r.1).map fun tm=>⟨tm,r.2.1,r.2.2,s.ds⟩)
  else (CO N s.tm o.dst undef).map fun tm=>⟨tm,s.h,s.n,s.ds⟩
def Py (P:Program) (G:Nat) (call:Ah) (N:Nat) (ops:Array Oper):List Nat→St→Option St
 | [],s=>some s
 | i :: l,s=>(TA P G call N ops i s).bind (Py P G call N ops l)
section
variable {P:Program} {G N n:Nat} {call:Ah} {tm:T Value} {h:H} {o:Oper} {v:Value}
theorem fH:∀l m:List UInt8,LZ l m=(l==m):=by
 intro l
 induction l with
 | nil=>intro m;cases m<;>rfl
 | cons a l ih =>
  intro m
  cases m with
  | nil=>rfl
  | cons b m =>
   simp only [LZ,ih,List.cons_beq_cons]
   congr 1
   by_cases e:a=b
   ·subst e;simp [GX]
   ·rw [EM fun h=>e (UInt8.toNat_inj.1 h)]
    simpa using e
theorem fJ (x y:ByteArray):LZ x.data.toList y.data.toList=(x.toList==y.toList):=by
 rw [fH,ByteArray.toList_eq,ByteArray.toList_eq]
theorem WZ {op:BinOp} {t yt:TypeId} {x y:Operand} {ρ:Operand→Value} (ho:o.op=.binOp op t x y yt) (hf:Px op (ρ x) (ρ y)=some v):DF P ρ o=some v:=by
 unfold DF
 have hfl:Il o.op=true:=by rw [ho];rfl
 have hops:o.op.operands.toList = [x,y]:=by rw [ho];rfl
 rw [hfl,hops,Bool.true_and]
 have key:((flat (ρ x)&&flat (ρ y))=true∧flat v=true)∧JJ P (execOp ρ o)=some (.value v):=by
  unfold Px at hf
  split at hf
  ·rename_i k a k' b hx hy
   split at hf
   ·rename_i hk
    subst hk
    cases op<;>simp only [Option.some.injEq,reduceCtorEq] at hf<;>subst hf<;>refine ⟨⟨by rw [hx,hy];rfl,by rfl⟩,?_⟩<;>simp [execOp,ho,hx,hy,eqGuard,binOp,Op.intArith,Op.intCmp]<;>rfl
   ·cases hf
  ·rename_i a b hx hy
   cases op<;>simp only [Option.some.injEq,reduceCtorEq] at hf<;>subst hf<;>refine ⟨⟨by rw [hx,hy];rfl,by rfl⟩,?_⟩<;>rw [fJ]<;>simp [execOp,ho,hx,hy,eqGuard,binOp,Op.stringOp]<;>rfl
  ·cases hf
 obtain ⟨⟨q1,q2⟩,q3⟩:=key
 simp only [List.all_cons,List.all_nil,Bool.and_true,q1,cond_true,q3,q2]
theorem Fa (hf:Il o.op=false) (ρ:Operand→Value):DF P ρ o=none:=by simp [DF,hf]
theorem Pz:opK o P call G tm h n=evalOp P G call tm o h n:=by
 unfold opK
 cases ho:o.op
 case move x=>simp [evalOp,ho,k1,Pv,Op.operands,Fa (o:=o) (P:=P) (by rw [ho];rfl),Af]
 case assign x=>simp [evalOp,ho,k1,Pv,Op.operands,Fa (o:=o) (P:=P) (by rw [ho];rfl),Af]
 case load t a=>simp [evalOp,ho,k1,WF,Op.operands,Fa (o:=o) (P:=P) (by rw [ho];rfl),Af]
 case store t a x=>simp [evalOp,ho,k2,WG,Op.operands,Fa (o:=o) (P:=P) (by rw [ho];rfl),Af]
 case nilCheck x=>simp [evalOp,ho,k1,WH,Op.operands,Fa (o:=o) (P:=P) (by rw [ho];rfl),Af]
 case fieldAddr s x f=>simp [evalOp,ho,k1,WI,Op.operands,Fa (o:=o) (P:=P) (by rw [ho];rfl),Af]
 case field s x f=>simp [evalOp,ho,k1,WJ,Op.operands,Fa (o:=o) (P:=P) (by rw [ho];rfl),Af]
 case indexAddr t x i=>simp [evalOp,ho,k2,WL,Op.operands,Fa (o:=o) (P:=P) (by rw [ho];rfl),Af]
 case extract t i=>simp [evalOp,ho,k1,WM,Op.operands,Fa (o:=o) (P:=P) (by rw [ho];rfl),Af]
 case box e x=>simp [evalOp,ho,k1,WN,Op.operands,Fa (o:=o) (P:=P) (by rw [ho];rfl),Af]
 case range t x=>simp [evalOp,ho,k1,WO,Op.operands,Fa (o:=o) (P:=P) (by rw [ho];rfl),Af]
 case next x b=>simp [evalOp,ho,k1,WP,Op.operands,Fa (o:=o) (P:=P) (by rw [ho];rfl),Af]
 case alloc e=>simp [evalOp,ho,WS,Op.operands,Fa (o:=o) (P:=P) (by rw [ho];rfl),Af]
 case build t ps=>simp only [evalOp,ho,WU,Op.operands,Fa (o:=o) (P:=P) (by rw [ho];rfl),Af]
 case buildSlice t k ps=>simp only [evalOp,ho,WV,Op.operands,Fa (o:=o) (P:=P) (by rw [ho];rfl),Af]
 case binOp op t x y yt =>
  simp only [WW]
  cases hk:(okO G x&&okO G y)
  ·have:o.op.operands.toList.all (okO G)=false:=by rw [ho];simpa [Op.operands] using hk
   simp [evalOp,this]
  ·rw [cond_true]
   split
   ·rename_i v hv
    have:=WZ (P:=P) ho hv
    have h2:(Op.binOp op t x y yt).operands.toList.all (okO G)=true:=by simpa [Op.operands] using hk
    simp only [evalOp,ho,h2,cond_true,this]
   ·rfl
 case unOp op t x =>
  cases op<;>try rfl
  simp only [WX]
  cases hk:okO G x
  ·have:o.op.operands.toList.all (okO G)=false:=by rw [ho];simpa [Op.operands] using hk
   simp [evalOp,this]
  ·rw [cond_true]
   split
   ·rename_i b hb
    have h2:(Op.unOp .not t x).operands.toList.all (okO G)=true:=by simpa [Op.operands] using hk
    have:DF P (evA G tm) o=some (.bool (!b)):=by
     unfold DF
     have hops:o.op.operands.toList = [x]:=by rw [ho];rfl
     rw [show Il o.op=true by rw [ho];rfl,hops,Bool.true_and]
     have q:JJ P (execOp (evA G tm) o)=some (.value (.bool (!b))):=by simp only [execOp,ho,hb];rfl
     rw [show ([x].all fun y=>flat (evA G tm y))=true by simp [hb];rfl,cond_true,q]
     rfl
    simp only [evalOp,ho,h2,cond_true,this]
   ·rfl
 case slice t x lo hi mx =>
  simp only [WY]
  cases hk:o.op.operands.toList.all (okO G)
  ·simp [evalOp,hk]
  ·rw [cond_true]
   split
   ·rename_i a k c hs
    have hnf:DF P (evA G tm) o=none:=by
     unfold DF
     have:(o.op.operands.toList.all fun y=>flat (evA G tm y))=false:=by
      rw [ho]
      simp only [Op.operands]
      have:flat (evA G tm x)=false:=by rw [hs];rfl
      simp [this]
     rw [this,Bool.and_false,cond_false]
    rw [ho] at hk
    simp only [evalOp,hk,cond_true,ho,hnf,Af,hs]
   ·rfl
 case call c =>
  simp only []
  cases hc:c.callee with
  | value f =>
   simp only [WQ,evalOp,ho,hc]
   rfl
  | invoke a b=>rfl
  | builtin b =>
   simp only []
   cases b<;>try rfl
   case append =>
    simp only [S9]
    have hnf:DF P (evA G tm) o=none:=Fa (by rw [ho];simp [Il,hc]) _
    cases hk:(Op.call c).operands.toList.all (okO G)
    ·simp [evalOp,ho,hk]
    ·simp only [evalOp,ho,hk,cond_true,hc,hnf,Af]
   case len =>
    have slow:∀k:KF,k=II o→k P call G tm h n=evalOp P G call tm o h n:=fun k e=>by rw [e];rfl
    simp only [S9]
    rcases hx:c.args.toList with _ | ⟨x,_ | ⟨y,l⟩⟩
    ·exact slow _ rfl
    ·cases ht:c.argTypes[0]? with
     | none=>exact slow _ rfl
     | some t =>
      show Sz o t x P call G tm h n=_
      simp only [Sz]
      have hops:(Op.call c).operands.toList = [x]:=by simp [Op.operands,Call.operands,hc,hx]
      cases hk:okO G x
      ·have:o.op.operands.toList.all (okO G)=false:=by rw [ho,hops];simpa using hk
       simp [evalOp,this]
      ·rw [cond_true]
       split
       ·rename_i a k cc hs
        have h2:(Op.call c).operands.toList.all (okO G)=true:=by rw [hops];simpa using hk
        have hnf:DF P (evA G tm) o=none:=by
         unfold DF
         have:(o.op.operands.toList.all fun y=>flat (evA G tm y))=false:=by
          rw [ho,hops]
          have:flat (evA G tm x)=false:=by rw [hs];rfl
          simp [this]
         rw [this,Bool.and_false,cond_false]
        simp only [evalOp,ho,h2,cond_true,hc,hnf,Af,hx,List.map_cons,List.map_nil,Ju,ht,Option.bind_some,hs]
       ·rfl
    ·exact slow _ rfl
 all_goals rfl
theorem fK (ops:Array Oper) (i:Nat) (s:St):TA P G call N ops i s=Ei P G call N ops none i s:=by
 unfold TA Ei
 simp only [Pz]
 rfl
theorem fM (ops:Array Oper):∀(l:List Nat) (s:St),Py P G call N ops l s=FZ P G call N ops none l s:=by
 intro l
 induction l with
 | nil=>intro s;rfl
 | cons i l ih =>
  intro s
  simp only [Py,FZ,fK]
  congr 1
  funext s
  exact ih s
end
end Go.Proofs.YtihlneenajlhoaaGreatDoor.ae
/-
 A run of one goroutine over known values: functions in which the order of evaluation may turn what is known: all ends are followed, and where the function is left they must be one but for the numbers of new blocks. Conditions: those of the code's evaluator.
-/
set_option linter.unusedVariables false
set_option linter.unusedSimpArgs false
namespace Go.Proofs.YtihlneenajlhoaaGreatDoor.ae
open Go
/-! One store that stands for another one: new numbers. -/
def look (ρ:List (Nat×Nat)) (i:Nat):Nat:=match ρ with
 | []=>i
 | x :: l=>bif Nat.beq x.1 i then x.2 else look l i
def ren (h:H) (ρ:List (Nat×Nat)) (i:Nat):Option Nat:=match h.get i with
 | none=>none
 | some _=>some (look ρ i)
def rnF (m:Nat→Option Nat):AB→Option AB
 | .dead=>some .dead
 | .cells c e ro g=>(G8 (rnV m 12) c).map fun c=>.cells c e ro g
 | .map es c=>(J9 m es).map fun es=>.map es c
 | .iter none a b c=>some (.iter none a b c)
 | .iter (some r) a b c=>(m r).map fun r=>.iter (some r) a b c
 | .Eh a b=>some (.Eh a b)
def T.allI {α:Type} (f:Nat→α→Bool):T α→(Nat→Nat)→Bool
 | .nil,_=>true
 | .node v l r,k=>(match v with | none=>true | some a=>f (k 0) a)&&T.allI f l (fun j=>k (2*j+1))&&T.allI f r (fun j=>k (2*j+2))
theorem T.TB {α:Type} {f:Nat→α→Bool}:∀(t:T α) (k:Nat→Nat),T.allI f t k=true→∀j a,t.get j=some a→f (k j) a=true:=by
 intro t
 induction t with
 | nil=>intro k _ j a h;cases h
 | node v l r il ir =>
  intro k h j a hj
  simp only [T.allI,Bool.and_eq_true] at h
  obtain ⟨⟨h1,h2⟩,h3⟩:=h
  simp only [T.get] at hj
  by_cases e:j=0
  ·subst e
   simp only [GX,cond_true] at hj
   rw [hj] at h1
   exact h1
  ·rw [EM e,cond_false] at hj
   rcases Nat.mod_two_eq_zero_or_one j with hm | hm
   ·rw [hm,show Nat.beq 0 1=false from rfl,cond_false] at hj
    have:=ir _ h3 (j / 2-1) a hj
    have e2:2*(j / 2-1)+2=j:=by omega
    rw [e2] at this
    exact this
   ·rw [hm,show Nat.beq 1 1=true from rfl,cond_true] at hj
    have:=il _ h2 (j / 2) a hj
    have e2:2*(j / 2)+1=j:=by omega
    rw [e2] at this
    exact this
def P5 (h:H) (i:Nat):Bool:=match h.get i with | some ab=>live ab | none=>false
def fO (h hk:H) (ρ:List (Nat×Nat)):Bool:=T.allI (fun i ab=>match ab with
 | .dead=>true
 | ab=>(match rnF (ren h ρ) ab,hk.get (look ρ i) with | some x,some y=>Jz x y | _,_=>false)) h (fun i=>i)
def We (h:H) (ρ:List (Nat×Nat)):Bool:=ρ.all fun x=>(ρ.any (fun y=>Nat.beq y.1 x.2) || !P5 h x.2)&&ρ.all fun y => !Nat.beq x.2 y.2||Nat.beq x.1 y.1
def P6 (he h hk:H) (v vk:Value) (ρ:List (Nat×Nat)):Bool:=fO h hk ρ&&We h ρ&&(ρ.all fun x=>(he.get x.1).isNone)&&(match rnV (ren h ρ) 12 v with | some u=>D7 12 u vk | none=>false)
structure Hint where
 kill:List Nat
 maps:List (List (Nat×Nat))
def Wh (h:H):List Nat→Option H
 | []=>some h
 | i :: l=>(hput h i .dead).bind fun h=>Wh h l
def Wi:List (Value×H×Nat)→Nat
 | []=>0
 | o :: l=>Nat.max o.2.2 (Wi l)
def Ny (he h:H) (v:Value):List (Value×H×Nat)→List (List (Nat×Nat))→Bool
 | [],_=>true
 | o :: l,ρ :: ρs=>P6 he h o.2.1 v o.1 ρ&&Ny he h v l ρs
 | _ :: _,[]=>false
def TC (he:H) (outs:List (Value×H×Nat)) (hint:Hint):R:=match outs with
 | []=>none
 | o :: l=>(Wh o.2.1 hint.kill).bind fun h=>bif T.allI (fun i _=>(h.get i).isSome) he (fun i=>i)&&Ny he h o.1 (o :: l) hint.maps then some (o.1,h,Wi (o :: l)) else none
/-! All orders of a region, followed one by one. -/
def La {α β:Type}:List α→(α→Option (List β))→Option (List β)
 | [],_=>some []
 | a :: l,f=>(f a).bind fun x=>(La l f).map (x ++ ·)
def allA (P:Program) (G:Nat) (call:Ah) (N:Nat) (ops:Array Oper) (n0:Nat):Nat→Array Bool→St→Option (List St)
 | 0,listed,s=>(match Region.ready .any ops listed with | []=>some [s] | _=>none)
 | f+1,listed,s=>(match Region.ready .any ops listed with
  | []=>some [s]
  | rs=>La rs fun i=>(Ei P G call N ops (some n0) i s).bind fun s1=>allA P G call N ops n0 f (listed.setIfInBounds i true) s1)
def Nz (P:Program) (G:Nat) (reg:Ej) (call:Ah) (N:Nat) (ops:Array Oper) (draw:Bool) (s:St):Option (List St):=match reg ops draw s with
 | some s1=>some [s1]
 | none=>bif draw then allA P G call N ops s.n ops.size (Array.replicate ops.size false) ⟨s.tm,s.h,s.n+ops.size,s.ds⟩ else none
def EX (G:Nat) (rn:Array Oper→Bool→St→Option (List St)):Nat→Code→St→Option (List (Ex×St))
 | 0,_,_=>none
 | f+1,c,s=>match c with
  | .skip=>some [(.normal,s)]
  | .label _=>some [(.normal,s)]
  | .region _ ops d=>(rn ops d s).map fun l=>l.map fun s=>(.normal,s)
  | .seq a b=>(EX G rn f a s).bind fun l=>La l fun r=>(match r.1 with
   | .normal=>EX G rn f b r.2
   | ex=>some [(ex,r.2)])
  | .cond c a b=>(match evA G s.tm c with
   | .bool t=>EX G rn f (bif t then a else b) s
   | _=>none)
  | .block id b=>(EX G rn f b s).map fun l=>l.map fun r=>(match r.1 with
   | .exit j=>(bif Nat.beq j id then .normal else .exit j,r.2)
   | ex=>(ex,r.2))
  | .loop b=>(EX G rn f b s).bind fun l=>La l fun r=>(match r.1 with
   | .normal=>EX G rn f (.loop b) r.2
   | ex=>some [(ex,r.2)])
  | .scope b=>EX G rn f b s
  | .exit id=>some [(.exit id,s)]
  | .ret=>some [(.ret,s)]
  | _=>none
def Lc (P:Program) (dcall:EW) (fn:Func):List (Ex×St)→Option (List (Value×H×Nat))
 | []=>some []
 | r :: l=>(match r.1 with
  | .exit _=>none
  | _=>(Iq dcall r.2.ds r.2.h r.2.n).bind fun q=>(GI P fn.results.toList ⟨r.2.tm,q.1,q.2,[]⟩).bind fun vs=>(Lc P dcall fn l).map fun o=>(JP vs,q.1,q.2) :: o)
def TD (P:Program) (G:Nat) (reg:Ej) (call:Ah) (dcall:EW) (F:Nat) (fn:Func) (c:Code) (args:List Value) (h:H) (n:Nat) (hint:Hint):R :=
 (J6 fn.ntmps 0 args .nil).bind fun tm=>(EX G (Nz P G reg call fn.ntmps) F c ⟨tm,h,n,[]⟩).bind fun l=>(Lc P dcall fn l).bind fun o=>TC h o hint
def ndF (P:Program) (G:Nat) (rg:Ah→Nat→Ej) (Dq:EW) (F:Nat) (hints:List (FuncId×Nat×Hint)):Ah→Ah:=fun call g args h n =>
 match hints.find? (fun x=>Nat.beq x.1 g&&Nat.beq x.2.1 n) with
 | none=>none
 | some x=>(match P.funcs[g]? with
  | none=>none
  | some fn=>(match fn.body with
   | none=>none
   | some c=>TD P G (rg call fn.ntmps) call (Pg P G Dq call F) F fn c args h n x.2.2))
section
variable {P:Program} {G N base:Nat} {θ θ' θe θk:Th} {w w':World} {h h' hk he h0:H} {n n':Nat} {call:Ah} {tm tm':T Value} {a:Act} {v v' u:Value} {s s':St} {m:Nat→Option Nat} {ρ:List (Nat×Nat)}
theorem TE {α β:Type} {f:α→Option (List β)}:∀ {l:List α} {r:List β},La l f=some r→∀a∈l,∃x,f a=some x∧∀b∈x,b∈r:=by
 intro l
 induction l with
 | nil=>intro r _ a ha;cases ha
 | cons a l ih =>
  intro r h b hb
  simp only [La,Option.bind_eq_some_iff,Option.map_eq_some_iff] at h
  obtain ⟨x,h1,y,h2,rfl⟩:=h
  rcases List.mem_cons.1 hb with rfl | hb
  ·exact ⟨x,h1,fun c hc=>List.mem_append_left _ hc⟩
  ·obtain ⟨z,k1,k2⟩:=ih h2 b hb
   exact ⟨z,k1,fun c hc=>List.mem_append_right _ (k2 c hc)⟩
theorem fP {ops:Array Oper} {n0:Nat}:∀(f t:Nat) (listed:Array Bool) (s:St) (l:List St),allA P G call N ops n0 f listed s=some l→∃s'∈l,FZ P G call N ops (some n0) (Region.linearise.go .any ops f t listed []) s=some s':=by
 intro f
 induction f with
 | zero =>
  intro t listed s l h
  unfold allA at h
  split at h
  ·cases h;exact ⟨s,List.mem_cons_self ..,by simp [Region.linearise.go,FZ]⟩
  ·cases h
 | succ f ih =>
  intro t listed s l h
  unfold allA at h
  simp only [Region.linearise.go]
  change ∃s'∈l,FZ P G call N ops (some n0) (match (Region.ready .any ops listed)[t%(Region.ready .any ops listed).length]? with
   | some i=>Region.linearise.go .any ops f (t / (Region.ready .any ops listed).length) (listed.setIfInBounds i true) [i]
   | none=>[].reverse) s=some s'
  split at h
  ·rename_i hr
   cases h
   rw [hr]
   exact ⟨s,List.mem_cons_self ..,by simp [FZ]⟩
  ·rename_i rs hne
   cases hi:(Region.ready .any ops listed)[t%(Region.ready .any ops listed).length]? with
   | none =>
    exfalso
    cases hr:Region.ready .any ops listed with
    | nil=>exact hne hr
    | cons x xs =>
     rw [hr] at hi
     have hlt:t%(x :: xs).length<(x :: xs).length:=Nat.mod_lt _ (by simp)
     rw [List.getElem?_eq_getElem hlt] at hi
     cases hi
   | some i =>
    simp only []
    rw [linearise_go_acc,List.reverse_singleton,List.singleton_append]
    obtain ⟨x,k1,k2⟩:=TE h i (List.mem_of_getElem? hi)
    rw [Option.bind_eq_some_iff] at k1
    obtain ⟨s1,k3,k4⟩:=k1
    obtain ⟨s',k5,k6⟩:=ih (t / (Region.ready .any ops listed).length) _ _ _ k4
    refine ⟨s',k2 _ k5,?_⟩
    simp only [FZ,k3,Option.bind_some]
    exact k6
theorem fQ {rg:Ah→Nat→Ej} (hrg:RgOk P h0 G rg) {ops:Array Oper} {draw:Bool} {id:Nat} {l:List St} {Q:Exit→Act→World→Prop} (hm:P.follows .mixedOrders=true) (hc:Bg P h0 G call) (hr:Nz P G (rg call N) call N ops draw s=some l) (gl:Gl P h0 G base θ w) (ar:AR θ N s.tm s.ds a) (r:WR P base θ s.h w) (hb:base≤w.heap.size)
  (hn:∀s'∈l,∀a' θ' w',Ext θ θ'→AR θ' N s'.tm s'.ds a'→WR P base θ' s'.h w'→Keep base w w'→Q .normal a' w'):(Code.region id ops draw).wp P Q a w:=by
 unfold Nz at hr
 split at hr
 ·rename_i s1 h1
  cases hr
  exact hrg call hc N base ops draw id s s1 a θ w Q h1 gl ar r hb (hn s1 (List.mem_cons_self ..))
 ·cases draw with
  | false=>cases hr
  | true =>
   rw [cond_true] at hr
   refine wp_region_draw fun t => ?_
   obtain ⟨s',k1,ho⟩:=fP _ t _ _ _ hr
   simp only [Region.schedule,hm,Bool.true_or,if_true]
   exact Nl hc _ _ s' a θ { w with drawn:=w.drawn+1 } ho (gl.mono (Ext.refl θ) ⟨rfl,rfl,rfl,Nat.le_refl _,fun _ _=>rfl⟩) ar (r.heap rfl) hb fun a' θ' w' x1 x2 x3 x4=>hn s' k1 a' θ' w' x1 x2 x3 ⟨x4.os,x4.tape,x4.output,x4.size,x4.block⟩
theorem fU {rg:Ah→Nat→Ej} (hrg:RgOk P h0 G rg) (hm:P.follows .mixedOrders=true) (hc:Bg P h0 G call):∀(f:Nat) (c:Code) (s:St) (l:List (Ex×St)) (a:Act) (θ:Th) (w:World) (Q:Exit→Act→World→Prop),EX G (Nz P G (rg call N) call N) f c s=some l →
  Gl P h0 G base θ w→AR θ N s.tm s.ds a→WR P base θ s.h w→base≤w.heap.size →
  (∀r∈l,∀a' θ' w',Ext θ θ'→AR θ' N r.2.tm r.2.ds a'→WR P base θ' r.2.h w'→Keep base w w'→Q r.1.to a' w')→c.wp P Q a w:=by
 intro f
 induction f using Nat.strongRecOn with
 | _ f ih =>
  intro c s l a θ w Q he gl ar r hb hn
  cases f with
  | zero=>cases he
  | succ f =>
   cases c with
   | skip=>simp only [EX,Option.some.injEq] at he;subst he;exact wp_skip (hn _ (List.mem_cons_self ..) a θ w (Ext.refl θ) ar r (Keep.refl base w))
   | label l=>simp only [EX,Option.some.injEq] at he;subst he;exact wp_label (hn _ (List.mem_cons_self ..) a θ w (Ext.refl θ) ar r (Keep.refl base w))
   | exit id=>simp only [EX,Option.some.injEq] at he;subst he;exact wp_exit (hn _ (List.mem_cons_self ..) a θ w (Ext.refl θ) ar r (Keep.refl base w))
   | ret=>simp only [EX,Option.some.injEq] at he;subst he;exact wp_ret (hn _ (List.mem_cons_self ..) a θ w (Ext.refl θ) ar r (Keep.refl base w))
   | region id ops d =>
    simp only [EX,Option.map_eq_some_iff] at he
    obtain ⟨l1,h1,rfl⟩:=he
    exact fQ hrg hm hc h1 gl ar r hb fun s' hs a' θ' w' x1 x2 x3 x4=>hn (.normal,s') (List.mem_map.2 ⟨s',hs,rfl⟩) a' θ' w' x1 x2 x3 x4
   | scope b =>
    simp only [EX] at he
    refine wp_scope_straight (ih f (by omega) b s l a θ w _ he gl ar r hb fun q hq a' θ' w' x1 x2 x3 x4 => ?_)
    have:=hn q hq a' θ' w' x1 x2 x3 x4
    obtain ⟨ex,s'⟩:=q
    cases ex<;>exact this
   | cond c x y =>
    simp only [EX] at he
    split at he
    ·rename_i t ht
     have hr:=JL ar gl c
     rw [ht] at hr
     have e1:=Dz hr rfl
     have e2:a.eval c=.bool t:=by
      cases hk:okO G c
      ·exfalso
       cases c<;>first | (cases hk;done) | skip
       all_goals (simp only [okO] at hk;simp only [evA,hk,cond_false] at ht;cases ht)
      ·rw [←e1];simp [evC,hk]
     refine wp_cond e2 ?_
     have:=ih f (by omega) (bif t then x else y) s l a θ w Q he gl ar r hb hn
     cases t<;>exact this
    ·cases he
   | block id b =>
    simp only [EX,Option.map_eq_some_iff] at he
    obtain ⟨l1,h1,rfl⟩:=he
    refine wp_block ?_
    refine ih f (by omega) b s l1 a θ w _ h1 gl ar r hb fun q hq a' θ' w' x1 x2 x3 x4 => ?_
    obtain ⟨ex,s'⟩:=q
    have:=hn _ (List.mem_map.2 ⟨(ex,s'),hq,rfl⟩) a' θ' w'
    cases ex with
    | exit j =>
     have:=this x1 x2 x3 x4
     show (if j=id then Q .normal a' w' else Q (.exit j) a' w')
     by_cases e:j=id
     ·rw [if_pos e];dsimp only at this;rw [GX e] at this;exact this
     ·rw [if_neg e];dsimp only at this;rw [EM e] at this;exact this
    | normal=>exact this x1 x2 x3 x4
    | ret=>exact this x1 x2 x3 x4
   | seq x y =>
    simp only [EX,Option.bind_eq_some_iff] at he
    obtain ⟨l1,h1,h2⟩:=he
    refine wp_seq ?_
    refine ih f (by omega) x s l1 a θ w _ h1 gl ar r hb fun q hq a' θ' w' x1 x2 x3 x4 => ?_
    obtain ⟨ex,s1⟩:=q
    obtain ⟨z,k1,k2⟩:=TE h2 _ hq
    cases ex with
    | normal=>exact ih f (by omega) y s1 z a' θ' w' Q k1 (gl.mono x1 x4) x2 x3 (Nat.le_trans hb x4.size) fun p hp a2 θ2 w2 y1 y2 y3 y4=>hn p (k2 p hp) a2 θ2 w2 (x1.trans y1) y2 y3 (x4.trans y4)
    | exit j=>cases k1;exact hn _ (k2 _ (List.mem_cons_self ..)) a' θ' w' x1 x2 x3 x4
    | ret=>cases k1;exact hn _ (k2 _ (List.mem_cons_self ..)) a' θ' w' x1 x2 x3 x4
   | loop b =>
    refine wp_loop_ghost (fun k a1 w1=>k≤f+1∧∃s1 θ1 l1,Ext θ θ1∧EX G (Nz P G (rg call N) call N) k (.loop b) s1=some l1∧(∀p∈l1,p∈l)∧AR θ1 N s1.tm s1.ds a1∧WR P base θ1 s1.h w1∧Keep base w w1) (f+1) ⟨Nat.le_refl _,s,θ,l,Ext.refl θ,he,fun _ h=>h,ar,r,Keep.refl base w⟩ ?_
    rintro k a1 w1 ⟨hk,s1,θ1,l1,x1,h1,hsub,ar1,r1,k1⟩
    cases k with
    | zero=>cases h1
    | succ k =>
     simp only [EX,Option.bind_eq_some_iff] at h1
     obtain ⟨lb,h2,h3⟩:=h1
     refine ih k (by omega) b s1 lb a1 θ1 w1 _ h2 (gl.mono x1 k1) ar1 r1 (Nat.le_trans hb k1.size) fun q hq a' θ' w' y1 y2 y3 y4 => ?_
     obtain ⟨ex,s2⟩:=q
     obtain ⟨z,m1,m2⟩:=TE h3 _ hq
     cases ex with
     | normal=>exact ⟨k,by omega,by omega,s2,θ',z,x1.trans y1,m1,fun p hp=>hsub p (m2 p hp),y2,y3,k1.trans y4⟩
     | exit j=>cases m1;exact hn _ (hsub _ (m2 _ (List.mem_cons_self ..))) a' θ' w' (x1.trans y1) y2 y3 (k1.trans y4)
     | ret=>cases m1;exact hn _ (hsub _ (m2 _ (List.mem_cons_self ..))) a' θ' w' (x1.trans y1) y2 y3 (k1.trans y4)
   | _=>simp [EX] at he
end
end Go.Proofs.YtihlneenajlhoaaGreatDoor.ae
/-
 A run of one goroutine over known values: the ends of a function are one but for the numbers of new blocks: what that gives. Conditions: those of the code's evaluator.
-/
set_option linter.unusedVariables false
set_option linter.unusedSimpArgs false
namespace Go.Proofs.YtihlneenajlhoaaGreatDoor.ae
open Go
section
variable {P:Program} {G N base:Nat} {θ θ' θe θk:Th} {w w':World} {h h' hk he h0:H} {n n':Nat} {call:Ah} {v v' u vk:Value} {m:Nat→Option Nat} {ρ:List (Nat×Nat)}
/-! What stands for a thing whose numbers were turned stands for it. -/
theorem TF {f:Value→Option Value} (hf:∀v u v',f v=some u→VR θk u v'→VR θ v v'):∀(l l2 l':List Value),G8 f l=some l2→VL θk l2 l'→VL θ l l':=by
 intro l
 induction l with
 | nil=>intro l2 l' h hv;cases h;rw [hv.Ci];exact .nil
 | cons v l ih =>
  intro l2 l' h hv
  simp only [G8,Option.bind_eq_some_iff,Option.map_eq_some_iff] at h
  obtain ⟨u,hu,l3,h3,rfl⟩:=h
  obtain ⟨v',l',rfl,k1,k2⟩:=hv.DY
  exact .cons (hf _ _ _ hu k1) (ih _ _ h3 k2)
theorem N7 (hm:∀i j p,m i=some j→θk j=some p→θ i=some p):∀(k:Nat) (v u v':Value),rnV m k v=some u→VR θk u v'→VR θ v v':=by
 intro k
 induction k with
 | zero=>intro v u v' h _;cases h
 | succ k ih =>
  intro v u v' hu hv
  have hl:=TF (θ:=θ) (θk:=θk) ih
  have at_:atom v=true→(bif atom v then some v else none)=some u→VR θ v v':=fun ha h=>by
   rw [ha] at h;cases h
   rw [Dp hv ha];exact .same ha .nil
  cases v with
  | pointer a =>
   cases a with
   | none=>exact at_ rfl hu
   | some ad =>
    simp only [rnV,Option.map_eq_some_iff] at hu
    obtain ⟨j,hj,rfl⟩:=hu
    cases hv with
    | same hq _=>simp [atom] at hq
    | ptr hp _=>exact .ptr (hm _ _ _ hj hp) .nil
  | slice a l c =>
   cases a with
   | none=>exact at_ rfl hu
   | some ad =>
    obtain ⟨i,o,sp⟩:=ad
    cases sp with
    | none =>
     simp only [rnV,Option.map_eq_some_iff] at hu
     obtain ⟨j,hj,rfl⟩:=hu
     cases hv with
     | same hq _=>simp [atom] at hq
     | slice hp hc _=>exact .slice (hm _ _ _ hj hp) hc .nil
     | Cf hp hc _=>exact .Cf (hm _ _ _ hj hp) hc .nil
    | some x =>
     simp only [rnV] at hu
     cases hc:D7 1 (.slice (some ⟨i,o,some x⟩) l c) emp
     ·rw [hc] at hu;cases hu
     ·rw [hc] at hu;cases hu
      have e:=GH _ _ _ hc
      rw [e]
      unfold ae.emp at hv
      cases hv with
      | same hq _=>simp [atom] at hq
      | emp _=>exact .emp .nil
  | map a =>
   cases a with
   | none=>exact at_ rfl hu
   | some i =>
    simp only [rnV,Option.map_eq_some_iff] at hu
    obtain ⟨j,hj,rfl⟩:=hu
    cases hv with
    | same hq _=>simp [atom] at hq
    | map hp _=>exact .map (hm _ _ _ hj hp) .nil
  | func f a b =>
   cases f with
   | func f =>
    simp only [rnV,Option.bind_eq_some_iff,Option.map_eq_some_iff] at hu
    obtain ⟨a2,h1,b2,h2,rfl⟩:=hu
    cases hv with
    | same hq _=>simp [atom] at hq
    | func k1 k2 _=>exact .func (hl _ _ _ h1 (by simpa using k1)) (hl _ _ _ h2 (by simpa using k2)) .nil
   | _=>simp [rnV,atom] at hu
  | agg a =>
   simp only [rnV,Option.map_eq_some_iff] at hu
   obtain ⟨a2,h1,rfl⟩:=hu
   cases hv with
   | same hq _=>simp [atom] at hq
   | agg k1 _=>exact .agg (hl _ _ _ h1 (by simpa using k1)) .nil
  | tuple a =>
   simp only [rnV,Option.map_eq_some_iff] at hu
   obtain ⟨a2,h1,rfl⟩:=hu
   cases hv with
   | same hq _=>simp [atom] at hq
   | tup k1 _=>exact .tup (hl _ _ _ h1 (by simpa using k1)) .nil
  | iface t x =>
   simp only [rnV,Option.map_eq_some_iff] at hu
   obtain ⟨x2,h1,rfl⟩:=hu
   cases hv with
   | same hq _=>simp [atom] at hq
   | iface k1 _=>exact .iface (ih _ _ _ h1 k1) .nil
  | chan a=>cases a<;>first | exact at_ rfl hu | (simp [rnV,atom] at hu;done)
  | _=>first | exact at_ rfl hu | (simp [rnV,atom] at hu;done)
theorem fV (hm:∀i j p,m i=some j→θk j=some p→θ i=some p):∀(es es2 es':List MapEntry),J9 m es=some es2→ER θk es2 es'→ER θ es es':=by
 intro es
 induction es with
 | nil=>intro es2 es' h he;cases h;rw [he.Ci];exact ⟨.nil,.nil,rfl⟩
 | cons e es ih =>
  intro es2 es' h he
  simp only [J9,Option.bind_eq_some_iff,Option.map_eq_some_iff] at h
  obtain ⟨e2,h1,l2,h2,rfl⟩:=h
  simp only [rnE,Option.bind_eq_some_iff,Option.map_eq_some_iff] at h1
  obtain ⟨k,hk,v,hv,rfl⟩:=h1
  obtain ⟨e',l',rfl⟩:=he.inv
  obtain ⟨a1,a2,a3,a4⟩:=he.cons
  exact ER.mk (N7 hm 12 _ _ _ hk a1) (N7 hm 12 _ _ _ hv a2) a3 (ih _ _ h2 a4)
theorem fZ {ab y:AB} {p:Pl} (hm:∀i j p,m i=some j→θk j=some p→θ i=some p) (hr:rnF m ab=some y) (k:BR P θk base p w y):BR P θ base p w ab:=by
 cases ab with
 | dead=>exact .dead
 | cells c e ro g =>
  simp only [rnF,Option.map_eq_some_iff] at hr
  obtain ⟨c2,h1,rfl⟩:=hr
  cases k with
  | cells g hv hz=>exact .cells g (TF (N7 hm 12) _ _ _ h1 hv) hz
  | grow g hv he hk hs hz=>exact .grow g (TF (N7 hm 12) _ _ _ h1 hv) he hk hs hz
 | map es c =>
  simp only [rnF,Option.map_eq_some_iff] at hr
  obtain ⟨es2,h1,rfl⟩:=hr
  cases k with
  | map g hv hb=>exact .map g (fV hm _ _ _ h1 hv) hb
 | iter r a b c =>
  cases r with
  | none=>cases hr;cases k with | JI g hs hb=>exact .JI g hs hb
  | some r =>
   simp only [rnF,Option.map_eq_some_iff] at hr
   obtain ⟨r2,h1,rfl⟩:=hr
   cases k with
   | iter g hmm hs hb=>exact .iter g (hm _ _ _ h1 hmm) hs hb
 | Eh a b=>cases hr;cases k with | Eh g hb=>exact .Eh g hb
theorem gB {ab y:AB} (hr:rnF m ab=some y) (hl:live ab=true):live y=true:=by
 cases ab with
 | dead=>cases hl
 | cells c e ro g=>simp only [rnF,Option.map_eq_some_iff] at hr;obtain ⟨_,_,rfl⟩:=hr;rfl
 | map es c=>simp only [rnF,Option.map_eq_some_iff] at hr;obtain ⟨_,_,rfl⟩:=hr;rfl
 | iter r a b c =>
  cases r with
  | none=>cases hr;rfl
  | some r=>simp only [rnF,Option.map_eq_some_iff] at hr;obtain ⟨_,_,rfl⟩:=hr;rfl
 | Eh a b=>cases hr;rfl
theorem P7 (i:Nat):∀ρ:List (Nat×Nat),(∃x∈ρ,x.1=i∧x.2=look ρ i)∨(look ρ i=i∧∀x∈ρ,x.1≠i):=by
 intro ρ
 induction ρ with
 | nil=>exact .inr ⟨rfl,fun x hx=>by cases hx⟩
 | cons x l ih =>
  simp only [look]
  by_cases e:x.1=i
  ·rw [GX e,cond_true]
   exact .inl ⟨x,List.mem_cons_self ..,e,rfl⟩
  ·rw [EM e,cond_false]
   rcases ih with ⟨y,h1,h2,h3⟩ | ⟨h1,h2⟩
   ·exact .inl ⟨y,List.mem_cons_of_mem _ h1,h2,h3⟩
   ·exact .inr ⟨h1,fun y hy=>(List.mem_cons.1 hy).elim (fun h=>h ▸ e) (h2 y)⟩
theorem gG (hi:We h ρ=true) {i j:Nat} {x y:AB} (hne:i≠j) (g1:h.get i=some x) (g2:h.get j=some y) (l1:live x=true) (l2:live y=true):look ρ i≠look ρ j:=by
 have spec:∀a∈ρ,((∃b∈ρ,b.1=a.2)∨P5 h a.2=false)∧∀b∈ρ,a.2=b.2→a.1=b.1:=fun a ha=>by
  have:=List.all_eq_true.1 hi a ha
  simp only [Bool.and_eq_true,Bool.or_eq_true,Bool.not_eq_true'] at this
  refine ⟨this.1.imp (fun q => ?_) id,fun b hb e => ?_⟩
  ·obtain ⟨b,h1,h2⟩:=List.any_eq_true.1 q
   exact ⟨b,h1,Nat.eq_of_beq_eq_true h2⟩
  ·have:=List.all_eq_true.1 this.2 b hb
   simp only [Bool.or_eq_true,Bool.not_eq_true'] at this
   rcases this with q | q
   ·rw [GX e] at q;cases q
   ·exact Nat.eq_of_beq_eq_true q
 intro e
 rcases P7 i ρ with ⟨a,a1,a2,a3⟩ | ⟨a1,a2⟩
 ·rcases P7 j ρ with ⟨b,b1,b2,b3⟩ | ⟨b1,b2⟩
  ·exact hne (by rw [←a2,←b2];exact (spec a a1).2 b b1 (by rw [a3,b3,e]))
  ·rcases (spec a a1).1 with ⟨c,c1,c2⟩ | c
   ·exact b2 c c1 (by rw [c2,a3,e,b1])
   ·rw [a3,e,b1] at c;simp [P5,g2,l2] at c
 ·rcases P7 j ρ with ⟨b,b1,b2,b3⟩ | ⟨b1,b2⟩
  ·rcases (spec b b1).1 with ⟨c,c1,c2⟩ | c
   ·exact a2 c c1 (by rw [c2,b3,←e,a1])
   ·rw [b3,←e,a1] at c;simp [P5,g1,l1] at c
  ·exact hne (by rw [←a1,e,b1])
theorem gI (hi:P6 he h hk v vk ρ=true) (hkeys:T.allI (fun i _=>(h.get i).isSome) he (fun i=>i)=true) (re:∀i,he.get i=none→θe i=none) (xe:Ext θe θk) (rk:WR P base θk hk w) (hv:VR θk vk v') :
  ∃θ,Ext θe θ∧WR P base θ h w∧VR θ v v':=by
 simp only [P6,Bool.and_eq_true] at hi
 obtain ⟨⟨⟨i1,i2⟩,i3⟩,i4⟩:=hi
 let θ:Th:=fun i=>match h.get i with | none=>none | some _=>some ((θk (look ρ i)).getD ⟨0,0,0⟩)
 have t0:∀i,h.get i=none→θ i=none:=fun i e=>by show (match h.get i with | none=>none | some _=>_)=none;rw [e]
 have t1:∀i ab,h.get i=some ab→θ i=some ((θk (look ρ i)).getD ⟨0,0,0⟩):=fun i ab e=>by show (match h.get i with | none=>none | some _=>_)=_;rw [e]
 have hm:∀i j p,ren h ρ i=some j→θk j=some p→θ i=some p:=fun i j p hr hp=>by
  unfold ren at hr
  split at hr
  ·cases hr
  ·rename_i ab hg
   cases hr
   rw [t1 i ab hg,hp];rfl
 have hat:∀i ab,h.get i=some ab→live ab=true→∃p y,θk (look ρ i)=some p∧hk.get (look ρ i)=some y∧live y=true∧BR P θ base p w ab:=fun i ab hg hl=>by
  have:=T.TB _ _ i1 i ab hg
  cases ab with
  | dead=>cases hl
  | _ =>
   dsimp only at this
   split at this
   ·rename_i x y hx hy
    have e:=PX _ _ this
    subst e
    obtain ⟨p,k1,k2⟩:=rk.at_ _ _ hy
    exact ⟨p,x,k1,hy,gB hx hl,fZ hm hx k2⟩
   ·cases this
 refine ⟨θ,fun i p hp => ?_,⟨t0,fun i ab hg => ?_,fun i j p q x y hne g1 g2 l1 l2 e1 e2 => ?_⟩,?_⟩
 ·cases hge:he.get i with
  | none=>rw [re i hge] at hp;cases hp
  | some ab =>
   have h1:=T.TB _ _ hkeys i ab hge
   obtain ⟨ab2,h2⟩:=Option.isSome_iff_exists.1 h1
   rw [t1 i ab2 h2]
   have:look ρ i=i:=by
    rcases P7 i ρ with ⟨a,a1,a2,a3⟩ | ⟨a1,a2⟩
    ·have:=List.all_eq_true.1 i3 a a1
     rw [a2,hge] at this
     cases this
    ·exact a1
   rw [this,xe _ _ hp];rfl
 ·cases hl:live ab
  ·refine ⟨_,t1 i ab hg,?_⟩
   cases ab<;>first | exact .dead | cases hl
  ·obtain ⟨p,y,k1,k2,k3,k4⟩:=hat i ab hg hl
   exact ⟨p,by rw [t1 i ab hg,k1];rfl,k4⟩
 ·obtain ⟨p',y',k1,k2,k3,k4⟩:=hat i x g1 l1
  obtain ⟨q',z',k5,k6,k7,k8⟩:=hat j y g2 l2
  rw [t1 i x g1,k1] at e1
  rw [t1 j y g2,k5] at e2
  cases e1;cases e2
  exact rk.inj _ _ _ _ _ _ (gG i2 hne g1 g2 l1 l2) k2 k6 k3 k7 k1 k5
 ·split at i4
  ·rename_i u hu
   have e:=GH _ _ _ i4
   subst e
   exact N7 hm 12 _ _ _ hu hv
  ·cases i4
theorem gJ {o:Value×H×Nat}:∀ {l:List (Value×H×Nat)} {ρs:List (List (Nat×Nat))},Ny he h v l ρs=true→o∈l→∃ρ,P6 he h o.2.1 v o.1 ρ=true:=by
 intro l
 induction l with
 | nil=>intro ρs _ ho;cases ho
 | cons a l ih =>
  intro ρs hi ho
  cases ρs with
  | nil=>cases hi
  | cons ρ ρs =>
   simp only [Ny,Bool.and_eq_true] at hi
   rcases List.mem_cons.1 ho with rfl | ho
   ·exact ⟨ρ,hi.1⟩
   ·exact ih hi.2 ho
theorem gK {outs:List (Value×H×Nat)} {hint:Hint} {e:Ending} (hmg:TC he outs hint=some (v,h,n)) (re:∀i,he.get i=none→θe i=none) (k:∃o∈outs,Ret P base θe w o.1 o.2.1 e w'):Ret P base θe w v h e w':=by
 obtain ⟨o,ho,v',θk,rfl,k1,k2,k3,k4⟩:=k
 unfold TC at hmg
 split at hmg
 ·cases ho
 ·rename_i o1 l
  rw [Option.bind_eq_some_iff] at hmg
  obtain ⟨h2,e1,hmg⟩:=hmg
  cases hc:(T.allI (fun i _=>(h2.get i).isSome) he (fun i=>i)&&Ny he h2 o1.1 (o1 :: l) hint.maps)
  ·rw [hc] at hmg;cases hmg
  rw [hc] at hmg
  cases hmg
  rw [Bool.and_eq_true] at hc
  obtain ⟨ρ,hρ⟩:=gJ hc.2 ho
  obtain ⟨θ,q1,q2,q3⟩:=gI hρ hc.1 re k1 k3 k2
  exact ⟨v',θ,rfl,q1,q3,q2,k4⟩
theorem gQ {dcall:EW} {fn:Func}:∀ {l:List (Ex×St)} {os:List (Value×H×Nat)},Lc P dcall fn l=some os→∀r∈l,(r.1=.normal∨r.1=.ret)∧∃q vs,Iq dcall r.2.ds r.2.h r.2.n=some q∧GI P fn.results.toList ⟨r.2.tm,q.1,q.2,[]⟩=some vs∧(JP vs,q.1,q.2)∈os:=by
 intro l
 induction l with
 | nil=>intro os _ r hr;cases hr
 | cons a l ih =>
  intro os h r hr
  have key:∀x,((Iq dcall a.2.ds a.2.h a.2.n).bind fun q=>(GI P fn.results.toList ⟨a.2.tm,q.1,q.2,[]⟩).bind fun vs=>(Lc P dcall fn l).map fun o=>(JP vs,q.1,q.2) :: o)=some x→(∃q vs,Iq dcall a.2.ds a.2.h a.2.n=some q∧GI P fn.results.toList ⟨a.2.tm,q.1,q.2,[]⟩=some vs∧(JP vs,q.1,q.2)∈x)∧∃o,Lc P dcall fn l=some o∧∀y∈o,y∈x:=fun x hx=>by
   simp only [Option.bind_eq_some_iff,Option.map_eq_some_iff] at hx
   obtain ⟨q,h1,vs,h2,o,h3,rfl⟩:=hx
   exact ⟨⟨q,vs,h1,h2,List.mem_cons_self ..⟩,o,h3,fun y hy=>List.mem_cons_of_mem _ hy⟩
  obtain ⟨ex,s⟩:=a
  simp only [Lc] at h
  cases ex with
  | exit j=>cases h
  | normal =>
   obtain ⟨⟨q,vs,k1,k2,k3⟩,o,k4,k5⟩:=key _ h
   rcases List.mem_cons.1 hr with rfl | hr
   ·exact ⟨.inl rfl,q,vs,k1,k2,k3⟩
   ·obtain ⟨m1,q',vs',m2,m3,m4⟩:=ih k4 r hr
    exact ⟨m1,q',vs',m2,m3,k5 _ m4⟩
  | ret =>
   obtain ⟨⟨q,vs,k1,k2,k3⟩,o,k4,k5⟩:=key _ h
   rcases List.mem_cons.1 hr with rfl | hr
   ·exact ⟨.inr rfl,q,vs,k1,k2,k3⟩
   ·obtain ⟨m1,q',vs',m2,m3,m4⟩:=ih k4 r hr
    exact ⟨m1,q',vs',m2,m3,k5 _ m4⟩
theorem gU {rg:Ah→Nat→Ej} (hrg:RgOk P h0 G rg) {F:Nat} {dcall:EW} {g:FuncId} {fn:Func} {c:Code} {args:List Value} {args':Array Value} {hint:Hint} (hm:P.follows .mixedOrders=true) (hc:Bg P h0 G call) (hd:JQ P h0 G dcall) (hf:P.funcs[g]?=some fn) (hbd:fn.body=some c)
  (hev:TD P G (rg call fn.ntmps) call dcall F fn c args h n hint=some (v,h',n')) (gl:Gl P h0 G base θ w) (r:WR P base θ h w) (hb:base≤w.heap.size) (hv:VL θ args args'.toList):Calls P g args' w (Ret P base θ w v h'):=by
 unfold TD at hev
 simp only [Option.bind_eq_some_iff] at hev
 obtain ⟨tm,ht,l,hl,os,hos,hmg⟩:=hev
 refine Calls.mono (R:=fun e w'=>∃o∈os,Ret P base θ w o.1 o.2.1 e w') ?_ fun e w' k=>gK hmg r.dom k
 refine calls_of_wp_defers hf hbd ?_
 refine fU hrg hm hc F c ⟨tm,h,n,[]⟩ l _ θ w _ hl gl (Sm ht hv) r hb fun q hq a' θ' w' x1 x2 x3 x4 => ?_
 obtain ⟨hex,⟨h1,n1⟩,vs,e2,e3,hmem⟩:=gQ hos q hq
 have key:Leaves P fn a'.tmps (fun e w'=>∃o∈os,Ret P base θ w o.1 o.2.1 e w') a'.defers .returning w':=by
  refine V6 hd q.2.ds a'.defers q.2.h h1 q.2.n n1 θ' w' e2 x2.defers (gl.mono x1 x4) x3 (Nat.le_trans hb x4.size) fun θ2 w2 y1 y2 y3 => ?_
  have ar2:AR θ2 fn.ntmps q.2.tm [] ⟨a'.tmps,[]⟩:=⟨.nil,x2.size,fun x=>(x2.val x).mono y1⟩
  obtain ⟨v',m1,m2⟩:=Sl (s:=⟨q.2.tm,h1,n1,[]⟩) (a:=⟨a'.tmps,[]⟩) y2 ar2 e3
  exact ⟨v',m1,_,hmem,v',θ2,rfl,x1.trans y1,m2,y2,x4.trans y3⟩
 obtain ⟨ex,s⟩:=q
 rcases hex with e | e
 ·dsimp only at e;subst e;exact key
 ·dsimp only at e;subst e;exact key
theorem gV {rg:Ah→Nat→Ej} (hrg:RgOk P h0 G rg) {Dq:EW} {F:Nat} {hints:List (FuncId×Nat×Hint)} (hm:P.follows .mixedOrders=true) (hn:Named P) (hd:JQ P h0 G Dq):∀call,Bg P h0 G call→Bg P h0 G (ndF P G rg Dq F hints call):=by
 intro call hc g args h n v h' n' hev base θ w args' gl r hb hv
 unfold ndF at hev
 split at hev
 ·cases hev
 ·split at hev
  ·cases hev
  ·rename_i fn hf
   split at hev
   ·cases hev
   ·rename_i c hbd
    refine .enter (f:=g) (args:=args') ?_ (gU hrg hm hc (V7 hm hn hc hd) hf hbd hev gl r hb hv)
    have:=hn g fn c hf hbd
    simpa [callFunc,hf,hbd] using this
end
end Go.Proofs.YtihlneenajlhoaaGreatDoor.ae
/-
 A run of one goroutine over known values: a region whose order is drawn, by a plan made of its operations alone: which of them are taken first, which must come next in every order. Conditions: those of the code's evaluator.
-/
set_option linter.unusedVariables false
set_option linter.unusedSimpArgs false
namespace Go.Proofs.YtihlneenajlhoaaGreatDoor.ae
open Go
inductive PK where
 | take (i:Nat):PK
 | force (i:Nat) (keep:List Nat):PK
def Wj (ops:Array Oper) (listed:Array Bool) (j:Nat):Bool:=match ops[j]? with
 | some o=>isRead o.op&&Region.free .any ops listed j
 | none=>false
def Ld (ops:Array Oper):Nat→Array Bool→List Nat→Option (List PK)
 | 0,listed,_=>(match Region.ready .any ops listed with | []=>some [] | _=>none)
 | f+1,listed,tk=>match Region.ready .any ops listed with
  | []=>some []
  | i :: rs=>match (i :: rs).find? (Wj ops listed) with
   | some j=>(Ld ops f (listed.setIfInBounds j true) (j :: tk)).map (.take j :: ·)
   | none=>(match rs with
    | []=>(Ld ops f (listed.setIfInBounds i true) (tk.filter fun k=>(Region.ready .any ops (listed.setIfInBounds k false)).contains i)).map (.force i (tk.filter fun k=>(Region.ready .any ops (listed.setIfInBounds k false)).contains i) :: ·)
    | _=>none)
def noC:Ah:=fun _ _ _ _=>none
def TG (P:Program) (G:Nat) (tm:T Value) (o:Oper):Option Value:=match o.op with
 | .binOp op _ x y _=>bif okO G x&&okO G y then Px op (evA G tm x) (evA G tm y) else none
 | op=>bif Jy op then (opK o P noC G tm .nil 0).map (·.1) else none
def P8 (P:Program) (G:Nat) (tm:T Value) (o:Oper) (h:H):Option Value:=bif isRead o.op then (opK o P noC G tm h 0).map (·.1) else none
def TI (P:Program) (G:Nat) (L:List Entry) (h:H):Bool:=L.all fun e=>match P8 P G e.tm e.o h with
 | some v=>D7 12 v e.v
 | none=>false
def stepD (P:Program) (G:Nat) (call:Ah) (N:Nat) (ops:Array Oper) (n0 i:Nat) (s:St):Option St:=match ops[i]? with
 | none=>some s
 | some o=>bif Region.wanted o (EP ops s.tm) then
   (bif Jw o.op then (opK o P call G s.tm s.h s.n).bind fun r=>(CO N s.tm o.dst r.1).map fun tm=>⟨tm,r.2.1,r.2.2,s.ds⟩
    else (opK o P call G s.tm s.h (n0+i)).bind fun r=>(CO N s.tm o.dst r.1).map fun tm=>⟨tm,r.2.1,s.n,s.ds⟩)
  else (CO N s.tm o.dst undef).map fun tm=>⟨tm,s.h,s.n,s.ds⟩
def JR (P:Program) (G:Nat) (call:Ah) (N:Nat) (ops:Array Oper) (n0:Nat):List PK→List Entry→St→Option St
 | [],_,s=>some s
 | .take i :: p,L,s=>(match ops[i]? with
  | none=>none
  | some o=>bif Region.wanted o (EP ops s.tm) then (match TG P G s.tm o with
    | some v=>(CO N s.tm o.dst v).bind fun tm=>JR P G call N ops n0 p L ⟨tm,s.h,s.n,s.ds⟩
    | none=>(P8 P G s.tm o s.h).bind fun v=>(CO N s.tm o.dst v).bind fun tm=>JR P G call N ops n0 p (⟨s.tm,o,v,i⟩ :: L) ⟨tm,s.h,s.n,s.ds⟩)
   else (CO N s.tm o.dst undef).bind fun tm=>JR P G call N ops n0 p L ⟨tm,s.h,s.n,s.ds⟩)
 | .force i keep :: p,L,s=>(stepD P G call N ops n0 i s).bind fun s1=>bif TI P G (L.filter fun e=>keep.any (Nat.beq e.i)) s1.h then JR P G call N ops n0 p (L.filter fun e=>keep.any (Nat.beq e.i)) s1 else none
def TJ (P:Program) (G:Nat) (call:Ah) (N:Nat):Ej:=fun ops draw s =>
 bif draw then (match Ld ops ops.size (Array.replicate ops.size false) [] with
  | some p=>JR P G call N ops s.n p [] ⟨s.tm,s.h,s.n+ops.size,s.ds⟩
  | none=>J5 P G call N ops true s)
 else Py P G call N ops (List.range ops.size) s
section
variable {P:Program} {G N n0 base:Nat} {θ θ':Th} {w w':World} {h h0:H} {n:Nat} {call:Ah} {tm:T Value} {o:Oper} {v:Value} {ops:Array Oper} {s s':St} {a:Act} {L:List Entry}
theorem Wl (hr:isRead o.op=true) (hv:(evalOp P G call tm o h n).map (·.1)=some v):o.op.operands.toList.all (okO G)=true∧(Option.map (fun r:Value×H×Nat=>r.1) (match DF P (evA G tm) o with | some v=>some (v,h,n) | none=>Af P (evA G tm) o.op h n)=some v):=by
 unfold evalOp at hv
 cases hk:o.op.operands.toList.all (okO G)
 ·rw [hk] at hv;cases hv
 rw [hk,cond_true] at hv
 refine ⟨rfl,?_⟩
 split at hv
 ·rename_i c hop
  split at hv
  ·rename_i f hcl
   rw [hop] at hr
   simp [isRead,hcl] at hr
  ·exact hv
 ·exact hv
theorem Wn (hv:P8 P G tm o h=some v):Fv P G tm o h=some v:=by
 unfold P8 at hv
 cases hr:isRead o.op
 ·rw [hr] at hv;cases hv
 rw [hr,cond_true,Pz] at hv
 obtain ⟨h1,h2⟩:=Wl hr hv
 unfold Fv
 rw [h1,cond_true]
 revert h2
 cases DF P (evA G tm) o with
 | some u=>intro h2;simpa using h2
 | none=>intro h2;rw [hr,cond_true];exact h2
theorem gW {op:Op} (h:Jy op=true):isRead op=true:=by
 cases op<;>first | rfl | cases h
theorem gX (hv:TG P G tm o=some v):JM P G tm o=some v:=by
 have gen:(bif Jy o.op then (opK o P noC G tm .nil 0).map (·.1) else none)=some v→JM P G tm o=some v:=fun hv=>by
  cases hr:Jy o.op
  ·rw [hr] at hv;cases hv
  rw [hr,cond_true,Pz] at hv
  obtain ⟨h1,h2⟩:=Wl (gW hr) hv
  unfold JM
  rw [h1,cond_true]
  revert h2
  cases DF P (evA G tm) o with
  | some u=>intro h2;simpa using h2
  | none=>intro h2;rw [hr,cond_true];exact h2
 unfold TG at hv
 split at hv
 ·rename_i op t x y yt ho
  cases hk:(okO G x&&okO G y)
  ·rw [hk] at hv;cases hv
  rw [hk,cond_true] at hv
  have:=WZ (P:=P) ho hv
  unfold JM
  rw [show o.op.operands.toList.all (okO G)=true by rw [ho];simpa [Op.operands] using hk,cond_true,this]
 ·exact gen hv
theorem gY (hb:TI P G L h=true):Held P G L h:=by
 intro e he
 have:=List.all_eq_true.1 hb e he
 split at this
 ·rename_i u hu;rw [Wn hu,GH _ _ _ this]
 ·cases this
theorem gZ (i:Nat):stepD P G call N ops n0 i s=Ei P G call N ops (some n0) i s:=by
 unfold stepD Ei
 simp only [Pz]
 rfl
theorem iC:∀(f:Nat) (listed:Array Bool) (tk:List Nat) (p:List PK) (L:List Entry) (s s':St),Ld ops f listed tk=some p→(∀e∈L,e.i∈tk)→Held P G L s.h→JR P G call N ops n0 p L s=some s'→Ip P G call N ops n0 f L listed s s':=by
 intro f
 induction f with
 | zero =>
  intro listed tk p L s s' hp hi hh he
  unfold Ld at hp
  split at hp
  ·rename_i hr;cases hp;cases he;exact ⟨hr,rfl⟩
  ·cases hp
 | succ f ih =>
  intro listed tk p L s s' hp hi hh he
  unfold Ld at hp
  split at hp
  ·rename_i hr
   cases hp;cases he
   exact ⟨fun _=>rfl,fun i hm=>by rw [hr] at hm;cases hm⟩
  ·rename_i i rs hr
   split at hp
   ·rename_i j hj
    rw [Option.map_eq_some_iff] at hp
    obtain ⟨p',hp',rfl⟩:=hp
    have hmem:j∈Region.ready .any ops listed:=by rw [hr];exact List.mem_of_find?_eq_some hj
    have htk:=List.find?_some hj
    unfold Wj at htk
    unfold JR at he
    split at htk
    ·rename_i o ho
     rw [Bool.and_eq_true] at htk
     rw [ho] at he
     dsimp only at he
     have hfree:=Region.free_spec ho htk.2
     have hi':∀e∈L,e.i∈j :: tk:=fun e hm=>List.mem_cons_of_mem _ (hi e hm)
     cases hw:Region.wanted o (EP ops s.tm)
     ·rw [hw,cond_false,Option.bind_eq_some_iff] at he
      obtain ⟨tm1,ht,he⟩:=he
      exact Nq ho (E:=none) (fun e he=>by cases he) f L listed s tm1 hfree hmem (.inr ⟨hw,rfl⟩) (fun e he=>by cases he) hh ht (ih _ _ _ L _ _ hp' hi' hh he)
     ·rw [hw,cond_true] at he
      split at he
      ·rename_i v hv
       rw [Option.bind_eq_some_iff] at he
       obtain ⟨tm1,ht,he⟩:=he
       exact Nq ho (E:=none) (fun e he=>by cases he) f L listed s tm1 hfree hmem (.inl ⟨hw,fun h _=>Vo (gX hv) h⟩) (fun e he=>by cases he) hh ht (ih _ _ _ L _ _ hp' hi' hh he)
      ·simp only [Option.bind_eq_some_iff] at he
       obtain ⟨v,hv,tm1,ht,he⟩:=he
       have w2:=Wn hv
       have hh':Held P G (⟨s.tm,o,v,j⟩ :: L) s.h:=fun e hm=>by
        rcases List.mem_cons.1 hm with rfl | hm
        ·exact w2
        ·exact hh e hm
       have hi2:∀e∈(⟨s.tm,o,v,j⟩ :: L:List Entry),e.i∈j :: tk:=fun e hm=>by
        rcases List.mem_cons.1 hm with rfl | hm
        ·exact List.mem_cons_self ..
        ·exact hi' e hm
       exact Nq ho (E:=some ⟨s.tm,o,v,j⟩) (fun e he=>by cases he;rfl) f L listed s tm1 hfree hmem (.inl ⟨hw,fun h k=>k _ rfl⟩) (fun e he=>by cases he;exact w2) hh ht (ih _ _ _ _ _ _ hp' hi2 hh' he)
    ·cases htk
   ·split at hp
    ·rw [Option.map_eq_some_iff] at hp
     obtain ⟨p',hp',rfl⟩:=hp
     unfold JR at he
     rw [Option.bind_eq_some_iff] at he
     obtain ⟨s1,h1,he⟩:=he
     cases hb:TI P G (L.filter fun e=>(tk.filter fun k=>(Region.ready .any ops (listed.setIfInBounds k false)).contains i).any (Nat.beq e.i)) s1.h
     ·rw [hb] at he;cases he
     rw [hb,cond_true] at he
     rw [gZ] at h1
     have hsub:∀e∈EG ops listed i L,e∈L.filter fun e=>(tk.filter fun k=>(Region.ready .any ops (listed.setIfInBounds k false)).contains i).any (Nat.beq e.i):=fun e hm=>by
      unfold EG at hm
      rw [List.mem_filter] at hm ⊢
      refine ⟨hm.1,List.any_eq_true.2 ⟨e.i,List.mem_filter.2 ⟨hi e hm.1,hm.2⟩,GX rfl⟩⟩
     have hi2:∀e∈L.filter (fun e=>(tk.filter fun k=>(Region.ready .any ops (listed.setIfInBounds k false)).contains i).any (Nat.beq e.i)),e.i∈tk.filter fun k=>(Region.ready .any ops (listed.setIfInBounds k false)).contains i:=fun e hm=>by
      obtain ⟨k,k1,k2⟩:=List.any_eq_true.1 (List.mem_filter.1 hm).2
      rw [Nat.eq_of_beq_eq_true k2];exact k1
     have Wp:=gY hb
     refine ⟨fun e=>(by rw [hr] at e;cases e),fun j hj => ?_⟩
     rw [hr] at hj
     have:j=i:=by simpa using hj
     subst this
     exact ⟨s1,h1,Wp.sub hsub,PZ _ _ _ _ _ hsub (ih _ _ _ _ _ _ hp' hi2 Wp he)⟩
    ·cases hp
theorem iD (hm:P.follows .mixedOrders=true):RgOk P h0 G (TJ P G):=by
 intro call hc N base ops draw id s s' a θ w Q he gl ar r hb hn
 unfold TJ at he
 cases draw with
 | false =>
  rw [cond_false,fM] at he
  exact wp_region (Nl hc _ s s' a θ w he gl ar r hb hn)
 | true =>
  rw [cond_true] at he
  split at he
  ·rename_i p hp
   have hall:=iC _ _ _ _ [] _ _ hp (fun e he=>by cases he) (fun e he=>by cases he) he
   refine wp_region_draw fun t => ?_
   have ho:=V3 _ t _ _ _ hall
   simp only [Region.schedule,hm,Bool.true_or,if_true]
   exact Nl hc _ _ s' a θ { w with drawn:=w.drawn+1 } ho (gl.mono (Ext.refl θ) ⟨rfl,rfl,rfl,Nat.le_refl _,fun _ _=>rfl⟩) ar (r.heap rfl) hb fun a' θ' w' x1 x2 x3 x4=>hn a' θ' w' x1 x2 x3 ⟨x4.os,x4.tape,x4.output,x4.size,x4.block⟩
  ·exact V5 hm hc he gl ar r hb hn
end
end Go.Proofs.YtihlneenajlhoaaGreatDoor.ae
/-
 A run of one goroutine over known values: a call as it stands in a run, looked at by itself: what it is given and what is still wanted of the store are known, all else is dead. Conditions: those of the code's evaluator.
-/
set_option linter.unusedVariables false
set_option linter.unusedSimpArgs false
namespace Go.Proofs.YtihlneenajlhoaaGreatDoor.ae
open Go
def Le:Nat→Nat→H×H
 | 0,_=>(.nil,.nil)
 | f+1,n=>bif Nat.beq n 0 then (.nil,.node (some .dead) .nil .nil) else (match Le f ((n-1) / 2) with
  | (a,b)=>bif Nat.beq (n%2) 1 then (.node (some .dead) a a,.node (some .dead) b a) else (.node (some .dead) b a,.node (some .dead) b b))
def P9 (h:H):List (Nat×AB)→Option H
 | []=>some h
 | x :: l=>(hput h x.1 x.2).bind fun h=>P9 h l
def thin (n:Nat) (l:List (Nat×AB)):Option H:=bif Nat.blt n 500000000 then P9 (Le 30 n).1 l else none
def N8 (h:H) (l:List (Nat×AB)):Bool:=l.all fun x=>match h.get x.1 with | some ab=>Jz ab x.2 | none=>false
def N9 (h:H) (n:Nat):Bool:=T.allI (fun i _=>Nat.blt i n) h (fun i=>i)
structure D8 where
 g:FuncId
 args:List Value
 n:Nat
 hp:List (Nat×AB)
 v:Value
 n':Nat
 hp':List (Nat×AB)
def EI (tab:List D8):Ah:=fun g args h n=>match tab.find? (fun s=>Nat.beq s.g g&&(Nat.beq s.n n&&(same2 (D7 12) s.args args&&(N8 h s.hp&&N9 h s.n)))) with
 | some s=>(thin s.n' s.hp').map fun h=>(s.v,h,s.n')
 | none=>none
def EY (P:Program) (G:Nat) (rg:Ah→Nat→Ej) (ext:Ah) (sp:Ah→Ah) (Dq:EW) (F d:Nat) (s:D8):Bool:=match thin s.n s.hp with
 | some h=>(match Gq P G rg ext sp Dq F d s.g s.args h s.n with
  | some (v,h,_)=>D7 12 v s.v&&(N8 h s.hp'&&N9 h s.n')
  | none=>false)
 | none=>false
section
variable {P:Program} {G n base:Nat} {θ θ':Th} {w w':World} {h h' h0 hs:H} {v v':Value} {l:List (Nat×AB)}
theorem Lh (v:Option AB) (a b:H) (i:Nat):(T.node v a b).get i=if i=0 then v else if i%2=1 then a.get (i / 2) else b.get (i / 2-1):=by
 simp only [T.get]
 by_cases e:i=0
 ·subst e;rfl
 ·rw [EM e,cond_false,if_neg e]
  rcases Nat.mod_two_eq_zero_or_one i with hm | hm
  ·rw [hm];rfl
  ·rw [hm];rfl
theorem iE:∀(f n:Nat),n<2 ^ f→∀i,(Le (f+1) n).1.get i=(if i<n then some .dead else none)∧(Le (f+1) n).2.get i=(if i<n+1 then some .dead else none):=by
 intro f
 induction f with
 | zero =>
  intro n hn i
  have:n=0:=by omega
  subst this
  refine ⟨rfl,?_⟩
  show (T.node (some AB.dead) .nil .nil).get i=_
  rw [Lh]
  by_cases e:i=0
  ·subst e;rfl
  ·have e2:¬i<0+1:=by omega
   rw [if_neg e,if_neg e2]
   split<;>rfl
 | succ f ih =>
  intro n hn i
  by_cases e:n=0
  ·subst e
   refine ⟨rfl,?_⟩
   show (T.node (some AB.dead) .nil .nil).get i=_
   rw [Lh]
   by_cases e:i=0
   ·subst e;rfl
   ·have e2:¬i<0+1:=by omega
    rw [if_neg e,if_neg e2]
    split<;>rfl
  ·have hk:(n-1) / 2<2 ^ f:=by rw [Nat.pow_succ] at hn;omega
   have k1:=fun i=>(ih _ hk i).1
   have k2:=fun i=>(ih _ hk i).2
   unfold Le
   rw [EM e,cond_false]
   cases hd:Le (f+1) ((n-1) / 2) with
   | mk a b =>
    rw [hd] at k1 k2
    dsimp only at k1 k2 ⊢
    rcases Nat.mod_two_eq_zero_or_one n with hm | hm
    ·rw [hm,show Nat.beq 0 1=false from rfl,cond_false]
     dsimp only
     rw [Lh,Lh,k1,k2,k2]
     constructor
     ·by_cases e0:i=0
      ·rw [if_pos e0,if_pos (by omega)]
      ·rw [if_neg e0]
       rcases Nat.mod_two_eq_zero_or_one i with hi | hi
       ·rw [if_neg (by omega)]
        by_cases q:i<n
        ·rw [if_pos q,if_pos (by omega)]
        ·rw [if_neg q,if_neg (by omega)]
       ·rw [if_pos hi]
        by_cases q:i<n
        ·rw [if_pos q,if_pos (by omega)]
        ·rw [if_neg q,if_neg (by omega)]
     ·by_cases e0:i=0
      ·rw [if_pos e0,if_pos (by omega)]
      ·rw [if_neg e0]
       rcases Nat.mod_two_eq_zero_or_one i with hi | hi
       ·rw [if_neg (by omega)]
        by_cases q:i<n+1
        ·rw [if_pos q,if_pos (by omega)]
        ·rw [if_neg q,if_neg (by omega)]
       ·rw [if_pos hi]
        by_cases q:i<n+1
        ·rw [if_pos q,if_pos (by omega)]
        ·rw [if_neg q,if_neg (by omega)]
    ·rw [hm,show Nat.beq 1 1=true from rfl,cond_true]
     dsimp only
     rw [Lh,Lh,k1,k1,k2]
     constructor
     ·by_cases e0:i=0
      ·rw [if_pos e0,if_pos (by omega)]
      ·rw [if_neg e0]
       rcases Nat.mod_two_eq_zero_or_one i with hi | hi
       ·rw [if_neg (by omega)]
        by_cases q:i<n
        ·rw [if_pos q,if_pos (by omega)]
        ·rw [if_neg q,if_neg (by omega)]
       ·rw [if_pos hi]
        by_cases q:i<n
        ·rw [if_pos q,if_pos (by omega)]
        ·rw [if_neg q,if_neg (by omega)]
     ·by_cases e0:i=0
      ·rw [if_pos e0,if_pos (by omega)]
      ·rw [if_neg e0]
       rcases Nat.mod_two_eq_zero_or_one i with hi | hi
       ·rw [if_neg (by omega)]
        by_cases q:i<n+1
        ·rw [if_pos q,if_pos (by omega)]
        ·rw [if_neg q,if_neg (by omega)]
       ·rw [if_pos hi]
        by_cases q:i<n+1
        ·rw [if_pos q,if_pos (by omega)]
        ·rw [if_neg q,if_neg (by omega)]
theorem iF:∀(l:List (Nat×AB)) (h hs:H),P9 h l=some hs→∀i,(h.get i≠none→hs.get i≠none)∧∀ab,hs.get i=some ab→h.get i=some ab∨(i,ab)∈l:=by
 intro l
 induction l with
 | nil=>intro h hs e i;cases e;exact ⟨id,fun ab=>.inl⟩
 | cons x l ih =>
  intro h hs e i
  simp only [P9,Option.bind_eq_some_iff] at e
  obtain ⟨h1,e1,e2⟩:=e
  obtain ⟨k1,k2⟩:=ih _ _ e2 i
  have g:=IB e1 i
  by_cases q:i=x.1
  ·rw [if_pos q] at g
   refine ⟨fun _=>k1 (by rw [g];intro c;cases c),fun ab ha => ?_⟩
   rcases k2 ab ha with r | r
   ·rw [g] at r;cases r
    exact .inr (by rw [q];exact .head _)
   ·exact .inr (.tail _ r)
  ·rw [if_neg q] at g
   rw [g] at k1 k2
   exact ⟨k1,fun ab ha=>(k2 ab ha).imp id (.tail _)⟩
theorem iG (hs:N8 h l=true) {i:Nat} {ab:AB} (hm:(i,ab)∈l):h.get i=some ab:=by
 have:=List.all_eq_true.1 hs _ hm
 dsimp only at this
 split at this
 ·rename_i c hc
  rw [hc,PX _ _ this]
 ·cases this
theorem Wq (hb:N9 h n=true) {i:Nat} {ab:AB} (hg:h.get i=some ab):i<n:=Nat.le_of_ble_eq_true (T.TB _ _ hb _ _ hg)
theorem Ws (r:WR P base θ h w) (hb:N9 h n=true) (hp:N8 h l=true) (ht:thin n l=some hs):∃θ',Ext θ θ'∧WR P base θ' hs w:=by
 unfold thin at ht
 cases hn:Nat.blt n 500000000
 ·rw [hn] at ht;cases ht
 rw [hn,cond_true] at ht
 have hn:=Nat.le_of_ble_eq_true hn
 have dg:=fun i=>(iE 29 n (by have:(2:Nat) ^ 29=536870912:=rfl;omega) i).1
 have pg:=iF _ _ _ ht
 have hi:∀i ab,hs.get i=some ab→ab=.dead∧i<n∨h.get i=some ab:=fun i ab hg=>by
  rcases (pg i).2 ab hg with k | k
  ·rw [dg i] at k
   split at k
   ·rename_i q;cases k;exact .inl ⟨rfl,q⟩
   ·cases k
  ·exact .inr (iG hp k)
 have hn2:∀i ab,hs.get i=some ab→i<n:=fun i ab hg=>(hi i ab hg).elim (·.2) (Wq hb)
 have hex:Ext θ (fun i=>if i<n then some ((θ i).getD ⟨0,0,0⟩) else none):=fun i p hp=>by
  cases hg:h.get i with
  | none=>rw [r.dom i hg] at hp;cases hp
  | some ab =>
   dsimp only
   rw [if_pos (Wq hb hg),hp];rfl
 refine ⟨fun i=>if i<n then some ((θ i).getD ⟨0,0,0⟩) else none,hex,⟨fun i hg => ?_,fun i ab hg => ?_,fun i j p q x y hne g1 g2 l1 l2 e1 e2 => ?_⟩⟩
 ·rw [if_neg]
  intro q
  exact (pg i).1 (by rw [dg i,if_pos q];intro c;cases c) hg
 ·rw [if_pos (hn2 i ab hg)]
  refine ⟨_,rfl,?_⟩
  rcases hi i ab hg with ⟨rfl,_⟩ | k
  ·exact .dead
  ·obtain ⟨p,k1,k2⟩:=r.at_ i ab k
   rw [k1]
   exact k2.mono hex fun _=>rfl
 ·rw [if_pos (hn2 i x g1)] at e1
  rw [if_pos (hn2 j y g2)] at e2
  rcases hi i x g1 with ⟨rfl,_⟩ | k1
  ·cases l1
  rcases hi j y g2 with ⟨rfl,_⟩ | k2
  ·cases l2
  obtain ⟨p',m1,_⟩:=r.at_ i x k1
  obtain ⟨q',m2,_⟩:=r.at_ j y k2
  rw [m1] at e1;cases e1
  rw [m2] at e2;cases e2
  exact r.inj i j _ _ _ _ hne k1 k2 l1 l2 m1 m2
def EZ (P:Program) (h0:H) (G:Nat) (s:D8):Prop:=(thin s.n s.hp).isSome=true∧∃h',N8 h' s.hp'=true∧N9 h' s.n'=true∧∀hs,thin s.n s.hp=some hs→∀(base:Nat) (θ:Th) (w:World) (args':Array Value),Gl P h0 G base θ w→WR P base θ hs w→base≤w.heap.size→VL θ s.args args'.toList →
 Ans P base θ w (callFunc s.g args') s.v h'
theorem Ez {rg:Ah→Nat→Ej} {ext:Ah} {sp:Ah→Ah} {Dq:EW} {F d:Nat} {s:D8} (hc:Bg P h0 G (Gq P G rg ext sp Dq F d)) (hk:EY P G rg ext sp Dq F d s=true):EZ P h0 G s:=by
 unfold EY at hk
 split at hk
 ·rename_i h ht
  split at hk
  ·rename_i v h' n' he
   simp only [Bool.and_eq_true] at hk
   obtain ⟨k1,k2,k3⟩:=hk
   have e1:=GH _ _ _ k1
   subst e1
   refine ⟨by rw [ht];rfl,h',k2,k3,fun hs hs' base θ w args' gl r hb hv => ?_⟩
   rw [ht] at hs';cases hs'
   exact hc _ _ _ _ _ _ _ he base θ w args' gl r hb hv
  ·cases hk
 ·cases hk
theorem Em {tab:List D8} (ht:∀s∈tab,EZ P h0 G s):Bg P h0 G (EI tab):=by
 intro g args h n v h' n' he base θ w args' gl r hb hv
 unfold EI at he
 split at he
 ·rename_i s hf
  have hmem:=List.mem_of_find?_eq_some hf
  have hp:=List.find?_some hf
  simp only [Bool.and_eq_true] at hp
  obtain ⟨p1,p2,p3,p4,p5⟩:=hp
  have e1:=Nat.eq_of_beq_eq_true p1
  have e2:=J3 (GH 12) _ _ p3
  subst e1;subst e2
  simp only [Option.map_eq_some_iff] at he
  obtain ⟨h2,h3,e⟩:=he
  cases e
  obtain ⟨hth,hx,q2,q3,q4⟩:=ht s hmem
  obtain ⟨hs,hhs⟩:=Option.isSome_iff_exists.1 hth
  obtain ⟨θ1,x1,r1⟩:=Ws r p5 p4 hhs
  have gl1:Gl P h0 G base θ1 w:=by
   obtain ⟨θ0,g1,g2⟩:=gl
   exact ⟨θ0,g1.trans x1,g2⟩
  have ans:=q4 hs hhs base θ1 w args' gl1 r1 hb (hv.mono x1)
  have fin:∀θs w' v',Ext θ1 θs→VR θs s.v v'→WR P base θs hx w'→∃θ2,Ext θ θ2∧VR θ2 s.v v'∧WR P base θ2 h' w':=fun θs w' v' xs hvr rs=>by
   obtain ⟨θ2,x2,r2⟩:=Ws rs q3 q2 h3
   exact ⟨θ2,(x1.trans xs).trans x2,hvr.mono x2,r2⟩
  cases ans with
  | op k =>
   obtain ⟨nx,θs,w',v',m1,m2,m3,m4,m5,m6⟩:=k
   obtain ⟨θ2,q1,q2,q3⟩:=fin θs w' v' m3 m4 m5
   exact .op ⟨nx,θ2,w',v',m1,m2,q1,q2,q3,m6⟩
  | enter hm k =>
   refine .enter hm (k.mono fun e w' he => ?_)
   obtain ⟨v',θs,rfl,m3,m4,m5,m6⟩:=he
   obtain ⟨θ2,q1,q2,q3⟩:=fin θs w' v' m3 m4 m5
   exact ⟨v',θ2,rfl,q1,q2,q3,m6⟩
 ·cases he
end
end Go.Proofs.YtihlneenajlhoaaGreatDoor.ae
