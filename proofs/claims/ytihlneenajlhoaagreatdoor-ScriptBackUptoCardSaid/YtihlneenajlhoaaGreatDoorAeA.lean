/-
 A run of one goroutine over values that are known but for the places of their blocks: the store of blocks, values, what they stand for in a world. No condition: definitions, and laws of them.
-/
import Derived.Calls
import Derived.Laws.NewBlocks
import Derived.Laws.Cells
import Derived.Laws.Sem
import Derived.Laws.Entries
import GoSem.Dispatch
set_option linter.unusedVariables false
set_option linter.unusedSimpArgs false
namespace Go.Proofs.YtihlneenajlhoaaGreatDoor.ae
open Go
/-! A store of numbered things. -/
inductive T (α:Type) where
 | nil:T α
 | node (v:Option α) (l r:T α):T α
def T.get {α:Type}:T α→Nat→Option α
 | .nil,_=>none
 | .node v l r,k=>bif Nat.beq k 0 then v else bif Nat.beq (k%2) 1 then l.get (k / 2) else r.get (k / 2-1)
def T.put {α:Type} (x:α):Nat→T α→Nat→T α
 | 0,t,_=>t
 | f+1,.nil,k=>bif Nat.beq k 0 then .node (some x) .nil .nil else bif Nat.beq (k%2) 1 then .node none (T.put x f .nil (k / 2)) .nil else .node none .nil (T.put x f .nil (k / 2-1))
 | f+1,.node v l r,k=>bif Nat.beq k 0 then .node (some x) l r else bif Nat.beq (k%2) 1 then .node v (T.put x f l (k / 2)) r else .node v l (T.put x f r (k / 2-1))
theorem GX {a b:Nat} (h:a=b):Nat.beq a b=true:=by subst h;exact Nat.beq_refl a
theorem EM {a b:Nat} (h:a≠b):Nat.beq a b=false:=by
 cases e:Nat.beq a b
 ·rfl
 ·exact absurd (Nat.eq_of_beq_eq_true e) h
theorem T.get_put {α:Type} (x:α):∀(f:Nat) (t:T α) (k j:Nat),k+1<2 ^ f→(T.put x f t k).get j=if j=k then some x else t.get j:=by
 intro f
 induction f with
 | zero=>intro t k j h;simp at h
 | succ f ih =>
  intro t k j h
  have h':k+1<2*2 ^ f:=by rw [Nat.pow_succ] at h;omega
  have key:∀(v:Option α) (l r:T α),(bif Nat.beq k 0 then T.node (some x) l r else bif Nat.beq (k%2) 1 then .node v (T.put x f l (k / 2)) r else .node v l (T.put x f r (k / 2-1))).get j=if j=k then some x else (T.node v l r).get j:=by
   intro v l r
   rcases Nat.eq_zero_or_pos k with rfl | hk
   ·simp only [GX,cond_true]
    by_cases hj:j=0
    ·subst hj;simp [T.get]
    ·rw [if_neg hj];simp [T.get,EM hj]
   ·rw [EM (by omega:k≠0)]
    rcases Nat.mod_two_eq_zero_or_one k with hm | hm
    ·rw [hm]
     simp only [cond_false,show Nat.beq 0 1=false from rfl]
     have hk2:k / 2-1+1<2 ^ f:=by omega
     by_cases hj:j=0
     ·subst hj;rw [if_neg (by omega)];simp [T.get]
     ·simp only [T.get,EM hj,cond_false]
      rcases Nat.mod_two_eq_zero_or_one j with hn | hn
      ·rw [hn]
       simp only [cond_false,show Nat.beq 0 1=false from rfl]
       rw [ih r (k / 2-1) (j / 2-1) hk2]
       by_cases e:j=k
       ·subst e;simp
       ·rw [if_neg e,if_neg (by omega)]
      ·rw [hn]
       simp only [cond_true,show Nat.beq 1 1=true from rfl]
       rw [if_neg (by intro e;subst e;omega)]
    ·rw [hm]
     simp only [cond_false,cond_true,show Nat.beq 1 1=true from rfl]
     have hk2:k / 2+1<2 ^ f:=by omega
     by_cases hj:j=0
     ·subst hj;rw [if_neg (by omega)];simp [T.get]
     ·simp only [T.get,EM hj,cond_false]
      rcases Nat.mod_two_eq_zero_or_one j with hn | hn
      ·rw [hn]
       simp only [cond_false,show Nat.beq 0 1=false from rfl]
       rw [if_neg (by intro e;subst e;omega)]
      ·rw [hn]
       simp only [cond_true,show Nat.beq 1 1=true from rfl]
       rw [ih l (k / 2) (j / 2) hk2]
       by_cases e:j=k
       ·subst e;simp
       ·rw [if_neg e,if_neg (by omega)]
  cases t with
  | nil =>
   have:=key none .nil .nil
   have e:∀j,(T.node none .nil .nil:T α).get j=(T.nil:T α).get j:=fun j=>by
    simp only [T.get]
    cases Nat.beq j 0<;>cases Nat.beq (j%2) 1<;>rfl
   rw [e] at this
   exact this
  | node v l r=>exact key v l r
inductive AB where
 | dead:AB
 | cells (c:List Value) (e:TypeId) (ro grow:Bool):AB
 | map (es:List MapEntry) (clock:Nat):AB
 | iter (m:Option Nat) (since:Nat) (seen:List Nat) (last:Nat):AB
 | Eh (s:ByteArray) (pos:Nat):AB
abbrev H:=T AB
def lim:Nat:=1000000
theorem O0 {k:Nat} (h:Nat.ble k lim=true):k+1<2 ^ 24:=by
 have:=Nat.le_of_ble_eq_true h
 unfold lim at this
 omega
def big:Nat:=2 ^ 70
def emp:Value:=.slice (some ⟨0,0,some 0⟩) 0 big
def atom:Value→Bool
 | .bool _ | .int _ _ | .float _ _ | .complex _ _ _ | .string _ | .pointer none | .slice none _ _ | .map none | .chan none | .nilFunc | .nilIface=>true
 | _=>false
def EN:Nat→Value→Bool
 | 0,_=>false
 | n+1,v=>match v with
  | .agg a | .tuple a=>a.toList.all (EN n)
  | .func (.func _) a b=>a.toList.all (EN n)&&b.toList.all (EN n)
  | .iface _ v=>EN n v
  | v=>atom v
def flat (v:Value):Bool:=EN 12 v
structure Pl where
 b:Nat
 k:Nat
 s:Nat
abbrev Th:=Nat→Option Pl
def Ext (θ θ':Th):Prop:=∀i p,θ i=some p→θ' i=some p
theorem Ext.refl (θ:Th):Ext θ θ:=fun _ _ h=>h
theorem Ext.trans {a b c:Th} (h:Ext a b) (k:Ext b c):Ext a c:=fun i p x=>k i p (h i p x)
inductive VL (θ:Th):List Value→List Value→Prop
 | nil:VL θ [] []
 | same {v:Value} {l l':List Value} (h:atom v=true) (t:VL θ l l'):VL θ (v :: l) (v :: l')
 | ptr {i o:Nat} {s:Option Nat} {p:Pl} {l l':List Value} (h:θ i=some p) (t:VL θ l l'):VL θ (.pointer (some ⟨i,o,s⟩) :: l) (.pointer (some ⟨p.b,o,s⟩) :: l')
 | slice {i o n c:Nat} {p:Pl} {l l':List Value} (h:θ i=some p) (hc:c≠big) (t:VL θ l l'):VL θ (.slice (some ⟨i,o,none⟩) n c :: l) (.slice (some ⟨p.b,o,none⟩) n c :: l')
 | Cf {i o n c':Nat} {p:Pl} {l l':List Value} (h:θ i=some p) (hc:c'*p.s+o=p.k) (t:VL θ l l'):VL θ (.slice (some ⟨i,o,none⟩) n big :: l) (.slice (some ⟨p.b,o,none⟩) n c' :: l')
 | emp {a:Addr} {c':Nat} {l l':List Value} (t:VL θ l l'):VL θ (emp :: l) (.slice (some a) 0 c' :: l')
 | map {i:Nat} {p:Pl} {l l':List Value} (h:θ i=some p) (t:VL θ l l'):VL θ (.map (some i) :: l) (.map (some p.b) :: l')
 | func {f:FuncId} {a b a' b':Array Value} {l l':List Value} (ha:VL θ a.toList a'.toList) (hb:VL θ b.toList b'.toList) (t:VL θ l l'):VL θ (.func (.func f) a b :: l) (.func (.func f) a' b' :: l')
 | agg {a a':Array Value} {l l':List Value} (ha:VL θ a.toList a'.toList) (t:VL θ l l'):VL θ (.agg a :: l) (.agg a' :: l')
 | tup {a a':Array Value} {l l':List Value} (ha:VL θ a.toList a'.toList) (t:VL θ l l'):VL θ (.tuple a :: l) (.tuple a' :: l')
 | iface {ty:TypeId} {v v':Value} {l l':List Value} (ha:VL θ [v] [v']) (t:VL θ l l'):VL θ (.iface ty v :: l) (.iface ty v' :: l')
def VR (θ:Th) (v v':Value):Prop:=VL θ [v] [v']
section
variable {θ θ':Th} {l l' m m':List Value} {v v':Value}
theorem VL.mono (h:VL θ l l') (hx:Ext θ θ'):VL θ' l l':=by
 induction h with
 | nil=>exact .nil
 | same h _ ih=>exact .same h ih
 | ptr h _ ih=>exact .ptr (hx _ _ h) ih
 | slice h hc _ ih=>exact .slice (hx _ _ h) hc ih
 | Cf h hc _ ih=>exact .Cf (hx _ _ h) hc ih
 | emp _ ih=>exact .emp ih
 | map h _ ih=>exact .map (hx _ _ h) ih
 | func _ _ _ i1 i2 i3=>exact .func i1 i2 i3
 | agg _ _ i1 i2=>exact .agg i1 i2
 | tup _ _ i1 i2=>exact .tup i1 i2
 | iface _ _ i1 i2=>exact .iface i1 i2
theorem VR.mono (h:VR θ v v') (hx:Ext θ θ'):VR θ' v v':=VL.mono h hx
theorem VL.len (h:VL θ l l'):l.length=l'.length:=by
 induction h<;>simp_all
theorem VL.cons (h:VR θ v v') (t:VL θ l l'):VL θ (v :: l) (v' :: l'):=by
 cases h with
 | same h _=>exact .same h t
 | ptr h _=>exact .ptr h t
 | slice h hc _=>exact .slice h hc t
 | Cf h hc _=>exact .Cf h hc t
 | emp _=>exact .emp t
 | map h _=>exact .map h t
 | func a b _=>exact .func a b t
 | agg a _=>exact .agg a t
 | tup a _=>exact .tup a t
 | iface a _=>exact .iface a t
theorem VL.Jm (h:VL θ (v :: l) (v' :: l')):VR θ v v'∧VL θ l l':=by
 cases h with
 | same h t=>exact ⟨.same h .nil,t⟩
 | ptr h t=>exact ⟨.ptr h .nil,t⟩
 | slice h hc t=>exact ⟨.slice h hc .nil,t⟩
 | Cf h hc t=>exact ⟨.Cf h hc .nil,t⟩
 | emp t=>exact ⟨.emp .nil,t⟩
 | map h t=>exact ⟨.map h .nil,t⟩
 | func a b t=>exact ⟨.func a b .nil,t⟩
 | agg a t=>exact ⟨.agg a .nil,t⟩
 | tup a t=>exact ⟨.tup a .nil,t⟩
 | iface a t=>exact ⟨.iface a .nil,t⟩
theorem VL.DY (h:VL θ (v :: l) m'):∃v' l',m'=v' :: l'∧VR θ v v'∧VL θ l l':=by
 cases m' with
 | nil=>have:=h.len;simp at this
 | cons v' l'=>exact ⟨v',l',rfl,h.Jm.1,h.Jm.2⟩
theorem VL.Ci (h:VL θ [] m'):m' = []:=by cases h;rfl
theorem VL.append (h:VL θ l l') (k:VL θ m m'):VL θ (l++m) (l'++m'):=by
 induction l generalizing l' with
 | nil=>rw [h.Ci];exact k
 | cons v l ih =>
  obtain ⟨v',l',rfl,h1,h2⟩:=h.DY
  exact .cons h1 (ih h2)
theorem VL.get {i:Nat} (h:VL θ l l') (hi:l[i]?=some v):∃v',l'[i]?=some v'∧VR θ v v':=by
 induction l generalizing l' i with
 | nil=>simp at hi
 | cons x l ih =>
  obtain ⟨x',l',rfl,h1,h2⟩:=h.DY
  cases i with
  | zero=>simp at hi;subst hi;exact ⟨x',rfl,h1⟩
  | succ i =>
   obtain ⟨v',e,r⟩:=ih h2 (by simpa using hi)
   exact ⟨v',by simpa using e,r⟩
theorem Qx:∀(n:Nat) (l:List Value),l.all (EN n)=true→VL θ l l:=by
 intro n
 induction n with
 | zero=>intro l h;cases l with | nil=>exact .nil | cons v l=>simp [EN] at h
 | succ n ih =>
  intro l h
  induction l with
  | nil=>exact .nil
  | cons v l ihl =>
   rw [List.all_cons,Bool.and_eq_true] at h
   have t:=ihl h.2
   have hv:=h.1
   unfold EN at hv
   split at hv
   ·exact .agg (ih _ hv) t
   ·exact .tup (ih _ hv) t
   ·rw [Bool.and_eq_true] at hv;exact .func (ih _ hv.1) (ih _ hv.2) t
   ·exact .iface (ih [_] (by simpa using hv)) t
   ·exact .same hv t
theorem Gn (h:flat v=true):VR θ v v:=Qx 12 [v] (by simpa [flat] using h)
theorem Zo:∀(n:Nat) {l l':List Value},VL θ l l'→l.all (EN n)=true→l'=l:=by
 intro n l l' h
 induction h generalizing n with
 | nil=>intro _;rfl
 | same h _ ih=>intro hf;rw [List.all_cons,Bool.and_eq_true] at hf;rw [ih n hf.2]
 | agg _ _ i1 i2 =>
  intro hf;rw [List.all_cons,Bool.and_eq_true] at hf
  cases n with
  | zero=>simp [EN] at hf
  | succ n=>rw [i2 _ hf.2,Array.toList_inj.1 (i1 n (by simpa [EN] using hf.1))]
 | tup _ _ i1 i2 =>
  intro hf;rw [List.all_cons,Bool.and_eq_true] at hf
  cases n with
  | zero=>simp [EN] at hf
  | succ n=>rw [i2 _ hf.2,Array.toList_inj.1 (i1 n (by simpa [EN] using hf.1))]
 | func _ _ _ i1 i2 i3 =>
  intro hf;rw [List.all_cons,Bool.and_eq_true] at hf
  cases n with
  | zero=>simp [EN] at hf
  | succ n =>
   have:=hf.1
   simp only [EN,Bool.and_eq_true] at this
   rw [i3 _ hf.2,Array.toList_inj.1 (i1 n this.1),Array.toList_inj.1 (i2 n this.2)]
 | iface _ _ i1 i2 =>
  intro hf;rw [List.all_cons,Bool.and_eq_true] at hf
  cases n with
  | zero=>simp [EN] at hf
  | succ n =>
   have:=i1 n (by simpa [EN] using hf.1)
   simp only [List.cons.injEq,and_true] at this
   rw [i2 _ hf.2,this]
 | ptr _ _ _=>intro hf;cases n<;>simp [EN,atom] at hf
 | slice _ _ _ _=>intro hf;cases n<;>simp [EN,atom] at hf
 | Cf _ _ _ _=>intro hf;cases n<;>simp [EN,atom] at hf
 | emp _ _=>intro hf;cases n<;>simp [EN,atom,ae.emp] at hf
 | map _ _ _=>intro hf;cases n<;>simp [EN,atom] at hf
theorem Dz (h:VR θ v v') (hf:flat v=true):v'=v:=by
 have:=Zo 12 h (by simpa [flat] using hf)
 simpa using this
end
end Go.Proofs.YtihlneenajlhoaaGreatDoor.ae
/-
 A run of one goroutine over known values: what a store of blocks stands for in a world; reading, writing and new blocks there and in the world. Condition: the store and the world belong together (WR).
-/
set_option linter.unusedVariables false
set_option linter.unusedSimpArgs false
namespace Go.Proofs.YtihlneenajlhoaaGreatDoor.ae
open Go
def hput (h:H) (i:Nat) (b:AB):Option H:=bif Nat.ble i lim then some (T.put b 24 h i) else none
def takeN:Nat→Nat→List Value→Option (List Value)
 | _,0,_=>some []
 | o+1,n+1,_ :: l=>takeN o (n+1) l
 | 0,n+1,x :: l=>(takeN 0 n l).map (x :: ·)
 | _,_+1,[]=>none
def BV:Nat→List Value→List Value→Option (List Value)
 | _,[],l=>some l
 | o+1,v :: vs,x :: l=>(BV o (v :: vs) l).map (x :: ·)
 | 0,v :: vs,_ :: l=>(BV 0 vs l).map (v :: ·)
 | _,_ :: _,[]=>none
def rd (h:H) (i o n:Nat):Option (List Value):=match h.get i with | some (.cells c _ _ _)=>takeN o n c | _=>none
def FX:Value→Bool | .agg _ | .tuple _=>false | _=>true
def wr (h:H) (i o:Nat) (vs:List Value):Option H:=match h.get i with
 | some (.cells c e false g)=>bif vs.all FX then (BV o vs c).bind fun c=>hput h i (.cells c e false g) else none
 | _=>none
def fresh (h:H) (n:Nat) (b:AB):Option H:=match h.get n with | none=>hput h n b | some _=>none
section
variable (P:Program)
def isAgg (t:TypeId):Option Bool:=match P.underlying t with | some (.struct _) | some (.array _ _)=>some true | some _=>some false | none=>none
def size (t:TypeId):Option Nat:=(P.info? t).map (·.size)
def zero (t:TypeId):Option Value:=(P.info? t).bind (·.zero)
def elemOf (t:TypeId):Option TypeId:=match P.underlying t with | some (.slice e)=>some e | _=>none
end
theorem LJ:∀(o n:Nat) (l x:List Value),takeN o n l=some x→x=(l.drop o).take n∧x.length=n∧(n=0∨o+n≤l.length):=by
 intro o n l
 induction l generalizing o n with
 | nil =>
  intro x h
  cases n with
  | zero=>simp [takeN] at h;subst h;simp
  | succ n=>cases o<;>simp [takeN] at h
 | cons y l ih =>
  intro x h
  cases n with
  | zero=>cases o<;>(simp [takeN] at h;subst h;simp)
  | succ n =>
   cases o with
   | zero =>
    simp only [takeN,Option.map_eq_some_iff] at h
    obtain ⟨z,hz,rfl⟩:=h
    obtain ⟨h1,h2,h3⟩:=ih 0 n z hz
    refine ⟨by simp [h1],by simp [h2],.inr ?_⟩
    simp at *; omega
   | succ o =>
    simp only [takeN] at h
    obtain ⟨h1,h2,h3⟩:=ih o (n+1) x h
    refine ⟨by simpa using h1,h2,.inr ?_⟩
    simp at *; omega
theorem LK {θ:Th} {o n:Nat} {l l' x:List Value} (h:takeN o n l=some x) (hv:VL θ l l'):∃x',takeN o n l'=some x'∧VL θ x x':=by
 induction l generalizing o n x l' with
 | nil =>
  rw [hv.Ci]
  cases n with
  | zero=>simp [takeN] at h;subst h;exact ⟨[],by simp [takeN],.nil⟩
  | succ n=>cases o<;>simp [takeN] at h
 | cons y l ih =>
  obtain ⟨y',l',rfl,h1,h2⟩:=hv.DY
  cases n with
  | zero=>simp [takeN] at h;subst h;exact ⟨[],by simp [takeN],.nil⟩
  | succ n =>
   cases o with
   | zero =>
    simp only [takeN,Option.map_eq_some_iff] at h
    obtain ⟨z,hz,rfl⟩:=h
    obtain ⟨z',e,r⟩:=ih hz h2
    exact ⟨y' :: z',by simp [takeN,e],.cons h1 r⟩
   | succ o =>
    simp only [takeN] at h
    obtain ⟨z',e,r⟩:=ih h h2
    exact ⟨z',by simp [takeN,e],r⟩
theorem Qy {o n:Nat} {l m x:List Value} (h:takeN o n l=some x):takeN o n (l++m)=some x:=by
 induction l generalizing o n x with
 | nil =>
  cases n with
  | zero=>simp [takeN] at h;subst h;cases o<;>cases m<;>simp [takeN]
  | succ n=>cases o<;>simp [takeN] at h
 | cons y l ih =>
  cases n with
  | zero=>simp [takeN] at h;subst h;simp [takeN]
  | succ n =>
   cases o with
   | zero =>
    simp only [takeN,Option.map_eq_some_iff] at h
    obtain ⟨z,hz,rfl⟩:=h
    simp [takeN,ih hz]
   | succ o =>
    simp only [takeN] at h
    simp [takeN,ih h]
theorem NR {o n:Nat} {l x:List Value} (h:takeN o n l=some x) (j:Nat) (hj:j<n):l[o+j]?=x[j]?:=by
 obtain ⟨h1,h2,h3⟩:=LJ o n l x h
 rw [h1,List.getElem?_take_of_lt hj,List.getElem?_drop]
theorem Qz {o:Nat} {vs l x:List Value} (h:BV o vs l=some x):x.length=l.length∧(vs = []∨o+vs.length≤l.length):=by
 induction l generalizing o vs x with
 | nil =>
  cases vs with
  | nil=>simp [BV] at h;subst h;simp
  | cons v vs=>cases o<;>simp [BV] at h
 | cons y l ih =>
  cases vs with
  | nil=>simp [BV] at h;subst h;simp
  | cons v vs =>
   cases o with
   | zero =>
    simp only [BV,Option.map_eq_some_iff] at h
    obtain ⟨z,hz,rfl⟩:=h
    obtain ⟨h1,h2⟩:=ih hz
    refine ⟨by simp [h1],.inr ?_⟩
    rcases h2 with rfl | h2<;>simp at * <;> omega
   | succ o =>
    simp only [BV,Option.map_eq_some_iff] at h
    obtain ⟨z,hz,rfl⟩:=h
    obtain ⟨h1,h2⟩:=ih hz
    refine ⟨by simp [h1],.inr ?_⟩
    simp at *; omega
theorem Q3 {θ:Th} {o:Nat} {vs vs' l l' x:List Value} (h:BV o vs l=some x) (hv:VL θ l l') (hw:VL θ vs vs'):∃x',BV o vs' l'=some x'∧VL θ x x':=by
 induction l generalizing o vs vs' x l' with
 | nil =>
  rw [hv.Ci]
  cases vs with
  | nil=>rw [hw.Ci];simp [BV] at h;subst h;exact ⟨[],by simp [BV],.nil⟩
  | cons v vs=>cases o<;>simp [BV] at h
 | cons y l ih =>
  cases vs with
  | nil=>rw [hw.Ci];simp [BV] at h;subst h;exact ⟨l',by simp [BV],hv⟩
  | cons v vs =>
   obtain ⟨y',l',rfl,h1,h2⟩:=hv.DY
   obtain ⟨v',vs',rfl,g1,g2⟩:=hw.DY
   cases o with
   | zero =>
    simp only [BV,Option.map_eq_some_iff] at h
    obtain ⟨z,hz,rfl⟩:=h
    obtain ⟨z',e,r⟩:=ih hz h2 g2
    exact ⟨v' :: z',by simp [BV,e],.cons g1 r⟩
   | succ o =>
    simp only [BV,Option.map_eq_some_iff] at h
    obtain ⟨z,hz,rfl⟩:=h
    obtain ⟨z',e,r⟩:=ih hz h2 (.cons g1 g2)
    exact ⟨y' :: z',by simp [BV,e],.cons h1 r⟩
theorem Zp {o:Nat} {vs l m x:List Value} (h:BV o vs l=some x):BV o vs (l++m)=some (x++m):=by
 induction l generalizing o vs x with
 | nil =>
  cases vs with
  | nil=>simp [BV] at h;subst h;simp [BV]
  | cons v vs=>cases o<;>simp [BV] at h
 | cons y l ih =>
  cases vs with
  | nil=>simp [BV] at h;subst h;simp [BV]
  | cons v vs =>
   cases o with
   | zero =>
    simp only [BV,Option.map_eq_some_iff] at h
    obtain ⟨z,hz,rfl⟩:=h
    simp [BV,ih hz]
   | succ o =>
    simp only [BV,Option.map_eq_some_iff] at h
    obtain ⟨z,hz,rfl⟩:=h
    simp [BV,ih hz]
theorem NS (o:Nat) (l:List Value):BV o [] l=some l:=by cases o<;>cases l<;>rfl
theorem Q4 {o:Nat} {v:Value} {vs l x:List Value} (h:BV o (v :: vs) l=some x):o<l.length∧BV (o+1) vs (l.set o v)=some x:=by
 induction l generalizing o v vs x with
 | nil=>cases o<;>simp [BV] at h
 | cons y l ih =>
  cases o with
  | zero =>
   simp only [BV,Option.map_eq_some_iff] at h
   obtain ⟨z,hz,rfl⟩:=h
   refine ⟨by simp,?_⟩
   cases vs with
   | nil=>rw [NS] at hz;cases hz;simp [BV]
   | cons u us=>simp [BV,hz]
  | succ o =>
   simp only [BV,Option.map_eq_some_iff] at h
   obtain ⟨z,hz,rfl⟩:=h
   obtain ⟨h1,h2⟩:=ih hz
   refine ⟨by simpa using h1,?_⟩
   cases vs with
   | nil=>rw [NS] at h2;cases h2;simp [BV]
   | cons u us=>simp [BV,h2]
theorem Ii {w:World} {b:Nat} {o:Obj} (h:w.heap[b]?=some o):b<w.heap.size:=(Array.getElem?_eq_some_iff.1 h).1
/-! Blocks in a world. -/
def live:AB→Bool | .dead=>false | _=>true
def ER (θ:Th) (es es':List MapEntry):Prop:=VL θ (es.map (·.key)) (es'.map (·.key))∧VL θ (es.map (·.val)) (es'.map (·.val))∧es.map (·.born)=es'.map (·.born)
theorem ER.mono {θ θ':Th} {es es':List MapEntry} (h:ER θ es es') (hx:Ext θ θ'):ER θ' es es':=⟨h.1.mono hx,h.2.1.mono hx,h.2.2⟩
def Wt (base b n:Nat) (fz:Nat×Nat):Prop:=base≤b∧(fz.1=fz.2∨n≤fz.1)
theorem Wt.no {base b n:Nat} {fz:Nat×Nat} (h:Wt base b n fz):∀o,o<n→¬(fz.1≤o∧o<fz.2):=fun o ho hf=>by
 rcases h.2 with e | e<;>omega
inductive BR (P:Program) (θ:Th) (base:Nat) (p:Pl) (w:World):AB→Prop
 | dead:BR P θ base p w .dead
 | cells {c:List Value} {c':Array Value} {e:TypeId} {ro:Bool} {fz:Nat×Nat} (h:w.heap[p.b]?=some (.cells c' e fz)) (hv:VL θ c c'.toList) (hz:ro=false→Wt base p.b c'.size fz):BR P θ base p w (.cells c e ro false)
 | grow {c pre r:List Value} {c':Array Value} {e:TypeId} {ro:Bool} {fz:Nat×Nat} (h:w.heap[p.b]?=some (.cells c' e fz)) (hv:VL θ c pre) (he:c'.toList=pre++r) (hk:c'.size=p.k) (hs:size P e=some p.s)
   (hz:ro=false→Wt base p.b c'.size fz):BR P θ base p w (.cells c e ro true)
 | map {es:List MapEntry} {es':Array MapEntry} {clk:Nat} (h:w.heap[p.b]?=some (.map es' clk)) (hv:ER θ es es'.toList) (hb:base≤p.b):BR P θ base p w (.map es clk)
 | JI {since last:Nat} {seen:List Nat} {seen':Array Nat} (h:w.heap[p.b]?=some (.mapIter none since seen' last)) (hs:seen'.toList=seen) (hb:base≤p.b):BR P θ base p w (.iter none since seen last)
 | iter {m:Nat} {q:Pl} {since last:Nat} {seen:List Nat} {seen':Array Nat} (h:w.heap[p.b]?=some (.mapIter (some q.b) since seen' last)) (hm:θ m=some q) (hs:seen'.toList=seen) (hb:base≤p.b):BR P θ base p w (.iter (some m) since seen last)
 | Eh {s:ByteArray} {pos:Nat} (h:w.heap[p.b]?=some (.stringIter s pos)) (hb:base≤p.b):BR P θ base p w (.Eh s pos)
structure WR (P:Program) (base:Nat) (θ:Th) (h:H) (w:World):Prop where
 dom:∀i,h.get i=none→θ i=none
 at_:∀i ab,h.get i=some ab→∃p,θ i=some p∧BR P θ base p w ab
 inj:∀i j p q x y,i≠j→h.get i=some x→h.get j=some y→live x=true→live y=true→θ i=some p→θ j=some q→p.b≠q.b
structure Keep (base:Nat) (w w':World):Prop where
 os:w'.os=w.os
 tape:w'.tape=w.tape
 output:w'.output=w.output
 size:w.heap.size≤w'.heap.size
 block:∀k,k<base→w'.heap[k]?=w.heap[k]?
theorem Keep.refl (base:Nat) (w:World):Keep base w w:=⟨rfl,rfl,rfl,Nat.le_refl _,fun _ _=>rfl⟩
theorem Keep.trans {base:Nat} {a b c:World} (h:Keep base a b) (k:Keep base b c):Keep base a c :=
 ⟨k.os.trans h.os,k.tape.trans h.tape,k.output.trans h.output,Nat.le_trans h.size k.size,fun i hi=>(k.block i hi).trans (h.block i hi)⟩
theorem Keep.low {base b:Nat} {w w':World} (h:Keep base w w') (hb:b≤base):Keep b w w':=⟨h.os,h.tape,h.output,h.size,fun k hk=>h.block k (by omega)⟩
section
variable {P:Program} {base:Nat} {θ θ':Th} {p:Pl} {w w':World} {ab:AB} {h h':H}
theorem BR.mono (r:BR P θ base p w ab) (hx:Ext θ θ') (hw:live ab=true→w'.heap[p.b]?=w.heap[p.b]?):BR P θ' base p w' ab:=by
 cases r with
 | dead=>exact .dead
 | cells g hv hz=>exact .cells ((hw rfl).trans g) (hv.mono hx) hz
 | grow g hv he hk hs hz=>exact .grow ((hw rfl).trans g) (hv.mono hx) he hk hs hz
 | map g hv hb=>exact .map ((hw rfl).trans g) (hv.mono hx) hb
 | JI g hs hb=>exact .JI ((hw rfl).trans g) hs hb
 | iter g hm hs hb=>exact .iter ((hw rfl).trans g) (hx _ _ hm) hs hb
 | Eh g hb=>exact .Eh ((hw rfl).trans g) hb
theorem BR.lt (r:BR P θ base p w ab) (hl:live ab=true):p.b<w.heap.size:=by
 cases r with
 | dead=>cases hl
 | cells g _ _=>exact Ii g
 | grow g _ _ _ _ _=>exact Ii g
 | map g _ _=>exact Ii g
 | JI g _ _=>exact Ii g
 | iter g _ _ _=>exact Ii g
 | Eh g _=>exact Ii g
theorem WR.heap (r:WR P base θ h w) (e:w'.heap=w.heap):WR P base θ h w' :=
 ⟨r.dom,fun i ab g=>let ⟨p,h1,h2⟩:=r.at_ i ab g; ⟨p,h1,h2.mono (Ext.refl θ) fun _=>by rw [e]⟩,r.inj⟩
theorem IB {h h':H} {i:Nat} {b:AB} (e:hput h i b=some h') (j:Nat):h'.get j=if j=i then some b else h.get j:=by
 unfold hput at e
 cases hb:Nat.ble i lim
 ·simp [hb] at e
 ·simp only [hb,cond_true,Option.some.injEq] at e
  subst e
  exact T.get_put b 24 h i j (O0 hb)
theorem WR.set {i:Nat} {x b:AB} (r:WR P base θ h w) (hp:hput h i b=some h') (hi:h.get i=some x) (ht:θ i=some p) (hlx:live x=true) (hb:BR P θ base p w' b) (hw:∀k,k≠p.b→w'.heap[k]?=w.heap[k]?):WR P base θ h' w':=by
 refine ⟨fun j g => ?_,fun j ab g => ?_,fun j k q q' y z hne g1 g2 l1 l2 t1 t2 => ?_⟩
 ·rw [IB hp] at g
  split at g
  ·cases g
  ·exact r.dom j g
 ·rw [IB hp] at g
  split at g
  ·rename_i e;subst e;cases g;exact ⟨p,ht,hb⟩
  ·rename_i e
   obtain ⟨q,h1,h2⟩:=r.at_ j ab g
   exact ⟨q,h1,h2.mono (Ext.refl θ) fun hl=>hw _ (r.inj j i q p ab x e g hi hl hlx h1 ht)⟩
 ·rw [IB hp] at g1 g2
  split at g1
  ·rename_i e;subst e
   split at g2
   ·rename_i e;exact absurd e.symm hne
   ·exact r.inj j k q q' x z hne hi g2 hlx l2 t1 t2
  ·split at g2
   ·rename_i e;subst e
    exact r.inj j k q q' y x hne g1 hi l1 hlx t1 t2
   ·exact r.inj j k q q' y z hne g1 g2 l1 l2 t1 t2
theorem WR.new {i:Nat} {b:AB} (r:WR P base θ h w) (hp:hput h i b=some h') (hi:h.get i=none) (hx:∀j,θ' j=if j=i then some p else θ j) (hb:BR P θ' base p w' b)
  (hw:∀j x q,h.get j=some x→live x=true→θ j=some q→w'.heap[q.b]?=w.heap[q.b]?∧q.b≠p.b):WR P base θ' h' w'∧Ext θ θ':=by
 have ht:=r.dom i hi
 have ext:Ext θ θ':=fun j q hq=>by
  rw [hx];split
  ·rename_i e;subst e;rw [ht] at hq;cases hq
  ·exact hq
 refine ⟨⟨fun j g => ?_,fun j ab g => ?_,fun j k q q' y z hne g1 g2 l1 l2 t1 t2 => ?_⟩,ext⟩
 ·rw [IB hp] at g
  split at g
  ·cases g
  ·rename_i e;rw [hx,if_neg e];exact r.dom j g
 ·rw [IB hp] at g
  split at g
  ·rename_i e;subst e;cases g;exact ⟨p,by rw [hx,if_pos rfl],hb⟩
  ·rename_i e
   obtain ⟨q,h1,h2⟩:=r.at_ j ab g
   exact ⟨q,ext _ _ h1,h2.mono ext fun hl=>(hw j ab q g hl h1).1⟩
 ·rw [IB hp] at g1 g2
  rw [hx] at t1 t2
  split at g1
  ·rename_i e;subst e
   rw [if_pos rfl] at t1;cases t1
   rw [if_neg (Ne.symm hne)] at g2 t2
   exact fun e=>(hw k z q' g2 l2 t2).2 e.symm
  ·rename_i e
   rw [if_neg e] at t1
   split at g2
   ·rename_i e2;subst e2
    rw [if_pos rfl] at t2;cases t2
    exact (hw j y q g1 l1 t1).2
   ·rename_i e2
    rw [if_neg e2] at t2
    exact r.inj j k q q' y z hne g1 g2 l1 l2 t1 t2
end
end Go.Proofs.YtihlneenajlhoaaGreatDoor.ae
/-
 A run of one goroutine over known values: what reading, writing and making cells does in the world. Condition: the store and the world belong together (WR).
-/
set_option linter.unusedVariables false
set_option linter.unusedSimpArgs false
namespace Go.Proofs.YtihlneenajlhoaaGreatDoor.ae
open Go
theorem add_eq (b o n:Nat):(⟨b,o,none⟩:Addr).add n=⟨b,o+n,none⟩:=by
 unfold Addr.add
 split<;>simp_all
theorem Zq (l:List Value):takeN 0 l.length l=some l:=by
 induction l with
 | nil=>rfl
 | cons x l ih=>simp [takeN,ih]
section
variable {P:Program} {base:Nat} {θ:Th} {w:World} {h:H}
theorem cell_of {b o:Nat} {c:Array Value} {e:TypeId} {fz:Nat×Nat} (hb:w.heap[b]?=some (.cells c e fz)):w.cell? ⟨b,o,none⟩=c.toList[o]?:=by
 simp [World.cell?,hb]
theorem Jn {i o n:Nat} {l:List Value} (r:WR P base θ h w) (hr:rd h i o n=some l) :
  ∃p c' e fz l',θ i=some p∧w.heap[p.b]?=some (.cells c' e fz)∧takeN o n c'.toList=some l'∧VL θ l l':=by
 unfold rd at hr
 split at hr
 ·rename_i c e ro g hg
  obtain ⟨p,hp,hb⟩:=r.at_ i _ hg
  cases hb with
  | cells g hv hz =>
   obtain ⟨l',h1,h2⟩:=LK hr hv
   exact ⟨p,_,_,_,l',hp,g,h1,h2⟩
  | grow g hv he hk hs hz =>
   obtain ⟨l',h1,h2⟩:=LK hr hv
   exact ⟨p,_,_,_,l',hp,g,by rw [he];exact Qy h1,h2⟩
 ·cases hr
theorem Jo {b o n:Nat} {c:Array Value} {e:TypeId} {fz:Nat×Nat} {l:List Value} (hb:w.heap[b]?=some (.cells c e fz)) (ht:takeN o n c.toList=some l) :
  (loadCells ⟨b,o,none⟩ n).run P w=.ok l.toArray w:=by
 obtain ⟨h1,h2,h3⟩:=LJ _ _ _ _ ht
 have:=run_loadCells_list (P:=P) w ⟨b,o,none⟩ l (fun j v hj=>by
  have hjn:j<n:=by
   rw [←h2]
   rcases Nat.lt_or_ge j l.length with k | k
   ·exact k
   ·rw [List.getElem?_eq_none k] at hj;cases hj
  rw [add_eq,cell_of hb,NR ht j hjn,hj])
 rw [h2] at this
 exact this
theorem Zr {b o:Nat} {c:Array Value} {e:TypeId} {fz:Nat×Nat} {x:Value} (hb:w.heap[b]?=some (.cells c e fz)) (ht:takeN o 1 c.toList=some [x]) :
  (load ⟨b,o,none⟩).run P w=.ok x w:=by
 have:=NR ht 0 (by omega)
 simp only [Nat.add_zero] at this
 rw [run_load,cell_of hb,this]
 rfl
theorem VP {a:Addr} {v x:Value} (h1:FX v=true) (hc:w.cell? a=some x) (hz:w.frozen? a=false):(store a v).run P w=.ok () (w.setCell a v):=by
 cases v<;>first | (simp [FX] at h1;done) | simp [store,Sem.run,hc,hz]
theorem Q7 {b o:Nat} {e:TypeId} {fz:Nat×Nat}:∀(vs:List Value) (i:Nat) (w:World) (cur:Array Value) (x:List Value),w.heap[b]?=some (.cells cur e fz)→(∀j,j<cur.size→¬(fz.1≤j∧j<fz.2))→vs.all FX=true →
  BV (o+i) vs cur.toList=some x→∃w',(storeCells ⟨b,o,none⟩ vs i).run P w=.ok () w'∧w'.heap[b]?=some (.cells x.toArray e fz)∧(∀k,k≠b→w'.heap[k]?=w.heap[k]?)∧w'.heap.size=w.heap.size∧w'.os=w.os∧w'.tape=w.tape∧w'.output=w.output:=by
 intro vs
 induction vs with
 | nil =>
  intro i w cur x hb hz h1 hs
  rw [NS] at hs
  cases hs
  exact ⟨w,by simp [storeCells],by simpa using hb,fun _ _=>rfl,rfl,rfl,rfl,rfl⟩
 | cons v vs ih =>
  intro i w cur x hb hz h1 hs
  obtain ⟨hlt,hs'⟩:=Q4 hs
  simp only [List.all_cons,Bool.and_eq_true] at h1
  have hlt':o+i<cur.size:=by simpa using hlt
  have hc:w.cell? ⟨b,o+i,none⟩=some cur.toList[o+i]:=by rw [cell_of hb,List.getElem?_eq_getElem hlt]
  have hf:w.frozen? ⟨b,o+i,none⟩=false:=by
   have:=hz _ hlt'
   simp only [World.frozen?,hb]
   simpa using this
  have hbs:b<w.heap.size:=Ii hb
  have e2:(w.setCell ⟨b,o+i,none⟩ v).heap[b]?=some (.cells (cur.setIfInBounds (o+i) v) e fz):=by
   simp only [World.setCell,Array.getElem?_modify,hb]
   simp
  obtain ⟨w',r1,r2,r3,r4,r5,r6,r7⟩:=ih (i+1) (w.setCell ⟨b,o+i,none⟩ v) (cur.setIfInBounds (o+i) v) x e2 (fun j hj=>hz j (by simpa using hj)) h1.2 (by
   rw [Array.toList_setIfInBounds,←Nat.add_assoc];exact hs')
  refine ⟨w',?_,r2,fun k hk => ?_,?_,r5,r6,r7⟩
  ·rw [storeCells,Sem.run_bind,add_eq,VP h1.1 hc hf]
   exact r1
  ·rw [r3 k hk]
   simp only [World.setCell,Array.getElem?_modify]
   rw [if_neg (Ne.symm hk)]
  ·rw [r4];simp [World.setCell]
theorem NT {i o:Nat} {vs vs':List Value} {h':H} (r:WR P base θ h w) (hb:base≤w.heap.size) (hw:wr h i o vs=some h') (hv:VL θ vs vs') :
  ∃p w',θ i=some p∧(storeCells ⟨p.b,o,none⟩ vs').run P w=.ok () w'∧WR P base θ h' w'∧Keep base w w':=by
 unfold wr at hw
 split at hw
 ·rename_i c e g hg
  cases ha:vs.all FX
  ·rw [ha] at hw;cases hw
  rw [ha,cond_true,Option.bind_eq_some_iff] at hw
  obtain ⟨x,hx,hput⟩:=hw
  have ha':vs'.all FX=true:=by
   clear hx hput
   induction vs generalizing vs' with
   | nil=>rw [hv.Ci];rfl
   | cons v vs ih =>
    obtain ⟨v',vs',rfl,h1,h2⟩:=hv.DY
    simp only [List.all_cons,Bool.and_eq_true] at ha ⊢
    refine ⟨?_,ih h2 ha.2⟩
    have:=ha.1
    cases h1<;>first | assumption | rfl | (simp [FX] at this)
  obtain ⟨p,hp,hbr⟩:=r.at_ i _ hg
  cases hbr with
  | cells g1 hl hz =>
   rename_i c' fz
   obtain ⟨hbase,NU⟩:=hz rfl
   have hfz:=(hz rfl).no
   obtain ⟨x',h1,h2⟩:=Q3 hx hl hv
   obtain ⟨w',r1,r2,r3,r4,r5,r6,r7⟩:=Q7 (P:=P) (b:=p.b) (o:=o) vs' 0 w _ x' g1 hfz ha' h1
   have hsz:x'.toArray.size=c'.size:=by have:=(Qz h1).1;simpa using this
   refine ⟨p,w',hp,r1,r.set hput hg hp rfl (.cells r2 (by simpa using h2) fun _=>⟨hbase,by rw [hsz];exact NU⟩) r3,⟨r5,r6,r7,by omega,fun k hk=>r3 k (by omega)⟩⟩
  | grow g1 hl he hk hs hz =>
   rename_i pre rr c' fz
   obtain ⟨hbase,NU⟩:=hz rfl
   have hfz:=(hz rfl).no
   obtain ⟨x',h1,h2⟩:=Q3 hx hl hv
   have h1':=Zp (m:=rr) h1
   rw [←he] at h1'
   obtain ⟨w',r1,r2,r3,r4,r5,r6,r7⟩:=Q7 (P:=P) (b:=p.b) (o:=o) vs' 0 w _ _ g1 hfz ha' h1'
   have hsz:(x'++rr).toArray.size=c'.size:=by have:=(Qz h1').1;simpa using this
   refine ⟨p,w',hp,r1,r.set hput hg hp rfl (.grow (r:=rr) r2 h2 (by simp) (by rw [hsz,hk]) hs fun _=>⟨hbase,by rw [hsz];exact NU⟩) r3,⟨r5,r6,r7,by omega,fun k hk=>r3 k (by omega)⟩⟩
 ·cases hw
theorem NV {n:Nat} {b:AB} {h':H} (hf:fresh h n b=some h'):h.get n=none∧hput h n b=some h':=by
 unfold fresh at hf
 split at hf
 ·rename_i e;exact ⟨e,hf⟩
 ·cases hf
theorem VQ {a:Array Obj} {o:Obj} {k:Nat} (h:k<a.size):(a.push o)[k]?=a[k]?:=by
 rw [Array.getElem?_push_lt h,Array.getElem?_eq_getElem h]
theorem NW {n:Nat} {b:AB} {h':H} {o:Obj} {p:Pl} (r:WR P base θ h w) (hb:base≤w.heap.size) (hf:fresh h n b=some h') (hp:p.b=w.heap.size)
  (hbr:∀θ' w',Ext θ θ'→w'.heap[p.b]?=some o→BR P θ' base p w' b) :
  ∃θ',θ' n=some p∧Ext θ θ'∧WR P base θ' h' { w with heap:=w.heap.push o }∧Keep base w { w with heap:=w.heap.push o }:=by
 obtain ⟨h1,h2⟩:=NV hf
 have ht:=r.dom n h1
 have ext:Ext θ (fun j=>if j=n then some p else θ j):=fun j q hq=>by
  show (if j=n then some p else θ j)=some q
  split
  ·rename_i e;subst e;rw [ht] at hq;cases hq
  ·exact hq
 have hnew:(w.heap.push o)[p.b]?=some o:=by rw [hp];simp
 obtain ⟨hw,hx⟩:=r.new (θ':=fun j=>if j=n then some p else θ j) (w':={ w with heap:=w.heap.push o }) h2 h1 (fun j=>rfl) (hbr _ _ ext hnew) (fun j x q hj hl hq=>by
  obtain ⟨q',e1,e2⟩:=r.at_ j x hj
  rw [hq] at e1;cases e1
  have:=e2.lt hl
  exact ⟨VQ this,by omega⟩)
 exact ⟨_,by simp,hx,hw,⟨rfl,rfl,rfl,by simp,fun k hk=>VQ (by omega)⟩⟩
end
end Go.Proofs.YtihlneenajlhoaaGreatDoor.ae
/-
 A run of one goroutine over known values: loads, stores, new variables, struct and array values. Condition: the store and the world belong together (WR).
-/
set_option linter.unusedVariables false
set_option linter.unusedSimpArgs false
namespace Go.Proofs.YtihlneenajlhoaaGreatDoor.ae
open Go
def lst (v:Value):List Value:=v.cells.toList
def LM (P:Program) (t:TypeId) (v:Value) (h:H):Option Value:=match v with
 | .pointer (some ⟨i,o,none⟩)=>match isAgg P t with
  | some true=>(size P t).bind fun n=>(rd h i o n).map fun l=>.agg l.toArray
  | some false=>(rd h i o 1).bind fun l=>l.head?
  | none=>none
 | _=>none
def O1 (P:Program) (t:TypeId) (a v:Value) (h:H):Option H:=match a with
 | .pointer (some ⟨i,o,none⟩)=>bif (size P t==some (lst v).length) then wr h i o (lst v) else none
 | _=>none
abbrev R:=Option (Value×H×Nat)
def IC (e:TypeId) (c:List Value) (f:Nat→Value) (h:H) (n:Nat):R:=(fresh h n (.cells c e false false)).map fun h=>(f n,h,n+1)
def ptrTo (i:Nat):Value:=.pointer (some ⟨i,0,none⟩)
def Jp (P:Program) (t:TypeId) (cs:List Value) (off:Nat):Option Value:=match isAgg P t with
 | some true=>(size P t).bind fun n=>bif Nat.ble (off+n) cs.length then (takeN off n cs).map fun l=>.agg l.toArray else none
 | some false=>(takeN off 1 cs).bind (·.head?)
 | none=>none
def Jq (place:Nat→Option (Nat×Nat)) (cells:List Value):List (Nat×Value)→Option (List Value)
 | []=>some cells
 | (i,v) :: rest=>match place i with
  | none=>none
  | some (off,sz)=>bif (lst v).length==sz&&Nat.ble (off+sz) cells.length then (BV off (lst v) cells).bind fun c=>Jq place c rest else none
def rep:Nat→List Value→List Value
 | 0,_=>[]
 | n+1,z=>z++rep n z
def atoms (z:Value):Bool:=(lst z).all atom
def CE (P:Program) (base:Nat) (θ:Th) (w:World) (m:Sem Value) (v:Value) (h':H):Prop :=
 ∃v' θ' w',m.run P w=.ok v' w'∧Ext θ θ'∧VR θ' v v'∧WR P base θ' h' w'∧Keep base w w'
def CG (P:Program) (base:Nat) (θ:Th) (w:World) (m:Sem Unit) (h':H):Prop :=
 ∃θ' w',m.run P w=.ok () w'∧Ext θ θ'∧WR P base θ' h' w'∧Keep base w w'
section
variable {P:Program} {base:Nat} {θ:Th} {w:World} {h h':H} {t:TypeId} {n:Nat}
theorem O3 {b:Bool} (hb:isAgg P t=some b):(Go.isAgg t).run P w=.ok b w:=by
 unfold isAgg at hb
 cases hd:P.underlying t with
 | none=>simp [hd] at hb
 | some d=>cases d<;>simp [hd] at hb<;>subst hb<;>simp [Go.isAgg,run_underlying hd]
theorem EF (hs:size P t=some n):(sizeOf t).run P w=.ok n w:=by
 unfold size at hs
 cases hi:P.info? t with
 | none=>simp [hi] at hs
 | some i=>simp [hi] at hs;subst hs;simp [sizeOf,typeInfo,hi]
theorem Jr {z:Value} (hz:zero P t=some z):(zeroValue t).run P w=.ok z w:=by
 unfold zero at hz
 cases hi:P.info? t with
 | none=>simp [hi] at hz
 | some i=>simp [hi] at hz;simp [zeroValue,typeInfo,hi,hz]
theorem NY {e:TypeId} (h:elemOf P t=some e):P.underlying t=some (.slice e):=by
 unfold elemOf at h
 split at h
 ·simp_all
 ·cases h
theorem Q8 {v v':Value} (hv:VR θ v v'):VL θ (lst v) (lst v'):=by
 cases hv<;>try (simp only [lst,Value.cells];first | assumption | skip)
 case same h t=>cases v<;>first | (simp [atom] at h;done) | exact .same h .nil
 case ptr h t=>exact .ptr h .nil
 case slice h hc t=>exact .slice h hc .nil
 case Cf h hc t=>exact .Cf h hc .nil
 case emp t=>exact .emp .nil
 case map h t=>exact .map h .nil
 case func a b t=>exact .func a b .nil
 case tup a t=>exact .tup a .nil
 case iface a t=>exact .iface a .nil
theorem Ij {l:List Value} (h:l.all atom=true):VL θ l l:=by
 induction l with
 | nil=>exact .nil
 | cons v l ih=>simp only [List.all_cons,Bool.and_eq_true] at h;exact .same h.1 (ih h.2)
theorem CE.same {m:Sem Value} {v v':Value} (r:WR P base θ h w) (hm:m.run P w=.ok v' w) (hv:VR θ v v'):CE P base θ w m v h :=
 ⟨v',θ,w,hm,Ext.refl θ,hv,r,Keep.refl base w⟩
theorem VS {v v' x:Value} (r:WR P base θ h w) (hl:LM P t v h=some x) (hv:VR θ v v'):∃x',(Instr.loadAt t v').run P w=.ok x' w∧VR θ x x':=by
 unfold LM at hl
 split at hl
 ·rename_i i o
  cases hv with
  | same hh _=>simp [atom] at hh
  | ptr hp _ =>
   rename_i p
   split at hl
   ·rename_i ha
    rw [Option.bind_eq_some_iff] at hl
    obtain ⟨n,hn,hl⟩:=hl
    rw [Option.map_eq_some_iff] at hl
    obtain ⟨l,hl,rfl⟩:=hl
    obtain ⟨q,c',e,fz,l',h1,h2,h3,h4⟩:=Jn r hl
    rw [hp] at h1;cases h1
    refine ⟨.agg l'.toArray,?_,.agg (by simpa using h4) .nil⟩
    simp [Instr.loadAt,Instr.sureAddr,loadVar,O3 ha,EF hn,Jo h2 h3]
   ·rename_i ha
    rw [Option.bind_eq_some_iff] at hl
    obtain ⟨l,hl,hx⟩:=hl
    obtain ⟨q,c',e,fz,l',h1,h2,h3,h4⟩:=Jn r hl
    rw [hp] at h1;cases h1
    have hlen:=(LJ _ _ _ _ h3).2.1
    cases l with
    | nil=>simp at hx
    | cons y l =>
     obtain ⟨y',l'',rfl,g1,g2⟩:=h4.DY
     simp at hx;subst hx
     have:l'' = []:=by cases l'' with | nil=>rfl | cons=>simp at hlen
     subst this
     exact ⟨y',by simp [Instr.loadAt,Instr.sureAddr,loadVar,O3 ha,Zr (P:=P) h2 h3,-run_load],g1⟩
   ·cases hl
 ·cases hl
theorem Zt {a a' v v':Value} (r:WR P base θ h w) (hb:base≤w.heap.size) (hs:O1 P t a v h=some h') (ha:VR θ a a') (hv:VR θ v v'):CG P base θ w (Instr.storeAt t a' v') h':=by
 unfold O1 at hs
 split at hs
 ·rename_i i o
  cases ha with
  | same hh _=>simp [atom] at hh
  | ptr hp _ =>
   rename_i p
   cases hsz:(size P t==some (lst v).length)
   ·rw [hsz] at hs;cases hs
   rw [hsz,cond_true] at hs
   have hsz':size P t=some (lst v).length:=by simpa using hsz
   have hl:=Q8 hv
   obtain ⟨q,w',h1,h2,h3,h4⟩:=NT (P:=P) r hb hs hl
   rw [hp] at h1;cases h1
   refine ⟨θ,w',?_,Ext.refl θ,h3,h4⟩
   have hc:v'.cells.size=(lst v).length:=by have:=hl.len;simp only [lst,Array.length_toList] at this ⊢; omega
   simp only [Instr.storeAt,Instr.sureAddr,storeVar,Sem.run_bind,Sem.run_pure,Result.andThen_ok,EF hsz',hc,ne_eq,not_true,if_false,Sem.run_ite,ite_false]
   exact h2
 ·cases hs
theorem O5 {e:TypeId} {c:List Value} {c':Array Value} {f f':Nat→Value} {v:Value} {n':Nat} (r:WR P base θ h w) (hb:base≤w.heap.size) (hn:IC e c f h n=some (v,h',n')) (hc:VL θ c c'.toList)
  (hf:∀θ' p,θ' n=some p→VR θ' (f n) (f' p.b)):CE P base θ w (do pure (f' (←newObj (.cells c' e)))) v h':=by
 unfold IC at hn
 rw [Option.map_eq_some_iff] at hn
 obtain ⟨h1,hf1,e1⟩:=hn
 cases e1
 obtain ⟨θ',g1,g2,g3,g4⟩:=NW (o:=.cells c' e) (p:=⟨w.heap.size,0,0⟩) r hb hf1 rfl (fun θ' w' hx hw=>.cells hw (hc.mono hx) fun _=>⟨hb,.inl rfl⟩)
 exact ⟨f' w.heap.size,θ',_,by simp [newObj,Sem.run],g2,hf _ _ g1,g3,g4⟩
theorem Zu {z v:Value} {n':Nat} (r:WR P base θ h w) (hb:base≤w.heap.size) (hz:zero P t=some z) (ha:(lst z).all atom=true) (hn:IC t (lst z) ptrTo h n=some (v,h',n')):CE P base θ w (Instr.alloc t true (.tuple #[])) v h':=by
 obtain ⟨v',θ',w',h1,h2⟩:=O5 (c':=z.cells) (f':=ptrTo) r hb hn (Ij ha) (fun θ' p hp=>.ptr hp .nil)
 refine ⟨v',θ',w',?_,h2⟩
 rw [←h1]
 simp [Instr.alloc,Jr hz,newVar,newRow,ptrTo]
theorem Zv {x x' v:Value} {n':Nat} (r:WR P base θ h w) (hb:base≤w.heap.size) (hn:IC t (lst x) ptrTo h n=some (v,h',n')) (hx:VR θ x x'):CE P base θ w (Instr.box t x') v h':=by
 obtain ⟨v',θ',w',h1,h2⟩:=O5 (c':=x'.cells) (f':=ptrTo) r hb hn (Q8 hx) (fun θ' p hp=>.ptr hp .nil)
 refine ⟨v',θ',w',?_,h2⟩
 rw [←h1]
 simp [Instr.box,newVar,newRow,ptrTo]
theorem NZ {cs:List Value} {cs':Array Value} {o:Nat} {x:Value} (hp:Jp P t cs o=some x) (hv:VL θ cs cs'.toList):∃x',(part t cs' o).run P w=.ok x' w∧VR θ x x':=by
 unfold Jp at hp
 split at hp
 ·rename_i ha
  rw [Option.bind_eq_some_iff] at hp
  obtain ⟨k,hk,hp⟩:=hp
  cases hb:Nat.ble (o+k) cs.length
  ·rw [hb] at hp;cases hp
  rw [hb,cond_true,Option.map_eq_some_iff] at hp
  obtain ⟨l,hl,rfl⟩:=hp
  obtain ⟨l',e1,e2⟩:=LK hl hv
  refine ⟨.agg l'.toArray,?_,.agg (by simpa using e2) .nil⟩
  have:=(LJ _ _ _ _ e1).1
  have e3:cs'.extract o (o+k)=l'.toArray:=by
   apply Array.toList_inj.1
   rw [this]
   simp [Array.toList_extract,List.extract_eq_take_drop]
  simp [part,O3 ha,EF hk,e3]
 ·rename_i ha
  rw [Option.bind_eq_some_iff] at hp
  obtain ⟨l,hl,hx⟩:=hp
  obtain ⟨l',e1,e2⟩:=LK hl hv
  cases l with
  | nil=>simp at hx
  | cons y l =>
   obtain ⟨y',l'',rfl,g1,g2⟩:=e2.DY
   simp at hx;subst hx
   have e3:=NR e1 0 (by omega)
   simp only [Nat.add_zero,List.getElem?_cons_zero] at e3
   refine ⟨y',?_,g1⟩
   have:cs'[o]?=some y':=by simpa using e3
   simp [part,O3 ha,this]
 ·cases hp
theorem Zw {off:Nat} {vs:List Value} {cells:Array Value} {x:List Value} (hs:BV off vs cells.toList=some x):(vs.toArray.zipIdx.foldl (fun cs (c,j)=>cs.setIfInBounds (off+j) c) cells)=x.toArray:=by
 have gen:∀(vs:List Value) (k:Nat) (cells:Array Value) (x:List Value),BV (off+k) vs cells.toList=some x→(vs.zipIdx k).foldl (fun cs (c,j)=>cs.setIfInBounds (off+j) c) cells=x.toArray:=by
  intro vs
  induction vs with
  | nil=>intro k cells x h;rw [NS] at h;cases h;simp
  | cons v vs ih =>
   intro k cells x h
   obtain ⟨_,h2⟩:=Q4 h
   rw [List.zipIdx_cons,List.foldl_cons]
   refine ih (k+1) _ x ?_
   rw [Array.toList_setIfInBounds,←Nat.add_assoc];exact h2
 have:=gen vs 0 cells x (by simpa using hs)
 rw [←this]
 simp [←Array.foldl_toList]
theorem Q9 {place:Nat→Option (Nat×Nat)} {parts parts':List (Nat×Value)} {cells x:List Value} {cells':Array Value} (hf:Jq place cells parts=some x) (hc:VL θ cells cells'.toList) (hi:parts.map (·.1)=parts'.map (·.1)) (hv:VL θ (parts.map (·.2)) (parts'.map (·.2))) :
  ∃x',Instr.fill place cells' parts'=some x'∧VL θ x x'.toList:=by
 induction parts generalizing parts' cells cells' with
 | nil =>
  cases parts' with
  | nil=>simp [Jq] at hf;subst hf;exact ⟨cells',by simp [Instr.fill],hc⟩
  | cons=>simp at hi
 | cons a parts ih =>
  obtain ⟨i,v⟩:=a
  cases parts' with
  | nil=>simp at hi
  | cons a' parts' =>
   obtain ⟨i',v'⟩:=a'
   simp only [List.map_cons,List.cons.injEq] at hi hv
   obtain ⟨rfl,hi⟩:=hi
   obtain ⟨hv1,hv2⟩:=hv.Jm
   simp only [Jq] at hf
   split at hf
   ·cases hf
   ·rename_i off sz hpl
    cases hb:((lst v).length==sz&&Nat.ble (off+sz) cells.length)
    ·rw [hb] at hf;cases hf
    rw [hb,cond_true,Option.bind_eq_some_iff] at hf
    obtain ⟨c,hs,hf⟩:=hf
    simp only [Bool.and_eq_true,beq_iff_eq] at hb
    obtain ⟨hb1,hb2⟩:=hb
    have hb2:=Nat.le_of_ble_eq_true hb2
    have hl:=Q8 hv1
    obtain ⟨c',h1,h2⟩:=Q3 hs hc hl
    have hsz:v'.cells.size=sz:=by have:=hl.len;simp only [lst,Array.length_toList] at this hb1;omega
    have hcs:cells'.size=cells.length:=by have:=hc.len;simp at this;omega
    obtain ⟨x',g1,g2⟩:=ih (cells':=c'.toArray) hf (by simpa using h2) hi hv2
    refine ⟨x',?_,g2⟩
    have hfold:=Zw (cells:=cells') h1
    simp only [lst,Array.toArray_toList] at hfold
    simp only [Instr.fill,hpl,hsz,ne_eq,not_true,hcs,decide_false,Bool.false_or,decide_eq_true_eq,show ¬(off+sz>cells.length) by omega,if_false,Bool.false_eq_true]
    rw [hfold]
    exact g1
end
end Go.Proofs.YtihlneenajlhoaaGreatDoor.ae
/-
 A run of one goroutine over known values: struct literals, new slices, places in structs and arrays, reslicing. Condition: the store and the world belong together (WR).
-/
set_option linter.unusedVariables false
set_option linter.unusedSimpArgs false
namespace Go.Proofs.YtihlneenajlhoaaGreatDoor.ae
open Go
def O6 (P:Program) (t:TypeId) (parts:List (Nat×Value)):Option Value:=match P.underlying t,zero P t with
 | some (.struct fs),some z=>bif atoms z then (fs.toList.mapM fun f=>(size P f.type).map fun s=>(f.offset,s)).bind fun pl=>(Jq (pl[·]?) (lst z) parts).map fun l=>.agg l.toArray else none
 | some (.array _ e),some z=>bif atoms z then (size P e).bind fun s=>(Jq (fun i=>some (i*s,s)) (lst z) parts).map fun l=>.agg l.toArray else none
 | _,_=>none
def sliceTo (k c:Nat) (i:Nat):Value:=.slice (some ⟨i,0,none⟩) k c
def O7 (P:Program) (t:TypeId) (len:Nat) (parts:List (Nat×Value)) (h:H) (n:Nat):R :=
 (elemOf P t).bind fun e=>(size P e).bind fun s=>(zero P e).bind fun z=>bif Nat.ble (len*s) 10000&&atoms z&&((lst z).length==s)&&Nat.ble len 10000 then
  (Jq (fun i=>some (i*s,s)) (rep len (lst z)) parts).bind fun c=>IC e c (sliceTo len len) h n else none
def asNat:Value→Option Nat
 | .int _ (.ofNat n)=>some n
 | _=>none
def RD (P:Program) (t:TypeId) (l c:Value) (h:H) (n:Nat):R :=
 (elemOf P t).bind fun e=>(P.info? e).bind fun i=>(i.zero).bind fun z=>(asNat l).bind fun l=>(asNat c).bind fun c =>
  bif Nat.ble l c&&Nat.ble c 1000000&&Nat.ble i.bytes 1000000&&atoms z&&((lst z).length==i.size) then IC e (rep c (lst z)) (sliceTo l c) h n else none
def O8 (P:Program) (s:TypeId) (x:Value) (f:Nat):Option Value:=match P.underlying s,x with
 | some (.struct fs),.pointer (some ⟨i,o,none⟩)=>(fs[f]?).bind fun fd=>match size P fd.type with | some (_+1)=>some (.pointer (some ⟨i,o+fd.offset,none⟩)) | _=>none
 | _,_=>none
def O9 (P:Program) (t:TypeId) (x:Value) (f:Nat):Option Value:=match P.underlying t,x with
 | some (.struct fs),.agg cs=>(fs[f]?).bind fun fd=>Jp P fd.type cs.toList fd.offset
 | _,_=>none
def PD (P:Program) (t:TypeId) (x ix:Value):Option Value:=(asNat ix).bind fun i=>match P.underlying t,x with
 | some (.array len e),.pointer (some ⟨b,o,none⟩)=>(size P e).bind fun s=>bif Nat.blt i len then some (.pointer (some ⟨b,o+i*s,none⟩)) else none
 | some (.slice e),.slice (some ⟨b,o,none⟩) len _=>(size P e).bind fun s=>bif Nat.blt i len then some (.pointer (some ⟨b,o+i*s,none⟩)) else none
 | _,_=>none
def RF (P:Program) (t:TypeId) (x ix:Value):Option Value:=(asNat ix).bind fun i=>match P.underlying t,x with
 | some (.array len e),.agg cs=>(size P e).bind fun s=>bif Nat.blt i len then Jp P e cs.toList (i*s) else none
 | _,_=>none
def RG:Value→Option Value
 | .pointer (some a)=>some (.pointer (some a))
 | _=>none
def PE (v:Value) (i:Nat):Option Value:=match v with
 | .tuple vs=>vs.toList[i]?
 | _=>none
section
variable {P:Program} {base:Nat} {θ:Th} {w:World} {h h':H} {t:TypeId} {n:Nat}
theorem Zx {α β:Type} {g:α→Option β} {g':α→Sem β} (hg:∀f x,g f=some x→∀w,(g' f).run P w=.ok x w):∀(fs:List α) (l:List β),fs.mapM g=some l→∀w,(fs.mapM g').run P w=.ok l w:=by
 intro fs
 induction fs with
 | nil=>intro l h w;simp at h;subst h;simp
 | cons f fs ih =>
  intro l h w
  rw [List.mapM_cons] at h
  simp only [Option.bind_eq_bind,Option.bind_eq_some_iff] at h
  obtain ⟨x,hx,ys,hys,e⟩:=h
  cases e
  rw [List.mapM_cons]
  simp [hg f x hx,ih ys hys]
theorem Zy {parts parts':Array (Nat×Value)} {x:Value} (hb:O6 P t parts.toList=some x) (hi:parts.toList.map (·.1)=parts'.toList.map (·.1)) (hv:VL θ (parts.toList.map (·.2)) (parts'.toList.map (·.2))) :
  ∃x',(Instr.build t parts').run P w=.ok x' w∧VR θ x x':=by
 unfold O6 at hb
 split at hb
 ·rename_i fs z hu hz
  cases ha:atoms z
  ·rw [ha] at hb;cases hb
  rw [ha,cond_true,Option.bind_eq_some_iff] at hb
  obtain ⟨pl,hpl,hb⟩:=hb
  rw [Option.map_eq_some_iff] at hb
  obtain ⟨l,hl,rfl⟩:=hb
  obtain ⟨c,g1,g2⟩:=Q9 (cells':=z.cells) hl (Ij ha) hi hv
  refine ⟨.agg c,?_,.agg (by simpa using g2) .nil⟩
  have hm:=Zx (P:=P) (g':=fun f=>do pure (f.offset,←sizeOf f.type)) (fun f x hx w=>by
   rw [Option.map_eq_some_iff] at hx
   obtain ⟨s,hs,rfl⟩:=hx
   simp [EF hs]) fs.toList pl hpl
  have hm':∀w,(fs.mapM fun f=>do pure (f.offset,←sizeOf f.type):Sem _).run P w=.ok pl.toArray w:=fun w=>by
   rw [Array.mapM_eq_mapM_toList]
   simp only [Sem.run_map,hm w,Result.andThen_ok]
  simp only [Instr.build,Sem.run_bind,Jr hz,Result.andThen_ok,run_underlying hu,hm']
  simp only [List.getElem?_toArray,g1]
  rfl
 ·rename_i k e z hu hz
  cases ha:atoms z
  ·rw [ha] at hb;cases hb
  rw [ha,cond_true,Option.bind_eq_some_iff] at hb
  obtain ⟨s,hs,hb⟩:=hb
  rw [Option.map_eq_some_iff] at hb
  obtain ⟨l,hl,rfl⟩:=hb
  obtain ⟨c,g1,g2⟩:=Q9 (cells':=z.cells) hl (Ij ha) hi hv
  refine ⟨.agg c,?_,.agg (by simpa using g2) .nil⟩
  simp only [Instr.build,Sem.run_bind,Jr hz,Result.andThen_ok,run_underlying hu,EF hs,g1]
  rfl
 ·cases hb
theorem PG (k:Nat) (z:List Value):(rep k z).length=k*z.length:=by
 induction k with
 | zero=>simp [rep]
 | succ k ih=>simp [rep,ih,Nat.add_mul,Nat.add_comm]
theorem Zz (k:Nat) (z:List Value) (i:Nat) (hi:i<k*z.length):(rep k z)[i]?=z[i%z.length]?:=by
 induction k generalizing i with
 | zero=>simp at hi
 | succ k ih =>
  rw [rep]
  rcases Nat.lt_or_ge i z.length with h | h
  ·rw [List.getElem?_append_left h,Nat.mod_eq_of_lt h]
  ·rw [List.getElem?_append_right h,ih _ (by rw [Nat.add_mul] at hi;omega)]
   rw [Nat.mod_eq_sub_mod h]
theorem RH (k s:Nat) (z:Array Value) (hs:z.size=s):(Array.range (k*s)).map (fun i=>z[i%z.size]!)=(rep k z.toList).toArray:=by
 subst hs
 apply Array.ext
 ·simp [PG]
 ·intro i h1 h2
  have hi:i<k*z.size:=by simpa using h1
  have hz:0<z.size:=by
   rcases Nat.eq_zero_or_pos z.size with e | e
   ·rw [e] at hi;simp at hi
   ·exact e
  have hm:i%z.size<z.size:=Nat.mod_lt _ hz
  have:=Zz k z.toList i (by simpa using hi)
  rw [List.getElem?_eq_getElem (by simpa [PG] using hi)] at this
  simp only [Array.getElem_map,Array.getElem_range,List.getElem_toArray]
  rw [getElem!_pos z (i%z.size) hm]
  simp only [Array.length_toList,Array.getElem?_toList,Array.getElem?_eq_getElem hm,Option.some.injEq] at this
  exact this.symm
theorem RI (k:Nat) {z:List Value} (h:z.all atom=true):(rep k z).all atom=true:=by
 induction k with
 | zero=>rfl
 | succ k ih=>simp [rep,List.all_append,h,ih]
theorem Z4 {parts parts':Array (Nat×Value)} {len:Nat} {v:Value} {n':Nat} (r:WR P base θ h w) (hb:base≤w.heap.size) (hs:O7 P t len parts.toList h n=some (v,h',n')) (hi:parts.toList.map (·.1)=parts'.toList.map (·.1)) (hv:VL θ (parts.toList.map (·.2)) (parts'.toList.map (·.2))) :
  CE P base θ w (Instr.buildSlice t len parts') v h':=by
 unfold O7 at hs
 simp only [Option.bind_eq_some_iff] at hs
 obtain ⟨e,he,s,hsz,z,hz,hs⟩:=hs
 cases hc:(Nat.ble (len*s) 10000&&atoms z&&((lst z).length==s)&&Nat.ble len 10000)
 ·rw [hc] at hs;cases hs
 rw [hc,cond_true,Option.bind_eq_some_iff] at hs
 obtain ⟨c,hf,hn⟩:=hs
 simp only [Bool.and_eq_true,beq_iff_eq] at hc
 obtain ⟨⟨⟨c1,c2⟩,c3⟩,c4⟩:=hc
 have c1:=Nat.le_of_ble_eq_true c1
 have c4:=Nat.le_of_ble_eq_true c4
 have c3':z.cells.size=s:=by simpa [lst] using c3
 obtain ⟨x',g1,g2⟩:=Q9 (cells':=(rep len (lst z)).toArray) hf (by simpa using Ij (RI len c2)) hi hv
 obtain ⟨v',θ',w',h1,h2⟩:=O5 (c':=x') (f':=sliceTo len len) r hb hn g2 (fun θ' p hp=>.slice hp (by unfold big;omega) .nil)
 refine ⟨v',θ',w',?_,h2⟩
 rw [←h1]
 have hu:=NY he
 have e1:=RH len s z.cells c3'
 have hlt:¬(len*s>2 ^ 24):=by omega
 rcases Nat.eq_zero_or_pos (len*s) with e0 | e0
 ·have e2:rep len (lst z) = []:=by
   apply List.eq_nil_of_length_eq_zero;rw [PG,c3,e0]
  rw [e2] at g1
  simp [Instr.buildSlice,run_underlying hu,EF hsz,e0,newRow,sliceTo]
  have e3:∀f:Nat→Value,Array.map f (Array.range 0) = [].toArray:=fun f=>by simp
  rw [e3,g1]
  simp [newObj,Sem.run]
 ·have hne:¬(len*s=0):=by omega
  simp only [lst] at g1
  rw [←e1] at g1
  simp [Instr.buildSlice,run_underlying hu,EF hsz,hlt,hne,Jr hz,newRow,sliceTo]
  rw [g1]
  simp [newObj,Sem.run]
theorem Z5 {x x' v:Value} {f:Nat} (hf:O8 P t x f=some v) (hx:VR θ x x'):∃v',(Instr.fieldAt t x' f).run P w=.ok v' w∧VR θ v v':=by
 unfold O8 at hf
 split at hf
 ·rename_i fs i o hu
  cases hx with
  | same hh _=>simp [atom] at hh
  | ptr hp _ =>
   rw [Option.bind_eq_some_iff] at hf
   obtain ⟨fd,hfd,hf⟩:=hf
   split at hf
   ·rename_i k hs
    cases hf
    refine ⟨_,?_,.ptr hp .nil⟩
    simp [Instr.fieldAt,run_underlying hu,hfd,Instr.sureAddr,fieldPlace,EF hs,add_eq]
   ·cases hf
 ·cases hf
theorem Z7 {x x' v:Value} {f:Nat} (hf:O9 P t x f=some v) (hx:VR θ x x'):∃v',(Instr.field t x' f).run P w=.ok v' w∧VR θ v v':=by
 unfold O9 at hf
 split at hf
 ·rename_i fs cs hu
  cases hx with
  | same hh _=>simp [atom] at hh
  | agg ha hnil =>
   rename_i cs'
   rw [Option.bind_eq_some_iff] at hf
   obtain ⟨fd,hfd,hf⟩:=hf
   obtain ⟨v',g1,g2⟩:=NZ (P:=P) (w:=w) (cs':=cs') hf ha
   exact ⟨v',by simp [Instr.field,run_underlying hu,hfd,asAgg,g1],g2⟩
 ·cases hf
theorem Gp {v v':Value} {i:Nat} (h:asNat v=some i) (hv:VR θ v v'):∃k,v'=.int k i:=by
 unfold asNat at h
 split at h
 ·cases h
  cases hv with
  | same _ _=>exact ⟨_,rfl⟩
 ·cases h
theorem Z8 {x x' ix ix' v:Value} (hf:PD P t x ix=some v) (hx:VR θ x x') (hi:VR θ ix ix'):∃v',(Instr.indexAt t x' ix').run P w=.ok v' w∧VR θ v v':=by
 unfold PD at hf
 rw [Option.bind_eq_some_iff] at hf
 obtain ⟨i,h1,hf⟩:=hf
 obtain ⟨k,rfl⟩:=Gp h1 hi
 split at hf
 ·rename_i len e b o hu
  rw [Option.bind_eq_some_iff] at hf
  obtain ⟨s,hs,hf⟩:=hf
  cases hlt:Nat.blt i len
  ·rw [hlt] at hf;cases hf
  rw [hlt] at hf;cases hf
  have hlt:i<len:=Nat.le_of_ble_eq_true hlt
  cases hx with
  | same hh _=>simp [atom] at hh
  | ptr hp _ =>
   refine ⟨_,?_,.ptr hp .nil⟩
   simp [Instr.indexAt,asIntOf,run_underlying hu,Instr.sureAddr,hlt,EF hs,add_eq]
 ·rename_i e b o len c hu
  rw [Option.bind_eq_some_iff] at hf
  obtain ⟨s,hs,hf⟩:=hf
  cases hlt:Nat.blt i len
  ·rw [hlt] at hf;cases hf
  rw [hlt] at hf;cases hf
  have hlt:i<len:=Nat.le_of_ble_eq_true hlt
  cases hx with
  | same hh _=>simp [atom] at hh
  | slice hp _ _ =>
   refine ⟨_,?_,.ptr hp .nil⟩
   simp [Instr.indexAt,asIntOf,run_underlying hu,hlt,EF hs,add_eq]
  | Cf hp _ _ =>
   refine ⟨_,?_,.ptr hp .nil⟩
   simp [Instr.indexAt,asIntOf,run_underlying hu,hlt,EF hs,add_eq]
 ·cases hf
theorem Z9 {x x' ix ix' v:Value} (hf:RF P t x ix=some v) (hx:VR θ x x') (hi:VR θ ix ix'):∃v',(Instr.index t x' ix').run P w=.ok v' w∧VR θ v v':=by
 unfold RF at hf
 rw [Option.bind_eq_some_iff] at hf
 obtain ⟨i,h1,hf⟩:=hf
 obtain ⟨k,rfl⟩:=Gp h1 hi
 split at hf
 ·rename_i len e cs hu
  rw [Option.bind_eq_some_iff] at hf
  obtain ⟨s,hs,hf⟩:=hf
  cases hlt:Nat.blt i len
  ·rw [hlt] at hf;cases hf
  rw [hlt,cond_true] at hf
  have hlt:i<len:=Nat.le_of_ble_eq_true hlt
  cases hx with
  | same hh _=>simp [atom] at hh
  | agg ha hnil =>
   rename_i cs'
   obtain ⟨v',g1,g2⟩:=NZ (P:=P) (w:=w) (cs':=cs') hf ha
   exact ⟨v',by simp [Instr.index,asIntOf,run_underlying hu,hlt,EF hs,g1],g2⟩
 ·cases hf
theorem aA {x x' v:Value} {i:Nat} (hf:PE x i=some v) (hx:VR θ x x'):∃v',(Instr.extract x' i).run P w=.ok v' w∧VR θ v v':=by
 unfold PE at hf
 split at hf
 ·cases hx with
  | same hh _=>simp [atom] at hh
  | tup ha _ =>
   obtain ⟨v',g1,g2⟩:=ha.get hf
   rw [Array.getElem?_toList] at g1
   exact ⟨v',by simp [Instr.extract,g1],g2⟩
 ·cases hf
theorem aB {l l' c c' v:Value} {n':Nat} (r:WR P base θ h w) (hb:base≤w.heap.size) (hm:RD P t l c h n=some (v,h',n')) (hl:VR θ l l') (hc:VR θ c c'):CE P base θ w (Instr.makeSlice t l' c') v h':=by
 unfold RD at hm
 simp only [Option.bind_eq_some_iff] at hm
 obtain ⟨e,he,i,hi,z,hz,l0,h1,c0,h2,hm⟩:=hm
 cases hcc:(Nat.ble l0 c0&&Nat.ble c0 1000000&&Nat.ble i.bytes 1000000&&atoms z&&((lst z).length==i.size))
 ·rw [hcc] at hm;cases hm
 rw [hcc,cond_true] at hm
 simp only [Bool.and_eq_true,beq_iff_eq] at hcc
 obtain ⟨⟨⟨⟨a1,a2⟩,a3⟩,a4⟩,a5⟩:=hcc
 have a1:=Nat.le_of_ble_eq_true a1
 have a2:=Nat.le_of_ble_eq_true a2
 have a3:=Nat.le_of_ble_eq_true a3
 have a5':z.cells.size=i.size:=by simpa [lst] using a5
 obtain ⟨k1,rfl⟩:=Gp h1 hl
 obtain ⟨k2,rfl⟩:=Gp h2 hc
 obtain ⟨v',θ',w',g1,g2⟩:=O5 (c':=(rep c0 (lst z)).toArray) (f':=sliceTo l0 c0) r hb hm (by simpa using Ij (RI c0 a4)) (fun θ' p hp=>.slice hp (by unfold big;omega) .nil)
 refine ⟨v',θ',w',?_,g2⟩
 rw [←g1]
 have hu:=NY he
 have w1:IntKind.i64.wrap (l0:Int)=l0:=by rw [IntKind.wrap_i64];omega
 have w2:IntKind.i64.wrap (c0:Int)=c0:=by rw [IntKind.wrap_i64];omega
 have b1:(i.bytes:Int)*(c0:Int)≤1000000000000:=by
  have h0:i.bytes*c0≤1000000000000:=Nat.mul_le_mul a3 a2
  rw [←Int.natCast_mul]
  omega
 have b2:¬((i.bytes:Int)*(c0:Int)>2 ^ 48):=by omega
 have b3:¬(c0*i.bytes>roomBytes):=by
  have:c0*i.bytes≤1000000000000:=Nat.mul_le_mul a2 a3
  unfold roomBytes;omega
 have e1:=RH c0 i.size z.cells a5'
 have hcond:¬((((c0:Int)<0∨281474976710656<(i.bytes:Int)*(c0:Int))∨(l0:Int)<0)∨c0<l0):=by omega
 rcases Nat.eq_zero_or_pos (c0*i.size) with e0 | e0
 ·have e2:rep c0 (lst z) = []:=by
   apply List.eq_nil_of_length_eq_zero;rw [PG,a5,e0]
  rw [e2]
  simp [Instr.makeSlice,run_underlying hu,asInt,asIntOf,typeInfo,hi,w1,w2,hcond,askRoom,b3,sizeOf,e0,newRow,sliceTo]
  have e3:∀f:Nat→Value,Array.map f (Array.range 0)=#[]:=fun f=>by simp
  rw [e3]
 ·have hne:¬(c0*i.size=0):=by omega
  simp only [lst]
  rw [←e1]
  simp [Instr.makeSlice,run_underlying hu,asInt,asIntOf,typeInfo,hi,hz,w1,w2,hcond,askRoom,b3,sizeOf,hne,zeroValue,newRow,sliceTo]
end
end Go.Proofs.YtihlneenajlhoaaGreatDoor.ae
