/-
 Closed facts of a great program, in parts: what its functions name, part by part of the row of functions; the closure of calls over that table. No condition beside the tables'.
-/
import Derived.Test.YtihlneenajlhoaaGreatDoorAeA
import Derived.JoinedOf
import Derived.Test.YtihlneenajlhoaaGreatDoorProg
import Derived.KernelRfl
set_option linter.unusedVariables false
namespace Go.Proofs.YtihlneenajlhoaaGreatDoor.big
open Go Go.Proofs.YtihlneenajlhoaaGreatDoor.ae
def rl {α:Type}:Nat→α→List α→List α
 | 0,_,l=>l
 | n+1,a,l=>a :: rl n a l
def aq {α:Type}:List α→List α→List α
 | [],m=>m
 | a :: l,m=>a :: aq l m
theorem Eo {α β:Type} (l:List α) (f:α→β) (a n:Nat) {c rest:List β} (h:((l.drop a).take n).map f=c) (hr:(l.drop (a+n)).map f=rest):(l.drop a).map f=c++rest:=by
 rw [←List.take_append_drop n (l.drop a),List.map_append,h,List.drop_drop,hr]
theorem JS {α:Type} (l:List α) (p:α→Bool) (a n:Nat) (h:((l.drop a).take n).all p=true) (hr:(l.drop (a+n)).all p=true):(l.drop a).all p=true:=by
 rw [←List.take_append_drop n (l.drop a),List.all_append,h,List.drop_drop,hr];rfl
def Fz {α:Type}:List α→Nat→T α→T α
 | [],_,t=>t
 | x :: l,i,t=>Fz l (i+1) (T.put x 24 t i)
theorem kZ {α:Type}:∀(l:List α) (i:Nat) (t:T α),i+l.length+1<2 ^ 24→(∀j,i≤j→t.get j=none)→∀j,(Fz l i t).get j=if j<i then t.get j else l[j-i]?:=by
 intro l
 induction l with
 | nil =>
  intro i t _ ht j
  unfold Fz
  by_cases h:j<i
  ·rw [if_pos h]
  ·rw [if_neg h,ht j (by omega)];simp
 | cons x l ih =>
  intro i t hl ht j
  unfold Fz
  simp only [List.length_cons] at hl
  rw [ih (i+1) _ (by omega) (fun k hk=>by rw [T.get_put _ _ _ _ _ (by omega),if_neg (by omega)];exact ht k (by omega))]
  by_cases h:j<i
  ·rw [if_pos (by omega),if_pos h,T.get_put _ _ _ _ _ (by omega),if_neg (by omega)]
  ·rw [if_neg h]
   by_cases e:j=i
   ·subst e
    rw [if_pos (by omega),T.get_put _ _ _ _ _ (by omega),if_pos rfl];simp
   ·rw [if_neg (by omega)]
    have:j-i=(j-(i+1))+1:=by omega
    rw [this];simp
theorem Tu {α:Type} (l:List α) (hl:l.length+1<2 ^ 24) (j:Nat):(Fz l 0 .nil).get j=l[j]?:=by
 rw [kZ l 0 .nil (by omega) (fun _ _=>rfl)]
 simp
section
variable {P:Program}
def Lr (L:List (List Nat)):Nat→List Nat→List Nat→List Nat
 | 0,_,seen=>seen.reverse
 | _+1,[],seen=>seen.reverse
 | n+1,f :: todo,seen=>if seen.contains f then Lr L n todo seen else Lr L n ((L[f]?).getD []++todo) (f :: seen)
theorem lC {L:List (List Nat)} (h:P.funcs.toList.map P.leadsTo=L):∀(n:Nat) (todo seen:List Nat),P.closureVia n todo seen=Lr L n todo seen:=by
 intro n
 induction n with
 | zero=>intro todo seen;cases todo<;>rfl
 | succ n ih =>
  intro todo seen
  cases todo with
  | nil=>rfl
  | cons f todo =>
   have e:(P.funcs[f]?).elim [] P.leadsTo=(L[f]?).getD []:=by
    rw [←h,List.getElem?_map,Array.getElem?_toList]
    cases P.funcs[f]?<;>rfl
   show (if seen.contains f then P.closureVia n todo seen else P.closureVia n ((P.funcs[f]?).elim [] P.leadsTo++todo) (f :: seen))=_
   rw [e,ih,ih]
   rfl
def Ls (L:T (List Nat)):Nat→List Nat→T Unit→List Nat→List Nat
 | 0,_,_,seen=>seen.reverse
 | _+1,[],_,seen=>seen.reverse
 | n+1,f :: todo,t,seen=>match t.get f with
  | some _=>Ls L n todo t seen
  | none=>Ls L n ((L.get f).getD []++todo) (T.put () 24 t f) (f :: seen)
theorem lD {L:List (List Nat)} (hL:L.length+1<2 ^ 24) (hs:∀l∈L,∀x∈l,x+1<2 ^ 24):∀(n:Nat) (todo seen:List Nat) (t:T Unit),(∀x∈todo,x+1<2 ^ 24)→(∀x,(t.get x).isSome=seen.contains x)→Lr L n todo seen=Ls (Fz L 0 .nil) n todo t seen:=by
 intro n
 induction n with
 | zero=>intro todo seen t _ _;cases todo<;>rfl
 | succ n ih =>
  intro todo seen t hb ht
  cases todo with
  | nil=>rfl
  | cons f todo =>
   have hf:=hb f List.mem_cons_self
   have hto:∀x∈todo,x+1<2 ^ 24:=fun x hx=>hb x (List.mem_cons_of_mem _ hx)
   show (if seen.contains f then Lr L n todo seen else Lr L n ((L[f]?).getD []++todo) (f :: seen))=(match t.get f with
    | some _=>Ls (Fz L 0 .nil) n todo t seen
    | none=>Ls (Fz L 0 .nil) n (((Fz L 0 .nil).get f).getD []++todo) (T.put () 24 t f) (f :: seen))
   have hh:=ht f
   cases hg:t.get f with
   | some u =>
    rw [hg] at hh
    rw [if_pos (show seen.contains f=true from hh.symm)]
    exact ih _ _ _ hto ht
   | none =>
    rw [hg] at hh
    rw [if_neg (by rw [←hh];exact Bool.false_ne_true),Tu L hL]
    refine ih _ _ _ (fun x hx => ?_) (fun x => ?_)
    ·rcases List.mem_append.1 hx with hx | hx
     ·cases hl:L[f]? with
      | none=>rw [hl] at hx;cases hx
      | some l =>
       rw [hl] at hx
       exact hs l (List.mem_of_getElem? hl) x hx
     ·exact hto x hx
    ·rw [T.get_put _ _ _ _ _ hf]
     by_cases e:x=f
     ·subst e;simp
     ·rw [if_neg e,ht x];simp [e]
theorem kS {L:List (List Nat)} (h:P.funcs.toList.map P.leadsTo=L) (hL:L.length+1<2 ^ 24) (hs:L.all (fun l=>l.all fun x=>Nat.blt (x+1) 16777216)=true) (f:Nat) (hf:f+1<2 ^ 24) :
  P.closure f=Ls (Fz L 0 .nil) (1+(L.map fun l=>l.length+1).sum) [f] .nil []:=by
 unfold Program.closure
 rw [lC h]
 have e:(P.funcs.toList.map fun g=>(P.leadsTo g).length+1)=L.map fun l=>l.length+1:=by rw [←h,List.map_map];rfl
 rw [e]
 refine lD hL (fun l hl x hx => ?_) _ _ _ _ (fun x hx=>by rw [List.mem_singleton.1 hx];exact hf) (fun x=>rfl)
 have:=List.all_eq_true.1 (List.all_eq_true.1 hs l hl) x hx
 have:=Nat.le_of_ble_eq_true this
 omega
theorem lF {β:Type} {k:Func→Option β} {I:List (Option β)} (h:P.funcs.toList.map k=I) (g:Nat):(P.funcs[g]?).bind k=(I[g]?).join:=by
 rw [←h,List.getElem?_map,Array.getElem?_toList]
 cases P.funcs[g]?<;>rfl
theorem XP {β:Type} {k:Func→Option β} {I:List (Option β)} (h:P.funcs.toList.map k=I) (hL:I.length+1<2 ^ 24) {C:List Nat} {f:Nat} (hc:P.closure f=C) :
  ((P.closure f).filterMap fun g=>(P.funcs[g]?).bind k)=C.filterMap fun g=>((Fz I 0 .nil).get g).join:=by
 rw [hc]
 congr 1
 funext g
 rw [lF h,Tu I hL]
theorem lG {k:Func→List Nat} {G:List (List Nat)} (h:P.funcs.toList.map k=G) (hL:G.length+1<2 ^ 24) {C:List Nat} {f:Nat} (hc:P.closure f=C) :
  ((P.closure f).flatMap fun g=>(P.funcs[g]?).elim [] k)=C.flatMap fun g=>((Fz G 0 .nil).get g).getD []:=by
 rw [hc]
 congr 1
 funext g
 rw [Tu G hL,←h,List.getElem?_map,Array.getElem?_toList]
 cases P.funcs[g]?<;>rfl
def kIn (fn:Func):Option String:=if fn.ours||fn.body.isNone||fn.name == "runtime.NumGoroutine" then some fn.name else none
def kGl (fn:Func):List Nat:=fn.body.elim [] Code.globalsNamed
def kEn (fn:Func):Option String:=if fn.body.isNone then entryReads.lookup fn.name else none
theorem inPlace_eq {I:List (Option String)} (h:P.funcs.toList.map kIn=I) (hL:I.length+1<2 ^ 24) {C:List Nat} {f:Nat} (hc:P.closure f=C):P.inPlace f=C.filterMap fun g=>((Fz I 0 .nil).get g).join :=
 XP h hL hc
theorem kY {G:List (List Nat)} {E:List (Option String)} (h:P.funcs.toList.map kGl=G) (hG:G.length+1<2 ^ 24) (h2:P.funcs.toList.map kEn=E) (hE:E.length+1<2 ^ 24) {C:List Nat} {f:Nat} (hc:P.closure f=C) :
  P.varsNamed f=((((C.flatMap fun g=>((Fz G 0 .nil).get g).getD []).eraseDups).filterMap fun g=>(P.globals[g]?).map (·.name))++C.filterMap fun g=>((Fz E 0 .nil).get g).join).eraseDups:=by
 rw [←lG h hG hc,←XP h2 hE hc]
 unfold Program.varsNamed
 congr 3
 congr 2
 congr 1
 funext g
 cases P.funcs[g]?<;>rfl
theorem kT {C:List Nat} {f g:Nat} {fn:Func} {c:Code} (hc:P.closure f=C) (hg:C.contains g=true) (hf:P.funcs[g]?=some fn) (hb:fn.body=some c) (hu:c.unfollowed=true):P.unfollowed f=true:=by
 unfold Program.unfollowed
 rw [hc]
 refine List.any_eq_true.2 ⟨g,List.contains_iff_mem.1 hg,?_⟩
 rw [hf,Option.any_some,hb]
 exact hu
theorem kW {f:Nat} (h:P.unfollowed f=true):P.recurses f=true:=by
 unfold Program.recurses
 rw [h];rfl
end
end Go.Proofs.YtihlneenajlhoaaGreatDoor.big
set_option linter.unusedVariables false
set_option maxRecDepth 1000000
namespace Go.Proofs.YtihlneenajlhoaaGreatDoor
open Go Go.Proofs.YtihlneenajlhoaaGreatDoor.big Go.Proofs.YtihlneenajlhoaaGreatDoor.ae
def tl0:List (List Nat):=[[],[],[1],[9,10,11,12],[13,14,15,12],[16,17,12],[18,12,19,13,13,15,12],[18,20,12],[18,12,13,12,21,11,18,12],[22,24,23,25,26,27,28,23],[29,30],[15],[31],[32,9],[33,10],[],[34,34,35,36,34,34,34],[34,34,37,38,34,34,34],[39,40,41,42],[],[43],[43,10],[],[],[44],[45],[46,46,46,47,48,46],[49,51,52,54,56,57,58,59,60,61,62],[23],[63],[64,65,66,67,67,67,67,64,64,64,65,65,64,65,65,64,66,65,64,65,68,65,64,65,64,65],[69,13,70,16,40,41,42],[71],[],[72],[73,73],[41,41,41,40,40,41,41,41,41,42],[74,74],[],[75,40,76,36,77,78,78,77,77,79,76,79,76,76,79,36,77,76,79,80,42],[81],[81],[],[34,82,83,34,38,82,84,84,84,83,83,34,82,82,38,84,83,82,82],[85],[86,87,88,89],[],[90,42,91,41,41],[46,46],[50],[92,23,23],[50,28],[53],[93,23],[50,55],[23],[53,53],[28,23],[28,28],[50,50,28],[50,28,55],[50,28,94,23,28,53,53],[],[95,95],[96],[64,97],[96],[64,98],[64,64,67,67],[99,101,100],[102,103],[104],[105],[106,108,107,107],[109,110,110],[27],[34,77],[41,40],[111,73,77],[112,77],[76,94,77,79,78],[113],[],[],[74,114],[115,116,115,117,116,118],[],[],[119],[120,121],[46],[90,90,122,90,122],[123],[92,124,124,106,73],[],[],[],[],[125,126,126,125,114,125],[127,128],[129,130,131,133,132],[134],[135,136,137],[138,131,139,140,133,132],[141,142,44],[143,144,145,146],[108,147],[],[],[114],[105],[106],[148],[],[150,149],[151],[],[],[152],[],[153],[154],[],[155],[156],[],[157],[],[],[158,158,158,159,161,162,160],[163],[164,166,165],[167,168,169],[170,171,172,174,175,176,178,177,179,180,181,182,183,184],[],[185],[186],[187,188,40,40,42],[130,189,190,191,192,193,194,195,196,197,198,199],[200,201,201,132],[203,203,202],[204,120],[204,205,44],[],[207,206,208],[],[209,210],[],[154,211,87,119,154],[],[],[],[],[],[212,213,212,117,116],[],[],[],[111],[158],[214],[],[],[],[215,216],[],[218,217,219,101,221,222],[223],[],[224],[135,215,129],[],[173],[135,225],[226],[227,228],[163],[],[],[229,229],[],[171,230,176,231,229,233,232],[234,236,237],[174,238],[240,239],[241],[155],[242,243,243,243,243,244,245,245,246,247,248],[],[250,249]]
def ti0:List (Option String):=aq [some "main.main",some "gosem.cut"] (rl 111 none (aq [some "internal/abi.NoEscape",none,none,some "internal/bytealg.IndexString"] (rl 34 none (aq [some "internal/bytealg.IndexByteString"] (rl 38 none [])))))
def tg0:List (List Nat):=rl 85 [] (aq [[0,0,0]] (rl 58 [] (aq [[1],[],[],[],[],[],[],[],[],[2,3]] (rl 36 [] []))))
def te0:List (Option String):=rl 116 none (aq [some "internal/bytealg.MaxLen"] (rl 73 none []))
theorem hl0:((Tryz.prog.funcs.toList.drop 0).take 190).map Tryz.prog.leadsTo=tl0:=by kernel_rfl
theorem hi0:((Tryz.prog.funcs.toList.drop 0).take 190).map kIn=ti0:=by kernel_rfl
theorem hg0:((Tryz.prog.funcs.toList.drop 0).take 190).map kGl=tg0:=by kernel_rfl
theorem he0:((Tryz.prog.funcs.toList.drop 0).take 190).map kEn=te0:=by kernel_rfl
theorem hf0:((Tryz.prog.funcs.toList.drop 0).take 190).all (fun f=>f.params.all fun t=>decide (t<Tryz.prog.types.size))=true:=by kernel_rfl
end Go.Proofs.YtihlneenajlhoaaGreatDoor
/-
 What the functions of the program name, from number 190 on: tables, by the kernel.
-/
set_option linter.unusedVariables false
set_option maxRecDepth 1000000
namespace Go.Proofs.YtihlneenajlhoaaGreatDoor
open Go Go.Proofs.YtihlneenajlhoaaGreatDoor.big Go.Proofs.YtihlneenajlhoaaGreatDoor.ae
def tl1:List (List Nat):=[[158,158,252,251],[158,253,251],[159,254,251],[255,251],[162,161,160,256,251],[127,257,128,258],[260,260,259,226],[127,261,262],[261,263],[264],[265,266,266,267,184,268],[129,270,269],[],[],[],[],[],[],[],[],[272,273],[],[115],[],[],[274],[216,275],[276],[277,278],[220],[280,281],[277,129,218,266,282,283],[111,284,285],[],[],[287,288,289,136,290],[291],[292,293,294,132,295,296,297,300,301,299],[302,303],[176,176],[129,287,304],[],[225,158,305,306,135,307,287,307],[308],[235],[],[],[],[309],[310,311,312,313,314,315,316,317,318,239,239],[319,207],[],[320,320,321,320,322,320,323,323],[186,324,325,244,244],[326,325,40,327,328,41,328,42],[326,325,40,24,41,328,42],[111,329,330,108,107,331,329],[332,324,325,244,243],[],[],[333,334,335],[129],[],[],[],[],[162],[],[336,337],[],[],[338,339],[341,342],[],[127,343,343],[345,344],[129,346],[348,347,349],[],[277,350],[271],[351,352,266,282,353,354,351],[],[],[355,344],[275],[],[356],[279],[279],[357,358],[359,360],[362,361,363],[364,365],[366],[286],[367],[241],[135,241,368],[111,160],[370,369],[],[],[176],[176,371,372],[373],[374],[298,298],[],[],[],[],[201,375],[376],[288],[288,136,377,290,377,377,160,378],[136,379,380,381],[288,382,383,135,304],[384,386,385],[387],[316],[388,388],[389,390],[391,391,391,392],[],[316,316,316],[393,393],[316,316],[316,316,316,316],[],[394,24],[324,324],[24],[246],[],[41,41,41,42],[],[324],[81,395],[396,186,186,186,186,186,397,40,398,398,398,42,40,42],[273],[399,87,400,401],[402],[404,403],[405,334,406,407],[408,409,410,411],[],[412],[],[340],[413],[],[414],[111],[415,416],[417,419],[106,420],[421,367,423,422,424,422,132,353,353],[],[184,268,425],[279,426,350,427,428,429],[],[266,351,354,351,351],[367],[129,367,162],[430,419],[431,432,356],[378],[433,358,434,435,436,436,436,436,437],[438],[439,360],[280,440],[129],[357,441],[106,106,106],[147,108,442,108,442,443,443,444,444,445,147,446,442,447],[448,448,449,449],[106,106,108,442,108,442],[450,451],[452],[453,454,454],[261],[371,450,455,160],[456,457],[458,458,459,459],[269],[460,176,462,461],[],[463,464],[240,465]]
def ti1:List (Option String):=rl 15 none (aq [some "internal/bytealg.CountString"] (rl 17 none (aq [some "sync/atomic.LoadInt64",some "sync/atomic.CompareAndSwapInt64"] (rl 111 none (aq [some "slices.overlaps[int]",none,none,none,none,some "slices.overlaps[jalousie/api.Attr]"] (rl 38 none []))))))
def tg1:List (List Nat):=rl 82 [] (aq [[4],[5]] (rl 94 [] [[6,6,6,6],[],[],[],[],[],[],[],[],[],[],[]]))
def XM:List (Option String):=rl 190 none []
theorem hl1:((Tryz.prog.funcs.toList.drop 190).take 190).map Tryz.prog.leadsTo=tl1:=by kernel_rfl
theorem hi1:((Tryz.prog.funcs.toList.drop 190).take 190).map kIn=ti1:=by kernel_rfl
theorem hg1:((Tryz.prog.funcs.toList.drop 190).take 190).map kGl=tg1:=by kernel_rfl
theorem he1:((Tryz.prog.funcs.toList.drop 190).take 190).map kEn=XM:=by kernel_rfl
theorem hf1:((Tryz.prog.funcs.toList.drop 190).take 190).all (fun f=>f.params.all fun t=>decide (t<Tryz.prog.types.size))=true:=by kernel_rfl
end Go.Proofs.YtihlneenajlhoaaGreatDoor
