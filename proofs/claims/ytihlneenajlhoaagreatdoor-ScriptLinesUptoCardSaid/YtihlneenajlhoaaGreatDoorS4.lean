/-
 Contract, for a run of one goroutine, of jalousieref27.Words: the words of a line, as the plain law says. Condition: lengths that fit.
-/
import Derived.Test.YtihlneenajlhoaaGreatDoorS3
import Derived.Test.YtihlneenajlhoaaGreatDoorS1
import Derived.Test.YtihlneenajlhoaaGreatDoorS2
import Derived.Deep.MidRow
set_option linter.unusedSimpArgs false
set_option linter.unusedVariables false
namespace Go.Proofs.YtihlneenajlhoaaGreatDoor
open Go Go.RowKit
def RWordsIs (w w':World) (S:List UInt8) (e:Ending):Prop:=match sp.words S with
 | some l=>∃v,e=.returned (.tuple #[v,.bool true])∧w'.ownsRow w.heap.size 110 2 v l.length (wdCells l)
 | none=>e=.returned (.tuple #[.slice none 0 0,.bool false])
theorem ownsRow_bel {w w':World} {base:Nat} {e:TypeId} {k n:Nat} {v:Value} {xs:List Value} (h:w.ownsRow base e k v n xs) (hb:Below w.heap.size w w'):w'.ownsRow base e k v n xs:=by
 obtain ⟨hl,h5⟩:=h
 refine ⟨hl,h5.imp id fun ⟨g,cap,cur,y1,y2,y3,y4⟩=>⟨g,cap,cur,y1,y2,(hb.block g (lt_of_block y3)).trans y3,y4⟩⟩
structure RW (w:World) (S:List UInt8) (l:List (List UInt8×Bool)) (v:Value) (p r:List UInt8) (wr:World):Prop where
 text:S=p++r
 own:wr.ownsRow w.heap.size 110 2 v l.length (wdCells l)
 bel:Below w.heap.size w wr
 eq:sp.words S=(sp.words r).map fun m=>l++m
 len:l.length+r.length≤S.length
section
variable {w wr w':World} {S p r p' r':List UInt8} {l:List (List UInt8×Bool)} {v v':Value} {x:List UInt8×Bool} {o:Obj}
theorem RW.lay (h:RW w S l v p r wr) (hown:w'.ownsRow w.heap.size 110 2 v' (l++[x]).length (wdCells (l++[x]))) (hg:(wr.alloc o).grownBy w' v.ownBlock) (ht:S=p'++r') (he:sp.words r=(sp.words r').map fun m=>x :: m) (hn:r'.length<r.length):RW w S (l++[x]) v' p' r' w' :=
 ⟨ht,hown,(h.bel.alloc h.bel.size o).grown hg (by have:=h.bel.size;simp;omega) fun k hk=>by have:=h.own.lt k hk;omega,by rw [h.eq,he,Option.map_map];congr 1;funext m;simp,by have:=h.len;rw [List.length_append];simp only [List.length_cons,List.length_nil];omega⟩
end
set_option maxRecDepth 100000 in
set_option maxHeartbeats 8000000 in
theorem rwords_any (S:List UInt8) (w:World) (hn:S.length≤1099511627776):Calls Tryz.prog 29 #[.string (bstr S)] w fun e w'=>RWordsIs w w' S e∧Below w.heap.size w w':=by
 have HR:Hid (RW w S [] (.slice none 0 0) [] S w):=Lib.hid ⟨rfl,World.ownsRow_nil _ _ _ _,Below.refl _ _,by cases sp.words S<;>simp,by simp⟩
 have HN:=Lib.hid hn
 have hsz:=bstr_size S
 clear hn
 go_enter Tryz.func29,Tryz.ntmps29
 go_wp2
 go_loopw [4,5] (fun v i wr=>∃l p r,RW w S l v p r wr∧i=.int .i64 (p.length:Nat)) (fun _ i _=>S.length-(intOf i).toNat)
 case atStart=>exact ⟨[],[],S,HR.out,rfl⟩
 case round =>
  obtain ⟨l,p,r,hr,rfl⟩:=hrel
  have HR1:=Lib.hid hr
  have hl1:=congrArg List.length hr.text
  rw [List.length_append] at hl1
  have hp1:(p.length:Int)≤1099511627776:=by have:=HN.out;omega
  have HL1:=Lib.hid hl1
  clear hr HR hl1
  match r with
  | [] =>
   have t0:decide ((p.length:Int)<(S.length:Int))=false:=by have hl1:=HL1.out;simp at hl1;simp;omega
   have hnlt:¬p.length<S.length:=by have hl1:=HL1.out;simp at hl1;omega
   have HF:Hid (sp.words S=some l):=Lib.hid (by rw [HR1.out.eq,sp.words_nil];simp)
   go_wp2
   go_ret2
   exact ⟨by unfold RWordsIs;rw [HF.out];exact ⟨_,rfl,HR1.out.own⟩,HR1.out.bel⟩
  | c :: r2 =>
   have t0:decide ((p.length:Int)<(S.length:Int))=true:=by have hl1:=HL1.out;simp at hl1;simp;omega
   have hlt:p.length<S.length:=by have hl1:=HL1.out;simp at hl1;omega
   have ei:=bstr_idx HR1.out.text
   by_cases e32:c=32
   ·subst e32
    go_wp2
    refine ⟨⟨l,p++[32],r2,⟨by rw [HR1.out.text,List.append_assoc];rfl,HR1.out.own,HR1.out.bel,by rw [HR1.out.eq,sp.words_space],by have:=HR1.out.len;simp at this ⊢; omega⟩,by simp⟩,?_⟩
    simp [intOf]
    omega
   ·have t32:((c.toNat:Int)==32)=false:=u8ne c 32 e32
    by_cases e34:c=34
    ·subst e34
     have HQ:=Lib.hid (fun W=>rquote_any S p r2 W HR1.out.text HN.out)
     cases hq:sp.qread r2 with
     | none =>
      have hv:rquoteV S.length r2=.tuple #[.string ⟨#[]⟩,.int .i64 0,.bool false]:=by unfold rquoteV;rw [hq]
      rw [hv] at HQ
      have HF:Hid (sp.words S=none):=Lib.hid (by rw [HR1.out.eq,words_q_none hq];rfl)
      clear hv hq
      go_wp2_with (go_at_call 63;refine (HQ.out _).mono ?_;rintro e w2 ⟨rfl,hb2⟩)
      go_ret2
      exact ⟨by unfold RWordsIs;rw [HF.out];rfl,HR1.out.bel.trans (hb2.mono HR1.out.bel.size)⟩
     | some q =>
      obtain ⟨t,u⟩:=q
      obtain ⟨pre,hpre⟩:=qread_suffix _ r2 (Nat.le_refl _) t u hq
      have hql:=qread_len _ r2 (Nat.le_refl _) t u hq
      have hlu:u.length≤S.length:=by have hl1:=HL1.out;simp at hl1;omega
      have hv:rquoteV S.length r2=.tuple #[.string (bstr t),.int .i64 (S.length-u.length:Nat),.bool true]:=by unfold rquoteV;rw [hq]
      rw [hv] at HQ
      have HQL:=Lib.hid hql
      have HT:Hid (S=(p++34 :: pre)++u):=Lib.hid (by rw [HR1.out.text,hpre];simp)
      have hpl:(p++34 :: pre).length=S.length-u.length:=by have:=congrArg List.length HT.out;rw [List.length_append] at this;omega
      have HPL:=Lib.hid hpl
      obtain ⟨E,hE⟩:∃E,E=S.length-u.length:=⟨_,rfl⟩
      rw [←hE] at HQ HPL
      have HE:=Lib.hid hE
      have HEQ:=Lib.hid (words_q_some hq)
      have HLU:=Lib.hid hlu
      clear hv hq hpre hql hpl hE hlu
      match u with
      | [] =>
       have hnE:¬E<S.length:=by have hE:=HE.out;simp at hE;omega
       have t1':decide ((E:Int)<(S.length:Int))=false:=by have hE:=HE.out;simp at hE;simp;omega
       have HW:Hid (sp.words (34 :: r2)=(sp.words []).map fun m=>(t,true) :: m):=Lib.hid (by rw [HEQ.out];simp)
       go_wp2_with (first
        | (go_at_call 63;refine (HQ.out _).mono ?_;rintro e w2 ⟨rfl,hb2⟩;have HR2:Hid (RW w S l u4 p (34 :: r2) w2):=Lib.hid ⟨HR1.out.text,ownsRow_bel HR1.out.own hb2,HR1.out.bel.trans (hb2.mono HR1.out.bel.size),HR1.out.eq,HR1.out.len⟩;clear hb2)
        | (at_builtin;refine wpl_append_wd wt73 rfl _ _ rfl w.heap.size l _ rfl (HR2.out.own.alloc _) _ (t,true) (0,0) rfl (heap_alloc_at _ _) (by have:=HR1.out.len;have:=HN.out;omega) (by have:=HR2.out.bel.size;simp;omega) ?_;intro v' w4 hown hg _;have HO:=Lib.hid hown;have HG:=Lib.hid hg;clear hown hg))
       refine ⟨⟨_,p++34 :: pre,[],HR2.out.lay HO.out HG.out HT.out HW.out (by simp),by rw [HPL.out]⟩,?_⟩
       simp [intOf]
       have:=HPL.out
       simp at this
       omega
      | c4 :: u2 =>
       have hEl:E<S.length:=by have hE:=HE.out;have hlu:=HLU.out;simp at hE;simp at hlu;omega
       have t1':decide ((E:Int)<(S.length:Int))=true:=by simp;omega
       have ei2:∀q,(bstr S)[E]'q=c4:=by have:=bstr_idx HT.out;rw [HPL.out] at this;exact this
       by_cases e4:c4=32
       ·subst e4
        have HW:Hid (sp.words (34 :: r2)=(sp.words (32 :: u2)).map fun m=>(t,true) :: m):=Lib.hid (by rw [HEQ.out];simp)
        go_wp2_with (first
         | (go_at_call 63;refine (HQ.out _).mono ?_;rintro e w2 ⟨rfl,hb2⟩;have HR2:Hid (RW w S l u4 p (34 :: r2) w2):=Lib.hid ⟨HR1.out.text,ownsRow_bel HR1.out.own hb2,HR1.out.bel.trans (hb2.mono HR1.out.bel.size),HR1.out.eq,HR1.out.len⟩;clear hb2)
         | (at_builtin;refine wpl_append_wd wt73 rfl _ _ rfl w.heap.size l _ rfl (HR2.out.own.alloc _) _ (t,true) (0,0) rfl (heap_alloc_at _ _) (by have:=HR1.out.len;have:=HN.out;omega) (by have:=HR2.out.bel.size;simp;omega) ?_;intro v' w4 hown hg _;have HO:=Lib.hid hown;have HG:=Lib.hid hg;clear hown hg))
        refine ⟨⟨_,p++34 :: pre,32 :: u2,HR2.out.lay HO.out HG.out HT.out HW.out (by have:=HQL.out;simp at this ⊢; omega),by rw [HPL.out]⟩,?_⟩
        simp [intOf]
        have:=HPL.out
        simp at this
        omega
       ·have t4:((c4.toNat:Int)==32)=false:=u8ne c4 32 e4
        have HF:Hid (sp.words S=none):=Lib.hid (by rw [HR1.out.eq,HEQ.out,if_neg (by simp [e4])];rfl)
        clear e4
        go_wp2_with (go_at_call 63;refine (HQ.out _).mono ?_;rintro e w2 ⟨rfl,hb2⟩)
        go_ret2
        exact ⟨by unfold RWordsIs;rw [HF.out];rfl,HR1.out.bel.trans (hb2.mono HR1.out.bel.size)⟩
    ·have t34:((c.toNat:Int)==34)=false:=u8ne c 34 e34
     have HC:=Lib.hid (And.intro e32 e34)
     clear e32 e34
     have HPX:Hid (S=p++(c :: r2)):=Lib.hid HR1.out.text
     have hE:∀t1 r1:List UInt8,c :: r2=t1++r1→p.length+t1.length+r1.length=S.length:=fun t1 r1 h=>by
      have e1:=congrArg List.length HPX.out
      have e2:=congrArg List.length h
      rw [List.length_append] at e1 e2
      omega
     have HEE:=Lib.hid hE
     clear hE
     go_wp2
     obtain ⟨wo,hwo⟩:∃wo,wo=wr:=⟨_,rfl⟩
     subst hwo
     go_loopw [9] (fun i w2=>∃t1 r1,c :: r2=t1++r1∧(∀x∈t1,sp.wordB x=true)∧i=.int .i64 (p.length+t1.length:Nat)∧w2=wo) (fun i _=>S.length-(intOf i).toNat)
     case atStart=>exact ⟨[],c :: r2,rfl,fun _ h=>(by cases h),rfl,rfl⟩
     case round =>
      obtain ⟨t1,r1,ht,hall,rfl,rfl⟩:=hrel
      have HT:=Lib.hid ht;have HALL:=Lib.hid hall
      have HSUM:=Lib.hid (HEE.out t1 r1 ht)
      have HPT:Hid (S=(p++t1)++r1):=Lib.hid (by rw [HPX.out,ht,List.append_assoc])
      have hkb:(p.length:Int)+(t1.length:Int)≤1099511627776:=by have:=HN.out;have:=HSUM.out;omega
      clear ht hall
      have HWP:=Lib.hid (words_p (r:=r2) HC.out.1 HC.out.2)
      match r1 with
      | [] =>
       have hnk:¬p.length+t1.length<S.length:=by have hsum:=HSUM.out;simp at hsum;omega
       have hle4:(p.length:Int)+(t1.length:Int)≤(S.length:Int):=by have hsum:=HSUM.out;simp at hsum;omega
       have k0:decide ((p.length:Int)+(t1.length:Int)<(S.length:Int))=false:=by have hsum:=HSUM.out;simp at hsum;simp;omega
       have hex:(bstr S).extract p.length (p.length+t1.length)=bstr t1:=extract_bstr (r:=[]) (by rw [bstr_toList,HPX.out,HT.out])
       have hwl:=while_at (f:=sp.wordB) (t:=t1) (r:=[]) HALL.out (fun _ h=>by cases h)
       rw [←HT.out] at hwl
       have HW:Hid (sp.words (c :: r2)=(sp.words []).map fun m=>(t1,false) :: m):=Lib.hid (by rw [HWP.out,hwl.1,hwl.2,if_neg (by simp)])
       clear hwl
       go_wp2_with (at_builtin;refine wpl_append_wd wt73 rfl _ _ rfl w.heap.size l _ rfl (HR1.out.own.alloc _) _ (t1,false) (0,0) rfl (heap_alloc_at _ _) (by have:=HR1.out.len;have:=HN.out;omega) (by have:=HR1.out.bel.size;simp;omega) ?_;intro v' w4 hown hg _;have HO:=Lib.hid hown;have HG:=Lib.hid hg;clear hown hg)
       refine ⟨⟨_,p++t1,[],HR1.out.lay HO.out HG.out HPT.out HW.out (by simp),by simp⟩,?_⟩
       simp [intOf]
       have hsum:=HSUM.out
       simp at hsum
       omega
      | c4 :: r4 =>
       have k0:decide ((p.length:Int)+(t1.length:Int)<(S.length:Int))=true:=by have hsum:=HSUM.out;simp at hsum;simp;omega
       have hle4:(p.length:Int)+(t1.length:Int)≤(S.length:Int):=by have hsum:=HSUM.out;simp at hsum;omega
       have hklt:p.length+t1.length<S.length:=by have hsum:=HSUM.out;simp at hsum;omega
       have ei2:∀q,(bstr S)[p.length+t1.length]'q=c4:=by have:=bstr_idx HPT.out;simpa using this
       by_cases e4:c4=32
       ·subst e4
        have hex:(bstr S).extract p.length (p.length+t1.length)=bstr t1:=extract_bstr (r:=32 :: r4) (by rw [bstr_toList,HPX.out,HT.out])
        have hwl:=while_at (f:=sp.wordB) (t:=t1) (r:=32 :: r4) HALL.out (fun _ h=>by cases h;rfl)
        rw [←HT.out] at hwl
        have HW:Hid (sp.words (c :: r2)=(sp.words (32 :: r4)).map fun m=>(t1,false) :: m):=Lib.hid (by rw [HWP.out,hwl.1,hwl.2,if_neg (by simp)])
        clear hwl
        have hlt3:(32 :: r4).length<(c :: r2).length:=by
         have h1:=congrArg List.length HT.out
         rw [List.length_append] at h1
         have h0:t1≠[]:=fun e=>by
          have:=HT.out
          rw [e] at this
          cases this
          exact HC.out.1 rfl
         have:=List.length_pos_iff.2 h0
         omega
        have HL3:=Lib.hid hlt3
        clear hlt3
        go_wp2_with (at_builtin;refine wpl_append_wd wt73 rfl _ _ rfl w.heap.size l _ rfl (HR1.out.own.alloc _) _ (t1,false) (0,0) rfl (heap_alloc_at _ _) (by have:=HR1.out.len;have:=HN.out;omega) (by have:=HR1.out.bel.size;simp;omega) ?_;intro v' w4 hown hg _;have HO:=Lib.hid hown;have HG:=Lib.hid hg;clear hown hg)
        refine ⟨⟨_,p++t1,32 :: r4,HR1.out.lay HO.out HG.out HPT.out HW.out HL3.out,by simp⟩,?_⟩
        simp [intOf]
        have:=HL3.out
        have hl1:=HL1.out
        have hsum:=HSUM.out
        simp at hsum this hl1
        omega
       ·have k32:((c4.toNat:Int)==32)=false:=u8ne c4 32 e4
        have k32n:((c4.toNat:Int) != 32)=true:=by rw [bne,k32];rfl
        by_cases e5:c4=34
        ·subst e5
         have hwl:=while_at (f:=sp.wordB) (t:=t1) (r:=34 :: r4) HALL.out (fun _ h=>by cases h;rfl)
         rw [←HT.out] at hwl
         have HF:Hid (sp.words S=none):=Lib.hid (by rw [HR1.out.eq,HWP.out,hwl.2];simp)
         clear hwl
         go_wp2
         go_ret2
         exact ⟨by unfold RWordsIs;rw [HF.out];rfl,HR1.out.bel⟩
        ·have k34:((c4.toNat:Int)==34)=false:=u8ne c4 34 e5
         have hcw:sp.wordB c4=true:=by simp [sp.wordB,e4,e5]
         have HA2:Hid (∀x∈t1++[c4],sp.wordB x=true):=Lib.hid fun x hx=>by
          rcases List.mem_append.1 hx with h | h
          ·exact HALL.out x h
          ·rw [List.mem_singleton] at h;rw [h];exact hcw
         have HT2:Hid (c :: r2=(t1++[c4])++r4):=Lib.hid (by rw [HT.out];simp)
         clear hcw e4 e5
         go_wp2
         refine ⟨⟨t1++[c4],r4,HT2.out,HA2.out,by simp;omega,trivial⟩,?_⟩
         simp [intOf]
         have hsum:=HSUM.out
         simp at hsum
         omega
def rnumV (t:List UInt8):Value:=match sp.num t with
 | some n=>.tuple #[.int .i64 n,.bool true]
 | none=>.tuple #[.int .i64 0,.bool false]
theorem rnum_no {t:List UInt8} (h:bodyOf t = []∨9<(bodyOf t).length∨((bodyOf t).head?=some 48∧t≠[48])):rnumV t=.tuple #[.int .i64 0,.bool false]:=by unfold rnumV;rw [num_body,if_pos h]
theorem rnum_bad {t:List UInt8} (h:¬(bodyOf t).all sp.digitB=true):rnumV t=.tuple #[.int .i64 0,.bool false]:=by
 unfold rnumV
 rw [num_body]
 split
 ·rename_i h2;split at h2
  ·cases h2
  ·first | (rw [if_neg h] at h2;cases h2) | cases h2
 ·rfl
theorem rnum_good {t:List UInt8} (h:¬(bodyOf t = []∨9<(bodyOf t).length∨((bodyOf t).head?=some 48∧t≠[48]))) (ha:(bodyOf t).all sp.digitB=true):rnumV t=.tuple #[.int .i64 (if t.head?=some 45 then -(sp.val 0 (bodyOf t):Int) else (sp.val 0 (bodyOf t):Int)),.bool true]:=by
 unfold rnumV
 rw [num_body,if_neg h,if_pos ha]
set_option maxRecDepth 100000 in
set_option maxHeartbeats 8000000 in
theorem rnumber_any (t:List UInt8) (w:World) (hn:t.length≤1099511627776):Calls Tryz.prog 97 #[.string (bstr t)] w fun e w'=>e=.returned (rnumV t)∧Below w.heap.size w w':=by
 match t with
 | [] =>
  have e1:(bstr []).toList.isEmpty=true:=by rw [Lib.toList_data];rfl
  have HF:=Lib.hid (rnum_no (t:=[]) (Or.inl rfl))
  go_enter Tryz.func97,Tryz.ntmps97
  go_wp2
  go_ret2
  exact ⟨by rw [HF.out];rfl,Below.refl _ _⟩
 | c :: r =>
  have e1:(bstr (c :: r)).toList.isEmpty=false:=by rw [Lib.toList_data,bstr_toList];rfl
  have e0:0<(bstr (c :: r)).size:=by rw [bstr_size];simp
  have ei:∀p,(bstr (c :: r))[0]'p=c:=fun p=>rfl
  have es1:(1:Int)≤(bstr (c :: r)).size:=by rw [bstr_size];simp;omega
  have ex:(bstr (c :: r)).extract 1 (bstr (c :: r)).size=bstr r:=ext_drop (c :: r) 1 _ (by simp) (bstr_size _)
  by_cases h45:c=45
  ·subst h45
   match r with
   | [] =>
    have e2:(bstr []).toList.isEmpty=true:=by rw [Lib.toList_data];rfl
    have HF:=Lib.hid (rnum_no (t:=[45]) (Or.inl rfl))
    go_enter Tryz.func97,Tryz.ntmps97
    go_wp2
    go_ret2
    exact ⟨by rw [HF.out];rfl,Below.refl _ _⟩
   | d :: r2 =>
    have e2:(bstr (d :: r2)).toList.isEmpty=false:=by rw [Lib.toList_data,bstr_toList];rfl
    have g0:0<(bstr (d :: r2)).size:=by rw [bstr_size];simp
    have gi:∀p,(bstr (d :: r2))[0]'p=d:=fun p=>rfl
    have hsz:(bstr (d :: r2)).size=((d :: r2):List UInt8).length:=bstr_size _
    have hbo:bodyOf (45 :: d :: r2)=(d :: r2):=rfl
    by_cases h9:9<((d :: r2):List UInt8).length
    ·have HF:=Lib.hid (rnum_no (t:=(45 :: d :: r2)) (Or.inr (Or.inl (by rw [hbo];exact h9))))
     have t9:decide ((9:Int)<(bstr (d :: r2)).size)=true:=by rw [bstr_size];simp at h9 ⊢; omega
     have t9n:(9:Int)<(((d :: r2):List UInt8).length:Int):=by omega
     clear h9 hbo
     go_enter Tryz.func97,Tryz.ntmps97
     go_wp2
     go_ret2
     exact ⟨by rw [HF.out];rfl,Below.refl _ _⟩
    ·have t9:decide ((9:Int)<(bstr (d :: r2)).size)=false:=by rw [bstr_size];simp at h9 ⊢; omega
     have t9n:¬(9:Int)<(((d :: r2):List UInt8).length:Int):=by omega
     by_cases h48:d=48
     ·subst h48
      have HF:=Lib.hid (rnum_no (t:=(45 :: 48 :: r2)) (Or.inr (Or.inr ⟨rfl,by simp⟩)))
      have q0:((bstr (45 :: 48 :: r2)).toList==[48])=false:=str_ne (by simp)
      clear h9 hbo
      go_enter Tryz.func97,Tryz.ntmps97
      go_wp2
      go_ret2
      exact ⟨by rw [HF.out];rfl,Below.refl _ _⟩
     ·have t48:((d.toNat:Int)==48)=false:=u8ne d 48 h48
      have q1:((bstr (d :: r2)).toList==(bstr (45 :: d :: r2)).toList)=false:=by rw [Lib.toList_data (bstr (45 :: d :: r2)),bstr_toList];exact str_ne (fun e=>by have:=congrArg List.length e;simp at this)
      have HN9:Hid (((d :: r2):List UInt8).length≤9):=Lib.hid (by omega)
      have HBAD:=Lib.hid (fun h=>rnum_bad (t:=(45 :: d :: r2)) (by rw [hbo];exact h))
      have HGOOD:Hid (((d :: r2):List UInt8).all sp.digitB=true→rnumV (45 :: d :: r2)=.tuple #[.int .i64 (-(sp.val 0 (d :: r2):Int)),.bool true]):=Lib.hid (fun h=>by rw [rnum_good (t:=(45 :: d :: r2)) (by rw [hbo];exact fun h=>h.elim (fun h=>by cases h) (fun h=>h.elim (fun h=>by omega) (fun h=>h48 (by simpa using h.1)))) (by rw [hbo];exact h),hbo];rfl)
      clear h9 hbo h48
      generalize hRV:rnumV (45 :: d :: r2)=RV at HBAD HGOOD ⊢
      obtain ⟨W2,cp,q,hcv,hbw,hrow⟩:=conv_bytes w (d :: r2)
      have HB:=Lib.hid hbw;have HROW:=Lib.hid hrow
      generalize hS:bstr (45 :: d :: r2)=S at e1 e0 ei es1 ex q1 ⊢
      clear hS hRV
      obtain ⟨X,hX⟩:∃X:List UInt8,X=(d :: r2):=⟨_,rfl⟩
      rw [←hX] at hcv HROW HBAD HGOOD HN9 hsz e2 g0 gi ex q1 t9 t9n
      clear hbw hrow hX
      go_enter Tryz.func97,Tryz.ntmps97
      go_wp2
      go_loopw [5,37] (fun n i wr=>∃k:Nat,k≤X.length∧i=.int .i64 k∧n=.int .i64 (sp.val 0 (X.take k):Nat)∧(∀x∈X.take k,sp.digitB x=true)∧wr=W2) (fun _ i _=>X.length-(intOf i).toNat)
      case atStart=>exact ⟨0,Nat.zero_le _,rfl,rfl,fun _ h=>(by cases h),rfl⟩
      case round =>
       obtain ⟨k,hk,rfl,rfl,hd,rfl⟩:=hrel
       have HD:=Lib.hid hd
       clear hd
       by_cases hlt:k<X.length
       ·have hcell:=HROW.out k hlt
        have hv:=val_take hlt
        have hs:sp.val 0 (X.take k)<1000000000:=val_small HD.out (by rw [List.length_take];have:=HN9.out;omega)
        have hmem:X.getD k 0∈X:=by rw [getD_get hlt];exact List.getElem_mem _
        have HSET:=Lib.hid (take_step hlt)
        have hX9:(X.length:Int)≤9:=by have:=HN9.out;omega
        have HV:=Lib.hid hv;have HM:=Lib.hid hmem
        clear hv hmem
        generalize X.getD k 0=K at hcell HV HM HSET
        have hK:=K.toNat_lt
        by_cases hdg:48≤K.toNat∧K.toNat≤57
        ·have t1:decide ((K.toNat:Int)<48)=false:=by simp;omega
         have t2:decide ((57:Int)<K.toNat)=false:=by simp;omega
         have hsub:((K.toNat:Int)-48)=((K.toNat-48:Nat):Int):=by omega
         have hb1:((K.toNat-48:Nat):Int)≤9:=by omega
         have HKD:=Lib.hid ((digB_iff K).2 hdg)
         have hn1:¬(K.toNat:Int)<48:=by omega
         have hn2:¬(57:Int)<K.toNat:=by omega
         generalize K.toNat-48=D at hsub hb1 HV
         generalize sp.val 0 (X.take k)=V at hs HV
         clear hdg
         go_wp2
         refine ⟨⟨k+1,by omega,by go_num,?_,fun x hx => ?_,trivial⟩,by simp [intOf];omega⟩
         ·rw [HV.out];simp
         ·rcases HSET.out x hx with h | h
          ·exact HD.out x h
          ·rw [h];exact HKD.out
        ·have HF:Hid (RV=.tuple #[.int .i64 0,.bool false]):=Lib.hid (HBAD.out (fun hall=>by
          have:=List.all_eq_true.1 hall K HM.out
          exact hdg ((digB_iff K).1 this)))
         by_cases q1:48≤K.toNat
         ·have t1:decide ((K.toNat:Int)<48)=false:=by simp;omega
          have t2:decide ((57:Int)<K.toNat)=true:=by simp;omega
          have hn1:¬(K.toNat:Int)<48:=by omega
          clear hdg q1
          go_wp2
          go_ret2
          exact ⟨by rw [HF.out];rfl,HB.out⟩
         ·have t1:decide ((K.toNat:Int)<48)=true:=by simp;omega
          clear hdg q1
          go_wp2
          go_ret2
          exact ⟨by rw [HF.out];rfl,HB.out⟩
       ·have hke:k=X.length:=by omega
        subst hke
        have HF:=Lib.hid (HGOOD.out (List.all_eq_true.2 fun x hx=>HD.out x (by rw [List.take_length];exact hx)))
        have hs:sp.val 0 (X.take X.length)<1000000000:=val_small HD.out (by rw [List.take_length];exact HN9.out)
        rw [List.take_length] at hs ⊢
        generalize sp.val 0 X=V at hs HF
        have hX9:(X.length:Int)≤9:=by have:=HN9.out;omega
        go_wp2
        go_ret2
        exact ⟨by rw [HF.out];rfl,HB.out⟩
  ·have t45:((c.toNat:Int)==45)=false:=u8ne c 45 h45
   have hsz:(bstr (c :: r)).size=((c :: r):List UInt8).length:=bstr_size _
   have hbo:bodyOf (c :: r)=(c :: r):=(by unfold bodyOf;rw [if_neg (by simpa using h45)])
   by_cases h9:9<((c :: r):List UInt8).length
   ·have HF:=Lib.hid (rnum_no (t:=(c :: r)) (Or.inr (Or.inl (by rw [hbo];exact h9))))
    have t9:decide ((9:Int)<(bstr (c :: r)).size)=true:=by rw [bstr_size];simp at h9 ⊢; omega
    have t9n:(9:Int)<(((c :: r):List UInt8).length:Int):=by omega
    clear h9 hbo
    go_enter Tryz.func97,Tryz.ntmps97
    go_wp2
    go_ret2
    exact ⟨by rw [HF.out];rfl,Below.refl _ _⟩
   ·have t9:decide ((9:Int)<(bstr (c :: r)).size)=false:=by rw [bstr_size];simp at h9 ⊢; omega
    have t9n:¬(9:Int)<(((c :: r):List UInt8).length:Int):=by omega
    by_cases h48:c=48
    ·subst h48
     by_cases hr:r = []
     ·subst hr
      have q0:((bstr [48]).toList==[48])=true:=str_eq rfl
      have q1:((bstr [48]).toList==(bstr [48]).toList)=true:=beq_self_eq_true _
      have HN9:Hid (([48]:List UInt8).length≤9):=Lib.hid (by omega)
      have HBAD:=Lib.hid (fun h=>rnum_bad (t:=[48]) (by rw [hbo];exact h))
      have HGOOD:Hid (([48]:List UInt8).all sp.digitB=true→rnumV [48]=.tuple #[.int .i64 ((sp.val 0 [48]:Int)),.bool true]):=Lib.hid (fun h=>by rw [rnum_good (t:=[48]) (by rw [hbo];simp) (by rw [hbo];exact h),hbo];rw [if_neg (by simp)])
      clear h9 hbo
      generalize hRV:rnumV [48]=RV at HBAD HGOOD ⊢
      obtain ⟨W2,cp,q,hcv,hbw,hrow⟩:=conv_bytes w [48]
      have HB:=Lib.hid hbw;have HROW:=Lib.hid hrow
      generalize hS:bstr [48]=S at e0 ei e1 es1 q0 q1 t9 hsz hcv ⊢
      clear hS hRV
      obtain ⟨X,hX⟩:∃X:List UInt8,X = [48]:=⟨_,rfl⟩
      rw [←hX] at HROW HBAD HGOOD HN9 hsz t9n hcv
      clear hbw hrow hX
      go_enter Tryz.func97,Tryz.ntmps97
      go_wp2
      go_loopw [5,37] (fun n i wr=>∃k:Nat,k≤X.length∧i=.int .i64 k∧n=.int .i64 (sp.val 0 (X.take k):Nat)∧(∀x∈X.take k,sp.digitB x=true)∧wr=W2) (fun _ i _=>X.length-(intOf i).toNat)
      case atStart=>exact ⟨0,Nat.zero_le _,rfl,rfl,fun _ h=>(by cases h),rfl⟩
      case round =>
       obtain ⟨k,hk,rfl,rfl,hd,rfl⟩:=hrel
       have HD:=Lib.hid hd
       clear hd
       by_cases hlt:k<X.length
       ·have hcell:=HROW.out k hlt
        have hv:=val_take hlt
        have hs:sp.val 0 (X.take k)<1000000000:=val_small HD.out (by rw [List.length_take];have:=HN9.out;omega)
        have hmem:X.getD k 0∈X:=by rw [getD_get hlt];exact List.getElem_mem _
        have HSET:=Lib.hid (take_step hlt)
        have hX9:(X.length:Int)≤9:=by have:=HN9.out;omega
        have HV:=Lib.hid hv;have HM:=Lib.hid hmem
        clear hv hmem
        generalize X.getD k 0=K at hcell HV HM HSET
        have hK:=K.toNat_lt
        by_cases hdg:48≤K.toNat∧K.toNat≤57
        ·have t1:decide ((K.toNat:Int)<48)=false:=by simp;omega
         have t2:decide ((57:Int)<K.toNat)=false:=by simp;omega
         have hsub:((K.toNat:Int)-48)=((K.toNat-48:Nat):Int):=by omega
         have hb1:((K.toNat-48:Nat):Int)≤9:=by omega
         have HKD:=Lib.hid ((digB_iff K).2 hdg)
         have hn1:¬(K.toNat:Int)<48:=by omega
         have hn2:¬(57:Int)<K.toNat:=by omega
         generalize K.toNat-48=D at hsub hb1 HV
         generalize sp.val 0 (X.take k)=V at hs HV
         clear hdg
         go_wp2
         refine ⟨⟨k+1,by omega,by go_num,?_,fun x hx => ?_,trivial⟩,by simp [intOf];omega⟩
         ·rw [HV.out];simp
         ·rcases HSET.out x hx with h | h
          ·exact HD.out x h
          ·rw [h];exact HKD.out
        ·have HF:Hid (RV=.tuple #[.int .i64 0,.bool false]):=Lib.hid (HBAD.out (fun hall=>by
          have:=List.all_eq_true.1 hall K HM.out
          exact hdg ((digB_iff K).1 this)))
         by_cases q1:48≤K.toNat
         ·have t1:decide ((K.toNat:Int)<48)=false:=by simp;omega
          have t2:decide ((57:Int)<K.toNat)=true:=by simp;omega
          have hn1:¬(K.toNat:Int)<48:=by omega
          clear hdg q1
          go_wp2
          go_ret2
          exact ⟨by rw [HF.out];rfl,HB.out⟩
         ·have t1:decide ((K.toNat:Int)<48)=true:=by simp;omega
          clear hdg q1
          go_wp2
          go_ret2
          exact ⟨by rw [HF.out];rfl,HB.out⟩
       ·have hke:k=X.length:=by omega
        subst hke
        have HF:=Lib.hid (HGOOD.out (List.all_eq_true.2 fun x hx=>HD.out x (by rw [List.take_length];exact hx)))
        have hs:sp.val 0 (X.take X.length)<1000000000:=val_small HD.out (by rw [List.take_length];exact HN9.out)
        rw [List.take_length] at hs ⊢
        generalize sp.val 0 X=V at hs HF
        have hX9:(X.length:Int)≤9:=by have:=HN9.out;omega
        go_wp2
        go_ret2
        exact ⟨by rw [HF.out];rfl,HB.out⟩
     ·have HF:=Lib.hid (rnum_no (t:=(48 :: r)) (Or.inr (Or.inr ⟨by rw [hbo];rfl,by simpa using hr⟩)))
      have q0:((bstr (48 :: r)).toList==[48])=false:=str_ne (by simpa using hr)
      clear h9 hbo hr
      go_enter Tryz.func97,Tryz.ntmps97
      go_wp2
      go_ret2
      exact ⟨by rw [HF.out];rfl,Below.refl _ _⟩
    ·have t48:((c.toNat:Int)==48)=false:=u8ne c 48 h48
     have q1:((bstr (c :: r)).toList==(bstr (c :: r)).toList)=true:=beq_self_eq_true _
     have HN9:Hid (((c :: r):List UInt8).length≤9):=Lib.hid (by omega)
     have HBAD:=Lib.hid (fun h=>rnum_bad (t:=(c :: r)) (by rw [hbo];exact h))
     have HGOOD:Hid (((c :: r):List UInt8).all sp.digitB=true→rnumV (c :: r)=.tuple #[.int .i64 ((sp.val 0 (c :: r):Int)),.bool true]):=Lib.hid (fun h=>by rw [rnum_good (t:=(c :: r)) (by rw [hbo];exact fun h=>h.elim (fun h=>by cases h) (fun h=>h.elim (fun h=>by omega) (fun h=>h48 (by simpa using h.1)))) (by rw [hbo];exact h),hbo];rw [if_neg (by simpa using h45)])
     clear h9 hbo h48
     generalize hRV:rnumV (c :: r)=RV at HBAD HGOOD ⊢
     obtain ⟨W2,cp,q,hcv,hbw,hrow⟩:=conv_bytes w (c :: r)
     have HB:=Lib.hid hbw;have HROW:=Lib.hid hrow
     generalize hS:bstr (c :: r)=S at e0 ei e1 es1 q1 t9 hsz hcv ⊢
     clear hS hRV
     obtain ⟨X,hX⟩:∃X:List UInt8,X=(c :: r):=⟨_,rfl⟩
     rw [←hX] at HROW HBAD HGOOD HN9 hsz t9n hcv
     clear hbw hrow hX
     go_enter Tryz.func97,Tryz.ntmps97
     go_wp2
     go_loopw [5,37] (fun n i wr=>∃k:Nat,k≤X.length∧i=.int .i64 k∧n=.int .i64 (sp.val 0 (X.take k):Nat)∧(∀x∈X.take k,sp.digitB x=true)∧wr=W2) (fun _ i _=>X.length-(intOf i).toNat)
     case atStart=>exact ⟨0,Nat.zero_le _,rfl,rfl,fun _ h=>(by cases h),rfl⟩
     case round =>
      obtain ⟨k,hk,rfl,rfl,hd,rfl⟩:=hrel
      have HD:=Lib.hid hd
      clear hd
      by_cases hlt:k<X.length
      ·have hcell:=HROW.out k hlt
       have hv:=val_take hlt
       have hs:sp.val 0 (X.take k)<1000000000:=val_small HD.out (by rw [List.length_take];have:=HN9.out;omega)
       have hmem:X.getD k 0∈X:=by rw [getD_get hlt];exact List.getElem_mem _
       have HSET:=Lib.hid (take_step hlt)
       have hX9:(X.length:Int)≤9:=by have:=HN9.out;omega
       have HV:=Lib.hid hv;have HM:=Lib.hid hmem
       clear hv hmem
       generalize X.getD k 0=K at hcell HV HM HSET
       have hK:=K.toNat_lt
       by_cases hdg:48≤K.toNat∧K.toNat≤57
       ·have t1:decide ((K.toNat:Int)<48)=false:=by simp;omega
        have t2:decide ((57:Int)<K.toNat)=false:=by simp;omega
        have hsub:((K.toNat:Int)-48)=((K.toNat-48:Nat):Int):=by omega
        have hb1:((K.toNat-48:Nat):Int)≤9:=by omega
        have HKD:=Lib.hid ((digB_iff K).2 hdg)
        have hn1:¬(K.toNat:Int)<48:=by omega
        have hn2:¬(57:Int)<K.toNat:=by omega
        generalize K.toNat-48=D at hsub hb1 HV
        generalize sp.val 0 (X.take k)=V at hs HV
        clear hdg
        go_wp2
        refine ⟨⟨k+1,by omega,by go_num,?_,fun x hx => ?_,trivial⟩,by simp [intOf];omega⟩
        ·rw [HV.out];simp
        ·rcases HSET.out x hx with h | h
         ·exact HD.out x h
         ·rw [h];exact HKD.out
       ·have HF:Hid (RV=.tuple #[.int .i64 0,.bool false]):=Lib.hid (HBAD.out (fun hall=>by
         have:=List.all_eq_true.1 hall K HM.out
         exact hdg ((digB_iff K).1 this)))
        by_cases q1:48≤K.toNat
        ·have t1:decide ((K.toNat:Int)<48)=false:=by simp;omega
         have t2:decide ((57:Int)<K.toNat)=true:=by simp;omega
         have hn1:¬(K.toNat:Int)<48:=by omega
         clear hdg q1
         go_wp2
         go_ret2
         exact ⟨by rw [HF.out];rfl,HB.out⟩
        ·have t1:decide ((K.toNat:Int)<48)=true:=by simp;omega
         clear hdg q1
         go_wp2
         go_ret2
         exact ⟨by rw [HF.out];rfl,HB.out⟩
      ·have hke:k=X.length:=by omega
       subst hke
       have HF:=Lib.hid (HGOOD.out (List.all_eq_true.2 fun x hx=>HD.out x (by rw [List.take_length];exact hx)))
       have hs:sp.val 0 (X.take X.length)<1000000000:=val_small HD.out (by rw [List.take_length];exact HN9.out)
       rw [List.take_length] at hs ⊢
       generalize sp.val 0 X=V at hs HF
       have hX9:(X.length:Int)≤9:=by have:=HN9.out;omega
       go_wp2
       go_ret2
       exact ⟨by rw [HF.out];rfl,HB.out⟩
def CountP (X:List UInt8) (v:Int) (ok:Bool):Prop:=sp.I64 v∧(if ok then X=Lib.decDigits v.toNat∧0≤v else ∀m:Nat,m≤9223372036854775807→X≠Lib.decDigits m)
def CountIs (X:List UInt8) (e:Ending):Prop:=∃v ok,e=.returned (.tuple #[.int .i64 v,.bool ok])∧CountP X v ok
theorem countIs {X:List UInt8} {v:Int} {ok:Bool} (h:CountP X v ok):CountIs X (.returned (.tuple #[.int .i64 v,.bool ok])):=⟨v,ok,rfl,h⟩
theorem count_nil:CountP [] 0 false:=⟨⟨by decide,by decide⟩,fun m _ e=>sp.dec_ne m e.symm⟩
theorem count_long {X:List UInt8} (h:19<X.length):CountP X 0 false:=⟨⟨by decide,by decide⟩,fun m hm e=>by
 have h1:=nDigits_le19 hm
 rw [←Lib.decDigits_length,←e] at h1
 omega⟩
theorem count_zero {r:List UInt8} (h:r≠[]):CountP (48 :: r) 0 false:=⟨⟨by decide,by decide⟩,fun m hm e=>by
 by_cases h0:m=0
 ·subst h0
  rw [sp.dec_small (by omega)] at e
  cases e
  exact h rfl
 ·have:=sp.dec_head m h0
  rw [←e] at this
  exact this rfl⟩
theorem count_bad {X:List UInt8} (h:¬X.all sp.digitB=true):CountP X 0 false:=⟨⟨by decide,by decide⟩,fun m hm e=>h (List.all_eq_true.2 fun c hc=>sp.dec_all m c (e ▸ hc))⟩
theorem count_good {X:List UInt8} (h0:X≠[]) (h1:X.head?=some 48→X = [48]) (h:X.all sp.digitB=true) (hm:sp.val 0 X≤9223372036854775807):CountP X (sp.val 0 X:Nat) true :=
 ⟨⟨by omega,by omega⟩,by rw [if_pos rfl];exact ⟨by rw [Int.toNat_natCast];exact (sp.dec_of_val X (List.all_eq_true.1 h) h0 h1).symm,by omega⟩⟩
theorem count_big {X:List UInt8} (h0:X≠[]) (h1:X.head?=some 48→X = [48]) (h:X.all sp.digitB=true) (hm:¬sp.val 0 X≤9223372036854775807) (v:Int) (hv:sp.I64 v):CountP X v false :=
 ⟨hv,fun m hm2 e=>hm (by rw [e,sp.dec_val];exact hm2)⟩
set_option maxRecDepth 100000 in
set_option maxHeartbeats 1000000 in
theorem digit_any (c:UInt8) (w:World):Calls Tryz.prog 157 #[.int .u8 c.toNat] w fun e w'=>e=.returned (.bool (sp.digitB c))∧w'=w:=by
 have hc:=c.toNat_lt
 have HD:=Lib.hid (digB_iff c)
 by_cases h1:48≤c.toNat
 ·have t1:decide ((c.toNat:Int)≥48)=true:=by simp;omega
  by_cases h2:c.toNat≤57
  ·have t2:decide ((c.toNat:Int)≤57)=true:=by simp;omega
   have HF:=Lib.hid (HD.out.2 ⟨h1,h2⟩)
   clear h1 h2
   go_enter Tryz.func157,Tryz.ntmps157
   go_wp2
   go_ret
   exact ⟨by rw [HF.out];rfl,rfl⟩
  ·have t2:decide ((c.toNat:Int)≤57)=false:=by simp;omega
   have HF:Hid (sp.digitB c=false):=Lib.hid (by cases hb:sp.digitB c with | false=>rfl | true=>exact absurd (HD.out.1 hb).2 h2)
   clear h1 h2
   go_enter Tryz.func157,Tryz.ntmps157
   go_wp2
   go_ret
   exact ⟨by rw [HF.out];rfl,rfl⟩
 ·have t1:decide ((c.toNat:Int)≥48)=false:=by simp;omega
  have HF:Hid (sp.digitB c=false):=Lib.hid (by cases hb:sp.digitB c with | false=>rfl | true=>exact absurd (HD.out.1 hb).1 h1)
  clear h1
  go_enter Tryz.func157,Tryz.ntmps157
  go_wp2
  go_ret
  exact ⟨by rw [HF.out];rfl,rfl⟩
set_option maxRecDepth 100000 in
set_option maxHeartbeats 8000000 in
theorem count_any (X:List UInt8) (w:World) (hn:X.length≤1099511627776):Calls Tryz.prog 126 #[.string (bstr X)] w fun e w'=>CountIs X e∧Below w.heap.size w w':=by
 match X with
 | [] =>
  have e1:(bstr []).toList.isEmpty=true:=by rw [Lib.toList_data];rfl
  go_enter Tryz.func126,Tryz.ntmps126
  go_wp2
  go_ret2
  exact ⟨countIs count_nil,Below.refl _ _⟩
 | c :: r =>
  have e1:(bstr (c :: r)).toList.isEmpty=false:=by rw [Lib.toList_data,bstr_toList];rfl
  have e0:0<(bstr (c :: r)).size:=by rw [bstr_size];simp
  have ei:∀p,(bstr (c :: r))[0]'p=c:=fun p=>rfl
  have hsz:(bstr (c :: r)).size=(c :: r:List UInt8).length:=bstr_size _
  obtain ⟨X,hX⟩:∃X:List UInt8,X=c :: r:=⟨_,rfl⟩
  by_cases h19:19<(c :: r:List UInt8).length
  ·have HF:=Lib.hid (count_long h19)
   have t9:decide ((19:Int)<(bstr (c :: r)).size)=true:=by rw [bstr_size];simp at h19 ⊢; omega
   have t9n:(19:Int)<((c :: r:List UInt8).length:Int):=by omega
   clear h19 hX
   go_enter Tryz.func126,Tryz.ntmps126
   go_wp2
   go_ret2
   exact ⟨countIs HF.out,Below.refl _ _⟩
  ·by_cases hz:c=48∧r≠[]
   ·obtain ⟨rfl,hr⟩:=hz
    have HF:=Lib.hid (count_zero hr)
    have h1:1<(48 :: r:List UInt8).length:=by have:=List.length_pos_iff.2 hr;simp;omega
    have t9:decide ((19:Int)<(bstr (48 :: r)).size)=false:=by rw [bstr_size];simp at h19 ⊢; omega
    have t9n:¬(19:Int)<((48 :: r:List UInt8).length:Int):=by omega
    have t1:decide ((1:Int)<(bstr (48 :: r)).size)=true:=by rw [bstr_size];simp at h1 ⊢; omega
    have t1n:(1:Int)<((48 :: r:List UInt8).length:Int):=by omega
    have t1r:decide ((1:Int)<(r.length:Int)+1)=true:=by simp at h1 ⊢; omega
    have t1s:(1:Int)<(r.length:Int)+1:=by simp at h1;omega
    clear h19 hX hr h1
    go_enter Tryz.func126,Tryz.ntmps126
    go_wp2
    go_ret2
    exact ⟨countIs HF.out,Below.refl _ _⟩
   ·have HZ:Hid (X.head?=some 48→X = [48]):=Lib.hid (fun h=>by
     rw [hX] at h ⊢
     cases h
     by_cases hr:r = []
     ·rw [hr]
     ·exact absurd ⟨rfl,hr⟩ hz)
    have HNE:Hid (X≠[]):=Lib.hid (by rw [hX];simp)
    have hl1:c=48→X.length=1:=fun e=>by rw [hX,show r = [] from Classical.byContradiction fun hr=>hz ⟨e,hr⟩];rfl
    obtain ⟨W2,cp,q,hcv,hbw,hrow⟩:=conv_bytes w (c :: r)
    rw [←hX] at hcv hrow hsz e0 e1 h19 ⊢
    have ei':∀p,(bstr X)[0]'p=c:=by rw [hX];exact ei
    have HB:=Lib.hid hbw;have HROW:=Lib.hid hrow
    have t9n:¬(19:Int)<(X.length:Int):=by omega
    have t9:decide ((19:Int)<(bstr X).size)=false:=by rw [hsz];simp;omega
    have HN9:Hid (X.length≤19):=Lib.hid (by omega)
    clear ei hX hz hbw hrow h19
    by_cases h48:c=48
    ·have h1:=hl1 h48
     subst h48
     have t1n:¬(1:Int)<(X.length:Int):=by omega
     have t1:decide ((1:Int)<(bstr X).size)=false:=by rw [hsz];simp;omega
     clear hl1 h1
     go_enter Tryz.func126,Tryz.ntmps126
     go_wp2
     go_loopw [4,27] (fun n i wr=>∃k:Nat,k≤X.length∧i=.int .i64 k∧n=.int .u64 (sp.val 0 (X.take k):Nat)∧(∀x∈X.take k,sp.digitB x=true)∧wr=W2) (fun _ i _=>X.length-(intOf i).toNat)
     case atStart=>exact ⟨0,Nat.zero_le _,rfl,rfl,fun _ h=>(by cases h),rfl⟩
     case round =>
      obtain ⟨k,hk,rfl,rfl,hd,rfl⟩:=hrel
      have HD:=Lib.hid hd
      clear hd
      by_cases hlt:k<X.length
      ·have hcell:=HROW.out k hlt
       have hv:=val_take hlt
       have hs:sp.val 0 (X.take k)<1000000000000000000:=val_18 HD.out hlt HN9.out
       have hmem:X.getD k 0∈X:=by rw [getD_get hlt];exact List.getElem_mem _
       have HSET:=Lib.hid (take_step hlt)
       have hX9:(X.length:Int)≤19:=by have:=HN9.out;omega
       have HV:=Lib.hid hv;have HM:=Lib.hid hmem
       clear hv hmem
       generalize X.getD k 0=K at hcell HV HM HSET
       have hK:=K.toNat_lt
       have HDG:=Lib.hid (fun W=>digit_any K W)
       cases hdg:sp.digitB K with
       | true =>
        have hd2:=(digB_iff K).1 hdg
        have hsub:((K.toNat:Int)-48)=((K.toNat-48:Nat):Int):=by omega
        have hb1:((K.toNat-48:Nat):Int)≤9:=by omega
        have HKD:=Lib.hid hdg
        rw [hdg] at HDG
        generalize K.toNat-48=D at hsub hb1 HV
        generalize sp.val 0 (X.take k)=V at hs HV
        clear hdg hd2
        go_wp2_with (go_at_call 157;refine (HDG.out _).mono ?_;rintro e w1 ⟨rfl,rfl⟩)
        refine ⟨⟨k+1,by omega,by go_num,?_,fun x hx => ?_,trivial⟩,by simp [intOf];omega⟩
        ·rw [HV.out];simp
        ·rcases HSET.out x hx with h | h
         ·exact HD.out x h
         ·rw [h];exact HKD.out
       | false =>
        have HF:Hid (CountP X 0 false):=Lib.hid (count_bad (fun hall=>by
         have:=List.all_eq_true.1 hall K HM.out
         rw [hdg] at this
         cases this))
        rw [hdg] at HDG
        clear hdg
        go_wp2_with (go_at_call 157;refine (HDG.out _).mono ?_;rintro e w1 ⟨rfl,rfl⟩)
        go_ret2
        exact ⟨countIs HF.out,HB.out⟩
      ·have hke:k=X.length:=by omega
       subst hke
       have HALL:Hid (X.all sp.digitB=true):=Lib.hid (List.all_eq_true.2 fun x hx=>HD.out x (by rw [List.take_length];exact hx))
       have hs:sp.val 0 (X.take X.length)<10000000000000000000:=val_19 HD.out (by rw [List.take_length];exact HN9.out)
       rw [List.take_length] at hs ⊢
       have hX9:(X.length:Int)≤19:=by have:=HN9.out;omega
       by_cases hm:sp.val 0 X≤9223372036854775807
       ·have HF:=Lib.hid (count_good HNE.out HZ.out HALL.out hm)
        generalize sp.val 0 X=V at hs hm HF
        have hdv:decide ((V:Int)≤9223372036854775807)=true:=by simp;omega
        go_wp2
        go_ret2
        exact ⟨countIs HF.out,HB.out⟩
       ·have HF:=Lib.hid (count_big HNE.out HZ.out HALL.out hm)
        have hdv:decide (((sp.val 0 X:Nat):Int)≤9223372036854775807)=false:=by simp;omega
        generalize sp.val 0 X=V at hs hm HF hdv
        go_wp2
        go_ret2
        exact ⟨countIs (HF.out _ (wrap_I64 _)),HB.out⟩
    ·have t48:((c.toNat:Int)==48)=false:=u8ne c 48 h48
     clear hl1
     go_enter Tryz.func126,Tryz.ntmps126
     go_wp2
     go_loopw [4,27] (fun n i wr=>∃k:Nat,k≤X.length∧i=.int .i64 k∧n=.int .u64 (sp.val 0 (X.take k):Nat)∧(∀x∈X.take k,sp.digitB x=true)∧wr=W2) (fun _ i _=>X.length-(intOf i).toNat)
     case atStart=>exact ⟨0,Nat.zero_le _,rfl,rfl,fun _ h=>(by cases h),rfl⟩
     case round =>
      obtain ⟨k,hk,rfl,rfl,hd,rfl⟩:=hrel
      have HD:=Lib.hid hd
      clear hd
      by_cases hlt:k<X.length
      ·have hcell:=HROW.out k hlt
       have hv:=val_take hlt
       have hs:sp.val 0 (X.take k)<1000000000000000000:=val_18 HD.out hlt HN9.out
       have hmem:X.getD k 0∈X:=by rw [getD_get hlt];exact List.getElem_mem _
       have HSET:=Lib.hid (take_step hlt)
       have hX9:(X.length:Int)≤19:=by have:=HN9.out;omega
       have HV:=Lib.hid hv;have HM:=Lib.hid hmem
       clear hv hmem
       generalize X.getD k 0=K at hcell HV HM HSET
       have hK:=K.toNat_lt
       have HDG:=Lib.hid (fun W=>digit_any K W)
       cases hdg:sp.digitB K with
       | true =>
        have hd2:=(digB_iff K).1 hdg
        have hsub:((K.toNat:Int)-48)=((K.toNat-48:Nat):Int):=by omega
        have hb1:((K.toNat-48:Nat):Int)≤9:=by omega
        have HKD:=Lib.hid hdg
        rw [hdg] at HDG
        generalize K.toNat-48=D at hsub hb1 HV
        generalize sp.val 0 (X.take k)=V at hs HV
        clear hdg hd2
        go_wp2_with (go_at_call 157;refine (HDG.out _).mono ?_;rintro e w1 ⟨rfl,rfl⟩)
        refine ⟨⟨k+1,by omega,by go_num,?_,fun x hx => ?_,trivial⟩,by simp [intOf];omega⟩
        ·rw [HV.out];simp
        ·rcases HSET.out x hx with h | h
         ·exact HD.out x h
         ·rw [h];exact HKD.out
       | false =>
        have HF:Hid (CountP X 0 false):=Lib.hid (count_bad (fun hall=>by
         have:=List.all_eq_true.1 hall K HM.out
         rw [hdg] at this
         cases this))
        rw [hdg] at HDG
        clear hdg
        go_wp2_with (go_at_call 157;refine (HDG.out _).mono ?_;rintro e w1 ⟨rfl,rfl⟩)
        go_ret2
        exact ⟨countIs HF.out,HB.out⟩
      ·have hke:k=X.length:=by omega
       subst hke
       have HALL:Hid (X.all sp.digitB=true):=Lib.hid (List.all_eq_true.2 fun x hx=>HD.out x (by rw [List.take_length];exact hx))
       have hs:sp.val 0 (X.take X.length)<10000000000000000000:=val_19 HD.out (by rw [List.take_length];exact HN9.out)
       rw [List.take_length] at hs ⊢
       have hX9:(X.length:Int)≤19:=by have:=HN9.out;omega
       by_cases hm:sp.val 0 X≤9223372036854775807
       ·have HF:=Lib.hid (count_good HNE.out HZ.out HALL.out hm)
        generalize sp.val 0 X=V at hs hm HF
        have hdv:decide ((V:Int)≤9223372036854775807)=true:=by simp;omega
        go_wp2
        go_ret2
        exact ⟨countIs HF.out,HB.out⟩
       ·have HF:=Lib.hid (count_big HNE.out HZ.out HALL.out hm)
        have hdv:decide (((sp.val 0 X:Nat):Int)≤9223372036854775807)=false:=by simp;omega
        generalize sp.val 0 X=V at hs hm HF hdv
        go_wp2
        go_ret2
        exact ⟨countIs (HF.out _ (wrap_I64 _)),HB.out⟩
structure Cut (X top low:List UInt8) (parts:Bool):Prop where
 no:parts=false→top=bodyOf X∧low = [49]∧(47:UInt8)∉bodyOf X
 yes:parts=true→bodyOf X=top++47 :: low∧(47:UInt8)∉top
theorem dec_no47 (m:Nat):(47:UInt8)∉Lib.decDigits m:=fun h=>by
 have:=sp.dec_all m 47 h
 revert this
 decide
theorem cut_fwd {X top low:List UInt8} {parts:Bool} (hc:Cut X top low parts) {n d:Int} (h:sp.SureP n d) (he:sp.ratS n d=X):top=Lib.decDigits n.natAbs∧low=Lib.decDigits d.toNat∧(parts=true↔1<d):=by
 obtain ⟨_,k2,k3⟩:=frac_fwd h he
 have e:bodyOf X=Lib.decDigits n.natAbs++(if 1<d then 47 :: Lib.decDigits d.toNat else []):=by
  rw [←k2,←k3]
  exact (List.takeWhile_append_dropWhile).symm
 have hd1:=h.1
 cases parts with
 | false =>
  obtain ⟨a,b,c⟩:=hc.no rfl
  have hd:¬1<d:=fun q=>c (by rw [e,if_pos q];simp)
  have:d=1:=by omega
  subst this
  rw [if_neg hd,List.append_nil] at e
  refine ⟨by rw [a,e],?_,by simp⟩
  rw [b]
  show [49]=Lib.decDigits 1
  rw [sp.dec_small (by omega)]
  rfl
 | true =>
  obtain ⟨a,b⟩:=hc.yes rfl
  by_cases q:1<d
  ·rw [if_pos q] at e
   have:=sp.split_at (a.symm.trans e) b (dec_no47 _)
   exact ⟨this.1,this.2,by simp [q]⟩
  ·rw [if_neg q,List.append_nil] at e
   exfalso
   have:(47:UInt8)∈Lib.decDigits n.natAbs:=by rw [←e,a];simp
   exact dec_no47 _ this
theorem count_fwd {X:List UInt8} {v:Int} {ok:Bool} (h:CountP X v ok) {m:Nat} (hX:X=Lib.decDigits m) (hm:m≤9223372036854775807):ok=true∧v=m:=by
 obtain ⟨_,h2⟩:=h
 cases ok with
 | true =>
  rw [if_pos rfl] at h2
  obtain ⟨a,b⟩:=h2
  have:=sp.dec_inj (hX.symm.trans a)
  exact ⟨rfl,by omega⟩
 | false =>
  rw [if_neg (by decide)] at h2
  exact absurd hX (h2 m hm)
section
variable {X top low:List UInt8} {parts ok1 ok2:Bool} {v1 v2:Int}
theorem rfrac_err (hX:X≠sp.over) (hc:Cut X top low parts) (h1:CountP top v1 ok1) (h2:CountP low v2 ok2) (hbad:ok1=false∨ok2=false∨(parts=true∧v2<2)∨(X.head?=some 45∧v1=0)∨¬sp.MayP (sgn X v1) v2):FracIs X (.returned (.tuple #[.agg #[.int .i64 0,.int .i64 0],.int .i64 3])) :=
 frac_none hX fun n d hn hd h3 h4=>by
  obtain ⟨k1,k2,k3⟩:=cut_fwd hc h3 h4
  obtain ⟨a1,a2⟩:=count_fwd h1 k1 (sure_small hn h3)
  obtain ⟨b1,b2⟩:=count_fwd h2 k2 (by have:=hd.2;omega)
  have hd1:=h3.1
  have hv2:v2=d:=by omega
  rcases hbad with h | h | ⟨h,h'⟩ | ⟨h,h'⟩ | h
  ·rw [a1] at h;cases h
  ·rw [b1] at h;cases h
  ·have:=k3.1 h;omega
  ·have:=(frac_fwd h3 h4).1.1 h;omega
  ·rw [a2,hv2,sgn_abs h3 h4] at h
   exact h (.inr h3)
theorem rfrac_ok (hX:X≠sp.over) (hc:Cut X top low parts) (h1:CountP top v1 true) (h2:CountP low v2 true) (hp:parts=true→2≤v2) (hz:X.head?=some 45→v1≠0) (hm:sp.MayP (sgn X v1) v2):FracIs X (.returned (.tuple #[.agg #[.int .i64 (sgn X v1),.int .i64 v2],.int .i64 0])):=by
 have e1:=h1.2
 have e2:=h2.2
 rw [if_pos rfl] at e1 e2
 obtain ⟨e1,z1⟩:=e1
 obtain ⟨e2,z2⟩:=e2
 have hI1:=h1.1
 have hI2:=h2.1
 have hv2:1≤v2∧(parts=true↔1<v2):=by
  cases parts with
  | true=>have:=hp rfl;exact ⟨by omega,by simp;omega⟩
  | false =>
   obtain ⟨_,b,_⟩:=hc.no rfl
   have:Lib.decDigits v2.toNat=Lib.decDigits 1:=by
    rw [←e2,b,sp.dec_small (by omega)]
    rfl
   have:=sp.dec_inj this
   have:v2=1:=by omega
   subst this
   exact ⟨by omega,by simp⟩
 have hs:sp.SureP (sgn X v1) v2:=by
  rcases hm with ⟨_,h⟩ | h
  ·omega
  ·exact h
 have hI:sp.I64 (sgn X v1):=by
  unfold sgn
  split
  ·obtain ⟨a,b⟩:=hI1;exact ⟨by omega,by omega⟩
  ·exact hI1
 refine frac_some hI hI2 hs ?_
 unfold sp.ratS
 rw [if_pos hs]
 have hd:(if 1<v2 then 47 :: Lib.itoa v2 else []:List UInt8)=if parts then 47 :: low else []:=by
  by_cases q:1<v2
  ·rw [if_pos q,if_pos (hv2.2.2 q),e2,show v2=((v2.toNat:Nat):Int) by omega,sp.itoa_nat]
   rfl
  ·rw [if_neg q,if_neg (fun h=>q (hv2.2.1 h))]
 rw [hd]
 have hb:bodyOf X=top++(if parts then 47 :: low else []):=by
  cases parts with
  | true=>exact (hc.yes rfl).1
  | false=>rw [if_neg (by decide),List.append_nil];exact (hc.no rfl).1.symm
 by_cases hh:X.head?=some 45
 ·have hne:=hz hh
  have es:sgn X v1 = -((v1.toNat:Nat):Int):=by unfold sgn;rw [if_pos hh];omega
  rw [es,sp.itoa_minus _ (by omega),←e1,List.cons_append,←hb]
  cases X with
  | nil=>cases hh
  | cons c r=>cases hh;rfl
 ·have es:sgn X v1=((v1.toNat:Nat):Int):=by unfold sgn;rw [if_neg hh];omega
  rw [es,sp.itoa_nat,←e1,←hb]
  unfold bodyOf
  rw [if_neg hh]
end
theorem mayB_iff (n d:Int):mayB n d=true↔sp.MayP n d:=by
 unfold mayB sp.MayP
 rw [Bool.or_eq_true]
 exact or_congr (by simp [zeroB]) (by simp [sureB];exact Iff.rfl)
theorem split_first {x:UInt8}:∀ {l:List UInt8},x∈l→∃a b,l=a++x :: b∧x∉a
 | c :: l,h=>by
  by_cases e:c=x
  ·exact ⟨[],l,by rw [e];rfl,by simp⟩
  ·obtain ⟨a,b,h1,h2⟩:=split_first (l:=l) ((List.mem_cons.1 h).resolve_left (fun q=>e q.symm))
   exact ⟨c :: a,b,by rw [h1];rfl,by simp [h2,Ne.symm e]⟩
theorem cut_ex (X:List UInt8):(47∉bodyOf X∧Cut X (bodyOf X) [49] false)∨∃top low,bodyOf X=top++47 :: low∧(47:UInt8)∉top∧Cut X top low true:=by
 by_cases h:(47:UInt8)∈bodyOf X
 ·right
  obtain ⟨a,b,e,hn⟩:=split_first h
  exact ⟨a,b,e,hn,⟨fun h=>(by cases h),fun _=>⟨e,hn⟩⟩⟩
 ·exact .inl ⟨h,⟨fun _=>⟨rfl,rfl,h⟩,fun h=>(by cases h)⟩⟩
theorem ret_over {W:World} {g:Nat} {a b:Value} {fn:Func} {tmps:Array Value} {R:Ending→World→Prop} (hr:fn.results=#[.cell 0 24]) (hp:tmps.getD 0 undef=.pointer (some ⟨g,0,none⟩)) (hg:W.heap[g]?=some (.cells #[a,b] 24 (0,0)))
  (h:R (.returned (.agg #[a,b])) W):bodyPost Tryz.prog fn R .ret ⟨tmps,[]⟩ W :=
 bodyPost_ret (results_cell_row hr tmps W g 24 #[a,b] (0,0) _ hp hg Tryz.underlying24 rfl info24) rfl h
set_option maxRecDepth 100000 in
theorem over_any (w:World):Calls Tryz.prog 125 #[] w fun e w'=>e=.returned (.agg #[.int .i64 0,.int .i64 0])∧Below w.heap.size w w':=by
 go_enter Tryz.func125,Tryz.ntmps125
 go_wp2
 exact ret_over rfl rfl (heap_alloc_at _ _) ⟨rfl,below_new w _⟩
theorem mayB_yes {n d:Int} (h:sp.MayP n d):mayB n d=true:=(mayB_iff n d).2 h
theorem mayB_no {n d:Int} (h:¬sp.MayP n d):mayB n d=false:=by cases hb:mayB n d with | false=>rfl | true=>exact absurd ((mayB_iff n d).1 hb) h
theorem body_len {X:List UInt8} {n:Nat} (h:X.length≤n):(bodyOf X).length≤n:=by
 unfold bodyOf
 split
 ·rw [List.length_tail];omega
 ·exact h
structure R0 (w W:World):Prop where
 res:W.heap[w.heap.size]?=some (.cells #[.int .i64 0,.int .i64 0] 24 (0,0))
 bel:Below w.heap.size w W
theorem R0.on {w W W':World} (h:R0 w W) (hb:Below W.heap.size W W'):R0 w W':=⟨(hb.block _ (lt_of_block h.res)).trans h.res,h.bel.trans (hb.mono (by have:=lt_of_block h.res;omega))⟩
theorem R0.drew {w W:World} (h:R0 w W) (n:Nat):R0 w (W.drewN n):=⟨h.res,below_drewN h.bel n⟩
theorem bstr_mid {Bd top low:List UInt8} (h:Bd=top++47 :: low):∀q,(bstr Bd)[top.length]'q=47:=fun q=>by
 have hk:top.length<Bd.length:=by rw [h];simp
 rw [bstr_at hk q,getD_get hk]
 simp [h]
theorem R0.cells {w W:World} (h:R0 w W):W.cell? ⟨w.heap.size,0,none⟩=some (.int .i64 0)∧W.cell? ⟨w.heap.size,1,none⟩=some (.int .i64 0)∧W.frozen? ⟨w.heap.size,0,none⟩=false∧W.frozen? ⟨w.heap.size,1,none⟩=false :=
 ⟨by rw [Lib.cell_of_heap h.res];rfl,by rw [Lib.cell_of_heap h.res];rfl,blk_free h.res 0,blk_free h.res 1⟩
theorem R0.fin {w W:World} (h:R0 w W) (a b:Value):((W.setCell ⟨w.heap.size,0,none⟩ a).setCell ⟨w.heap.size,1,none⟩ b).heap[w.heap.size]?=some (.cells #[a,b] 24 (0,0))∧Below w.heap.size w ((W.setCell ⟨w.heap.size,0,none⟩ a).setCell ⟨w.heap.size,1,none⟩ b) :=
 ⟨two_set h.res a b,(h.bel.setCell (Nat.le_refl _) _).setCell (Nat.le_refl _) _⟩
set_option maxRecDepth 100000 in
set_option maxHeartbeats 16000000 in
theorem rp_nil_one (X:List UInt8) (w:World) (hn:X.length≤1099511627776) (hX:X≠sp.over) (hXe:X = []) (h47:(47:UInt8)∉bodyOf X) (hc:Cut X (bodyOf X) [49] false):Calls Tryz.prog 98 #[.string (bstr X)] w fun e w'=>FracIs X e∧Below w.heap.size w w':=by
 have hs:((bstr X).toList==[111,118,101,114])=false:=str_ne hX
 have HX:=Lib.hid hX;have HCUT:=Lib.hid hc
 have e1:(bstr X).toList.isEmpty=true:=by rw [hXe,Lib.toList_data];rfl
 have HNEG:Hid (¬X.head?=some 45):=Lib.hid (by rw [hXe];simp)
 have hbx:bstr X=bstr (bodyOf X):=by rw [hXe];rfl
 obtain ⟨Bd,hB⟩:∃Bd,Bd=bodyOf X:=⟨_,rfl⟩
 have hlb:Bd.length≤1099511627776:=by rw [hB];exact body_len hn
 rw [←hB] at hbx h47 HCUT
 rw [hbx]
 rw [hbx] at hs e1
 have hsz:(bstr Bd).size=Bd.length:=bstr_size Bd
 have HLB:=Lib.hid hlb
 have H0:Hid (R0 w (w.alloc (.cells #[.int .i64 0,.int .i64 0] 24))):=Lib.hid ⟨heap_alloc_at _ _,below_new w _⟩
 have HLT:Hid (Bd.length≤1099511627776):=Lib.hid hlb
 have HLL:Hid (([49]:List UInt8).length≤1099511627776):=Lib.hid (by simp)
 have H47:=Lib.hid h47
 clear hn hX hc hXe hB hlb h47
 go_enter Tryz.func98,Tryz.ntmps98
 go_wp2
 go_loopw [6,7,8,31] (fun a b c i wr=>a=.string (bstr Bd)∧b=.string ⟨#[49]⟩∧c=.bool false∧∃k:Nat,k≤Bd.length∧i=.int .i64 k∧wr=w.alloc (.cells #[.int .i64 0,.int .i64 0] 24)) (fun _ _ _ i _=>Bd.length-(intOf i).toNat)
 case atStart=>exact ⟨rfl,rfl,rfl,0,Nat.zero_le _,rfl,rfl⟩
 case round =>
  obtain ⟨rfl,rfl,rfl,k,hk,rfl,rfl⟩:=hrel
  have hkb:(k:Int)≤1099511627776:=by have:=HLT.out;omega
  by_cases hkl:k<Bd.length
  ·have t0:decide ((k:Int)<(Bd.length:Int))=true:=by simp;omega
   have hat:=bstr_at hkl
   have hne:Bd.getD k 0≠47:=fun e=>H47.out (by rw [←e,getD_get hkl];exact List.getElem_mem _)
   generalize Bd.getD k 0=K at hat hne
   have t47:((K.toNat:Int)==47)=false:=u8ne K 47 hne
   go_wp2
   exact ⟨⟨rfl,rfl,rfl,k+1,by omega,by go_num,trivial⟩,by simp [intOf];omega⟩
  ·have t0:decide ((k:Int)<(Bd.length:Int))=false:=by simp;omega
   have HC1:=Lib.hid (fun W=>count_any Bd W HLT.out)
   have HC2:Hid (∀W,Calls Tryz.prog 126 #[.string ⟨#[49]⟩] W fun e w'=>CountIs [49] e∧Below W.heap.size W w'):=Lib.hid (fun W=>count_any [49] W HLL.out)
   go_wp2_with (first
    | (have hgd:=HC1;clear hgd;go_at_call 126;refine (HC1.out _).mono ?_;rintro e w1 ⟨⟨v1,ok1,rfl,k1⟩,hb1⟩;refine Hid.out ?_))
   refine Lib.hid ?_
   have K1:=Lib.hid k1;have H1:=Lib.hid (H0.out.on hb1)
   clear k1 hb1 HC1
   go_wp2_with (first
    | (go_at_call 126;refine (HC2.out _).mono ?_;rintro e w2 ⟨⟨v2,ok2,rfl,k2⟩,hb2⟩;refine Hid.out ?_))
   refine Lib.hid ?_
   have K2:=Lib.hid k2;have H2:=Lib.hid (H1.out.on hb2)
   clear k2 hb2 HC2
   cases ok1 with
   | false =>
    have HF:=Lib.hid (rfrac_err HX.out HCUT.out K1.out K2.out (Or.inl rfl))
    go_wp2_with (first
     | (go_at_call 125;refine (over_any _).mono ?_;rintro e w3 ⟨rfl,hb3⟩;have H3:=Lib.hid (H2.out.on hb3);obtain ⟨d0,d1,z0,z1⟩:=H3.out.cells;clear hb3))
    exact ret_frac rfl rfl rfl (H3.out.fin _ _).1 ⟨HF.out,(H3.out.fin _ _).2⟩
   | true =>
    cases ok2 with
    | false =>
     have HF:=Lib.hid (rfrac_err HX.out HCUT.out K1.out K2.out (Or.inr (Or.inl rfl)))
     go_wp2_with (first
      | (go_at_call 125;refine (over_any _).mono ?_;rintro e w3 ⟨rfl,hb3⟩;have H3:=Lib.hid (H2.out.on hb3);obtain ⟨d0,d1,z0,z1⟩:=H3.out.cells;clear hb3))
     exact ret_frac rfl rfl rfl (H3.out.fin _ _).1 ⟨HF.out,(H3.out.fin _ _).2⟩
    | true =>
     have hr1:=K1.out.1.2
     have hr2:=K2.out.1.2
     have hp1:0≤v1:=by have:=K1.out.2;rw [if_pos rfl] at this;exact this.2
     have hp2:0≤v2:=by have:=K2.out.2;rw [if_pos rfl] at this;exact this.2
     have hsg:sgn X v1=v1:=by unfold sgn;rw [if_neg HNEG.out]
     by_cases hm:sp.MayP (v1) v2
     ·have HF:=Lib.hid (rfrac_ok HX.out HCUT.out K1.out K2.out (fun h=>by cases h) (fun h=>absurd h HNEG.out) (by rw [hsg];exact hm))
      rw [hsg] at HF
      have q1:=mayB_yes hm
      clear hm
      go_wp2_with (first
       | (go_at_call 114;refine (rmay_any (v1) v2 _ ⟨by omega,by omega⟩ ⟨by omega,by omega⟩).mono ?_;rintro e w3 ⟨rfl,hb3⟩;have HP2:=Lib.hid ((PF.new H2.out.bel H2.out.res (v1) v2).on hb3);obtain ⟨r0,r1,k0,k1,y0,y1⟩:=HP2.out.cells;clear hb3))
      exact ret_frac rfl rfl rfl (HP2.out.fin _ _).1 ⟨HF.out,(HP2.out.fin _ _).2⟩
     ·have HF:=Lib.hid (rfrac_err HX.out HCUT.out K1.out K2.out (Or.inr (Or.inr (Or.inr (Or.inr (by rw [hsg];exact hm))))))
      have q1:=mayB_no hm
      clear hm
      go_wp2_with (first
       | (go_at_call 114;refine (rmay_any (v1) v2 _ ⟨by omega,by omega⟩ ⟨by omega,by omega⟩).mono ?_;rintro e w3 ⟨rfl,hb3⟩;have HP2:=Lib.hid ((PF.new H2.out.bel H2.out.res (v1) v2).on hb3);clear hb3)
       | (go_at_call 125;refine (over_any _).mono ?_;rintro e w4 ⟨rfl,hb4⟩;have HP3:=Lib.hid (HP2.out.on hb4);obtain ⟨r0,r1,k0,k1,y0,y1⟩:=HP3.out.cells;clear hb4))
      exact ret_frac rfl rfl rfl (HP3.out.fin _ _).1 ⟨HF.out,(HP3.out.fin _ _).2⟩
set_option maxRecDepth 100000 in
set_option maxHeartbeats 16000000 in
theorem rp_nil_two (X:List UInt8) (w:World) (hn:X.length≤1099511627776) (hX:X≠sp.over) (hXe:X = []) (top low:List UInt8) (hBd:bodyOf X=top++47 :: low) (h47:(47:UInt8)∉top) (hc:Cut X top low true):Calls Tryz.prog 98 #[.string (bstr X)] w fun e w'=>FracIs X e∧Below w.heap.size w w':=by
 have hs:((bstr X).toList==[111,118,101,114])=false:=str_ne hX
 have HX:=Lib.hid hX;have HCUT:=Lib.hid hc
 have e1:(bstr X).toList.isEmpty=true:=by rw [hXe,Lib.toList_data];rfl
 have HNEG:Hid (¬X.head?=some 45):=Lib.hid (by rw [hXe];simp)
 have hbx:bstr X=bstr (bodyOf X):=by rw [hXe];rfl
 obtain ⟨Bd,hB⟩:∃Bd,Bd=bodyOf X:=⟨_,rfl⟩
 have hlb:Bd.length≤1099511627776:=by rw [hB];exact body_len hn
 rw [←hB] at hbx hBd
 rw [hbx]
 rw [hbx] at hs e1
 have hsz:(bstr Bd).size=Bd.length:=bstr_size Bd
 have HLB:=Lib.hid hlb
 have H0:Hid (R0 w (w.alloc (.cells #[.int .i64 0,.int .i64 0] 24))):=Lib.hid ⟨heap_alloc_at _ _,below_new w _⟩
 have hlen:=congrArg List.length hBd
 rw [List.length_append,List.length_cons] at hlen
 have HLT:Hid (top.length≤1099511627776):=Lib.hid (by omega)
 have HLL:Hid (low.length≤1099511627776):=Lib.hid (by omega)
 have H47:=Lib.hid h47;have HBD:=Lib.hid hBd;have HLEN:=Lib.hid hlen
 clear hn hX hc hXe hB hlb h47 hBd hlen
 go_enter Tryz.func98,Tryz.ntmps98
 go_wp2
 go_loopw [6,7,8,31] (fun a b c i wr=>a=.string (bstr Bd)∧b=.string ⟨#[49]⟩∧c=.bool false∧∃k:Nat,k≤top.length∧i=.int .i64 k∧wr=w.alloc (.cells #[.int .i64 0,.int .i64 0] 24)) (fun _ _ _ i _=>Bd.length-(intOf i).toNat)
 case atStart=>exact ⟨rfl,rfl,rfl,0,Nat.zero_le _,rfl,rfl⟩
 case round =>
  obtain ⟨rfl,rfl,rfl,k,hk,rfl,rfl⟩:=hrel
  have hkl:k<Bd.length:=by have:=HLEN.out;omega
  have hkb:(k:Int)≤1099511627776:=by have:=HLT.out;omega
  have t0:decide ((k:Int)<(Bd.length:Int))=true:=by simp;omega
  by_cases hke:k=top.length
  ·have ei2:∀q,(bstr Bd)[k]'q=47:=by rw [hke];exact bstr_mid HBD.out
   have ex1:(bstr Bd).extract 0 k=bstr top:=by rw [ext_take Bd k (by omega),HBD.out,hke];simp
   have ex2:(bstr Bd).extract (k+1) Bd.length=bstr low:=by rw [ext_drop Bd (k+1) _ (by omega) rfl,HBD.out,hke];simp
   have hk1:(k:Int)≤(Bd.length:Int):=by omega
   have hk2:(k:Int)+1≤(Bd.length:Int):=by omega
   clear hke hk
   go_wp2
   go_quiet (fail)
   have HC1:=Lib.hid (fun W=>count_any top W HLT.out)
   have HC2:Hid (∀W,Calls Tryz.prog 126 #[.string (bstr low)] W fun e w'=>CountIs low e∧Below W.heap.size W w'):=Lib.hid (fun W=>count_any low W HLL.out)
   go_wp2_with (first
    | (have hgd:=HC1;clear hgd;go_at_call 126;refine (HC1.out _).mono ?_;rintro e w1 ⟨⟨v1,ok1,rfl,k1⟩,hb1⟩;refine Hid.out ?_))
   refine Lib.hid ?_
   have K1:=Lib.hid k1;have H1:=Lib.hid ((H0.out.drew _).on hb1)
   clear k1 hb1 HC1
   go_wp2_with (first
    | (go_at_call 126;refine (HC2.out _).mono ?_;rintro e w2 ⟨⟨v2,ok2,rfl,k2⟩,hb2⟩;refine Hid.out ?_))
   refine Lib.hid ?_
   have K2:=Lib.hid k2;have H2:=Lib.hid (H1.out.on hb2)
   clear k2 hb2 HC2
   cases ok1 with
   | false =>
    have HF:=Lib.hid (rfrac_err HX.out HCUT.out K1.out K2.out (Or.inl rfl))
    go_wp2_with (first
     | (go_at_call 125;refine (over_any _).mono ?_;rintro e w3 ⟨rfl,hb3⟩;have H3:=Lib.hid (H2.out.on hb3);obtain ⟨d0,d1,z0,z1⟩:=H3.out.cells;clear hb3))
    exact ret_frac rfl rfl rfl (H3.out.fin _ _).1 ⟨HF.out,(H3.out.fin _ _).2⟩
   | true =>
    cases ok2 with
    | false =>
     have HF:=Lib.hid (rfrac_err HX.out HCUT.out K1.out K2.out (Or.inr (Or.inl rfl)))
     go_wp2_with (first
      | (go_at_call 125;refine (over_any _).mono ?_;rintro e w3 ⟨rfl,hb3⟩;have H3:=Lib.hid (H2.out.on hb3);obtain ⟨d0,d1,z0,z1⟩:=H3.out.cells;clear hb3))
     exact ret_frac rfl rfl rfl (H3.out.fin _ _).1 ⟨HF.out,(H3.out.fin _ _).2⟩
    | true =>
     have hr1:=K1.out.1.2
     have hr2:=K2.out.1.2
     have hp1:0≤v1:=by have:=K1.out.2;rw [if_pos rfl] at this;exact this.2
     have hp2:0≤v2:=by have:=K2.out.2;rw [if_pos rfl] at this;exact this.2
     have hsg:sgn X v1=v1:=by unfold sgn;rw [if_neg HNEG.out]
     by_cases h2:v2<2
     ·have HF:=Lib.hid (rfrac_err HX.out HCUT.out K1.out K2.out (Or.inr (Or.inr (Or.inl ⟨rfl,h2⟩))))
      have t2:decide (v2<2)=true:=by simpa using h2
      go_wp2_with (first
       | (go_at_call 125;refine (over_any _).mono ?_;rintro e w3 ⟨rfl,hb3⟩;have H3:=Lib.hid (H2.out.on hb3);obtain ⟨d0,d1,z0,z1⟩:=H3.out.cells;clear hb3))
      exact ret_frac rfl rfl rfl (H3.out.fin _ _).1 ⟨HF.out,(H3.out.fin _ _).2⟩
     ·have t2:decide (v2<2)=false:=by simpa using h2
      by_cases hm:sp.MayP (v1) v2
      ·have HF:=Lib.hid (rfrac_ok HX.out HCUT.out K1.out K2.out (fun _=>by omega) (fun h=>absurd h HNEG.out) (by rw [hsg];exact hm))
       rw [hsg] at HF
       have q1:=mayB_yes hm
       clear hm
       go_wp2_with (first
        | (go_at_call 114;refine (rmay_any (v1) v2 _ ⟨by omega,by omega⟩ ⟨by omega,by omega⟩).mono ?_;rintro e w3 ⟨rfl,hb3⟩;have HP2:=Lib.hid ((PF.new H2.out.bel H2.out.res (v1) v2).on hb3);obtain ⟨r0,r1,k0,k1,y0,y1⟩:=HP2.out.cells;clear hb3))
       exact ret_frac rfl rfl rfl (HP2.out.fin _ _).1 ⟨HF.out,(HP2.out.fin _ _).2⟩
      ·have HF:=Lib.hid (rfrac_err HX.out HCUT.out K1.out K2.out (Or.inr (Or.inr (Or.inr (Or.inr (by rw [hsg];exact hm))))))
       have q1:=mayB_no hm
       clear hm
       go_wp2_with (first
        | (go_at_call 114;refine (rmay_any (v1) v2 _ ⟨by omega,by omega⟩ ⟨by omega,by omega⟩).mono ?_;rintro e w3 ⟨rfl,hb3⟩;have HP2:=Lib.hid ((PF.new H2.out.bel H2.out.res (v1) v2).on hb3);clear hb3)
        | (go_at_call 125;refine (over_any _).mono ?_;rintro e w4 ⟨rfl,hb4⟩;have HP3:=Lib.hid (HP2.out.on hb4);obtain ⟨r0,r1,k0,k1,y0,y1⟩:=HP3.out.cells;clear hb4))
       exact ret_frac rfl rfl rfl (HP3.out.fin _ _).1 ⟨HF.out,(HP3.out.fin _ _).2⟩
  ·have ht:k<top.length:=by omega
   have hat:=bstr_at hkl
   have hne:Bd.getD k 0≠47:=fun e=>H47.out (by
    have h1:Bd.getD k 0=top[k]:=by rw [getD_get hkl];simp only [HBD.out];rw [List.getElem_append_left ht]
    rw [←e,h1]
    exact List.getElem_mem _)
   generalize Bd.getD k 0=K at hat hne
   have t47:((K.toNat:Int)==47)=false:=u8ne K 47 hne
   go_wp2
   exact ⟨⟨rfl,rfl,rfl,k+1,by omega,by go_num,trivial⟩,by simp [intOf];omega⟩
set_option maxRecDepth 100000 in
set_option maxHeartbeats 16000000 in
theorem rp_pos_one (X:List UInt8) (c:UInt8) (r:List UInt8) (h45:c≠45) (w:World) (hn:X.length≤1099511627776) (hX:X≠sp.over) (hXe:X=c :: r) (h47:(47:UInt8)∉bodyOf X) (hc:Cut X (bodyOf X) [49] false):Calls Tryz.prog 98 #[.string (bstr X)] w fun e w'=>FracIs X e∧Below w.heap.size w w':=by
 have hs:((bstr X).toList==[111,118,101,114])=false:=str_ne hX
 have HX:=Lib.hid hX;have HCUT:=Lib.hid hc
 have e1:(bstr X).toList.isEmpty=false:=by rw [hXe,Lib.toList_data,bstr_toList];rfl
 have e0:0<(bstr X).size:=by rw [bstr_size,hXe];simp
 have ei:∀p,(bstr X)[0]'p=c:=by rw [hXe];exact fun p=>rfl
 have t45:((c.toNat:Int)==45)=false:=u8ne c 45 h45
 have HNEG:Hid (¬X.head?=some 45):=Lib.hid (by rw [hXe];simpa using h45)
 have hbx:bstr X=bstr (bodyOf X):=by unfold bodyOf;rw [if_neg HNEG.out]
 obtain ⟨Bd,hB⟩:∃Bd,Bd=bodyOf X:=⟨_,rfl⟩
 have hlb:Bd.length≤1099511627776:=by rw [hB];exact body_len hn
 rw [←hB] at hbx h47 HCUT
 rw [hbx]
 rw [hbx] at hs e1 e0 ei
 have hsz:(bstr Bd).size=Bd.length:=bstr_size Bd
 have HLB:=Lib.hid hlb
 have H0:Hid (R0 w (w.alloc (.cells #[.int .i64 0,.int .i64 0] 24))):=Lib.hid ⟨heap_alloc_at _ _,below_new w _⟩
 have HLT:Hid (Bd.length≤1099511627776):=Lib.hid hlb
 have HLL:Hid (([49]:List UInt8).length≤1099511627776):=Lib.hid (by simp)
 have H47:=Lib.hid h47
 clear hn hX hc hXe hB hlb h47
 go_enter Tryz.func98,Tryz.ntmps98
 go_wp2
 go_loopw [6,7,8,31] (fun a b c i wr=>a=.string (bstr Bd)∧b=.string ⟨#[49]⟩∧c=.bool false∧∃k:Nat,k≤Bd.length∧i=.int .i64 k∧wr=w.alloc (.cells #[.int .i64 0,.int .i64 0] 24)) (fun _ _ _ i _=>Bd.length-(intOf i).toNat)
 case atStart=>exact ⟨rfl,rfl,rfl,0,Nat.zero_le _,rfl,rfl⟩
 case round =>
  obtain ⟨rfl,rfl,rfl,k,hk,rfl,rfl⟩:=hrel
  have hkb:(k:Int)≤1099511627776:=by have:=HLT.out;omega
  by_cases hkl:k<Bd.length
  ·have t0:decide ((k:Int)<(Bd.length:Int))=true:=by simp;omega
   have hat:=bstr_at hkl
   have hne:Bd.getD k 0≠47:=fun e=>H47.out (by rw [←e,getD_get hkl];exact List.getElem_mem _)
   generalize Bd.getD k 0=K at hat hne
   have t47:((K.toNat:Int)==47)=false:=u8ne K 47 hne
   go_wp2
   exact ⟨⟨rfl,rfl,rfl,k+1,by omega,by go_num,trivial⟩,by simp [intOf];omega⟩
  ·have t0:decide ((k:Int)<(Bd.length:Int))=false:=by simp;omega
   have HC1:=Lib.hid (fun W=>count_any Bd W HLT.out)
   have HC2:Hid (∀W,Calls Tryz.prog 126 #[.string ⟨#[49]⟩] W fun e w'=>CountIs [49] e∧Below W.heap.size W w'):=Lib.hid (fun W=>count_any [49] W HLL.out)
   go_wp2_with (first
    | (have hgd:=HC1;clear hgd;go_at_call 126;refine (HC1.out _).mono ?_;rintro e w1 ⟨⟨v1,ok1,rfl,k1⟩,hb1⟩;refine Hid.out ?_))
   refine Lib.hid ?_
   have K1:=Lib.hid k1;have H1:=Lib.hid (H0.out.on hb1)
   clear k1 hb1 HC1
   go_wp2_with (first
    | (go_at_call 126;refine (HC2.out _).mono ?_;rintro e w2 ⟨⟨v2,ok2,rfl,k2⟩,hb2⟩;refine Hid.out ?_))
   refine Lib.hid ?_
   have K2:=Lib.hid k2;have H2:=Lib.hid (H1.out.on hb2)
   clear k2 hb2 HC2
   cases ok1 with
   | false =>
    have HF:=Lib.hid (rfrac_err HX.out HCUT.out K1.out K2.out (Or.inl rfl))
    go_wp2_with (first
     | (go_at_call 125;refine (over_any _).mono ?_;rintro e w3 ⟨rfl,hb3⟩;have H3:=Lib.hid (H2.out.on hb3);obtain ⟨d0,d1,z0,z1⟩:=H3.out.cells;clear hb3))
    exact ret_frac rfl rfl rfl (H3.out.fin _ _).1 ⟨HF.out,(H3.out.fin _ _).2⟩
   | true =>
    cases ok2 with
    | false =>
     have HF:=Lib.hid (rfrac_err HX.out HCUT.out K1.out K2.out (Or.inr (Or.inl rfl)))
     go_wp2_with (first
      | (go_at_call 125;refine (over_any _).mono ?_;rintro e w3 ⟨rfl,hb3⟩;have H3:=Lib.hid (H2.out.on hb3);obtain ⟨d0,d1,z0,z1⟩:=H3.out.cells;clear hb3))
     exact ret_frac rfl rfl rfl (H3.out.fin _ _).1 ⟨HF.out,(H3.out.fin _ _).2⟩
    | true =>
     have hr1:=K1.out.1.2
     have hr2:=K2.out.1.2
     have hp1:0≤v1:=by have:=K1.out.2;rw [if_pos rfl] at this;exact this.2
     have hp2:0≤v2:=by have:=K2.out.2;rw [if_pos rfl] at this;exact this.2
     have hsg:sgn X v1=v1:=by unfold sgn;rw [if_neg HNEG.out]
     by_cases hm:sp.MayP (v1) v2
     ·have HF:=Lib.hid (rfrac_ok HX.out HCUT.out K1.out K2.out (fun h=>by cases h) (fun h=>absurd h HNEG.out) (by rw [hsg];exact hm))
      rw [hsg] at HF
      have q1:=mayB_yes hm
      clear hm
      go_wp2_with (first
       | (go_at_call 114;refine (rmay_any (v1) v2 _ ⟨by omega,by omega⟩ ⟨by omega,by omega⟩).mono ?_;rintro e w3 ⟨rfl,hb3⟩;have HP2:=Lib.hid ((PF.new H2.out.bel H2.out.res (v1) v2).on hb3);obtain ⟨r0,r1,k0,k1,y0,y1⟩:=HP2.out.cells;clear hb3))
      exact ret_frac rfl rfl rfl (HP2.out.fin _ _).1 ⟨HF.out,(HP2.out.fin _ _).2⟩
     ·have HF:=Lib.hid (rfrac_err HX.out HCUT.out K1.out K2.out (Or.inr (Or.inr (Or.inr (Or.inr (by rw [hsg];exact hm))))))
      have q1:=mayB_no hm
      clear hm
      go_wp2_with (first
       | (go_at_call 114;refine (rmay_any (v1) v2 _ ⟨by omega,by omega⟩ ⟨by omega,by omega⟩).mono ?_;rintro e w3 ⟨rfl,hb3⟩;have HP2:=Lib.hid ((PF.new H2.out.bel H2.out.res (v1) v2).on hb3);clear hb3)
       | (go_at_call 125;refine (over_any _).mono ?_;rintro e w4 ⟨rfl,hb4⟩;have HP3:=Lib.hid (HP2.out.on hb4);obtain ⟨r0,r1,k0,k1,y0,y1⟩:=HP3.out.cells;clear hb4))
      exact ret_frac rfl rfl rfl (HP3.out.fin _ _).1 ⟨HF.out,(HP3.out.fin _ _).2⟩
set_option maxRecDepth 100000 in
set_option maxHeartbeats 16000000 in
theorem rp_pos_two (X:List UInt8) (c:UInt8) (r:List UInt8) (h45:c≠45) (w:World) (hn:X.length≤1099511627776) (hX:X≠sp.over) (hXe:X=c :: r) (top low:List UInt8) (hBd:bodyOf X=top++47 :: low) (h47:(47:UInt8)∉top) (hc:Cut X top low true):Calls Tryz.prog 98 #[.string (bstr X)] w fun e w'=>FracIs X e∧Below w.heap.size w w':=by
 have hs:((bstr X).toList==[111,118,101,114])=false:=str_ne hX
 have HX:=Lib.hid hX;have HCUT:=Lib.hid hc
 have e1:(bstr X).toList.isEmpty=false:=by rw [hXe,Lib.toList_data,bstr_toList];rfl
 have e0:0<(bstr X).size:=by rw [bstr_size,hXe];simp
 have ei:∀p,(bstr X)[0]'p=c:=by rw [hXe];exact fun p=>rfl
 have t45:((c.toNat:Int)==45)=false:=u8ne c 45 h45
 have HNEG:Hid (¬X.head?=some 45):=Lib.hid (by rw [hXe];simpa using h45)
 have hbx:bstr X=bstr (bodyOf X):=by unfold bodyOf;rw [if_neg HNEG.out]
 obtain ⟨Bd,hB⟩:∃Bd,Bd=bodyOf X:=⟨_,rfl⟩
 have hlb:Bd.length≤1099511627776:=by rw [hB];exact body_len hn
 rw [←hB] at hbx hBd
 rw [hbx]
 rw [hbx] at hs e1 e0 ei
 have hsz:(bstr Bd).size=Bd.length:=bstr_size Bd
 have HLB:=Lib.hid hlb
 have H0:Hid (R0 w (w.alloc (.cells #[.int .i64 0,.int .i64 0] 24))):=Lib.hid ⟨heap_alloc_at _ _,below_new w _⟩
 have hlen:=congrArg List.length hBd
 rw [List.length_append,List.length_cons] at hlen
 have HLT:Hid (top.length≤1099511627776):=Lib.hid (by omega)
 have HLL:Hid (low.length≤1099511627776):=Lib.hid (by omega)
 have H47:=Lib.hid h47;have HBD:=Lib.hid hBd;have HLEN:=Lib.hid hlen
 clear hn hX hc hXe hB hlb h47 hBd hlen
 go_enter Tryz.func98,Tryz.ntmps98
 go_wp2
 go_loopw [6,7,8,31] (fun a b c i wr=>a=.string (bstr Bd)∧b=.string ⟨#[49]⟩∧c=.bool false∧∃k:Nat,k≤top.length∧i=.int .i64 k∧wr=w.alloc (.cells #[.int .i64 0,.int .i64 0] 24)) (fun _ _ _ i _=>Bd.length-(intOf i).toNat)
 case atStart=>exact ⟨rfl,rfl,rfl,0,Nat.zero_le _,rfl,rfl⟩
 case round =>
  obtain ⟨rfl,rfl,rfl,k,hk,rfl,rfl⟩:=hrel
  have hkl:k<Bd.length:=by have:=HLEN.out;omega
  have hkb:(k:Int)≤1099511627776:=by have:=HLT.out;omega
  have t0:decide ((k:Int)<(Bd.length:Int))=true:=by simp;omega
  by_cases hke:k=top.length
  ·have ei2:∀q,(bstr Bd)[k]'q=47:=by rw [hke];exact bstr_mid HBD.out
   have ex1:(bstr Bd).extract 0 k=bstr top:=by rw [ext_take Bd k (by omega),HBD.out,hke];simp
   have ex2:(bstr Bd).extract (k+1) Bd.length=bstr low:=by rw [ext_drop Bd (k+1) _ (by omega) rfl,HBD.out,hke];simp
   have hk1:(k:Int)≤(Bd.length:Int):=by omega
   have hk2:(k:Int)+1≤(Bd.length:Int):=by omega
   clear hke hk
   go_wp2
   go_quiet (fail)
   have HC1:=Lib.hid (fun W=>count_any top W HLT.out)
   have HC2:Hid (∀W,Calls Tryz.prog 126 #[.string (bstr low)] W fun e w'=>CountIs low e∧Below W.heap.size W w'):=Lib.hid (fun W=>count_any low W HLL.out)
   go_wp2_with (first
    | (have hgd:=HC1;clear hgd;go_at_call 126;refine (HC1.out _).mono ?_;rintro e w1 ⟨⟨v1,ok1,rfl,k1⟩,hb1⟩;refine Hid.out ?_))
   refine Lib.hid ?_
   have K1:=Lib.hid k1;have H1:=Lib.hid ((H0.out.drew _).on hb1)
   clear k1 hb1 HC1
   go_wp2_with (first
    | (go_at_call 126;refine (HC2.out _).mono ?_;rintro e w2 ⟨⟨v2,ok2,rfl,k2⟩,hb2⟩;refine Hid.out ?_))
   refine Lib.hid ?_
   have K2:=Lib.hid k2;have H2:=Lib.hid (H1.out.on hb2)
   clear k2 hb2 HC2
   cases ok1 with
   | false =>
    have HF:=Lib.hid (rfrac_err HX.out HCUT.out K1.out K2.out (Or.inl rfl))
    go_wp2_with (first
     | (go_at_call 125;refine (over_any _).mono ?_;rintro e w3 ⟨rfl,hb3⟩;have H3:=Lib.hid (H2.out.on hb3);obtain ⟨d0,d1,z0,z1⟩:=H3.out.cells;clear hb3))
    exact ret_frac rfl rfl rfl (H3.out.fin _ _).1 ⟨HF.out,(H3.out.fin _ _).2⟩
   | true =>
    cases ok2 with
    | false =>
     have HF:=Lib.hid (rfrac_err HX.out HCUT.out K1.out K2.out (Or.inr (Or.inl rfl)))
     go_wp2_with (first
      | (go_at_call 125;refine (over_any _).mono ?_;rintro e w3 ⟨rfl,hb3⟩;have H3:=Lib.hid (H2.out.on hb3);obtain ⟨d0,d1,z0,z1⟩:=H3.out.cells;clear hb3))
     exact ret_frac rfl rfl rfl (H3.out.fin _ _).1 ⟨HF.out,(H3.out.fin _ _).2⟩
    | true =>
     have hr1:=K1.out.1.2
     have hr2:=K2.out.1.2
     have hp1:0≤v1:=by have:=K1.out.2;rw [if_pos rfl] at this;exact this.2
     have hp2:0≤v2:=by have:=K2.out.2;rw [if_pos rfl] at this;exact this.2
     have hsg:sgn X v1=v1:=by unfold sgn;rw [if_neg HNEG.out]
     by_cases h2:v2<2
     ·have HF:=Lib.hid (rfrac_err HX.out HCUT.out K1.out K2.out (Or.inr (Or.inr (Or.inl ⟨rfl,h2⟩))))
      have t2:decide (v2<2)=true:=by simpa using h2
      go_wp2_with (first
       | (go_at_call 125;refine (over_any _).mono ?_;rintro e w3 ⟨rfl,hb3⟩;have H3:=Lib.hid (H2.out.on hb3);obtain ⟨d0,d1,z0,z1⟩:=H3.out.cells;clear hb3))
      exact ret_frac rfl rfl rfl (H3.out.fin _ _).1 ⟨HF.out,(H3.out.fin _ _).2⟩
     ·have t2:decide (v2<2)=false:=by simpa using h2
      by_cases hm:sp.MayP (v1) v2
      ·have HF:=Lib.hid (rfrac_ok HX.out HCUT.out K1.out K2.out (fun _=>by omega) (fun h=>absurd h HNEG.out) (by rw [hsg];exact hm))
       rw [hsg] at HF
       have q1:=mayB_yes hm
       clear hm
       go_wp2_with (first
        | (go_at_call 114;refine (rmay_any (v1) v2 _ ⟨by omega,by omega⟩ ⟨by omega,by omega⟩).mono ?_;rintro e w3 ⟨rfl,hb3⟩;have HP2:=Lib.hid ((PF.new H2.out.bel H2.out.res (v1) v2).on hb3);obtain ⟨r0,r1,k0,k1,y0,y1⟩:=HP2.out.cells;clear hb3))
       exact ret_frac rfl rfl rfl (HP2.out.fin _ _).1 ⟨HF.out,(HP2.out.fin _ _).2⟩
      ·have HF:=Lib.hid (rfrac_err HX.out HCUT.out K1.out K2.out (Or.inr (Or.inr (Or.inr (Or.inr (by rw [hsg];exact hm))))))
       have q1:=mayB_no hm
       clear hm
       go_wp2_with (first
        | (go_at_call 114;refine (rmay_any (v1) v2 _ ⟨by omega,by omega⟩ ⟨by omega,by omega⟩).mono ?_;rintro e w3 ⟨rfl,hb3⟩;have HP2:=Lib.hid ((PF.new H2.out.bel H2.out.res (v1) v2).on hb3);clear hb3)
        | (go_at_call 125;refine (over_any _).mono ?_;rintro e w4 ⟨rfl,hb4⟩;have HP3:=Lib.hid (HP2.out.on hb4);obtain ⟨r0,r1,k0,k1,y0,y1⟩:=HP3.out.cells;clear hb4))
       exact ret_frac rfl rfl rfl (HP3.out.fin _ _).1 ⟨HF.out,(HP3.out.fin _ _).2⟩
  ·have ht:k<top.length:=by omega
   have hat:=bstr_at hkl
   have hne:Bd.getD k 0≠47:=fun e=>H47.out (by
    have h1:Bd.getD k 0=top[k]:=by rw [getD_get hkl];simp only [HBD.out];rw [List.getElem_append_left ht]
    rw [←e,h1]
    exact List.getElem_mem _)
   generalize Bd.getD k 0=K at hat hne
   have t47:((K.toNat:Int)==47)=false:=u8ne K 47 hne
   go_wp2
   exact ⟨⟨rfl,rfl,rfl,k+1,by omega,by go_num,trivial⟩,by simp [intOf];omega⟩
set_option maxRecDepth 100000 in
set_option maxHeartbeats 16000000 in
theorem rp_neg_one (X:List UInt8) (r:List UInt8) (w:World) (hn:X.length≤1099511627776) (hX:X≠sp.over) (hXe:X=45 :: r) (h47:(47:UInt8)∉bodyOf X) (hc:Cut X (bodyOf X) [49] false):Calls Tryz.prog 98 #[.string (bstr X)] w fun e w'=>FracIs X e∧Below w.heap.size w w':=by
 have hs:((bstr X).toList==[111,118,101,114])=false:=str_ne hX
 have HX:=Lib.hid hX;have HCUT:=Lib.hid hc
 have e1:(bstr X).toList.isEmpty=false:=by rw [hXe,Lib.toList_data,bstr_toList];rfl
 have e0:0<(bstr X).size:=by rw [bstr_size,hXe];simp
 have ei:∀p,(bstr X)[0]'p=45:=by rw [hXe];exact fun p=>rfl
 have es1:(1:Int)≤(bstr X).size:=by rw [bstr_size,hXe];simp;omega
 have ex:(bstr X).extract 1 (bstr X).size=bstr (bodyOf X):=by rw [hXe];exact ext_drop (45 :: r) 1 _ (by simp) (bstr_size _)
 have HNEG:Hid (X.head?=some 45):=Lib.hid (by rw [hXe];rfl)
 obtain ⟨Bd,hB⟩:∃Bd,Bd=bodyOf X:=⟨_,rfl⟩
 have hlb:Bd.length≤1099511627776:=by rw [hB];exact body_len hn
 rw [←hB] at ex h47 HCUT
 generalize hSX:bstr X=SX at hs e1 e0 ei es1 ex ⊢
 have hsz:(bstr Bd).size=Bd.length:=bstr_size Bd
 have HLB:=Lib.hid hlb
 have H0:Hid (R0 w (w.alloc (.cells #[.int .i64 0,.int .i64 0] 24))):=Lib.hid ⟨heap_alloc_at _ _,below_new w _⟩
 have HLT:Hid (Bd.length≤1099511627776):=Lib.hid hlb
 have HLL:Hid (([49]:List UInt8).length≤1099511627776):=Lib.hid (by simp)
 have H47:=Lib.hid h47
 clear hn hX hc hXe hB hlb h47
 go_enter Tryz.func98,Tryz.ntmps98
 go_wp2
 go_loopw [6,7,8,31] (fun a b c i wr=>a=.string (bstr Bd)∧b=.string ⟨#[49]⟩∧c=.bool false∧∃k:Nat,k≤Bd.length∧i=.int .i64 k∧wr=w.alloc (.cells #[.int .i64 0,.int .i64 0] 24)) (fun _ _ _ i _=>Bd.length-(intOf i).toNat)
 case atStart=>exact ⟨rfl,rfl,rfl,0,Nat.zero_le _,rfl,rfl⟩
 case round =>
  obtain ⟨rfl,rfl,rfl,k,hk,rfl,rfl⟩:=hrel
  have hkb:(k:Int)≤1099511627776:=by have:=HLT.out;omega
  by_cases hkl:k<Bd.length
  ·have t0:decide ((k:Int)<(Bd.length:Int))=true:=by simp;omega
   have hat:=bstr_at hkl
   have hne:Bd.getD k 0≠47:=fun e=>H47.out (by rw [←e,getD_get hkl];exact List.getElem_mem _)
   generalize Bd.getD k 0=K at hat hne
   have t47:((K.toNat:Int)==47)=false:=u8ne K 47 hne
   go_wp2
   exact ⟨⟨rfl,rfl,rfl,k+1,by omega,by go_num,trivial⟩,by simp [intOf];omega⟩
  ·have t0:decide ((k:Int)<(Bd.length:Int))=false:=by simp;omega
   have HC1:=Lib.hid (fun W=>count_any Bd W HLT.out)
   have HC2:Hid (∀W,Calls Tryz.prog 126 #[.string ⟨#[49]⟩] W fun e w'=>CountIs [49] e∧Below W.heap.size W w'):=Lib.hid (fun W=>count_any [49] W HLL.out)
   go_wp2_with (first
    | (have hgd:=HC1;clear hgd;go_at_call 126;refine (HC1.out _).mono ?_;rintro e w1 ⟨⟨v1,ok1,rfl,k1⟩,hb1⟩;refine Hid.out ?_))
   refine Lib.hid ?_
   have K1:=Lib.hid k1;have H1:=Lib.hid (H0.out.on hb1)
   clear k1 hb1 HC1
   go_wp2_with (first
    | (go_at_call 126;refine (HC2.out _).mono ?_;rintro e w2 ⟨⟨v2,ok2,rfl,k2⟩,hb2⟩;refine Hid.out ?_))
   refine Lib.hid ?_
   have K2:=Lib.hid k2;have H2:=Lib.hid (H1.out.on hb2)
   clear k2 hb2 HC2
   cases ok1 with
   | false =>
    have HF:=Lib.hid (rfrac_err HX.out HCUT.out K1.out K2.out (Or.inl rfl))
    go_wp2_with (first
     | (go_at_call 125;refine (over_any _).mono ?_;rintro e w3 ⟨rfl,hb3⟩;have H3:=Lib.hid (H2.out.on hb3);obtain ⟨d0,d1,z0,z1⟩:=H3.out.cells;clear hb3))
    exact ret_frac rfl rfl rfl (H3.out.fin _ _).1 ⟨HF.out,(H3.out.fin _ _).2⟩
   | true =>
    cases ok2 with
    | false =>
     have HF:=Lib.hid (rfrac_err HX.out HCUT.out K1.out K2.out (Or.inr (Or.inl rfl)))
     go_wp2_with (first
      | (go_at_call 125;refine (over_any _).mono ?_;rintro e w3 ⟨rfl,hb3⟩;have H3:=Lib.hid (H2.out.on hb3);obtain ⟨d0,d1,z0,z1⟩:=H3.out.cells;clear hb3))
     exact ret_frac rfl rfl rfl (H3.out.fin _ _).1 ⟨HF.out,(H3.out.fin _ _).2⟩
    | true =>
     have hr1:=K1.out.1.2
     have hr2:=K2.out.1.2
     have hp1:0≤v1:=by have:=K1.out.2;rw [if_pos rfl] at this;exact this.2
     have hp2:0≤v2:=by have:=K2.out.2;rw [if_pos rfl] at this;exact this.2
     have hsg:sgn X v1 = -v1:=by unfold sgn;rw [if_pos HNEG.out]
     by_cases hz:v1=0
     ·have HF:=Lib.hid (rfrac_err HX.out HCUT.out K1.out K2.out (Or.inr (Or.inr (Or.inr (Or.inl ⟨HNEG.out,hz⟩)))))
      have tz:(v1==0)=true:=by simpa using hz
      go_wp2_with (first
       | (go_at_call 125;refine (over_any _).mono ?_;rintro e w3 ⟨rfl,hb3⟩;have H3:=Lib.hid (H2.out.on hb3);obtain ⟨d0,d1,z0,z1⟩:=H3.out.cells;clear hb3))
      exact ret_frac rfl rfl rfl (H3.out.fin _ _).1 ⟨HF.out,(H3.out.fin _ _).2⟩
     ·have tz:(v1==0)=false:=by simpa using hz
      by_cases hm:sp.MayP (-v1) v2
      ·have HF:=Lib.hid (rfrac_ok HX.out HCUT.out K1.out K2.out (fun h=>by cases h) (fun _=>hz) (by rw [hsg];exact hm))
       rw [hsg] at HF
       have q1:=mayB_yes hm
       clear hm
       go_wp2_with (first
        | (go_at_call 114;refine (rmay_any (-v1) v2 _ ⟨by omega,by omega⟩ ⟨by omega,by omega⟩).mono ?_;rintro e w3 ⟨rfl,hb3⟩;have HP2:=Lib.hid ((PF.new H2.out.bel H2.out.res (-v1) v2).on hb3);obtain ⟨r0,r1,k0,k1,y0,y1⟩:=HP2.out.cells;clear hb3))
       exact ret_frac rfl rfl rfl (HP2.out.fin _ _).1 ⟨HF.out,(HP2.out.fin _ _).2⟩
      ·have HF:=Lib.hid (rfrac_err HX.out HCUT.out K1.out K2.out (Or.inr (Or.inr (Or.inr (Or.inr (by rw [hsg];exact hm))))))
       have q1:=mayB_no hm
       clear hm
       go_wp2_with (first
        | (go_at_call 114;refine (rmay_any (-v1) v2 _ ⟨by omega,by omega⟩ ⟨by omega,by omega⟩).mono ?_;rintro e w3 ⟨rfl,hb3⟩;have HP2:=Lib.hid ((PF.new H2.out.bel H2.out.res (-v1) v2).on hb3);clear hb3)
        | (go_at_call 125;refine (over_any _).mono ?_;rintro e w4 ⟨rfl,hb4⟩;have HP3:=Lib.hid (HP2.out.on hb4);obtain ⟨r0,r1,k0,k1,y0,y1⟩:=HP3.out.cells;clear hb4))
       exact ret_frac rfl rfl rfl (HP3.out.fin _ _).1 ⟨HF.out,(HP3.out.fin _ _).2⟩
set_option maxRecDepth 100000 in
set_option maxHeartbeats 16000000 in
theorem rp_neg_two (X:List UInt8) (r:List UInt8) (w:World) (hn:X.length≤1099511627776) (hX:X≠sp.over) (hXe:X=45 :: r) (top low:List UInt8) (hBd:bodyOf X=top++47 :: low) (h47:(47:UInt8)∉top) (hc:Cut X top low true):Calls Tryz.prog 98 #[.string (bstr X)] w fun e w'=>FracIs X e∧Below w.heap.size w w':=by
 have hs:((bstr X).toList==[111,118,101,114])=false:=str_ne hX
 have HX:=Lib.hid hX;have HCUT:=Lib.hid hc
 have e1:(bstr X).toList.isEmpty=false:=by rw [hXe,Lib.toList_data,bstr_toList];rfl
 have e0:0<(bstr X).size:=by rw [bstr_size,hXe];simp
 have ei:∀p,(bstr X)[0]'p=45:=by rw [hXe];exact fun p=>rfl
 have es1:(1:Int)≤(bstr X).size:=by rw [bstr_size,hXe];simp;omega
 have ex:(bstr X).extract 1 (bstr X).size=bstr (bodyOf X):=by rw [hXe];exact ext_drop (45 :: r) 1 _ (by simp) (bstr_size _)
 have HNEG:Hid (X.head?=some 45):=Lib.hid (by rw [hXe];rfl)
 obtain ⟨Bd,hB⟩:∃Bd,Bd=bodyOf X:=⟨_,rfl⟩
 have hlb:Bd.length≤1099511627776:=by rw [hB];exact body_len hn
 rw [←hB] at ex hBd
 generalize hSX:bstr X=SX at hs e1 e0 ei es1 ex ⊢
 have hsz:(bstr Bd).size=Bd.length:=bstr_size Bd
 have HLB:=Lib.hid hlb
 have H0:Hid (R0 w (w.alloc (.cells #[.int .i64 0,.int .i64 0] 24))):=Lib.hid ⟨heap_alloc_at _ _,below_new w _⟩
 have hlen:=congrArg List.length hBd
 rw [List.length_append,List.length_cons] at hlen
 have HLT:Hid (top.length≤1099511627776):=Lib.hid (by omega)
 have HLL:Hid (low.length≤1099511627776):=Lib.hid (by omega)
 have H47:=Lib.hid h47;have HBD:=Lib.hid hBd;have HLEN:=Lib.hid hlen
 clear hn hX hc hXe hB hlb h47 hBd hlen
 go_enter Tryz.func98,Tryz.ntmps98
 go_wp2
 go_loopw [6,7,8,31] (fun a b c i wr=>a=.string (bstr Bd)∧b=.string ⟨#[49]⟩∧c=.bool false∧∃k:Nat,k≤top.length∧i=.int .i64 k∧wr=w.alloc (.cells #[.int .i64 0,.int .i64 0] 24)) (fun _ _ _ i _=>Bd.length-(intOf i).toNat)
 case atStart=>exact ⟨rfl,rfl,rfl,0,Nat.zero_le _,rfl,rfl⟩
 case round =>
  obtain ⟨rfl,rfl,rfl,k,hk,rfl,rfl⟩:=hrel
  have hkl:k<Bd.length:=by have:=HLEN.out;omega
  have hkb:(k:Int)≤1099511627776:=by have:=HLT.out;omega
  have t0:decide ((k:Int)<(Bd.length:Int))=true:=by simp;omega
  by_cases hke:k=top.length
  ·have ei2:∀q,(bstr Bd)[k]'q=47:=by rw [hke];exact bstr_mid HBD.out
   have ex1:(bstr Bd).extract 0 k=bstr top:=by rw [ext_take Bd k (by omega),HBD.out,hke];simp
   have ex2:(bstr Bd).extract (k+1) Bd.length=bstr low:=by rw [ext_drop Bd (k+1) _ (by omega) rfl,HBD.out,hke];simp
   have hk1:(k:Int)≤(Bd.length:Int):=by omega
   have hk2:(k:Int)+1≤(Bd.length:Int):=by omega
   clear hke hk
   go_wp2
   go_quiet (fail)
   have HC1:=Lib.hid (fun W=>count_any top W HLT.out)
   have HC2:Hid (∀W,Calls Tryz.prog 126 #[.string (bstr low)] W fun e w'=>CountIs low e∧Below W.heap.size W w'):=Lib.hid (fun W=>count_any low W HLL.out)
   go_wp2_with (first
    | (have hgd:=HC1;clear hgd;go_at_call 126;refine (HC1.out _).mono ?_;rintro e w1 ⟨⟨v1,ok1,rfl,k1⟩,hb1⟩;refine Hid.out ?_))
   refine Lib.hid ?_
   have K1:=Lib.hid k1;have H1:=Lib.hid ((H0.out.drew _).on hb1)
   clear k1 hb1 HC1
   go_wp2_with (first
    | (go_at_call 126;refine (HC2.out _).mono ?_;rintro e w2 ⟨⟨v2,ok2,rfl,k2⟩,hb2⟩;refine Hid.out ?_))
   refine Lib.hid ?_
   have K2:=Lib.hid k2;have H2:=Lib.hid (H1.out.on hb2)
   clear k2 hb2 HC2
   cases ok1 with
   | false =>
    have HF:=Lib.hid (rfrac_err HX.out HCUT.out K1.out K2.out (Or.inl rfl))
    go_wp2_with (first
     | (go_at_call 125;refine (over_any _).mono ?_;rintro e w3 ⟨rfl,hb3⟩;have H3:=Lib.hid (H2.out.on hb3);obtain ⟨d0,d1,z0,z1⟩:=H3.out.cells;clear hb3))
    exact ret_frac rfl rfl rfl (H3.out.fin _ _).1 ⟨HF.out,(H3.out.fin _ _).2⟩
   | true =>
    cases ok2 with
    | false =>
     have HF:=Lib.hid (rfrac_err HX.out HCUT.out K1.out K2.out (Or.inr (Or.inl rfl)))
     go_wp2_with (first
      | (go_at_call 125;refine (over_any _).mono ?_;rintro e w3 ⟨rfl,hb3⟩;have H3:=Lib.hid (H2.out.on hb3);obtain ⟨d0,d1,z0,z1⟩:=H3.out.cells;clear hb3))
     exact ret_frac rfl rfl rfl (H3.out.fin _ _).1 ⟨HF.out,(H3.out.fin _ _).2⟩
    | true =>
     have hr1:=K1.out.1.2
     have hr2:=K2.out.1.2
     have hp1:0≤v1:=by have:=K1.out.2;rw [if_pos rfl] at this;exact this.2
     have hp2:0≤v2:=by have:=K2.out.2;rw [if_pos rfl] at this;exact this.2
     have hsg:sgn X v1 = -v1:=by unfold sgn;rw [if_pos HNEG.out]
     by_cases h2:v2<2
     ·have HF:=Lib.hid (rfrac_err HX.out HCUT.out K1.out K2.out (Or.inr (Or.inr (Or.inl ⟨rfl,h2⟩))))
      have t2:decide (v2<2)=true:=by simpa using h2
      go_wp2_with (first
       | (go_at_call 125;refine (over_any _).mono ?_;rintro e w3 ⟨rfl,hb3⟩;have H3:=Lib.hid (H2.out.on hb3);obtain ⟨d0,d1,z0,z1⟩:=H3.out.cells;clear hb3))
      exact ret_frac rfl rfl rfl (H3.out.fin _ _).1 ⟨HF.out,(H3.out.fin _ _).2⟩
     ·have t2:decide (v2<2)=false:=by simpa using h2
      by_cases hz:v1=0
      ·have HF:=Lib.hid (rfrac_err HX.out HCUT.out K1.out K2.out (Or.inr (Or.inr (Or.inr (Or.inl ⟨HNEG.out,hz⟩)))))
       have tz:(v1==0)=true:=by simpa using hz
       go_wp2_with (first
        | (go_at_call 125;refine (over_any _).mono ?_;rintro e w3 ⟨rfl,hb3⟩;have H3:=Lib.hid (H2.out.on hb3);obtain ⟨d0,d1,z0,z1⟩:=H3.out.cells;clear hb3))
       exact ret_frac rfl rfl rfl (H3.out.fin _ _).1 ⟨HF.out,(H3.out.fin _ _).2⟩
      ·have tz:(v1==0)=false:=by simpa using hz
       by_cases hm:sp.MayP (-v1) v2
       ·have HF:=Lib.hid (rfrac_ok HX.out HCUT.out K1.out K2.out (fun _=>by omega) (fun _=>hz) (by rw [hsg];exact hm))
        rw [hsg] at HF
        have q1:=mayB_yes hm
        clear hm
        go_wp2_with (first
         | (go_at_call 114;refine (rmay_any (-v1) v2 _ ⟨by omega,by omega⟩ ⟨by omega,by omega⟩).mono ?_;rintro e w3 ⟨rfl,hb3⟩;have HP2:=Lib.hid ((PF.new H2.out.bel H2.out.res (-v1) v2).on hb3);obtain ⟨r0,r1,k0,k1,y0,y1⟩:=HP2.out.cells;clear hb3))
        exact ret_frac rfl rfl rfl (HP2.out.fin _ _).1 ⟨HF.out,(HP2.out.fin _ _).2⟩
       ·have HF:=Lib.hid (rfrac_err HX.out HCUT.out K1.out K2.out (Or.inr (Or.inr (Or.inr (Or.inr (by rw [hsg];exact hm))))))
        have q1:=mayB_no hm
        clear hm
        go_wp2_with (first
         | (go_at_call 114;refine (rmay_any (-v1) v2 _ ⟨by omega,by omega⟩ ⟨by omega,by omega⟩).mono ?_;rintro e w3 ⟨rfl,hb3⟩;have HP2:=Lib.hid ((PF.new H2.out.bel H2.out.res (-v1) v2).on hb3);clear hb3)
         | (go_at_call 125;refine (over_any _).mono ?_;rintro e w4 ⟨rfl,hb4⟩;have HP3:=Lib.hid (HP2.out.on hb4);obtain ⟨r0,r1,k0,k1,y0,y1⟩:=HP3.out.cells;clear hb4))
        exact ret_frac rfl rfl rfl (HP3.out.fin _ _).1 ⟨HF.out,(HP3.out.fin _ _).2⟩
  ·have ht:k<top.length:=by omega
   have hat:=bstr_at hkl
   have hne:Bd.getD k 0≠47:=fun e=>H47.out (by
    have h1:Bd.getD k 0=top[k]:=by rw [getD_get hkl];simp only [HBD.out];rw [List.getElem_append_left ht]
    rw [←e,h1]
    exact List.getElem_mem _)
   generalize Bd.getD k 0=K at hat hne
   have t47:((K.toNat:Int)==47)=false:=u8ne K 47 hne
   go_wp2
   exact ⟨⟨rfl,rfl,rfl,k+1,by omega,by go_num,trivial⟩,by simp [intOf];omega⟩
set_option maxRecDepth 100000 in
set_option maxHeartbeats 4000000 in
theorem rp_over (X:List UInt8) (w:World) (hX:X=sp.over):Calls Tryz.prog 98 #[.string (bstr X)] w fun e w'=>FracIs X e∧Below w.heap.size w w':=by
 have hs:=str_eq hX
 have HF:Hid (FracIs X (.returned (.tuple #[.agg #[.int .i64 0,.int .i64 0],.int .i64 0]))):=Lib.hid (by unfold FracIs;rw [hX,frac_over])
 have H2:Hid (R0 w (w.alloc (.cells #[.int .i64 0,.int .i64 0] 24))):=Lib.hid ⟨heap_alloc_at _ _,below_new w _⟩
 clear hX
 go_enter Tryz.func98,Tryz.ntmps98
 go_wp2_with (first
  | (go_at_call 125;refine (over_any _).mono ?_;rintro e w3 ⟨rfl,hb3⟩;have H3:=Lib.hid (H2.out.on hb3);obtain ⟨d0,d1,z0,z1⟩:=H3.out.cells;clear hb3))
 exact ret_frac rfl rfl rfl (H3.out.fin _ _).1 ⟨HF.out,(H3.out.fin _ _).2⟩
theorem rparse_any (X:List UInt8) (w:World) (hn:X.length≤1099511627776):Calls Tryz.prog 98 #[.string (bstr X)] w fun e w'=>FracIs X e∧Below w.heap.size w w':=by
 by_cases hX:X=sp.over
 ·exact rp_over X w hX
 rcases cut_ex X with ⟨h47,hc⟩ | ⟨top,low,hB,h47,hc⟩
 ·match hXe:X with
  | []=>exact rp_nil_one [] w hn hX rfl h47 hc
  | c :: r =>
   by_cases h45:c=45
   ·subst h45;exact rp_neg_one _ r w hn hX rfl h47 hc
   ·exact rp_pos_one _ c r h45 w hn hX rfl h47 hc
 ·match hXe:X with
  | []=>exact rp_nil_two [] w hn hX rfl top low hB h47 hc
  | c :: r =>
   by_cases h45:c=45
   ·subst h45;exact rp_neg_two _ r w hn hX rfl top low hB h47 hc
   ·exact rp_pos_two _ c r h45 w hn hX rfl top low hB h47 hc
theorem size110:(Tryz.prog.info? 110).map (·.size)=some 2:=by kernel_rfl
theorem two_set' {w1:World} {g:Nat} {x y:Value} {T:TypeId} (h:w1.heap[g]?=some (.cells #[x,y] T (0,0))) (a b:Value):((w1.setCell ⟨g,0,none⟩ a).setCell ⟨g,1,none⟩ b).heap[g]?=some (.cells #[a,b] T (0,0)):=by
 have:=blk_set (blk_set h 0 a) 1 b
 simpa using this
set_option maxRecDepth 100000 in
theorem ret_word {W:World} {g:Nat} {a b:Value} {fn:Func} {tmps:Array Value} {R:Ending→World→Prop} (hr:fn.results=#[.cell 2 110]) (hp:tmps.getD 2 undef=.pointer (some ⟨g,0,none⟩)) (hg:W.heap[g]?=some (.cells #[a,b] 110 (0,0)))
  (h:R (.returned (.agg #[a,b])) W):bodyPost Tryz.prog fn R .ret ⟨tmps,[]⟩ W :=
 bodyPost_ret (results_cell_row hr tmps W g 110 #[a,b] (0,0) _ hp hg Tryz.underlying110 rfl size110) rfl h
structure RdR (w:World) (b g n cap:Nat) (r:List (List UInt8×Bool)) (bad:Bool) (W:World):Prop where
 blk:W.heap[b]?=some (.cells #[.slice (some ⟨g,0,none⟩) n cap,.int .i64 ((n-r.length:Nat):Int),.bool bad] 78 (0,0))
 len:r.length≤n
 words:W.rangeAt g (2*(n-r.length)) (wdCells r)
 glt:g<W.heap.size
 ne:g≠b
 blt:b<w.heap.size
 fr:Fr w W b none
 n63:n≤1099511627776
 short:∀p∈r,p.1.length≤1099511627776
section
variable {w W W':World} {b g n cap:Nat} {r:List (List UInt8×Bool)} {bad:Bool} {x:List UInt8×Bool}
theorem RdR.on (h:RdR w b g n cap r bad W) (hb:Below W.heap.size W W'):RdR w b g n cap r bad W' :=
 ⟨(hb.block _ (lt_of_block h.blk)).trans h.blk,h.len,rangeAt_below hb h.glt h.words,by have:=hb.size;have:=h.glt;omega,h.ne,h.blt,h.fr.trans (Fr.of_below hb) (Own.refl _ _),h.n63,h.short⟩
theorem RdR.base (h:RdR w b g n cap r bad W):RdR W b g n cap r bad W:={ h with blt:=lt_of_block h.blk,fr:=Fr.refl _ _ _ }
theorem RdR.back {w0:World} (h:RdR w0 b g n cap r bad w) {r':List (List UInt8×Bool)} {bad':Bool} (h2:RdR w b g n cap r' bad' W):RdR w0 b g n cap r' bad' W:={ h2 with blt:=h.blt,fr:=h.fr.trans h2.fr (Own.refl _ _) }
theorem RdR.c0 (h:RdR w b g n cap r bad W):W.cell? ⟨b,0,none⟩=some (.slice (some ⟨g,0,none⟩) n cap):=blk_cell h.blk 0 _ rfl
theorem RdR.c1 (h:RdR w b g n cap r bad W) {k:Int} (hk:((n-r.length:Nat):Int)=k):W.cell? ⟨b,1,none⟩=some (.int .i64 k):=hk ▸ blk_cell h.blk 1 _ rfl
theorem RdR.c2 (h:RdR w b g n cap r bad W):W.cell? ⟨b,2,none⟩=some (.bool bad):=blk_cell h.blk 2 _ rfl
theorem RdR.z (h:RdR w b g n cap r bad W) (k:Nat):W.frozen? ⟨b,k,none⟩=false:=blk_free h.blk k
theorem RdR.setBad (h:RdR w b g n cap r bad W) (bad':Bool):RdR w b g n cap r bad' (W.setCell ⟨b,2,none⟩ (.bool bad')) :=
 ⟨blk_set h.blk 2 _,h.len,range_other h.words h.ne 2 _,by simpa using h.glt,h.ne,h.blt,h.fr.trans (Fr.set 2 _) (Own.refl _ _),h.n63,h.short⟩
theorem RdR.step (h:RdR w b g n cap (x :: r) bad W) {k:Int} (hk:((n-r.length:Nat):Int)=k):RdR w b g n cap r bad (W.setCell ⟨b,1,none⟩ (.int .i64 k)) :=
 ⟨by rw [hk];exact blk_set h.blk 1 _,by have:=h.len;simp at this;omega,range_other (fun j u hu=>by
   have:=h.words (2+j) u (by rw [show wdCells (x :: r)=.string (bstr x.1) :: .bool x.2 :: wdCells r from rfl,Nat.add_comm 2 j];exact hu)
   have hl:=h.len
   simp only [List.length_cons] at this hl
   rw [show 2*(n-r.length)+j=2*(n-(r.length+1))+(2+j) by omega]
   exact this) h.ne 1 _,by simpa using h.glt,h.ne,h.blt,h.fr.trans (Fr.set 1 _) (Own.refl _ _),h.n63,fun p hp=>h.short p (List.mem_cons_of_mem _ hp)⟩
theorem RdR.drew (h:RdR w b g n cap r bad W) (k:Nat):RdR w b g n cap r bad (W.drewN k):={ h with fr:=⟨h.fr.os,h.fr.tape,h.fr.output,h.fr.size,h.fr.block⟩ }
theorem RdR.other (h:RdR w b g n cap r bad W) {m:Nat} (hm:m≠b) (hg:m≠g) (hw:w.heap.size≤m) (k:Nat) (v:Value):RdR w b g n cap r bad (W.setCell ⟨m,k,none⟩ v) :=
 ⟨(Below.heap_setCell _ _ _ _ (Ne.symm hm)).trans h.blk,h.len,range_other h.words (Ne.symm hg) k v,by simpa using h.glt,h.ne,h.blt,⟨h.fr.os,h.fr.tape,h.fr.output,by simpa using h.fr.size,fun j hj hb ho=>(Below.heap_setCell _ _ _ _ (show j≠m by omega)).trans (h.fr.block j hj hb ho)⟩,h.n63,h.short⟩
theorem RdR.word (h:RdR w b g n cap (x :: r) bad W) {o:Nat} (ho:o=2*(n-(r.length+1))):W.rangeAt g o [.string (bstr x.1),.bool x.2]:=fun j u hu=>by
 subst ho
 refine h.words j u ?_
 match j,hu with
 | 0,hu=>exact hu
 | 1,hu=>exact hu
end
def nextW:List (List UInt8×Bool)→List UInt8×Bool
 | []=>([],false)
 | x :: _=>x
theorem load_word {s:World} {g o:Nat} {x y:Value} (h:s.rangeAt g o [x,y]) {ev:Operand→Value} {op:Oper} {z:Operand} (ho:op.op=.load 110 z) (hx:ev z=.pointer (some ⟨g,o,none⟩)):(execOp ev op).run Tryz.prog s=Result.ok (Next.value (.agg #[x,y])) s:=by
 have e:=run_loadVar_mid (P:=Tryz.prog) s g o 110 [x,y] _ h Tryz.underlying110 rfl size110
 unfold execOp
 simp only [ho,hx,Instr.loadAt,Instr.sureAddr,Sem.run_bind,Sem.run_pure,Result.andThen_ok,e]
set_option maxRecDepth 100000 in
set_option maxHeartbeats 4000000 in
theorem next_nil (w0 w:World) (b g n cap:Nat) (bad:Bool) (h:RdR w0 b g n cap [] bad w):Calls Tryz.prog 96 #[.pointer (some ⟨b,0,none⟩)] w fun e w'=>e=.returned (.agg #[.string (bstr []),.bool false])∧RdR w0 b g n cap [] true w':=by
 have hbl:=lt_of_block h.blk
 have H1:=Lib.hid (h.on (below_new w (.cells #[.string ⟨#[]⟩,.bool false] 110)))
 have c0:=H1.out.c0
 have c1:=H1.out.c1 (k:=n) rfl
 have c2:=H1.out.c2
 have z2:=H1.out.z 2
 have hge:((n:Int)≥(n:Int)):=Int.le_refl _
 have HB:=Lib.hid hbl
 have HN:Hid (w.heap.size≠b∧w.heap.size≠g∧w0.heap.size≤w.heap.size):=Lib.hid ⟨by omega,by have:=h.glt;omega,h.fr.size⟩
 clear h hbl
 go_enter Tryz.func96,Tryz.ntmps96
 go_wp2
 go_quiet (fail)
 go_wp2
 have H2:=Lib.hid ((H1.out.drew nq).setBad true)
 have hm:(((w.alloc (.cells #[.string ⟨#[]⟩,.bool false] 110)).drewN nq).setCell ⟨b,2,none⟩ (.bool true)).heap[w.heap.size]?=some (.cells #[.string ⟨#[]⟩,.bool false] 110 (0,0)):=by
  exact (Below.heap_setCell _ _ _ _ HN.out.1).trans (heap_alloc_at _ _)
 refine ret_word rfl rfl (two_set' hm _ _) ⟨rfl,?_⟩
 exact (H2.out.other HN.out.1 HN.out.2.1 HN.out.2.2 0 _).other HN.out.1 HN.out.2.1 HN.out.2.2 1 _
set_option maxRecDepth 100000 in
set_option maxHeartbeats 4000000 in
theorem next_cons (w0 w:World) (b g n cap:Nat) (x:List UInt8×Bool) (r:List (List UInt8×Bool)) (bad:Bool) (h:RdR w0 b g n cap (x :: r) bad w):Calls Tryz.prog 96 #[.pointer (some ⟨b,0,none⟩)] w fun e w'=>e=.returned (.agg #[.string (bstr x.1),.bool x.2])∧RdR w0 b g n cap r bad w':=by
 have hbl:=lt_of_block h.blk
 have HG:Hid (g<w.heap.size):=Lib.hid h.glt
 have H1:=Lib.hid (h.on (below_new w (.cells #[.string ⟨#[]⟩,.bool false] 110)))
 have hl:=h.len
 simp only [List.length_cons] at hl
 obtain ⟨k,hk⟩:∃k:Nat,n-(r.length+1)=k:=⟨_,rfl⟩
 have HK:=Lib.hid hk
 have hkn:k<n:=by omega
 have hge:¬((k:Int)≥(n:Int)):=by omega
 have hge2:¬n≤k:=by omega
 have hn63:(n:Int)≤1099511627776:=by have:=h.n63;omega
 have c0:=H1.out.c0
 have c1:=H1.out.c1 (k:=k) (by simp [hk])
 have z1:=H1.out.z 1
 have HB:=Lib.hid hbl
 have HN:Hid (w.heap.size≠b∧w.heap.size≠g∧w0.heap.size≤w.heap.size):=Lib.hid ⟨by omega,by have:=h.glt;omega,h.fr.size⟩
 have HS:Hid (((n-r.length:Nat):Int)=(k:Int)+1):=Lib.hid (by omega)
 clear h hbl hk hl
 go_enter Tryz.func96,Tryz.ntmps96
 go_wp2
 go_quiet (fail)
 go_wp2
 have H2:=Lib.hid ((H1.out.drew nq).step HS.out)
 have hm:(((w.alloc (.cells #[.string ⟨#[]⟩,.bool false] 110)).drewN nq).setCell ⟨b,1,none⟩ (.int .i64 ((k:Int)+1))).heap[w.heap.size]?=some (.cells #[.string ⟨#[]⟩,.bool false] 110 (0,0)):=(Below.heap_setCell _ _ _ _ HN.out.1).trans (heap_alloc_at _ _)
 have HM:=Lib.hid hm
 have HW:=Lib.hid (range_other ((H1.out.drew nq).word (o:=2*k) (by rw [HK.out])) H1.out.ne 1 (.int .i64 ((k:Int)+1)))
 clear c0 c1 z1 hm H1
 generalize (((w.alloc (.cells #[.string ⟨#[]⟩,.bool false] 110)).drewN nq).setCell ⟨b,1,none⟩ (.int .i64 ((k:Int)+1)))=W3 at H2 HM HW ⊢
 have H4:Hid (RdR w0 b g n cap r bad W3.drew):=Lib.hid (H2.out.drew 1)
 have HM4:Hid (W3.drew.heap[w.heap.size]?=_):=Lib.hid HM.out
 have HW4:Hid (W3.drew.rangeAt g (2*k) _):=Lib.hid HW.out
 refine wp_region_held_drew (S:=fun s=>s.cell? ⟨b,0,none⟩=some (.slice (some ⟨g,0,none⟩) n cap)∧s.cell? ⟨b,1,none⟩=some (.int .i64 ((k:Int)+1))∧s.rangeAt g (2*k) [.string (bstr x.1),.bool x.2]) (by kernel_rfl) ⟨H4.out.c0,H4.out.c1 HS.out,HW4.out⟩ (fun hHeld => ?_)
 refine tk 0 (.pointer (some ⟨b,0,none⟩)) rfl hHeld (fun s hs=>by obtain ⟨q0,q1,q2⟩:=hs;go_simp) ?_
 refine tk 1 (.pointer (some ⟨b,0,none⟩)) rfl hHeld (fun s hs=>by obtain ⟨q0,q1,q2⟩:=hs;go_simp) ?_
 refine tk 2 (.pointer (some ⟨b,0,none⟩)) rfl hHeld (fun s hs=>by obtain ⟨q0,q1,q2⟩:=hs;go_simp) ?_
 refine tk 3 (.slice (some ⟨g,0,none⟩) n cap) rfl hHeld (fun s hs=>by obtain ⟨q0,q1,q2⟩:=hs;go_simp) ?_
 refine tk 4 (.pointer (some ⟨b,0,none⟩)) rfl hHeld (fun s hs=>by obtain ⟨q0,q1,q2⟩:=hs;go_simp) ?_
 refine tk 5 (.pointer (some ⟨b,0,none⟩)) rfl hHeld (fun s hs=>by obtain ⟨q0,q1,q2⟩:=hs;go_simp) ?_
 refine tk 6 (.pointer (some ⟨b,1,none⟩)) rfl hHeld (fun s hs=>by obtain ⟨q0,q1,q2⟩:=hs;go_simp) ?_
 refine tk 7 (.int .i64 ((k:Int)+1)) rfl hHeld (fun s hs=>by obtain ⟨q0,q1,q2⟩:=hs;go_simp) ?_
 refine tk 8 (.int .i64 k) rfl hHeld (fun s hs=>by have hw:IntKind.i64.wrap ((k:Int)+1-1)=(k:Int):=(by rw [Int.add_sub_cancel];exact wrap_i64_in ⟨by omega,by omega⟩);have hw2:IntKind.i64.wrap (k:Int)=(k:Int):=wrap_i64_in ⟨by omega,by omega⟩;go_simp) ?_
 refine tk 9 (.pointer (some ⟨g,2*k,none⟩)) rfl hHeld (fun s hs=>by obtain ⟨q0,q1,q2⟩:=hs;go_simp) ?_
 have HY:∀s:World,s.rangeAt g (2*k) [.string (bstr x.1),.bool x.2]→∀(ev:Operand→Value) (op:Oper) (z:Operand),op.op=.load 110 z→ev z=.pointer (some ⟨g,2*k,none⟩)→(execOp ev op).run Tryz.prog s=Result.ok (Next.value (.agg #[.string (bstr x.1),.bool x.2])) s:=fun s h ev op z ho hx=>load_word h ho hx
 refine wpAnyH_take (i:=10) (v:=.agg #[.string (bstr x.1),.bool x.2]) rfl (by kernel_rfl) (by kernel_rfl) (by kernel_rfl) (fun _ _ _ h=>h) (Or.inl ⟨by kernel_rfl,fun s hs => ?_⟩) hHeld ?_
 ·have q2:=hs.2.2
  refine HY s q2 _ _ (.tmp 33) ?_ ?_
  ·kernel_rfl
  ·kernel_rfl
 clear HY
 have a0:W3.cell? ⟨w.heap.size,0,none⟩=some (.string ⟨#[]⟩):=blk_cell HM.out 0 _ rfl
 have a1:W3.cell? ⟨w.heap.size,1,none⟩=some (.bool false):=blk_cell HM.out 1 _ rfl
 have y0:=blk_free HM.out 0
 have y1:=blk_free HM.out 1
 refine rd1 11 rfl fun K hK => ?_
 go_simp
 have H5:Hid (RdR w0 b g n cap r bad ((W3.setCell ⟨w.heap.size,0,none⟩ (.string (bstr x.1))).setCell ⟨w.heap.size,1,none⟩ (.bool x.2)).drew):=Lib.hid (((H2.out.other HN.out.1 HN.out.2.1 HN.out.2.2 0 _).other HN.out.1 HN.out.2.1 HN.out.2.2 1 _).drew 1)
 have HM5:Hid (((W3.setCell ⟨w.heap.size,0,none⟩ (.string (bstr x.1))).setCell ⟨w.heap.size,1,none⟩ (.bool x.2)).drew.heap[w.heap.size]?=some (.cells #[.string (bstr x.1),.bool x.2] 110 (0,0))):=Lib.hid (two_set' HM.out _ _)
 refine hK _ _ ⟨H5.out.c0,H5.out.c1 HS.out,range_other (range_other HW.out (Ne.symm HN.out.2.1) 0 _) (Ne.symm HN.out.2.1) 1 _⟩ (fun hHeld2 => ?_)
 clear hK hHeld hHeld2
 refine wpAnyH_done (by kernel_rfl) ?_ _
 go_wp2
 exact ret_word rfl rfl HM5.out ⟨rfl,H5.out⟩
theorem next_any (w0 w:World) (b g n cap:Nat) (r:List (List UInt8×Bool)) (bad:Bool) (h:RdR w0 b g n cap r bad w):Calls Tryz.prog 96 #[.pointer (some ⟨b,0,none⟩)] w fun e w'=>e=.returned (.agg #[.string (bstr (nextW r).1),.bool (nextW r).2])∧RdR w0 b g n cap r.tail (bad||r.isEmpty) w':=by
 match r with
 | []=>exact (next_nil w0 w b g n cap bad h).mono fun e w' q=>⟨q.1,by rw [show (bad||([]:List (List UInt8×Bool)).isEmpty)=true by simp];exact q.2⟩
 | x :: r=>exact (next_cons w0 w b g n cap x r bad h).mono fun e w' q=>⟨q.1,by rw [show (bad||(x :: r).isEmpty)=bad by simp];exact q.2⟩
end Go.Proofs.YtihlneenajlhoaaGreatDoor
