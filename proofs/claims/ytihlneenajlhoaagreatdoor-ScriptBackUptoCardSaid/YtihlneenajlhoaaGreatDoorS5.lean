/-
 Plain law: an operation, written as a line, is read as it was, but for fields that its kind does not name; what is read is written the same. No condition beside the numbers' kinds.
-/
import Derived.Test.YtihlneenajlhoaaGreatDoorS1
import Derived.Test.YtihlneenajlhoaaGreatDoorS3
import Derived.Test.YtihlneenajlhoaaGreatDoorS0
import Derived.Lib.SplitLaws
import Derived.Lib.CountLaws
import Derived.Test.YtihlneenajlhoaaGreatDoorS4
import Derived.Test.YtihlneenajlhoaaGreatDoorS2
import Derived.Maps.OwnSet
set_option linter.unusedVariables false
set_option linter.unusedSimpArgs false
namespace Go.Proofs.YtihlneenajlhoaaGreatDoor.sp
open Go
theorem DR:∀k∈[BX,BA,BB,BC,Au,BZ,Ba,BD,Bc,BF,kBox,BG,BH,BI,BJ],k≠[]∧∀c∈k,(c != 32&&c != 34&&c != 10&&c != 35)=true:=by decide
theorem yA (b:Int):FI b=Gv∨FI b=Gw∨FI b=Gx:=by
 unfold FI
 split
 ·exact Or.inl rfl
 ·split
  ·exact Or.inr (Or.inl rfl)
  ·exact Or.inr (Or.inr rfl)
theorem yB (b:Int):Piece (FI b,(FI b,false)):=by
 rcases yA b with h | h | h<;>rw [h]<;>exact MF (by decide) (by decide)
theorem yC {b:Int} (h0:0≤b) (h2:b≤2):D5 (FI b)=some b:=by
 have:b=0∨b=1∨b=2:=by omega
 rcases this with rfl | rfl | rfl<;>decide
theorem yD {s:Bs} (h:s = []∨BP s=true):Piece (FK s,(FK s,false)):=by
 unfold FK
 split
 ·exact MF (by decide) (by decide)
 ·rename_i h0
  exact JY (h.resolve_left h0)
theorem yE {s:Bs} (h:s≠[45]):Fe (FK s)=s:=by
 unfold FK
 split
 ·rename_i h0;rw [h0];rfl
 ·unfold Fe;rw [if_neg h]
theorem yF (b:Bool):Piece ((if b then Ar else Bl),((if b then Ar else Bl),false)):=by
 cases b<;>exact MF (by decide) (by decide)
theorem yG (o:Op) (ho:o.ok) (MX:BN o.origin):Ai BX (([(Lib.itoa o.origin,(Lib.itoa o.origin,false)),(DJ o.text,(o.text,true))]:List (Bs×Wd)).map (·.2))=some { kind:=1,origin:=o.origin,text:=o.text }:=by
 unfold Ai
 rw [if_pos rfl]
 simp only [List.map_cons,List.map_nil,IP MX,YK,Option.bind_some]
theorem yH (o:Op) (ho:o.ok) (MX:BN o.origin):lineS (BX++row [(Lib.itoa o.origin,(Lib.itoa o.origin,false)),(DJ o.text,(o.text,true))])=some (some { kind:=1,origin:=o.origin,text:=o.text }):=by
 rw [F7 (DR _ (by decide)).1 (DR _ (by decide)).2 _ (Dn (IM _) (Dn (YJ _) F8)),yG o ho MX]
 rfl
theorem yI (o:Op) (ho:o.ok) (h_w:BM o.w.1 o.w.2) (h_h:BM o.h.1 o.h.2):Ai BA (([(AP o.w.1 o.w.2,(AP o.w.1 o.w.2,false)),(AP o.h.1 o.h.2,(AP o.h.1 o.h.2,false))]:List (Bs×Wd)).map (·.2))=some { kind:=2,w:=o.w,h:=o.h }:=by
 unfold Ai
 rw [if_neg (by decide)]
 rw [if_pos rfl]
 simp only [List.map_cons,List.map_nil,MH ho.w1 ho.w2 h_w,MH ho.h1 ho.h2 h_h,Option.bind_some]
theorem yJ (o:Op) (ho:o.ok) (h_w:BM o.w.1 o.w.2) (h_h:BM o.h.1 o.h.2):lineS (BA++row [(AP o.w.1 o.w.2,(AP o.w.1 o.w.2,false)),(AP o.h.1 o.h.2,(AP o.h.1 o.h.2,false))])=some (some { kind:=2,w:=o.w,h:=o.h }):=by
 rw [F7 (DR _ (by decide)).1 (DR _ (by decide)).2 _ (Dn (MG _ _) (Dn (MG _ _) F8)),yI o ho h_w h_h]
 rfl
theorem yK (o:Op) (ho:o.ok) (h_w:BM o.w.1 o.w.2):Ai BB (([(AP o.w.1 o.w.2,(AP o.w.1 o.w.2,false))]:List (Bs×Wd)).map (·.2))=some { kind:=3,w:=o.w }:=by
 unfold Ai
 rw [if_neg (by decide)]
 rw [if_neg (by decide)]
 rw [if_pos rfl]
 simp only [List.map_cons,List.map_nil,MH ho.w1 ho.w2 h_w,Option.bind_some]
theorem yL (o:Op) (ho:o.ok) (h_w:BM o.w.1 o.w.2):lineS (BB++row [(AP o.w.1 o.w.2,(AP o.w.1 o.w.2,false))])=some (some { kind:=3,w:=o.w }):=by
 rw [F7 (DR _ (by decide)).1 (DR _ (by decide)).2 _ (Dn (MG _ _) F8),yK o ho h_w]
 rfl
theorem yM (o:Op) (ho:o.ok) (h_w:BM o.w.1 o.w.2):Ai BC (([(AP o.w.1 o.w.2,(AP o.w.1 o.w.2,false))]:List (Bs×Wd)).map (·.2))=some { kind:=13,w:=o.w }:=by
 unfold Ai
 rw [if_neg (by decide)]
 rw [if_neg (by decide)]
 rw [if_neg (by decide)]
 rw [if_pos rfl]
 simp only [List.map_cons,List.map_nil,MH ho.w1 ho.w2 h_w,Option.bind_some]
theorem yN (o:Op) (ho:o.ok) (h_w:BM o.w.1 o.w.2):lineS (BC++row [(AP o.w.1 o.w.2,(AP o.w.1 o.w.2,false))])=some (some { kind:=13,w:=o.w }):=by
 rw [F7 (DR _ (by decide)).1 (DR _ (by decide)).2 _ (Dn (MG _ _) F8),yM o ho h_w]
 rfl
theorem yO (o:Op) (ho:o.ok):Ai Au (([((if o.on then Ar else Bl),((if o.on then Ar else Bl),false))]:List (Bs×Wd)).map (·.2))=some { kind:=14,on:=o.on }:=by
 unfold Ai
 rw [if_neg (by decide)]
 rw [if_neg (by decide)]
 rw [if_neg (by decide)]
 rw [if_neg (by decide)]
 rw [if_pos rfl]
 cases h:o.on<;>simp [A7]
theorem yP (o:Op) (ho:o.ok):lineS (Au++row [((if o.on then Ar else Bl),((if o.on then Ar else Bl),false))])=some (some { kind:=14,on:=o.on }):=by
 rw [F7 (DR _ (by decide)).1 (DR _ (by decide)).2 _ (Dn (yF _) F8),yO o ho]
 rfl
theorem yQ (o:Op) (ho:o.ok) (Bv:BP o.name=true) (MZ:BP o.word=true):Ai BZ (([(o.name,(o.name,false)),(o.word,(o.word,false))]:List (Bs×Wd)).map (·.2))=some { kind:=4,name:=o.name,word:=o.word }:=by
 unfold Ai
 rw [if_neg (by decide)]
 rw [if_neg (by decide)]
 rw [if_neg (by decide)]
 rw [if_neg (by decide)]
 rw [if_neg (by decide)]
 rw [if_pos rfl]
 simp only [List.map_cons,List.map_nil,Iz,Iz,Option.bind_some]
theorem yR (o:Op) (ho:o.ok) (Bv:BP o.name=true) (MZ:BP o.word=true):lineS (BZ++row [(o.name,(o.name,false)),(o.word,(o.word,false))])=some (some { kind:=4,name:=o.name,word:=o.word }):=by
 rw [F7 (DR _ (by decide)).1 (DR _ (by decide)).2 _ (Dn (JY Bv) (Dn (JY MZ) F8)),yQ o ho Bv MZ]
 rfl
theorem yS (o:Op) (ho:o.ok) (BL:BN o.node) (Mc:BN o.at_) (Bv:BP o.name=true):Ai Ba (([(Lib.itoa o.node,(Lib.itoa o.node,false)),(Lib.itoa o.at_,(Lib.itoa o.at_,false)),(o.name,(o.name,false))]:List (Bs×Wd)).map (·.2))=some { kind:=5,node:=o.node,at_:=o.at_,name:=o.name }:=by
 unfold Ai
 rw [if_neg (by decide)]
 rw [if_neg (by decide)]
 rw [if_neg (by decide)]
 rw [if_neg (by decide)]
 rw [if_neg (by decide)]
 rw [if_neg (by decide)]
 rw [if_pos rfl]
 simp only [List.map_cons,List.map_nil,IP BL,IP Mc,Iz,Option.bind_some]
theorem yT (o:Op) (ho:o.ok) (BL:BN o.node) (Mc:BN o.at_) (Bv:BP o.name=true):lineS (Ba++row [(Lib.itoa o.node,(Lib.itoa o.node,false)),(Lib.itoa o.at_,(Lib.itoa o.at_,false)),(o.name,(o.name,false))])=some (some { kind:=5,node:=o.node,at_:=o.at_,name:=o.name }):=by
 rw [F7 (DR _ (by decide)).1 (DR _ (by decide)).2 _ (Dn (IM _) (Dn (IM _) (Dn (JY Bv) F8))),yS o ho BL Mc Bv]
 rfl
theorem yU (o:Op) (ho:o.ok) (BL:BN o.node):Ai BD (([(Lib.itoa o.node,(Lib.itoa o.node,false))]:List (Bs×Wd)).map (·.2))=some { kind:=6,node:=o.node }:=by
 unfold Ai
 rw [if_neg (by decide)]
 rw [if_neg (by decide)]
 rw [if_neg (by decide)]
 rw [if_neg (by decide)]
 rw [if_neg (by decide)]
 rw [if_neg (by decide)]
 rw [if_neg (by decide)]
 rw [if_pos rfl]
 simp only [List.map_cons,List.map_nil,IP BL,Option.bind_some]
theorem yV (o:Op) (ho:o.ok) (BL:BN o.node):lineS (BD++row [(Lib.itoa o.node,(Lib.itoa o.node,false))])=some (some { kind:=6,node:=o.node }):=by
 rw [F7 (DR _ (by decide)).1 (DR _ (by decide)).2 _ (Dn (IM _) F8),yU o ho BL]
 rfl
theorem yX (o:Op) (ho:o.ok) (BL:BN o.node) (Bv:BP o.name=true):Ai Bc (([(Lib.itoa o.node,(Lib.itoa o.node,false)),(o.name,(o.name,false)),(DJ o.word,(o.word,true))]:List (Bs×Wd)).map (·.2))=some { kind:=7,node:=o.node,name:=o.name,word:=o.word }:=by
 unfold Ai
 rw [if_neg (by decide)]
 rw [if_neg (by decide)]
 rw [if_neg (by decide)]
 rw [if_neg (by decide)]
 rw [if_neg (by decide)]
 rw [if_neg (by decide)]
 rw [if_neg (by decide)]
 rw [if_neg (by decide)]
 rw [if_pos rfl]
 simp only [List.map_cons,List.map_nil,IP BL,Iz,YK,Option.bind_some]
theorem yY (o:Op) (ho:o.ok) (BL:BN o.node) (Bv:BP o.name=true):lineS (Bc++row [(Lib.itoa o.node,(Lib.itoa o.node,false)),(o.name,(o.name,false)),(DJ o.word,(o.word,true))])=some (some { kind:=7,node:=o.node,name:=o.name,word:=o.word }):=by
 rw [F7 (DR _ (by decide)).1 (DR _ (by decide)).2 _ (Dn (IM _) (Dn (JY Bv) (Dn (YJ _) F8))),yX o ho BL Bv]
 rfl
theorem yZ (o:Op) (ho:o.ok) (BL:BN o.node) (Bv:BP o.name=true):Ai BF (([(Lib.itoa o.node,(Lib.itoa o.node,false)),(o.name,(o.name,false))]:List (Bs×Wd)).map (·.2))=some { kind:=8,node:=o.node,name:=o.name }:=by
 unfold Ai
 rw [if_neg (by decide)]
 rw [if_neg (by decide)]
 rw [if_neg (by decide)]
 rw [if_neg (by decide)]
 rw [if_neg (by decide)]
 rw [if_neg (by decide)]
 rw [if_neg (by decide)]
 rw [if_neg (by decide)]
 rw [if_neg (by decide)]
 rw [if_pos rfl]
 simp only [List.map_cons,List.map_nil,IP BL,Iz,Option.bind_some]
theorem zA (o:Op) (ho:o.ok) (BL:BN o.node) (Bv:BP o.name=true):lineS (BF++row [(Lib.itoa o.node,(Lib.itoa o.node,false)),(o.name,(o.name,false))])=some (some { kind:=8,node:=o.node,name:=o.name }):=by
 rw [F7 (DR _ (by decide)).1 (DR _ (by decide)).2 _ (Dn (IM _) (Dn (JY Bv) F8)),yZ o ho BL Bv]
 rfl
theorem zB (o:Op) (ho:o.ok) (BL:BN o.node) (Ky:0≤o.bt∧o.bt≤2) (Md:o.bn≠[45]) (Me:o.bn = []∨BP o.bn=true) (NC:BM o.bw.1 o.bw.2) (ND:BM o.bh.1 o.bh.2):Ai kBox (([(Lib.itoa o.node,(Lib.itoa o.node,false)),(FI o.bt,(FI o.bt,false)),(FK o.bn,(FK o.bn,false)),(AP o.bw.1 o.bw.2,(AP o.bw.1 o.bw.2,false)),(AP o.bh.1 o.bh.2,(AP o.bh.1 o.bh.2,false))]:List (Bs×Wd)).map (·.2))=some { kind:=9,node:=o.node,bt:=o.bt,bn:=o.bn,bw:=o.bw,bh:=o.bh }:=by
 unfold Ai
 rw [if_neg (by decide)]
 rw [if_neg (by decide)]
 rw [if_neg (by decide)]
 rw [if_neg (by decide)]
 rw [if_neg (by decide)]
 rw [if_neg (by decide)]
 rw [if_neg (by decide)]
 rw [if_neg (by decide)]
 rw [if_neg (by decide)]
 rw [if_neg (by decide)]
 rw [if_pos rfl]
 simp only [List.map_cons,List.map_nil,IP BL,Iz,yC Ky.1 Ky.2,Iz,yE Md,MH ho.bw1 ho.bw2 NC,MH ho.bh1 ho.bh2 ND,Option.bind_some]
theorem zC (o:Op) (ho:o.ok) (BL:BN o.node) (Ky:0≤o.bt∧o.bt≤2) (Md:o.bn≠[45]) (Me:o.bn = []∨BP o.bn=true) (NC:BM o.bw.1 o.bw.2) (ND:BM o.bh.1 o.bh.2):lineS (kBox++row [(Lib.itoa o.node,(Lib.itoa o.node,false)),(FI o.bt,(FI o.bt,false)),(FK o.bn,(FK o.bn,false)),(AP o.bw.1 o.bw.2,(AP o.bw.1 o.bw.2,false)),(AP o.bh.1 o.bh.2,(AP o.bh.1 o.bh.2,false))])=some (some { kind:=9,node:=o.node,bt:=o.bt,bn:=o.bn,bw:=o.bw,bh:=o.bh }):=by
 rw [F7 (DR _ (by decide)).1 (DR _ (by decide)).2 _ (Dn (IM _) (Dn (yB _) (Dn (yD Me) (Dn (MG _ _) (Dn (MG _ _) F8))))),zB o ho BL Ky Md Me NC ND]
 rfl
theorem zD (o:Op) (ho:o.ok) (BL:BN o.node) (Bv:BP o.name=true):Ai BG (([(Lib.itoa o.node,(Lib.itoa o.node,false)),(o.name,(o.name,false))]:List (Bs×Wd)).map (·.2))=some { kind:=10,node:=o.node,name:=o.name }:=by
 unfold Ai
 rw [if_neg (by decide)]
 rw [if_neg (by decide)]
 rw [if_neg (by decide)]
 rw [if_neg (by decide)]
 rw [if_neg (by decide)]
 rw [if_neg (by decide)]
 rw [if_neg (by decide)]
 rw [if_neg (by decide)]
 rw [if_neg (by decide)]
 rw [if_neg (by decide)]
 rw [if_neg (by decide)]
 rw [if_pos rfl]
 simp only [List.map_cons,List.map_nil,IP BL,Iz,Option.bind_some]
theorem zF (o:Op) (ho:o.ok) (BL:BN o.node) (Bv:BP o.name=true):lineS (BG++row [(Lib.itoa o.node,(Lib.itoa o.node,false)),(o.name,(o.name,false))])=some (some { kind:=10,node:=o.node,name:=o.name }):=by
 rw [F7 (DR _ (by decide)).1 (DR _ (by decide)).2 _ (Dn (IM _) (Dn (JY Bv) F8)),zD o ho BL Bv]
 rfl
theorem zG (o:Op) (ho:o.ok) (BL:BN o.node) (Bv:BP o.name=true):Ai BH (([(Lib.itoa o.node,(Lib.itoa o.node,false)),(o.name,(o.name,false))]:List (Bs×Wd)).map (·.2))=some { kind:=11,node:=o.node,name:=o.name }:=by
 unfold Ai
 rw [if_neg (by decide)]
 rw [if_neg (by decide)]
 rw [if_neg (by decide)]
 rw [if_neg (by decide)]
 rw [if_neg (by decide)]
 rw [if_neg (by decide)]
 rw [if_neg (by decide)]
 rw [if_neg (by decide)]
 rw [if_neg (by decide)]
 rw [if_neg (by decide)]
 rw [if_neg (by decide)]
 rw [if_neg (by decide)]
 rw [if_pos rfl]
 simp only [List.map_cons,List.map_nil,IP BL,Iz,Option.bind_some]
theorem zH (o:Op) (ho:o.ok) (BL:BN o.node) (Bv:BP o.name=true):lineS (BH++row [(Lib.itoa o.node,(Lib.itoa o.node,false)),(o.name,(o.name,false))])=some (some { kind:=11,node:=o.node,name:=o.name }):=by
 rw [F7 (DR _ (by decide)).1 (DR _ (by decide)).2 _ (Dn (IM _) (Dn (JY Bv) F8)),zG o ho BL Bv]
 rfl
theorem zI (o:Op) (ho:o.ok) (BL:BN o.node):Ai BI (([(Lib.itoa o.node,(Lib.itoa o.node,false))]:List (Bs×Wd)).map (·.2))=some { kind:=12,node:=o.node }:=by
 unfold Ai
 rw [if_neg (by decide)]
 rw [if_neg (by decide)]
 rw [if_neg (by decide)]
 rw [if_neg (by decide)]
 rw [if_neg (by decide)]
 rw [if_neg (by decide)]
 rw [if_neg (by decide)]
 rw [if_neg (by decide)]
 rw [if_neg (by decide)]
 rw [if_neg (by decide)]
 rw [if_neg (by decide)]
 rw [if_neg (by decide)]
 rw [if_neg (by decide)]
 rw [if_pos rfl]
 simp only [List.map_cons,List.map_nil,IP BL,Option.bind_some]
theorem zJ (o:Op) (ho:o.ok) (BL:BN o.node):lineS (BI++row [(Lib.itoa o.node,(Lib.itoa o.node,false))])=some (some { kind:=12,node:=o.node }):=by
 rw [F7 (DR _ (by decide)).1 (DR _ (by decide)).2 _ (Dn (IM _) F8),zI o ho BL]
 rfl
theorem zK (o:Op) (ho:o.ok):Ai BJ (([]:List (Bs×Wd)).map (·.2))=some { kind:=15 }:=by
 unfold Ai
 rw [if_neg (by decide)]
 rw [if_neg (by decide)]
 rw [if_neg (by decide)]
 rw [if_neg (by decide)]
 rw [if_neg (by decide)]
 rw [if_neg (by decide)]
 rw [if_neg (by decide)]
 rw [if_neg (by decide)]
 rw [if_neg (by decide)]
 rw [if_neg (by decide)]
 rw [if_neg (by decide)]
 rw [if_neg (by decide)]
 rw [if_neg (by decide)]
 rw [if_neg (by decide)]
 rw [if_pos rfl]
 rfl
theorem zL (o:Op) (ho:o.ok):lineS (BJ++row [])=some (some { kind:=15 }):=by
 rw [F7 (DR _ (by decide)).1 (DR _ (by decide)).2 _ F8,zK o ho]
 rfl
theorem zM {o:Op} (ho:o.ok) (hk:o.kind=1) {s:Bs} (h:AU o=some s):lineS s=some (some (AV o))∧AU (AV o)=some s:=by
 have hb:AV o={ kind:=1,origin:=o.origin,text:=o.text }:=by
  unfold AV
  simp [hk]
 rw [hb]
 unfold AU at h
 rw [if_pos hk] at h
 split at h
 ·rename_i hc
  have MX:=hc
  cases h
  refine ⟨?_,?_⟩
  ·have hl:=yH o ho MX
   simpa [row] using hl
  ·unfold AU
   simp [MX]
 ·cases h
theorem zN {o:Op} (ho:o.ok) (hk:o.kind=2) {s:Bs} (h:AU o=some s):lineS s=some (some (AV o))∧AU (AV o)=some s:=by
 have hb:AV o={ kind:=2,w:=o.w,h:=o.h }:=by
  unfold AV
  simp [hk]
 rw [hb]
 unfold AU at h
 rw [if_neg (by omega:¬o.kind=1)] at h
 rw [if_pos hk] at h
 split at h
 ·rename_i hc
  obtain ⟨h_w,h_h⟩:=hc
  cases h
  refine ⟨?_,?_⟩
  ·have hl:=yJ o ho h_w h_h
   simpa [row] using hl
  ·unfold AU
   simp [h_w,h_h]
 ·cases h
theorem zO {o:Op} (ho:o.ok) (hk:o.kind=3) {s:Bs} (h:AU o=some s):lineS s=some (some (AV o))∧AU (AV o)=some s:=by
 have hb:AV o={ kind:=3,w:=o.w }:=by
  unfold AV
  simp [hk]
 rw [hb]
 unfold AU at h
 rw [if_neg (by omega:¬o.kind=1)] at h
 rw [if_neg (by omega:¬o.kind=2)] at h
 rw [if_pos hk] at h
 split at h
 ·rename_i hc
  have h_w:=hc
  cases h
  refine ⟨?_,?_⟩
  ·have hl:=yL o ho h_w
   simpa [row] using hl
  ·unfold AU
   simp [h_w]
 ·cases h
theorem zQ {o:Op} (ho:o.ok) (hk:o.kind=13) {s:Bs} (h:AU o=some s):lineS s=some (some (AV o))∧AU (AV o)=some s:=by
 have hb:AV o={ kind:=13,w:=o.w }:=by
  unfold AV
  simp [hk]
 rw [hb]
 unfold AU at h
 rw [if_neg (by omega:¬o.kind=1)] at h
 rw [if_neg (by omega:¬o.kind=2)] at h
 rw [if_neg (by omega:¬o.kind=3)] at h
 rw [if_pos hk] at h
 split at h
 ·rename_i hc
  have h_w:=hc
  cases h
  refine ⟨?_,?_⟩
  ·have hl:=yN o ho h_w
   simpa [row] using hl
  ·unfold AU
   simp [h_w]
 ·cases h
theorem zS {o:Op} (ho:o.ok) (hk:o.kind=14) {s:Bs} (h:AU o=some s):lineS s=some (some (AV o))∧AU (AV o)=some s:=by
 have hb:AV o={ kind:=14,on:=o.on }:=by
  unfold AV
  simp [hk]
 rw [hb]
 unfold AU at h
 rw [if_neg (by omega:¬o.kind=1)] at h
 rw [if_neg (by omega:¬o.kind=2)] at h
 rw [if_neg (by omega:¬o.kind=3)] at h
 rw [if_neg (by omega:¬o.kind=13)] at h
 rw [if_pos hk] at h
 cases h
 refine ⟨?_,?_⟩
 ·have hl:=yP o ho
  simpa [row] using hl
 ·unfold AU
  simp
theorem zT {o:Op} (ho:o.ok) (hk:o.kind=4) {s:Bs} (h:AU o=some s):lineS s=some (some (AV o))∧AU (AV o)=some s:=by
 have hb:AV o={ kind:=4,name:=o.name,word:=o.word }:=by
  unfold AV
  simp [hk]
 rw [hb]
 unfold AU at h
 rw [if_neg (by omega:¬o.kind=1)] at h
 rw [if_neg (by omega:¬o.kind=2)] at h
 rw [if_neg (by omega:¬o.kind=3)] at h
 rw [if_neg (by omega:¬o.kind=13)] at h
 rw [if_neg (by omega:¬o.kind=14)] at h
 rw [if_pos hk] at h
 split at h
 ·rename_i hc
  obtain ⟨Bv,MZ⟩:=hc
  cases h
  refine ⟨?_,?_⟩
  ·have hl:=yR o ho Bv MZ
   simpa [row] using hl
  ·unfold AU
   simp [Bv,MZ]
 ·cases h
theorem zU {o:Op} (ho:o.ok) (hk:o.kind=5) {s:Bs} (h:AU o=some s):lineS s=some (some (AV o))∧AU (AV o)=some s:=by
 have hb:AV o={ kind:=5,node:=o.node,at_:=o.at_,name:=o.name }:=by
  unfold AV
  simp [hk]
 rw [hb]
 unfold AU at h
 rw [if_neg (by omega:¬o.kind=1)] at h
 rw [if_neg (by omega:¬o.kind=2)] at h
 rw [if_neg (by omega:¬o.kind=3)] at h
 rw [if_neg (by omega:¬o.kind=13)] at h
 rw [if_neg (by omega:¬o.kind=14)] at h
 rw [if_neg (by omega:¬o.kind=4)] at h
 rw [if_pos hk] at h
 split at h
 ·rename_i hc
  obtain ⟨BL,Mc,Bv⟩:=hc
  cases h
  refine ⟨?_,?_⟩
  ·have hl:=yT o ho BL Mc Bv
   simpa [row] using hl
  ·unfold AU
   simp [BL,Mc,Bv]
 ·cases h
theorem zV {o:Op} (ho:o.ok) (hk:o.kind=6) {s:Bs} (h:AU o=some s):lineS s=some (some (AV o))∧AU (AV o)=some s:=by
 have hb:AV o={ kind:=6,node:=o.node }:=by
  unfold AV
  simp [hk]
 rw [hb]
 unfold AU at h
 rw [if_neg (by omega:¬o.kind=1)] at h
 rw [if_neg (by omega:¬o.kind=2)] at h
 rw [if_neg (by omega:¬o.kind=3)] at h
 rw [if_neg (by omega:¬o.kind=13)] at h
 rw [if_neg (by omega:¬o.kind=14)] at h
 rw [if_neg (by omega:¬o.kind=4)] at h
 rw [if_neg (by omega:¬o.kind=5)] at h
 rw [if_pos hk] at h
 split at h
 ·rename_i hc
  have BL:=hc
  cases h
  refine ⟨?_,?_⟩
  ·have hl:=yV o ho BL
   simpa [row] using hl
  ·unfold AU
   simp [BL]
 ·cases h
theorem zW {o:Op} (ho:o.ok) (hk:o.kind=7) {s:Bs} (h:AU o=some s):lineS s=some (some (AV o))∧AU (AV o)=some s:=by
 have hb:AV o={ kind:=7,node:=o.node,name:=o.name,word:=o.word }:=by
  unfold AV
  simp [hk]
 rw [hb]
 unfold AU at h
 rw [if_neg (by omega:¬o.kind=1)] at h
 rw [if_neg (by omega:¬o.kind=2)] at h
 rw [if_neg (by omega:¬o.kind=3)] at h
 rw [if_neg (by omega:¬o.kind=13)] at h
 rw [if_neg (by omega:¬o.kind=14)] at h
 rw [if_neg (by omega:¬o.kind=4)] at h
 rw [if_neg (by omega:¬o.kind=5)] at h
 rw [if_neg (by omega:¬o.kind=6)] at h
 rw [if_pos hk] at h
 split at h
 ·rename_i hc
  obtain ⟨BL,Bv⟩:=hc
  cases h
  refine ⟨?_,?_⟩
  ·have hl:=yY o ho BL Bv
   simpa [row] using hl
  ·unfold AU
   simp [BL,Bv]
 ·cases h
theorem zX {o:Op} (ho:o.ok) (hk:o.kind=8) {s:Bs} (h:AU o=some s):lineS s=some (some (AV o))∧AU (AV o)=some s:=by
 have hb:AV o={ kind:=8,node:=o.node,name:=o.name }:=by
  unfold AV
  simp [hk]
 rw [hb]
 unfold AU at h
 rw [if_neg (by omega:¬o.kind=1)] at h
 rw [if_neg (by omega:¬o.kind=2)] at h
 rw [if_neg (by omega:¬o.kind=3)] at h
 rw [if_neg (by omega:¬o.kind=13)] at h
 rw [if_neg (by omega:¬o.kind=14)] at h
 rw [if_neg (by omega:¬o.kind=4)] at h
 rw [if_neg (by omega:¬o.kind=5)] at h
 rw [if_neg (by omega:¬o.kind=6)] at h
 rw [if_neg (by omega:¬o.kind=7)] at h
 rw [if_pos hk] at h
 split at h
 ·rename_i hc
  obtain ⟨BL,Bv⟩:=hc
  cases h
  refine ⟨?_,?_⟩
  ·have hl:=zA o ho BL Bv
   simpa [row] using hl
  ·unfold AU
   simp [BL,Bv]
 ·cases h
theorem zY {o:Op} (ho:o.ok) (hk:o.kind=9) {s:Bs} (h:AU o=some s):lineS s=some (some (AV o))∧AU (AV o)=some s:=by
 have hb:AV o={ kind:=9,node:=o.node,bt:=o.bt,bn:=o.bn,bw:=o.bw,bh:=o.bh }:=by
  unfold AV
  simp [hk]
 rw [hb]
 unfold AU at h
 rw [if_neg (by omega:¬o.kind=1)] at h
 rw [if_neg (by omega:¬o.kind=2)] at h
 rw [if_neg (by omega:¬o.kind=3)] at h
 rw [if_neg (by omega:¬o.kind=13)] at h
 rw [if_neg (by omega:¬o.kind=14)] at h
 rw [if_neg (by omega:¬o.kind=4)] at h
 rw [if_neg (by omega:¬o.kind=5)] at h
 rw [if_neg (by omega:¬o.kind=6)] at h
 rw [if_neg (by omega:¬o.kind=7)] at h
 rw [if_neg (by omega:¬o.kind=8)] at h
 rw [if_pos hk] at h
 split at h
 ·rename_i hc
  obtain ⟨BL,Ky,Md,Me,NC,ND⟩:=hc
  cases h
  refine ⟨?_,?_⟩
  ·have hl:=zC o ho BL Ky Md Me NC ND
   simpa [row] using hl
  ·unfold AU
   simp [BL,Ky,Md,Me,NC,ND]
 ·cases h
theorem zZ {o:Op} (ho:o.ok) (hk:o.kind=10) {s:Bs} (h:AU o=some s):lineS s=some (some (AV o))∧AU (AV o)=some s:=by
 have hb:AV o={ kind:=10,node:=o.node,name:=o.name }:=by
  unfold AV
  simp [hk]
 rw [hb]
 unfold AU at h
 rw [if_neg (by omega:¬o.kind=1)] at h
 rw [if_neg (by omega:¬o.kind=2)] at h
 rw [if_neg (by omega:¬o.kind=3)] at h
 rw [if_neg (by omega:¬o.kind=13)] at h
 rw [if_neg (by omega:¬o.kind=14)] at h
 rw [if_neg (by omega:¬o.kind=4)] at h
 rw [if_neg (by omega:¬o.kind=5)] at h
 rw [if_neg (by omega:¬o.kind=6)] at h
 rw [if_neg (by omega:¬o.kind=7)] at h
 rw [if_neg (by omega:¬o.kind=8)] at h
 rw [if_neg (by omega:¬o.kind=9)] at h
 rw [if_pos hk] at h
 split at h
 ·rename_i hc
  obtain ⟨BL,Bv⟩:=hc
  cases h
  refine ⟨?_,?_⟩
  ·have hl:=zF o ho BL Bv
   simpa [row] using hl
  ·unfold AU
   simp [BL,Bv]
 ·cases h
theorem AAA {o:Op} (ho:o.ok) (hk:o.kind=11) {s:Bs} (h:AU o=some s):lineS s=some (some (AV o))∧AU (AV o)=some s:=by
 have hb:AV o={ kind:=11,node:=o.node,name:=o.name }:=by
  unfold AV
  simp [hk]
 rw [hb]
 unfold AU at h
 rw [if_neg (by omega:¬o.kind=1)] at h
 rw [if_neg (by omega:¬o.kind=2)] at h
 rw [if_neg (by omega:¬o.kind=3)] at h
 rw [if_neg (by omega:¬o.kind=13)] at h
 rw [if_neg (by omega:¬o.kind=14)] at h
 rw [if_neg (by omega:¬o.kind=4)] at h
 rw [if_neg (by omega:¬o.kind=5)] at h
 rw [if_neg (by omega:¬o.kind=6)] at h
 rw [if_neg (by omega:¬o.kind=7)] at h
 rw [if_neg (by omega:¬o.kind=8)] at h
 rw [if_neg (by omega:¬o.kind=9)] at h
 rw [if_neg (by omega:¬o.kind=10)] at h
 rw [if_pos hk] at h
 split at h
 ·rename_i hc
  obtain ⟨BL,Bv⟩:=hc
  cases h
  refine ⟨?_,?_⟩
  ·have hl:=zH o ho BL Bv
   simpa [row] using hl
  ·unfold AU
   simp [BL,Bv]
 ·cases h
theorem AAB {o:Op} (ho:o.ok) (hk:o.kind=12) {s:Bs} (h:AU o=some s):lineS s=some (some (AV o))∧AU (AV o)=some s:=by
 have hb:AV o={ kind:=12,node:=o.node }:=by
  unfold AV
  simp [hk]
 rw [hb]
 unfold AU at h
 rw [if_neg (by omega:¬o.kind=1)] at h
 rw [if_neg (by omega:¬o.kind=2)] at h
 rw [if_neg (by omega:¬o.kind=3)] at h
 rw [if_neg (by omega:¬o.kind=13)] at h
 rw [if_neg (by omega:¬o.kind=14)] at h
 rw [if_neg (by omega:¬o.kind=4)] at h
 rw [if_neg (by omega:¬o.kind=5)] at h
 rw [if_neg (by omega:¬o.kind=6)] at h
 rw [if_neg (by omega:¬o.kind=7)] at h
 rw [if_neg (by omega:¬o.kind=8)] at h
 rw [if_neg (by omega:¬o.kind=9)] at h
 rw [if_neg (by omega:¬o.kind=10)] at h
 rw [if_neg (by omega:¬o.kind=11)] at h
 rw [if_pos hk] at h
 split at h
 ·rename_i hc
  have BL:=hc
  cases h
  refine ⟨?_,?_⟩
  ·have hl:=zJ o ho BL
   simpa [row] using hl
  ·unfold AU
   simp [BL]
 ·cases h
theorem AAC {o:Op} (ho:o.ok) (hk:o.kind=15) {s:Bs} (h:AU o=some s):lineS s=some (some (AV o))∧AU (AV o)=some s:=by
 have hb:AV o={ kind:=15 }:=by
  unfold AV
  simp [hk]
 rw [hb]
 unfold AU at h
 rw [if_neg (by omega:¬o.kind=1)] at h
 rw [if_neg (by omega:¬o.kind=2)] at h
 rw [if_neg (by omega:¬o.kind=3)] at h
 rw [if_neg (by omega:¬o.kind=13)] at h
 rw [if_neg (by omega:¬o.kind=14)] at h
 rw [if_neg (by omega:¬o.kind=4)] at h
 rw [if_neg (by omega:¬o.kind=5)] at h
 rw [if_neg (by omega:¬o.kind=6)] at h
 rw [if_neg (by omega:¬o.kind=7)] at h
 rw [if_neg (by omega:¬o.kind=8)] at h
 rw [if_neg (by omega:¬o.kind=9)] at h
 rw [if_neg (by omega:¬o.kind=10)] at h
 rw [if_neg (by omega:¬o.kind=11)] at h
 rw [if_neg (by omega:¬o.kind=12)] at h
 rw [if_pos hk] at h
 cases h
 refine ⟨?_,?_⟩
 ·have hl:=zL o ho
  simpa [row] using hl
 ·unfold AU
  simp
theorem YP {o:Op} (ho:o.ok) {s:Bs} (h:AU o=some s):lineS s=some (some (AV o))∧AU (AV o)=some s:=by
 by_cases k1:o.kind=1
 ·exact zM ho k1 h
 by_cases k2:o.kind=2
 ·exact zN ho k2 h
 by_cases k3:o.kind=3
 ·exact zO ho k3 h
 by_cases k13:o.kind=13
 ·exact zQ ho k13 h
 by_cases k14:o.kind=14
 ·exact zS ho k14 h
 by_cases k4:o.kind=4
 ·exact zT ho k4 h
 by_cases k5:o.kind=5
 ·exact zU ho k5 h
 by_cases k6:o.kind=6
 ·exact zV ho k6 h
 by_cases k7:o.kind=7
 ·exact zW ho k7 h
 by_cases k8:o.kind=8
 ·exact zX ho k8 h
 by_cases k9:o.kind=9
 ·exact zY ho k9 h
 by_cases k10:o.kind=10
 ·exact zZ ho k10 h
 by_cases k11:o.kind=11
 ·exact AAA ho k11 h
 by_cases k12:o.kind=12
 ·exact AAB ho k12 h
 by_cases k15:o.kind=15
 ·exact AAC ho k15 h
 unfold AU at h
 rw [if_neg k1] at h
 rw [if_neg k2] at h
 rw [if_neg k3] at h
 rw [if_neg k13] at h
 rw [if_neg k14] at h
 rw [if_neg k4] at h
 rw [if_neg k5] at h
 rw [if_neg k6] at h
 rw [if_neg k7] at h
 rw [if_neg k8] at h
 rw [if_neg k9] at h
 rw [if_neg k10] at h
 rw [if_neg k11] at h
 rw [if_neg k12] at h
 rw [if_neg k15] at h
 cases h
/-! ### The lines of a text -/
def DT (b:Bs):List Bs:=if h:b = [] then [] else b.takeWhile (· != 10) :: DT ((b.dropWhile (· != 10)).drop 1)
termination_by b.length
decreasing_by
 have h1:=(List.dropWhile_sublist (· != 10) (l:=b)).length_le
 have h2:0<b.length:=List.length_pos_iff.2 h
 cases hd:b.dropWhile (· != 10) with
 | nil=>simpa using h2
 | cons c r=>rw [hd] at h1;simp at h1 ⊢; omega
theorem Kz:DT [] = []:=by rw [DT];rfl
theorem VE {a:Bs} (h:(10:UInt8)∉a) (r:Bs):DT (a++10 :: r)=a :: DT r:=by
 have hp:∀c∈a,(c != 10)=true:=fun c hc=>by
  simp only [bne_iff_ne,ne_eq]
  rintro rfl
  exact h hc
 rw [DT,dif_neg (by simp),List.takeWhile_append_of_pos hp,List.dropWhile_append_of_pos hp]
 simp
theorem Y8 {a:Bs} (h:(10:UInt8)∉a) (h0:a≠[]):DT a = [a]:=by
 have hp:∀c∈a,(c != 10)=true:=fun c hc=>by
  simp only [bne_iff_ne,ne_eq]
  rintro rfl
  exact h hc
 have h1:a.takeWhile (· != 10)=a:=by
  have:=List.takeWhile_append_of_pos (l₂:=[]) hp
  simpa using this
 have h2:a.dropWhile (· != 10) = []:=by
  have:=List.dropWhile_append_of_pos (l₂:=[]) hp
  simpa using this
 rw [DT,dif_neg h0,h1,h2]
 simp [Kz]
/-! ### The operations of a text -/
noncomputable def FC:Nat→List Bs→Nat ⊕ List Op
 | _,[]=>.inr []
 | i,s :: l =>
  match lineS s with
  | none=>.inl (i+1)
  | some none=>FC (i+1) l
  | some (some o) =>
   match FC (i+1) l with
   | .inl n=>.inl n
   | .inr r=>.inr (o :: r)
theorem Qa {s:Bs} {x:Option Op} (h:lineS s=some x):(10:UInt8)∉s:=fun hm=>by
 unfold lineS at h
 rw [if_pos hm] at h
 cases h
theorem AAD {s:Bs} {o:Op} (h:lineS s=some (some o)) (i:Nat) (l:List Bs) {r:List Op} (hr:FC (i+1) l=.inr r):FC i (s :: l)=.inr (o :: r):=by
 unfold FC
 rw [h]
 simp only [hr]
theorem YV (l:List Op):(∀o∈l,o.ok)→∀s,textS l=some s→(DT s).length=l.length∧(∀i,FC i (DT s)=.inr (l.map AV))∧textS (l.map AV)=some s:=by
 induction l with
 | nil =>
  intro _ s h
  cases h
  exact ⟨by rw [Kz];rfl,fun i=>by rw [Kz];rfl,rfl⟩
 | cons o l ih =>
  intro ho s h
  unfold textS at h
  obtain ⟨a,ha,h⟩:=Option.bind_eq_some_iff.1 h
  obtain ⟨t,ht,rfl⟩:=Option.map_eq_some_iff.1 h
  obtain ⟨h1,h2⟩:=YP (ho o List.mem_cons_self) ha
  obtain ⟨h3,h4,h5⟩:=ih (fun p hp=>ho p (List.mem_cons_of_mem _ hp)) t ht
  have hl:=VE (Qa h1) t
  refine ⟨by rw [hl,List.length_cons,List.length_cons,h3],fun i => ?_,?_⟩
  ·rw [hl,List.map_cons]
   exact AAD h1 i _ (h4 _)
  ·rw [List.map_cons]
   unfold textS
   rw [h2,h5]
   rfl
end Go.Proofs.YtihlneenajlhoaaGreatDoor.sp
set_option linter.unusedSimpArgs false
set_option linter.unusedVariables false
namespace Go.Proofs.YtihlneenajlhoaaGreatDoor
open Go Go.RowKit
theorem VF:∀ {b:List UInt8},(10:UInt8)∉b→Lib.index b [10] = -1
 | [],_=>rfl
 | c :: l,h=>by
  have h1:¬(10:UInt8)=c:=fun e=>h (e ▸ List.mem_cons_self)
  have h2:=VF (b:=l) fun hm=>h (List.mem_cons_of_mem _ hm)
  unfold Lib.index
  rw [h2]
  simp [h1]
theorem Y9:∀ {a:List UInt8} (r:List UInt8),(10:UInt8)∉a→Lib.index (a++10 :: r) [10]=(a.length:Int)
 | [],r,_=>by unfold Lib.index;simp
 | c :: l,r,h=>by
  have h1:¬(10:UInt8)=c:=fun e=>h (e ▸ List.mem_cons_self)
  have h2:=Y9 (a:=l) r fun hm=>h (List.mem_cons_of_mem _ hm)
  rw [List.cons_append]
  unfold Lib.index
  rw [h2]
  have h3:((l.length:Int) == -1)=false:=by rw [beq_eq_false_iff_ne];omega
  simp [h1,h3]
abbrev nlB:ByteArray:=⟨#[10]⟩
theorem ZA {b:List UInt8} (h:(10:UInt8)∈b):∃a r,b=a++10 :: r∧(10:UInt8)∉a:=by
 induction b with
 | nil=>cases h
 | cons c l ih =>
  by_cases hc:c=10
  ·subst hc;exact ⟨[],l,rfl,by simp⟩
  ·have hl:(10:UInt8)∈l:=(List.mem_cons.1 h).resolve_left fun h=>hc h.symm
   obtain ⟨a,r,e,hn⟩:=ih hl
   exact ⟨c :: a,r,by rw [e];rfl,by simp [hn,Ne.symm hc]⟩
theorem ZB (b:List UInt8) (i j:Nat):(AA b).extract i j=AA ((b.take j).drop i):=by
 apply ByteArray.ext
 rw [ByteArray.data_extract]
 apply Array.toList_inj.1
 simp [AA,List.extract_eq_take_drop,List.drop_take]
theorem AAE:∀(n:Nat) (b:List UInt8),b.length≤n→∃l:List (List UInt8),Lib.splitB nlB 0 (Lib.countB (AA b) nlB) (AA b)=l.map AA∧l.length=Lib.countB (AA b) nlB+1∧((∃l',l=l'++[[]]∧sp.DT b=l')∨(∃l' x,l=l'++[x]∧x≠[]∧sp.DT b=l)):=by
 intro n
 induction n with
 | zero =>
  intro b hb
  obtain rfl:b = []:=List.eq_nil_of_length_eq_zero (by omega)
  have hi:Lib.indexB (AA []) nlB = -1:=VF (b:=[]) (by simp)
  refine ⟨[[]],?_,by rw [Lib.countB_miss _ _ hi];rfl,.inl ⟨[],rfl,sp.Kz⟩⟩
  rw [Lib.splitB_miss _ _ _ _ hi]
  rfl
 | succ n ih =>
  intro b hb
  by_cases hm:(10:UInt8)∈b
  ·obtain ⟨a,r,rfl,hn⟩:=ZA hm
   have hi:Lib.indexB (AA (a++10 :: r)) nlB=(a.length:Int):=by
    show Lib.index (AA (a++10 :: r)).data.toList [10]=_
    rw [CY]
    exact Y9 r hn
   have hx:(AA (a++10 :: r)).extract (a.length+nlB.size) (AA (a++10 :: r)).size=AA r:=by
    rw [ZB,Aa,List.take_length]
    congr 1
    show (a++10 :: r).drop (a.length+1)=r
    rw [List.drop_append]
    simp
   have h0:(AA (a++10 :: r)).extract 0 (a.length+0)=AA a:=by
    rw [ZB]
    simp
   have hc:Lib.countB (AA (a++10 :: r)) nlB=Lib.countB (AA r) nlB+1:=by
    rw [Lib.countB_hit _ _ _ (by decide) hi,hx]
    omega
   obtain ⟨l,h1,h2,h3⟩:=ih r (by simp at hb;omega)
   refine ⟨a :: l,?_,by rw [hc];simp [h2],?_⟩
   ·rw [hc,Lib.splitB_hit _ _ _ _ _ hi,hx,h1]
    show (AA (a++10 :: r)).extract 0 (a.length+0) :: _=_
    rw [h0]
    rfl
   ·rw [sp.VE hn]
    rcases h3 with ⟨l',rfl,e⟩ | ⟨l',x,rfl,hx,e⟩
    ·exact .inl ⟨a :: l',rfl,by rw [e]⟩
    ·exact .inr ⟨a :: l',x,rfl,hx,by rw [e]⟩
  ·have hi:Lib.indexB (AA b) nlB = -1:=by
    show Lib.index (AA b).data.toList [10]=_
    rw [CY]
    exact VF hm
   refine ⟨[b],by rw [Lib.splitB_miss _ _ _ _ hi];rfl,by rw [Lib.countB_miss _ _ hi];rfl,?_⟩
   by_cases h0:b = []
   ·subst h0;exact .inl ⟨[],rfl,sp.Kz⟩
   ·exact .inr ⟨[],b,rfl,h0,sp.Y8 hm h0⟩
theorem ZC (b:List UInt8):(sp.DT b).length≤b.length+1∧∀s∈sp.DT b,s.length≤b.length:=by
 suffices h:∀(n:Nat) (b:List UInt8),b.length≤n→(sp.DT b).length≤b.length+1∧∀s∈sp.DT b,s.length≤b.length from h _ b (Nat.le_refl _)
 intro n
 induction n with
 | zero =>
  intro b hb
  obtain rfl:b = []:=List.eq_nil_of_length_eq_zero (by omega)
  rw [sp.Kz]
  simp
 | succ n ih =>
  intro b hb
  by_cases hm:(10:UInt8)∈b
  ·obtain ⟨a,r,rfl,hn⟩:=ZA hm
   rw [sp.VE hn]
   obtain ⟨h1,h2⟩:=ih r (by simp at hb;omega)
   refine ⟨by simp;omega,fun s hs => ?_⟩
   rcases List.mem_cons.1 hs with rfl | hs
   ·simp
   ·have:=h2 s hs
    simp
    omega
  ·by_cases h0:b = []
   ·subst h0;rw [sp.Kz];simp
   ·rw [sp.Y8 hm h0]
    simp
theorem Bh.step {w:World} {b:Nat} {s:ByteArray} {c:UInt8} {r:List UInt8} (h:Bh w b s (c :: r)):∃n:Nat,w.cell? ⟨b,1,none⟩=some (.int .i64 n)∧w.frozen? ⟨b,1,none⟩=false∧n<s.size∧Bh (w.setCell ⟨b,1,none⟩ (.int .i64 ((n:Int)+1))) b s r:=by
 obtain ⟨p,h1,h2⟩:=h
 refine ⟨p.length,by rw [Lib.cell_of_heap h2];rfl,Ag h2 1,by have:=KZ h1;simp at this;omega,p++[c],by rw [h1];simp,?_⟩
 have:=D9 h2 1 (.int .i64 ((p.length:Int)+1))
 rw [this]
 simp
structure GU (w:World) (b:Nat) (s:ByteArray) (u:List UInt8) (l:List (List UInt8×Bool)) (v:Value) (r:List UInt8) (wr:World):Prop where
 line:Bh wr b s r
 own:wr.ownsRow w.heap.size 71 2 v l.length (Dc l)
 fr:Fr w wr b none
 hb:b<w.heap.size
 eq:sp.words u=(sp.words r).map fun m=>l++m
 len:l.length+r.length≤s.size
section
variable {w wr w':World} {b:Nat} {s:ByteArray} {u r r':List UInt8} {l:List (List UInt8×Bool)} {v:Value}
theorem GU.move (h:GU w b s u l v r wr) (hl:Bh w' b s r') (hf:Fr wr w' b none) (he:sp.words r=sp.words r') (hn:r'.length≤r.length):GU w b s u l v r' w' :=
 ⟨hl,Uz h.own hf h.hb,h.fr.trans hf (Own.refl _ _),h.hb,by rw [h.eq,he],by have:=h.len;omega⟩
theorem GU.below (h:GU w b s u l v r wr) (hb:Below wr.heap.size wr w'):GU w b s u l v r w':=h.move (h.line.below hb) (Fr.of_below hb) rfl (Nat.le_refl _)
end
structure JE (w:World) (b:Nat) (s:ByteArray) (u:List UInt8) (l:List (List UInt8×Bool)) (v:Value) (p:List UInt8×Bool) (r:List UInt8) (wr:World):Prop where
 line:Bh wr b s r
 own:wr.ownsRow w.heap.size 71 2 v l.length (Dc l)
 fr:Fr w wr b none
 hb:b<w.heap.size
 eq:sp.words u=if r.head?=none∨r.head?=some 32 then (sp.words r).map fun m=>l++p :: m else none
 len:l.length+1+r.length≤s.size
section
variable {w wr w':World} {b:Nat} {s:ByteArray} {u r r' t:List UInt8} {l:List (List UInt8×Bool)} {v:Value} {p:List UInt8×Bool}
theorem GU.quoted {r2:List UInt8} (h:GU w b s u l v (34 :: r2) wr) (hq:sp.Aj r2=some (t,r')) (hl:Bh w' b s r') (hf:Fr wr w' b none):JE w b s u l v (t,true) r' w':=by
 have hn:=sp.UI _ _ hq
 refine ⟨hl,Uz h.own hf h.hb,h.fr.trans hf (Own.refl _ _),h.hb,?_,by have:=h.len;simp only [List.length_cons] at this;simp only at hn;omega⟩
 rw [h.eq,U1 hq]
 split
 ·rw [Option.map_map];rfl
 ·rfl
theorem GU.plain {c:UInt8} {r2:List UInt8} (h:GU w b s u l v (c :: r2) wr) (h1:c≠32) (h2:c≠34) (hl:Bh w' b s ((c :: r2).dropWhile sp.Aw)) (hf:Fr wr w' b none):JE w b s u l v ((c :: r2).takeWhile sp.Aw,false) ((c :: r2).dropWhile sp.Aw) w':=by
 have hcw:sp.Aw c=true:=by simp [sp.Aw,h1,h2]
 have hle:((c :: r2).dropWhile sp.Aw).length≤r2.length:=by
  rw [List.dropWhile_cons,if_pos hcw]
  exact (List.dropWhile_sublist sp.Aw).length_le
 refine ⟨hl,Uz h.own hf h.hb,h.fr.trans hf (Own.refl _ _),h.hb,?_,by have:=h.len;simp only [List.length_cons] at this;omega⟩
 rw [h.eq,U2 h1 h2]
 have hhd:((c :: r2).dropWhile sp.Aw).head?=none∨((c :: r2).dropWhile sp.Aw).head?=some 32∨((c :: r2).dropWhile sp.Aw).head?=some 34:=by
  have:=List.head?_dropWhile_not sp.Aw (c :: r2)
  cases he:((c :: r2).dropWhile sp.Aw).head? with
  | none=>exact .inl rfl
  | some x =>
   rw [he] at this
   have hx:sp.Aw x=false:=by simpa using this
   right
   by_cases q:x=32
   ·rw [q];exact .inl rfl
   ·right
    have:x=34:=by
     unfold sp.Aw at hx
     simp [q] at hx
     exact hx
    rw [this]
 rcases hhd with e | e | e
 ·rw [e];simp [Function.comp_def]
 ·rw [e];simp [Function.comp_def]
 ·rw [e];simp
theorem JE.lay {v':Value} (h:JE w b s u l v p r wr) (hown:w'.ownsRow w.heap.size 71 2 v' (l++[p]).length (Dc (l++[p]))) (hg:(wr.alloc (.cells #[.string (AA p.1),.bool p.2] 71)).grownBy w' v.ownBlock) (hh:r.head?=none∨r.head?=some 32):GU w b s u (l++[p]) v' r w':=by
 have hsz:=h.fr.size
 have old:∀k,k<w.heap.size→w'.heap[k]?=wr.heap[k]?:=fun k hk=>by
  rw [hg.block k (by simp;omega) (fun e=>by have:=h.own.lt k e.symm;omega),Below.heap_alloc _ _ _ (by omega)]
 refine ⟨h.line.keep (old b h.hb),hown,⟨hg.os.trans h.fr.os,hg.tape.trans h.fr.tape,hg.output.trans h.fr.output,?_,fun k hk hb hn=>(old k hk).trans (h.fr.block k hk hb hn)⟩,h.hb,?_,?_⟩
 ·have:=hg.size;simp at this;omega
 ·rw [h.eq,if_pos hh];simp
 ·have:=h.len;rw [List.length_append];simp;omega
theorem JE.after (h:JE w b s u l v p r wr) (hg:(wr.alloc (.cells #[.string (AA p.1),.bool p.2] 71)).grownBy w' v.ownBlock):Bh w' b s r∧Fr w w' b none:=by
 have hsz:=h.fr.size
 have old:∀k,k<w.heap.size→w'.heap[k]?=wr.heap[k]?:=fun k hk=>by
  rw [hg.block k (by simp;omega) (fun e=>by have:=h.own.lt k e.symm;omega),Below.heap_alloc _ _ _ (by omega)]
 exact ⟨h.line.keep (old b h.hb),⟨hg.os.trans h.fr.os,hg.tape.trans h.fr.tape,hg.output.trans h.fr.output,by have:=hg.size;simp at this;omega,fun k hk hb hn=>(old k hk).trans (h.fr.block k hk hb hn)⟩⟩
theorem JE.bad (h:JE w b s u l v p r wr) (hh:¬(r.head?=none∨r.head?=some 32)):sp.words u=none:=by rw [h.eq,if_neg hh]
end
def Ib (w w':World) (u:List UInt8) (e:Ending):Prop:=match sp.words u with
 | some l=>∃v,e=.returned v∧w'.ownsRow w.heap.size 71 2 v l.length (Dc l)
 | none=>e=.panicked bar
set_option maxRecDepth 100000 in
set_option maxHeartbeats 4000000 in
theorem Ou (w:World) (b:Nat) (s:ByteArray) (u:List UInt8) (h:Bh w b s u) (hs:s.size≤1099511627776):Calls Tryz.prog 26 #[.pointer (some ⟨b,0,none⟩)] w fun e w'=>Ib w w' u e∧Fr w w' b none:=by
 have HS:=Lib.hid hs
 have HR:Hid (GU w b s u [] (.slice none 0 0) u w):=Lib.hid ⟨h,World.ownsRow_nil _ _ _ _,Fr.refl _ _ _,h.lt,by cases sp.words u<;>simp,by have:=h.len;simpa using this⟩
 clear h hs
 go_enter Tryz.func26,Tryz.ntmps26
 go_wp2
 go_loopw [3] (fun v wr=>∃l r,GU w b s u l v r wr) (fun _ wr=>leftOf wr b s)
 case atStart=>exact ⟨[],u,HR.out⟩
 case round =>
  obtain ⟨l,r,hr⟩:=hrel
  have HR1:=Lib.hid hr
  clear hr HR
  obtain ⟨c0,o0,hpv,hc0,ho0⟩:=Qi r
  have HPV:=Lib.hid hpv;have HC0:=Lib.hid hc0;have HO0:=Lib.hid ho0
  have HP:=Lib.hid (JB wr b s r HR1.out.line)
  clear hpv hc0 ho0
  go_wp2_with (go_at_call 46;refine HP.out.mono ?_;rintro e w1 ⟨rfl,hb1⟩;rw [HPV.out])
  have HR2:=Lib.hid (HR1.out.below hb1)
  have HLF:Hid (leftOf wr b s=r.length):=Lib.hid HR1.out.line.left
  clear HR1 HP hb1
  obtain ⟨wo,hwo⟩:∃wo,wo=wr:=⟨_,rfl⟩
  subst hwo
  go_loopw [4,5] (fun c ok w2=>∃r1,GU w b s u l u3 r1 w2∧r1.length≤r.length∧c=.int .u8 (Kq r1)∧ok=.bool (Kr r1)) (fun _ _ w2=>leftOf w2 b s)
  case atStart=>exact ⟨r,HR2.out,Nat.le_refl _,by rw [HC0.out],by rw [HO0.out]⟩
  case round =>
   obtain ⟨r1,hr,hle,rfl,rfl⟩:=hrel
   have HR3:=Lib.hid hr;have HLE:=Lib.hid hle
   have HP:=Lib.hid (JB wr b s r1 HR3.out.line)
   clear hr hle HR2 HC0 HO0 HPV
   match r1 with
   | [] =>
    simp only [Kq,Kr]
    have HW:Hid (sp.words u=some l):=Lib.hid (by rw [HR3.out.eq,sp.MC];simp)
    go_wp2_with (go_at_call 46;refine HP.out.mono ?_;rintro e w2 ⟨rfl,hb2⟩;simp only [GN])
    go_ret
    have HR4:=HR3.out.below hb2
    refine ⟨?_,HR4.fr⟩
    unfold Ib
    rw [HW.out]
    exact ⟨_,rfl,HR4.own⟩
   | c :: r2 =>
    simp only [Kq,Kr]
    by_cases e32:c=32
    ·subst e32
     obtain ⟨n,d1,z1,hn,hl2⟩:=HR3.out.line.step
     have hn63:(n:Int)≤1099511627776:=by have:=HS.out;omega
     have HR4:=Lib.hid (HR3.out.move hl2 (Fr.set 1 _) (sp.OW r2) (by simp))
     have HP2:=Lib.hid (JB _ b s _ HR4.out.line)
     have HLN:Hid (r2.length≤r.length):=Lib.hid (by have:=HLE.out;simp at this;omega)
     obtain ⟨c1',o1,hpv,hc1,ho1⟩:=Qi r2
     have HPV:=Lib.hid hpv;have HC0:=Lib.hid hc1;have HO0:=Lib.hid ho1
     clear hpv hc1 ho1 hl2 hn HP
     go_wp2_with (go_at_call 46;refine HP2.out.mono ?_;rintro e w2 ⟨rfl,hb2⟩;rw [HPV.out])
     have HR5:=HR4.out.below hb2
     refine ⟨⟨r2,HR5,HLN.out,by rw [HC0.out];rfl,by rw [HO0.out];rfl⟩,?_⟩
     rw [HR5.line.left,HR3.out.line.left]
     simp
    ·have t1':((c.toNat:Int)==32)=false:=Bo c 32 e32
     by_cases e34:c=34
     ·subst e34
      cases hq:sp.Aj r2 with
      | none =>
       have HW:Hid (sp.words u=none):=Lib.hid (by rw [HR3.out.eq,U0 hq];rfl)
       have HQ:=Lib.hid hq
       clear hq
       go_wp2_with (first
        | (go_at_call 46;refine HP.out.mono ?_;rintro e w2 ⟨rfl,hb2⟩;simp only [GN];have HR4:=Lib.hid (HR3.out.below hb2);clear HP hb2)
        | (go_at_call 47;refine (Yq _ b s 34 r2 HR4.out.line HS.out).mono ?_;rintro e w3 ⟨he,hf3⟩;unfold QIs at he;rw [HQ.out] at he;subst he))
       exact ⟨rfl,by unfold Ib;rw [HW.out],HR4.out.fr.trans hf3 (Own.refl _ _)⟩
      | some q =>
       obtain ⟨t,r3⟩:=q
       have HQ:=Lib.hid hq
       clear hq
       go_wp2_with (first
        | (go_at_call 46;refine HP.out.mono ?_;rintro e w2 ⟨rfl,hb2⟩;simp only [GN];have HR4:=Lib.hid (HR3.out.below hb2);clear HP hb2)
        | (go_at_call 47;refine (Yq _ b s 34 r2 HR4.out.line HS.out).mono ?_;rintro e w3 ⟨he,hf3⟩;unfold QIs at he;rw [HQ.out] at he;obtain ⟨rfl,hl3⟩:=he;have HM:=Lib.hid (HR4.out.quoted HQ.out hl3 hf3);clear hl3 hf3)
        | (at_builtin;refine MQ Yr rfl _ _ rfl w.heap.size l _ rfl (HM.out.own.alloc _) w3.heap.size (t,true) (0,0) rfl (AX _ _) (by have:=HM.out.len;have:=HS.out;omega) (by have:=HM.out.fr.size;simp;omega) ?_;intro v' w4 hown hg _))
       have HN:Hid (r3.length≤r2.length):=Lib.hid (by have:=sp.UI _ _ HQ.out;simp only at this;omega)
       have HO:=Lib.hid hown;have HG:Hid ((w3.alloc (.cells #[.string (AA (t,true).1),.bool (t,true).2] 71)).grownBy w4 u3.ownBlock):=Lib.hid hg
       have HA:=Lib.hid (HM.out.after HG.out)
       have HP3:=Lib.hid (JB _ b s _ HA.out.1)
       clear hown hg
       match r3 with
       | [] =>
        go_wp2_with (go_at_call 46;refine HP3.out.mono ?_;rintro e w5 ⟨rfl,hb5⟩;simp only [GN])
        have HR6:=(HM.out.lay HO.out HG.out (Or.inl rfl)).below hb5
        refine ⟨⟨_,_,HR6⟩,?_⟩
        rw [HR6.line.left,HLF.out]
        have:=HLE.out
        simp only [List.length_cons,List.length_nil] at this ⊢
        omega
       | c4 :: r4 =>
        by_cases e4:c4=32
        ·subst e4
         go_wp2_with (go_at_call 46;refine HP3.out.mono ?_;rintro e w5 ⟨rfl,hb5⟩;simp only [GN])
         have HR6:=(HM.out.lay HO.out HG.out (Or.inr rfl)).below hb5
         refine ⟨⟨_,_,HR6⟩,?_⟩
         rw [HR6.line.left,HLF.out]
         have:=HLE.out
         have:=HN.out
         simp only [List.length_cons] at *
         omega
        ·have t4:((c4.toNat:Int)==32)=false:=Bo c4 32 e4
         have t4n:((c4.toNat:Int) != 32)=true:=by rw [bne,t4];rfl
         have HW:Hid (sp.words u=none):=Lib.hid (HM.out.bad (by simp [e4]))
         clear e4
         go_wp2_with (go_at_call 46;refine HP3.out.mono ?_;rintro e w5 ⟨rfl,hb5⟩;simp only [GN])
         exact ⟨rfl,by unfold Ib;rw [HW.out];exact rfl,HA.out.2.trans (Fr.of_below hb5) (Own.refl _ _)⟩
     ·have t2':((c.toNat:Int)==34)=false:=Bo c 34 e34
      obtain ⟨t,ht⟩:∃t,t=(c :: r2).takeWhile sp.Aw:=⟨_,rfl⟩
      obtain ⟨r3,hr3⟩:∃r3,r3=(c :: r2).dropWhile sp.Aw:=⟨_,rfl⟩
      have HC:=Lib.hid (And.intro e32 e34)
      have HN:Hid (r3.length≤r2.length):=Lib.hid (by
       have hcw:sp.Aw c=true:=by simp [sp.Aw,e32,e34]
       rw [hr3,List.dropWhile_cons,if_pos hcw]
       exact (List.dropWhile_sublist sp.Aw).length_le)
      have HT:=Lib.hid ht;have HRR:=Lib.hid hr3
      have HPW:Hid (∀W,Bh W b s (c :: r2)→Calls Tryz.prog 48 #[.pointer (some ⟨b,0,none⟩)] W fun e w'=>e=.returned (.string (AA t))∧Bh w' b s r3∧Fr W w' b none):=Lib.hid (fun W hW=>by rw [ht,hr3];exact vY W b s _ hW HS.out)
      clear ht hr3 e32 e34
      go_wp2_with (first
        | (go_at_call 46;refine HP.out.mono ?_;rintro e w2 ⟨rfl,hb2⟩;simp only [GN];have HR4:=Lib.hid (HR3.out.below hb2);clear HP hb2)
        | (go_at_call 48;refine (HPW.out _ HR4.out.line).mono ?_;rintro e w3 ⟨rfl,hl3,hf3⟩;have HM:Hid (JE w b s u l u3 (t,false) r3 w3):=Lib.hid (by rw [HT.out,HRR.out];exact HR4.out.plain HC.out.1 HC.out.2 (by rw [←HRR.out];exact hl3) hf3);clear hl3 hf3)
        | (at_builtin;refine MQ Yr rfl _ _ rfl w.heap.size l _ rfl (HM.out.own.alloc _) w3.heap.size (t,false) (0,0) rfl (AX _ _) (by have:=HM.out.len;have:=HS.out;omega) (by have:=HM.out.fr.size;simp;omega) ?_;intro v' w4 hown hg _))
      have HO:=Lib.hid hown;have HG:Hid ((w3.alloc (.cells #[.string (AA (t,false).1),.bool (t,false).2] 71)).grownBy w4 u3.ownBlock):=Lib.hid hg
      have HA:=Lib.hid (HM.out.after HG.out)
      have HP3:=Lib.hid (JB _ b s _ HA.out.1)
      clear hown hg
      match r3 with
      | [] =>
       go_wp2_with (go_at_call 46;refine HP3.out.mono ?_;rintro e w5 ⟨rfl,hb5⟩;simp only [GN])
       have HR6:=(HM.out.lay HO.out HG.out (Or.inl rfl)).below hb5
       refine ⟨⟨_,_,HR6⟩,?_⟩
       rw [HR6.line.left,HLF.out]
       have:=HLE.out
       simp only [List.length_cons,List.length_nil] at this ⊢
       omega
      | c4 :: r4 =>
       by_cases e4:c4=32
       ·subst e4
        go_wp2_with (go_at_call 46;refine HP3.out.mono ?_;rintro e w5 ⟨rfl,hb5⟩;simp only [GN])
        have HR6:=(HM.out.lay HO.out HG.out (Or.inr rfl)).below hb5
        refine ⟨⟨_,_,HR6⟩,?_⟩
        rw [HR6.line.left,HLF.out]
        have:=HLE.out
        have:=HN.out
        simp only [List.length_cons] at *
        omega
       ·have t4:((c4.toNat:Int)==32)=false:=Bo c4 32 e4
        have t4n:((c4.toNat:Int) != 32)=true:=by rw [bne,t4];rfl
        have HW:Hid (sp.words u=none):=Lib.hid (HM.out.bad (by simp [e4]))
        clear e4
        go_wp2_with (go_at_call 46;refine HP3.out.mono ?_;rintro e w5 ⟨rfl,hb5⟩;simp only [GN])
        exact ⟨rfl,by unfold Ib;rw [HW.out];exact rfl,HA.out.2.trans (Fr.of_below hb5) (Own.refl _ _)⟩
/-! ### The map of the rows, with its second answer -/
theorem DK.ZE {w:World} {B:Nat} {f:List (List UInt8×Rw)} (h:DK w B f) {x:List UInt8} {b:Rw} (hx:(x,b)∈f):(Instr.lookup 67 (.map (some B)) (.string (AA x)) true).run Tryz.prog w=.ok (.tuple #[b.v,.bool true]) w:=by
 obtain ⟨D,h1,hr⟩:=h.own
 obtain ⟨v,ps,hrun,hv⟩:=h1.look_ok keyed Tryz.underlying67 (Tryz.zeroValue65 w) (zd:=.nil) (zp:=[]) rfl (Ul (h.wf _ hx))
 have hh:Maps.has D (KL x)=true:=(hr.has _).2 ⟨(x,b),hx,rfl⟩
 rw [hr.at_ x b hx] at hv
 rw [hrun,YX hv,hh]
theorem DK.AAF {w:World} {B:Nat} {f:List (List UInt8×Rw)} (h:DK w B f) {x:List UInt8} (hi:x.length≤maxLen) (hx:x∉f.map (·.1)):(Instr.lookup 67 (.map (some B)) (.string (AA x)) true).run Tryz.prog w=.ok (.tuple #[noRow,.bool false]) w:=by
 obtain ⟨D,h1,hr⟩:=h.own
 obtain ⟨v,ps,hrun,hv⟩:=h1.look_ok keyed Tryz.underlying67 (Tryz.zeroValue65 w) (zd:=.nil) (zp:=[]) rfl (Ul hi)
 have hno:Maps.has D (KL x)=false:=by
  cases hh:Maps.has D (KL x) with
  | false=>rfl
  | true =>
   obtain ⟨p,hp,e⟩:=(hr.has _).1 hh
   simp only [KL,Lit.string.injEq] at e
   exact absurd (e ▸ List.mem_map_of_mem (f:=(·.1)) hp) hx
 rw [Maps.atKey_of_not_has hno] at hv
 rw [hrun,tX hv,hno]
/-! ### The rows' functions in one law -/
theorem AAG (name:List UInt8) (r:Rw) (hr:(name,r)∈Ce) (a:List (List UInt8×Bool)) (hn:(a.length:Int)=r.n) (ad:Option Addr) (c:Nat) (w0 w:World) (B g:Nat) (had:0<a.length→ad=some ⟨g,2,none⟩) (hl:∀p∈a,p.1.length≤1099511627776) (h:BO w0 B g a (Ap r.k) w) :
  Calls Tryz.prog r.g #[.pointer (some ⟨B,0,none⟩),.slice ad a.length c] w fun e w'=>Fj w0 B (sp.Ai name a) e w':=by
 simp only [Ce,List.mem_cons,List.not_mem_nil,or_false,Prod.mk.injEq] at hr
 rcases hr with ⟨rfl,rfl⟩ | ⟨rfl,rfl⟩ | ⟨rfl,rfl⟩ | ⟨rfl,rfl⟩ | ⟨rfl,rfl⟩ | ⟨rfl,rfl⟩ | ⟨rfl,rfl⟩ | ⟨rfl,rfl⟩ | ⟨rfl,rfl⟩ | ⟨rfl,rfl⟩ | ⟨rfl,rfl⟩ | ⟨rfl,rfl⟩ | ⟨rfl,rfl⟩ | ⟨rfl,rfl⟩ | ⟨rfl,rfl⟩
 all_goals simp only at hn h
 ·obtain ⟨x,y,rfl⟩:∃x y,a = [x,y]:=by
   match a,hn with
   | [x,y],_=>exact ⟨x,y,rfl⟩
  obtain rfl:=had (by simp)
  exact xM 1 w0 w B g c x y (hl _ (by simp)) h
 ·obtain ⟨x,y,rfl⟩:∃x y,a = [x,y]:=by
   match a,hn with
   | [x,y],_=>exact ⟨x,y,rfl⟩
  obtain rfl:=had (by simp)
  exact xH 2 w0 w B g c x y (hl _ (by simp)) (hl _ (by simp)) h
 ·obtain ⟨x,rfl⟩:∃x,a = [x]:=by
   match a,hn with
   | [x],_=>exact ⟨x,rfl⟩
  obtain rfl:=had (by simp)
  exact (Y5 3 w0 w B g c x (hl _ (by simp)) h).mono fun e w' q=>by
   have e2:(sp.CW x).map (fun q=>({ kind:=3,w:=q }:sp.Op))=(sp.CW x).bind fun p=>some { kind:=3,w:=p }:=by cases sp.CW x<;>rfl
   rw [e2] at q
   exact q
 ·obtain ⟨x,rfl⟩:∃x,a = [x]:=by
   match a,hn with
   | [x],_=>exact ⟨x,rfl⟩
  obtain rfl:=had (by simp)
  exact (Y5 13 w0 w B g c x (hl _ (by simp)) h).mono fun e w' q=>by
   have e2:(sp.CW x).map (fun q=>({ kind:=13,w:=q }:sp.Op))=(sp.CW x).bind fun p=>some { kind:=13,w:=p }:=by cases sp.CW x<;>rfl
   rw [e2] at q
   exact q
 ·obtain ⟨x,rfl⟩:∃x,a = [x]:=by
   match a,hn with
   | [x],_=>exact ⟨x,rfl⟩
  obtain rfl:=had (by simp)
  exact xN 14 w0 w B g c x h
 ·obtain ⟨x,y,rfl⟩:∃x y,a = [x,y]:=by
   match a,hn with
   | [x,y],_=>exact ⟨x,y,rfl⟩
  obtain rfl:=had (by simp)
  exact xI 4 w0 w B g c x y h
 ·obtain ⟨x,y,z,rfl⟩:∃x y z,a = [x,y,z]:=by
   match a,hn with
   | [x,y,z],_=>exact ⟨x,y,z,rfl⟩
  obtain rfl:=had (by simp)
  exact xJ 5 w0 w B g c x y z h
 ·obtain ⟨x,rfl⟩:∃x,a = [x]:=by
   match a,hn with
   | [x],_=>exact ⟨x,rfl⟩
  obtain rfl:=had (by simp)
  exact (Y3 6 w0 w B g c x h).mono fun e w' q=>by
   have e2:(sp.Bf x).map (fun n=>({ kind:=6,node:=n }:sp.Op))=(sp.Bf x).bind fun n=>some { kind:=6,node:=n }:=by cases sp.Bf x<;>rfl
   rw [e2] at q
   exact q
 ·obtain ⟨x,y,z,rfl⟩:∃x y z,a = [x,y,z]:=by
   match a,hn with
   | [x,y,z],_=>exact ⟨x,y,z,rfl⟩
  obtain rfl:=had (by simp)
  exact xK 7 w0 w B g c x y z h
 ·obtain ⟨x,y,rfl⟩:∃x y,a = [x,y]:=by
   match a,hn with
   | [x,y],_=>exact ⟨x,y,rfl⟩
  obtain rfl:=had (by simp)
  exact VC 8 w0 w B g c x y h
 ·obtain ⟨x,y,z,u,v,rfl⟩:∃x y z u v,a = [x,y,z,u,v]:=by
   match a,hn with
   | [x,y,z,u,v],_=>exact ⟨x,y,z,u,v,rfl⟩
  obtain rfl:=had (by simp)
  exact xG 9 w0 w B g c x y z u v (hl _ (by simp)) (hl _ (by simp)) h
 ·obtain ⟨x,y,rfl⟩:∃x y,a = [x,y]:=by
   match a,hn with
   | [x,y],_=>exact ⟨x,y,rfl⟩
  obtain rfl:=had (by simp)
  exact VC 10 w0 w B g c x y h
 ·obtain ⟨x,y,rfl⟩:∃x y,a = [x,y]:=by
   match a,hn with
   | [x,y],_=>exact ⟨x,y,rfl⟩
  obtain rfl:=had (by simp)
  exact VC 11 w0 w B g c x y h
 ·obtain ⟨x,rfl⟩:∃x,a = [x]:=by
   match a,hn with
   | [x],_=>exact ⟨x,rfl⟩
  obtain rfl:=had (by simp)
  exact (Y3 12 w0 w B g c x h).mono fun e w' q=>by
   have e2:(sp.Bf x).map (fun n=>({ kind:=12,node:=n }:sp.Op))=(sp.Bf x).bind fun n=>some { kind:=12,node:=n }:=by cases sp.Bf x<;>rfl
   rw [e2] at q
   exact q
 ·obtain rfl:a = []:=List.length_eq_zero_iff.1 (by omega)
  exact xO 15 w0 w B g c ad h
theorem ZF (n:Nat):∀r:List UInt8,r.length≤n→∀t u,sp.Aj r=some (t,u)→t.length+u.length<r.length:=by
 induction n with
 | zero =>
  intro r hr t u h
  obtain rfl:=List.length_eq_zero_iff.1 (Nat.le_zero.1 hr)
  rw [sp.MB] at h
  cases h
 | succ n ih =>
  intro r hr t u h
  match r with
  | []=>rw [sp.MB] at h;cases h
  | c :: r =>
   by_cases h1:c=34
   ·subst h1
    rw [sp.OJ] at h
    cases h
    simp
   ·by_cases h2:c=92
    ·subst h2
     rw [Gi] at h
     cases he:CS r with
     | none=>rw [he] at h;cases h
     | some q =>
      obtain ⟨d,v⟩:=q
      rw [he] at h
      have hl:=Ux he
      simp only [Option.bind_some,Option.map_eq_some_iff,Prod.mk.injEq] at h
      obtain ⟨⟨t1,u1⟩,h3,rfl,rfl⟩:=h
      have:=ih v (by simp only [List.length_cons] at hr;omega) t1 u1 h3
      simp only [List.length_cons] at *
      omega
    ·rw [sp.OL h1 h2] at h
     simp only [Option.map_eq_some_iff,Prod.mk.injEq] at h
     obtain ⟨⟨t1,u1⟩,h3,rfl,rfl⟩:=h
     have:=ih r (by simp only [List.length_cons] at hr;omega) t1 u1 h3
     simp only [List.length_cons] at *
     omega
theorem QZ (n:Nat):∀s:List UInt8,s.length≤n→∀l,sp.words s=some l→(∀p∈l,p.1.length≤s.length)∧l.length≤s.length:=by
 induction n with
 | zero =>
  intro r hr l h
  obtain rfl:=List.length_eq_zero_iff.1 (Nat.le_zero.1 hr)
  rw [sp.MC] at h
  cases h
  exact ⟨fun p hp=>(by cases hp),Nat.le_refl _⟩
 | succ n ih =>
  intro r hr l h
  match r with
  | []=>rw [sp.MC] at h;cases h;exact ⟨fun p hp=>(by cases hp),Nat.le_refl _⟩
  | c :: r =>
   have hr':r.length≤n:=by simp only [List.length_cons] at hr;omega
   by_cases h1:c=32
   ·subst h1
    rw [sp.OW] at h
    obtain ⟨a,b⟩:=ih r hr' l h
    exact ⟨fun p hp=>by have:=a p hp;simp only [List.length_cons];omega,by simp only [List.length_cons];omega⟩
   ·by_cases h2:c=34
    ·subst h2
     cases hq:sp.Aj r with
     | none=>rw [U0 hq] at h;cases h
     | some q =>
      obtain ⟨t,u⟩:=q
      have hl:=ZF _ r (Nat.le_refl _) t u hq
      rw [U1 hq] at h
      split at h
      ·simp only [Option.map_eq_some_iff] at h
       obtain ⟨m,hm,rfl⟩:=h
       obtain ⟨a,b⟩:=ih u (by omega) m hm
       refine ⟨fun p hp => ?_,by simp only [List.length_cons];omega⟩
       simp only [List.length_cons]
       rcases List.mem_cons.1 hp with rfl | hp
       ·simp only;omega
       ·have:=a p hp;omega
      ·cases h
    ·rw [U2 h1 h2] at h
     split at h
     ·cases h
     ·simp only [Option.map_eq_some_iff] at h
      obtain ⟨m,hm,rfl⟩:=h
      have hcw:sp.Aw c=true:=by simp [sp.Aw,h1,h2]
      have e:=List.takeWhile_append_dropWhile (p:=sp.Aw) (l:=c :: r)
      have e2:=congrArg List.length e
      rw [List.length_append] at e2
      have e3:((c :: r).takeWhile sp.Aw).length=(r.takeWhile sp.Aw).length+1:=by rw [List.takeWhile_cons,if_pos hcw];rfl
      simp only [List.length_cons] at e2
      obtain ⟨a,b⟩:=ih ((c :: r).dropWhile sp.Aw) (by omega) m hm
      refine ⟨fun p hp => ?_,by simp only [List.length_cons];omega⟩
      simp only [List.length_cons]
      rcases List.mem_cons.1 hp with rfl | hp
      ·simp only;omega
      ·have:=a p hp;omega
theorem AAH (n:Nat):∀r:List UInt8,r.length≤n→∀t u,sp.Aj r=some (t,u)→∃pre,r=pre++u:=by
 induction n with
 | zero =>
  intro r hr t u h
  obtain rfl:=List.length_eq_zero_iff.1 (Nat.le_zero.1 hr)
  rw [sp.MB] at h
  cases h
 | succ n ih =>
  intro r hr t u h
  match r with
  | []=>rw [sp.MB] at h;cases h
  | c :: r =>
   by_cases h1:c=34
   ·subst h1
    rw [sp.OJ] at h
    cases h
    exact ⟨[34],rfl⟩
   ·by_cases h2:c=92
    ·subst h2
     rw [Gi] at h
     cases he:CS r with
     | none=>rw [he] at h;cases h
     | some q =>
      obtain ⟨d,v⟩:=q
      rw [he] at h
      have hl:=Ux he
      have hs:∃pre,r=pre++v:=by
       cases r with
       | nil=>cases he
       | cons c2 r2 =>
        simp only [CS] at he
        split at he
        ·cases he;exact ⟨[_],rfl⟩
        ·split at he
         ·cases he;exact ⟨[_],rfl⟩
         ·split at he
          ·unfold MO at he
           split at he
           ·rename_i a b r'
            cases ha:sp.Bz a with
            | none=>rw [ha] at he;cases he
            | some x =>
             cases hb:sp.Bz b with
             | none=>rw [ha,hb] at he;cases he
             | some y=>rw [ha,hb] at he;cases he;exact ⟨[_,_,_],rfl⟩
           ·cases he
          ·cases he
      simp only [Option.bind_some,Option.map_eq_some_iff,Prod.mk.injEq] at h
      obtain ⟨⟨t1,u1⟩,h3,rfl,rfl⟩:=h
      obtain ⟨p1,e1⟩:=hs
      obtain ⟨p2,e2⟩:=ih v (by simp only [List.length_cons] at hr;omega) t1 u1 h3
      simp only at *
      exact ⟨92 :: (p1++p2),by rw [e1,e2];simp⟩
    ·rw [sp.OL h1 h2] at h
     simp only [Option.map_eq_some_iff,Prod.mk.injEq] at h
     obtain ⟨⟨t1,u1⟩,h3,rfl,rfl⟩:=h
     obtain ⟨p2,e2⟩:=ih r (by simp only [List.length_cons] at hr;omega) t1 u1 h3
     simp only at *
     exact ⟨c :: p2,by rw [e2];simp⟩
theorem Qa {s:List UInt8} (h:10∈s):sp.lineS s=none:=by unfold sp.lineS;rw [if_pos h]
theorem Uc {s:List UInt8} (h:10∉s) (h2:sp.Dx s=true):sp.lineS s=some none:=by unfold sp.lineS;rw [if_neg h,if_pos h2]
theorem KQ {s:List UInt8} (h:10∉s) (h2:sp.Dx s=false):sp.lineS s=match sp.words s with | some ((w,false) :: a)=>(sp.Ai w a).map some | _=>none:=by
 unfold sp.lineS
 rw [if_neg h,if_neg (by rw [h2];decide)]
 rfl
theorem YN {s:List UInt8} (h2:sp.Dx s=false):sp.words s≠some []:=by
 intro e
 rw [sp.words.eq_def] at e
 split at e
 ·rename_i h
  unfold sp.Dx at h2
  rw [h] at h2
  cases h2
 ·split at e
  ·split at e
   ·cases e
   ·split at e
    ·rw [Option.map_eq_some_iff] at e
     obtain ⟨_,_,h⟩:=e
     cases h
    ·cases e
  ·split at e
   ·cases e
   ·rw [Option.map_eq_some_iff] at e
    obtain ⟨_,_,h⟩:=e
    cases h
theorem AAI {name:List UInt8} (h:name∉Ce.map (·.1)) (a:List (List UInt8×Bool)):sp.Ai name a=none:=by
 simp only [Ce,List.map_cons,List.map_nil,List.mem_cons,List.not_mem_nil,or_false,not_or] at h
 obtain ⟨h1,h2,h3,h4,h5,h6,h7,h8,h9,h10,h11,h12,h13,h14,h15⟩:=h
 unfold sp.Ai
 rw [if_neg h1,if_neg h2,if_neg h3,if_neg h4,if_neg h5,if_neg h6,if_neg h7,if_neg h8,if_neg h9,if_neg h10,if_neg h11,if_neg h12,if_neg h13,if_neg h14,if_neg h15]
theorem AAJ {name:List UInt8} {r:Rw} (hr:(name,r)∈Ce) {a:List (List UInt8×Bool)} (hn:(a.length:Int)≠r.n):sp.Ai name a=none:=by
 simp only [Ce,List.mem_cons,List.not_mem_nil,or_false,Prod.mk.injEq] at hr
 rcases hr with ⟨rfl,rfl⟩ | ⟨rfl,rfl⟩ | ⟨rfl,rfl⟩ | ⟨rfl,rfl⟩ | ⟨rfl,rfl⟩ | ⟨rfl,rfl⟩ | ⟨rfl,rfl⟩ | ⟨rfl,rfl⟩ | ⟨rfl,rfl⟩ | ⟨rfl,rfl⟩ | ⟨rfl,rfl⟩ | ⟨rfl,rfl⟩ | ⟨rfl,rfl⟩ | ⟨rfl,rfl⟩ | ⟨rfl,rfl⟩
 all_goals
  match a,hn with
  | [],hn=>first | rfl | exact absurd rfl hn
  | [_],hn=>first | rfl | exact absurd rfl hn
  | [_,_],hn=>first | rfl | exact absurd rfl hn
  | [_,_,_],hn=>first | rfl | exact absurd rfl hn
  | [_,_,_,_],hn=>first | rfl | exact absurd rfl hn
  | [_,_,_,_,_],hn=>first | rfl | exact absurd rfl hn
  | _ :: _ :: _ :: _ :: _ :: _ :: _,hn=>rfl
def Ov (n:Nat):Array Value:=#[.pointer (some ⟨n,0,none⟩),.pointer (some ⟨n+1,0,none⟩),.pointer (some ⟨n+2,0,none⟩)]
def Es (B:Nat) (s:List UInt8) (w':World) (e:Ending):Prop:=match sp.lineS s with
 | none=>e=.returned (.tuple #[.agg (Ap 0),.bool false,.int .i64 12])
 | some none=>e=.returned (.tuple #[.agg (Ap 0),.bool false,.int .i64 0])
 | some (some o)=>∃tv,e=.returned (.tuple #[.agg (AQ o tv),.bool true,.int .i64 0])∧BK w'.heap.size w' tv o.text.length (Lib.byteCells o.text)∧∀x,tv.ownBlock=some x→B≤x
theorem AAK:Tryz.prog.underlying 4=some .bool:=by kernel_rfl
theorem AAL:Tryz.prog.underlying 29=some (.int .i64):=by kernel_rfl
set_option maxRecDepth 100000 in
theorem ZG {n:Nat} {tmps:Array Value} {W:World} {cs:Array Value} {sy:Bool} {er:Int} (hr:Res n (n+1) (n+2) cs sy er W) (hc:cs.size=18) (h2:tmps.getD 2 undef=.pointer (some ⟨n,0,none⟩)) (h3:tmps.getD 3 undef=.pointer (some ⟨n+1,0,none⟩)) (h4:tmps.getD 4 undef=.pointer (some ⟨n+2,0,none⟩)) :
  (results Tryz.f9 tmps).run Tryz.prog W=.ok (.tuple #[.agg cs,.bool sy,.int .i64 er]) W:=by
 have hl:=run_loadVar_row (P:=Tryz.prog) W n 28 28 cs (0,0) _ hr.op Tryz.underlying28 rfl (by rw [hc];exact BU)
 obtain ⟨c3,c4,_,_⟩:=hr.cells
 have e:Tryz.f9.results=#[.cell 2 28,.cell 3 4,.cell 4 29]:=rfl
 have l3:(loadVar 4 ⟨n+1,0,none⟩).run Tryz.prog W=.ok (.bool sy) W:=by
  unfold loadVar
  simp [Sem.run_bind,run_isAgg_plain AAK rfl,go_sem,c3,Result.andThen]
 have l4:(loadVar 29 ⟨n+2,0,none⟩).run Tryz.prog W=.ok (.int .i64 er) W:=by
  unfold loadVar
  simp [Sem.run_bind,run_isAgg_plain AAL rfl,go_sem,c4,Result.andThen]
 have h2':tmps[2]?.getD undef=.pointer (some ⟨n,0,none⟩):=by simpa using h2
 have h3':tmps[3]?.getD undef=.pointer (some ⟨n+1,0,none⟩):=by simpa using h3
 have h4':tmps[4]?.getD undef=.pointer (some ⟨n+2,0,none⟩):=by simpa using h4
 simp only [results,e]
 simp [Sem.run_bind,Result.andThen,h2',h3',h4',asAddr,hl,l3,l4]
structure Qp (n:Nat) (tmps:Array Value):Prop where
 s2:tmps.getD 2 undef=.pointer (some ⟨n,0,none⟩)
 s3:tmps.getD 3 undef=.pointer (some ⟨n+1,0,none⟩)
 s4:tmps.getD 4 undef=.pointer (some ⟨n+2,0,none⟩)
def Ox (n:Nat):List Deferred:=[{ target:=.fn (.func 22) (Ov n),args:=#[] }]
theorem VG (n:Nat):n≠n+1∧n≠n+2∧n+1≠n+2:=by omega
theorem ZH {n:Nat} {tmps:Array Value} {W:World} {cs:Array Value} {sy:Bool} {er:Int} {R:Ending→World→Prop} (hr:Res n (n+1) (n+2) cs sy er W) (hc:cs.size=18) (hs:Qp n tmps) (hR:R (.returned (.tuple #[.agg cs,.bool sy,.int .i64 er])) W) :
  Leaves Tryz.prog Tryz.f9 tmps R (Ox n) .returning W:=by
 refine leaves_cons (f:=22) (args:=Ov n) (by simp) (by simp [go_sem,Ov]) ?_
 refine (xP _ _ _ W).mono ?_
 rintro e u' w'' ⟨rfl,rfl,rfl⟩
 exact ⟨_,ZG hr hc hs.s2 hs.s3 hs.s4,hR⟩
theorem Jg {n:Nat} {tmps:Array Value} {W:World} {cs:Array Value} {sy:Bool} {er:Int} {R:Ending→World→Prop} (hr:Res n (n+1) (n+2) cs sy er W) (hc:cs.size=18) (hs:Qp n tmps) (hR:∀W',Below n W W'→R (.returned (.tuple #[.agg (Ap 0),.bool false,.int .i64 12])) W') :
  Leaves Tryz.prog Tryz.f9 tmps R (Ox n) (.panicking bar) W:=by
 obtain ⟨n1,n2,n3⟩:=VG n
 refine leaves_cons (f:=22) (args:=Ov n) (by simp) (by simp [go_sem,Ov]) ?_
 refine (xU n (n+1) (n+2) cs sy er W hr hc n1 n2 n3).mono ?_
 rintro e u' w'' ⟨rfl,rfl,hr2,hb⟩
 exact ⟨_,ZG hr2 rfl hs.s2 hs.s3 hs.s4,hR _ (hb n (Nat.le_refl _) (by omega) (by omega))⟩
structure G6 (n:Nat) (w:World) (c:List PanicEntry) (a:Act) (W:World):Prop where
 bar:c=bar
 defers:a.defers=Ox n
 slots:Qp n a.tmps
 res:∃cs sy er,cs.size=18∧Res n (n+1) (n+2) cs sy er W
 bel:Below w.heap.size w W
theorem VH (a:Act) (d i:Nat) (v:Value) (h:d≠i):(a.put (some d) v).tmps.getD i undef=a.tmps.getD i undef:=by
 show (a.tmps.setIfInBounds d v).getD i undef=_
 simp [Array.getElem?_setIfInBounds,h]
theorem G6.Hy {n:Nat} {w:World} {c:List PanicEntry} {a:Act} {W:World} {d:Nat} {v:Value} (h:G6 n w c (a.put (some d) v) W) (hd:4<d):G6 n w c a W :=
 ⟨h.bar,h.defers,⟨by rw [←VH a d 2 v (by omega)];exact h.slots.s2,by rw [←VH a d 3 v (by omega)];exact h.slots.s3,by rw [←VH a d 4 v (by omega)];exact h.slots.s4⟩,h.res,h.bel⟩
def Qq (PS:List PanicEntry→Act→World→Prop) (Q:Exit→Act→World→Prop):Exit→Act→World→Prop
 | .panic c,a,w=>PS c a w
 | e,a,w=>Q e a w
theorem AAM {P:Program} {c:Code} {PS:List PanicEntry→Act→World→Prop} {Q:Exit→Act→World→Prop} {a:Act} {w:World} (hp:∀c a W,PS c a W→Q (.panic c) a W) (h:c.wp P (Qq PS Q) a w):c.wp P Q a w :=
 wp_mono h fun e a W hX=>by
  cases e with
  | panic c=>exact hp c a W hX
  | normal=>exact hX
  | ret=>exact hX
  | exit _=>exact hX
  | goto _=>exact hX
  | outgrown=>exact hX
theorem Qq.normal {PS:List PanicEntry→Act→World→Prop} {Q:Exit→Act→World→Prop} {a:Act} {w:World} (h:Q .normal a w):Qq PS Q .normal a w:=h
theorem IU {B:Nat} {s:List UInt8} (h:sp.lineS s=none) (W:World):Es B s W (.returned (.tuple #[.agg (Ap 0),.bool false,.int .i64 12])):=by unfold Es;rw [h]
theorem Ub {B:Nat} {s:List UInt8} (h:sp.lineS s=some none) (W:World):Es B s W (.returned (.tuple #[.agg (Ap 0),.bool false,.int .i64 0])):=by unfold Es;rw [h]
def Dv (w:World):World:=((w.alloc (.cells (Ap 0) 28)).alloc (.cells #[.bool false] 4)).alloc (.cells #[.int .i64 0] 29)
theorem JF (w:World):Res w.heap.size (w.heap.size+1) (w.heap.size+2) (Ap 0) false 0 (Dv w)∧Below w.heap.size w (Dv w)∧(Dv w).heap.size=w.heap.size+3:=by
 have h1:=AX w (.cells (Ap 0) 28)
 have h2:=AX (w.alloc (.cells (Ap 0) 28)) (.cells #[.bool false] 4)
 have h3:=AX ((w.alloc (.cells (Ap 0) 28)).alloc (.cells #[.bool false] 4)) (.cells #[.int .i64 0] 29)
 have e1:(w.alloc (.cells (Ap 0) 28)).heap.size=w.heap.size+1:=by simp
 have e2:((w.alloc (.cells (Ap 0) 28)).alloc (.cells #[.bool false] 4)).heap.size=w.heap.size+2:=by simp
 rw [e1] at h2
 rw [e2] at h3
 refine ⟨⟨Dt _ _ _ (Dt _ _ _ h1),Dt _ _ _ h2,h3⟩,(((AZ w _).alloc (by simp) _).alloc (by simp;omega) _),by simp [Dv]⟩
theorem Res.on {n:Nat} {cs:Array Value} {sy:Bool} {er:Int} {W W':World} (h:Res n (n+1) (n+2) cs sy er W) (hb:Below W.heap.size W W'):Res n (n+1) (n+2) cs sy er W' :=
 ⟨(hb.block _ (lt_of_block h.op)).trans h.op,(hb.block _ (lt_of_block h.says)).trans h.says,(hb.block _ (lt_of_block h.err)).trans h.err⟩
set_option maxRecDepth 100000 in
set_option maxHeartbeats 4000000 in
theorem AAN (s:List UInt8) (w:World) (h:10∈s):Calls Tryz.prog 9 #[.string (AA s)] w fun e w'=>Es w.heap.size s w' e∧Below w.heap.size w w':=by
 have hmf:∀(fn:Fn) (first cap:Array Value) (w:World),(Instr.makeFunc fn first cap).run Tryz.prog w=.ok (.func fn first cap) w:=fun _ _ _ _=>rfl
 obtain ⟨hr,hb,_⟩:=JF w
 have HR:=Lib.hid hr;have HB:=Lib.hid hb
 have HF:=Lib.hid (fun W=>IU (B:=w.heap.size) (Qa h) W)
 have HC:=Lib.hid (fun W=>Kw s W)
 rw [show decide (10∈s)=true by simpa using h] at HC
 clear hr hb h
 go_enter_defers Tryz.func9,Tryz.ntmps9
 go_wp2_with (first
  | (go_at_call 24;refine (HC.out _).mono ?_;rintro e w1 ⟨rfl,rfl⟩)
  | (go_at_call 23;refine (E8 _).mono ?_;rintro e w1 ⟨rfl,rfl⟩))
 refine Jg HR.out rfl ⟨rfl,rfl,rfl⟩ fun W' hW=>⟨HF.out _,?_⟩
 exact HB.out.trans hW
end Go.Proofs.YtihlneenajlhoaaGreatDoor
set_option linter.unusedSimpArgs false
set_option linter.unusedVariables false
namespace Go.Proofs.YtihlneenajlhoaaGreatDoor
open Go Go.RowKit Go.Shelf
def Gt (w:World):Prop:=∃m,w.cell? ⟨Tryz.U3.g 1,0,none⟩=some (.int .i64 m)
theorem Gt.on {w w':World} (h:Gt w) (hb:Below w.heap.size w w'):Gt w':=by
 obtain ⟨m,hm⟩:=h
 refine ⟨m,?_⟩
 have hlt:Tryz.U3.g 1<w.heap.size:=by
  unfold World.cell? at hm
  split at hm
  ·rename_i c t f hc
   exact lt_of_block hc
  ·cases hm
 rw [←hm]
 unfold World.cell?
 rw [hb.block _ hlt]
theorem AAO (w:World) (s:List UInt8) (hm:Gt w) (hn:s.length≤1073741824):Calls Tryz.prog 71 #[.string (AA s),.string ⟨#[10]⟩] w fun e w'=>e=.returned (.slice (some ⟨w.heap.size,0,none⟩) (Lib.countB (AA s) nlB+1) (Lib.countB (AA s) nlB+1))∧w'=w.alloc (.cells ((Lib.splitB nlB 0 (Lib.countB (AA s) nlB) (AA s)).map Value.string).toArray 9):=by
 obtain ⟨m,hm⟩:=hm
 exact Any.strings_Split { Tryz.laysSplit with } Tryz.laysSplit.i9 (AA s) nlB m w (by rw [Aa];omega) hm (by decide)
def strCells (l:List (List UInt8)):List Value:=l.map fun s=>.string (AA s)
theorem ZI {W:World} {g n cap:Nat} {cs:Array Value} {l:List (List UInt8)} (hg:W.heap[g]?=some (.cells cs 9 (0,0))) (hn:n=l.length) (h1:n≤cap) (h2:cap≤maxLen) (hc:∀(j:Nat) (u:Value),(strCells l)[j]?=some u→cs[j]?=some u):BK W.heap.size W (.slice (some ⟨g,0,none⟩) n cap) l.length (strCells l):=by
 subst hn
 refine ⟨_,_,rfl,h1,h2,?_⟩
 by_cases h0:l.length=0
 ·left
  have:=List.eq_nil_of_length_eq_zero h0
  subst this
  exact ⟨rfl,rfl,fun h=>by cases h⟩
 ·right
  refine ⟨by omega,g,0,rfl,lt_of_block hg,fun j u hu => ?_⟩
  rw [Nat.zero_add]
  exact Am hg j u (hc j u hu)
theorem AAP (l:List (List UInt8)):((l.map AA).map Value.string).toArray=(strCells l).toArray:=by simp [strCells]
set_option maxRecDepth 100000 in
set_option maxHeartbeats 4000000 in
theorem lines_any (w:World) (v:Value) (b:List UInt8) (h:BK w.heap.size w v b.length (Lib.byteCells b)) (hm:Gt w) (hn:b.length≤1048576) :
  Calls Tryz.prog 32 #[v] w fun e w'=>∃v',e=.returned v'∧BK w'.heap.size w' v' (sp.DT b).length (strCells (sp.DT b))∧Below w.heap.size w w':=by
 have hcv:=Oe h
 obtain ⟨l,hl1,hl2,hl3⟩:=AAE _ b (Nat.le_refl _)
 have HC:=Lib.hid (AAO w b hm (by omega))
 rw [hl1,AAP,←hl2] at HC
 have hlen:l.length≤b.length+2:=by
  have:=(ZC b).1
  rcases hl3 with ⟨l',rfl,e⟩ | ⟨l',x,rfl,_,e⟩
  ·rw [e] at this;simp;omega
  ·rw [e] at this;simp at this ⊢; omega
 have HL:=Lib.hid hlen
 have hmx:(2097152:Nat)≤maxLen:=by unfold maxLen;decide
 have HB:Hid (∀o:Obj,Below w.heap.size w (w.alloc o)):=Lib.hid (AZ w)
 clear hl1 hl2 h hm hlen
 rcases hl3 with ⟨l',rfl,e⟩ | ⟨l',x,rfl,hx,e⟩
 ·have HG:=Lib.hid (AX w (.cells (strCells (l'++[[]])).toArray 9))
  have c1:=Am HG.out l'.length (.string ⟨#[]⟩) (by simp [strCells];rfl)
  have HE:=Lib.hid e
  have hlb:(l'.length:Int)≤2097152:=by have:=HL.out;simp at this;omega
  have HMX:=Lib.hid hmx
  rw [List.length_append] at HC
  clear e hmx
  go_enter Tryz.func32,Tryz.ntmps32
  go_wp2_with (go_at_call 71;refine HC.out.mono ?_;rintro e w1 ⟨rfl,rfl⟩)
  go_ret
  refine ⟨_,rfl,?_,HB.out _⟩
  rw [HE.out]
  have hL:=HL.out
  have hM:=HMX.out
  rw [List.length_append] at hL
  exact ZI HG.out rfl (Nat.le_succ _) (by simp at hL;omega) fun j u hu=>by
   have hj:j<l'.length:=by
    have:=(List.getElem?_eq_some_iff.1 hu).1
    simpa [strCells] using this
   simp only [List.getElem?_toArray,strCells,List.map_append]
   rw [List.getElem?_append_left (by simpa using hj)]
   exact hu
 ·have HG:=Lib.hid (AX w (.cells (strCells (l'++[x])).toArray 9))
  have c1:=Am HG.out l'.length (.string (AA x)) (by simp [strCells])
  have HE:=Lib.hid e
  have hlb:(l'.length:Int)≤2097152:=by have:=HL.out;simp at this;omega
  have HMX:=Lib.hid hmx
  have hx0:(AA x).toList.isEmpty=false:=by
   rw [Lib.toList_data,CY]
   cases x with
   | nil=>exact absurd rfl hx
   | cons _ _=>rfl
  rw [List.length_append] at HC
  clear e hmx hx
  go_enter Tryz.func32,Tryz.ntmps32
  go_wp2_with (go_at_call 71;refine HC.out.mono ?_;rintro e w1 ⟨rfl,rfl⟩)
  go_ret
  refine ⟨_,rfl,?_,HB.out _⟩
  rw [HE.out]
  have hL:=HL.out
  have hM:=HMX.out
  rw [List.length_append] at hL
  exact ZI HG.out (by simp) (Nat.le_refl _) (by simp at hL;omega) fun j u hu=>by simpa using hu
end Go.Proofs.YtihlneenajlhoaaGreatDoor
set_option linter.unusedSimpArgs false
set_option linter.unusedVariables false
namespace Go.Proofs.YtihlneenajlhoaaGreatDoor
open Go Go.RowKit
section
variable {ops:Array Oper} {rest:List Oper} {o:Oper} {a:Act} {Q:Exit→Act→World→Prop} {w:World}
theorem AAQ (hgd:o.guard=none) (s x:Operand) (ho:o.op=.call { callee:=.builtin .append,args:=#[s,x],argTypes:=#[35,35] }) (base:Nat) (xs:List (sp.Op×Value)) (d:Value) (hs:a.eval s=d) (hown:w.ownsRow base 28 18 d xs.length (xs.flatMap Hw))
  (b:Nat) (y:sp.Op×Value) (fz:Nat×Nat) (hx:a.eval x=.slice (some ⟨b,0,none⟩) 1 1) (hb:w.heap[b]?=some (.cells (AQ y.1 y.2) 28 fz)) (h1:(AQ y.1 y.2).all (·.oneCell')=true) (hn:xs.length≤1048576) (hbase:base≤w.heap.size)
  (h:∀v' w',w'.ownsRow base 28 18 v' (xs++[y]).length ((xs++[y]).flatMap Hw)→w.grownBy w' d.ownBlock→(v'.ownBlock=d.ownBlock∨v'.ownBlock=some w.heap.size)→wpList Tryz.prog ops Q rest (a.put o.dst v') w'):wpList Tryz.prog ops Q (o :: rest) a w:=by
 obtain ⟨i,hi,hz,hsz,hby⟩:=info_parts Y6
 refine Go.wpList_append_own_at w hgd s x 35 ho base 28 i _ 18 184 Tryz.underlying35 hi hz hsz hby rfl (by decide) d xs.length (xs.flatMap Hw) hs hown ⟨b,0,none⟩ 1 1 (Hw y) hx rfl (fun j u hu => ?_) (fun u hu => ?_) (by unfold maxLen;omega) (by omega) hbase (fun v' w' k1 k2 _ k3=>h v' w' ?_ k2 k3)
 ·rw [Addr.add_mid,Nat.zero_add,cell_of_row w b j _ 28 fz hb]
  simpa [Hw] using hu
 ·exact (Array.all_eq_true_iff_forall_mem.1 h1) u (by simpa [Hw] using hu)
 ·rw [List.length_append,List.flatMap_append,List.flatMap_singleton]
  exact k1
end
theorem ZJ {B:Nat} {w w':World} {v:Value} {n:Nat} {cs:List Value} {own:Option Nat} (h:BK B w v n cs) (hB:B≤w.heap.size) (hg:w.grownBy w' own) (hne:n≠0→∀x,v.ownBlock=some x→own≠some x):BK B w' v n cs:=by
 obtain ⟨a,cap,rfl,h2,h3,h4⟩:=h
 refine ⟨a,cap,rfl,h2,h3,?_⟩
 rcases h4 with h4 | ⟨h0,b,off,rfl,hb,hr⟩
 ·exact .inl h4
 ·exact .inr ⟨h0,b,off,rfl,hb,fun j u hu=>(Ug (hg.block b (by omega) (Ne.symm (hne (by omega) b rfl))) _).trans (hr j u hu)⟩
structure PaR (w:World) (L:List (sp.Op×Value)) (d:Value) (wr:World):Prop where
 own:wr.ownsRow w.heap.size 28 18 d L.length (L.flatMap Hw)
 bel:Below w.heap.size w wr
 texts:∀p∈L,BK wr.heap.size wr p.2 p.1.text.length (Lib.byteCells p.1.text)
 far:∀p∈L,p.1.text.length≠0→∀x,p.2.ownBlock=some x→d.ownBlock≠some x
theorem PaR.nil (w:World):PaR w [] (.slice none 0 0) w:=⟨World.ownsRow_nil _ _ _ _,Below.refl _ _,fun p hp=>(by cases hp),fun p hp=>(by cases hp)⟩
theorem PaR.start {w w1:World} (h:PaR w [] (.slice none 0 0) w) (hb:Below w.heap.size w w1):PaR w [] (.slice none 0 0) w1:=⟨World.ownsRow_nil _ _ _ _,hb,fun p hp=>(by cases hp),fun p hp=>(by cases hp)⟩
theorem ownsRow_below {w w':World} {base:Nat} {e:TypeId} {k n:Nat} {v:Value} {xs:List Value} (h:w.ownsRow base e k v n xs) (hb:Below w.heap.size w w'):w'.ownsRow base e k v n xs:=by
 obtain ⟨hl,h5⟩:=h
 exact ⟨hl,h5.imp id fun ⟨g,cap,cur,y1,y2,y3,y4⟩=>⟨g,cap,cur,y1,y2,(hb.block g (lt_of_block y3)).trans y3,y4⟩⟩
theorem FN {w:World} {base:Nat} {e:TypeId} {k n:Nat} {v:Value} {xs:List Value} (h:w.ownsRow base e k v n xs):∀g,v.ownBlock=some g→base≤g∧g<w.heap.size:=by
 intro g hg
 rcases h.2 with ⟨rfl,_⟩ | ⟨g',cap,cur,rfl,h2,h3,_⟩
 ·cases hg
 ·cases hg
  exact ⟨h2,lt_of_block h3⟩
section
variable {w wr W w':World} {L:List (sp.Op×Value)} {d v' tv:Value} {o:sp.Op}
theorem PaR.on (h:PaR w L d wr) (hb:Below wr.heap.size wr W):PaR w L d W :=
 ⟨ownsRow_below h.own hb,h.bel.trans (hb.mono h.bel.size),fun p hp=>((h.texts p hp).keep hb).mono hb.size,h.far⟩
theorem PaR.app (h:PaR w L d wr) (hb:Below wr.heap.size wr W) (ht:BK W.heap.size W tv o.text.length (Lib.byteCells o.text)) (hn:∀x,tv.ownBlock=some x→wr.heap.size≤x)
  (hown:w'.ownsRow w.heap.size 28 18 v' (L++[(o,tv)]).length ((L++[(o,tv)]).flatMap Hw)) (hg:W.grownBy w' d.ownBlock) (hv:v'.ownBlock=d.ownBlock∨v'.ownBlock=some W.heap.size):PaR w (L++[(o,tv)]) v' w':=by
 have h1:=h.on hb
 have hlt:=FN h.own
 have hsz:W.heap.size≤w'.heap.size:=hg.size
 have hne:∀x,tv.ownBlock=some x→d.ownBlock≠some x:=fun x hx e=>by
  have:=hn x hx
  have:=(hlt x e).2
  omega
 refine ⟨hown,h1.bel.grown hg h1.bel.size (fun k hk=>(hlt k hk).1),fun p hp => ?_,fun p hp h0 x hx => ?_⟩
 ·rcases List.mem_append.1 hp with hp | hp
  ·exact (ZJ (h1.texts p hp) (Nat.le_refl _) hg (fun h0=>h.far p hp h0)).mono hsz
  ·rw [List.mem_singleton.1 hp]
   exact (ZJ ht (Nat.le_refl _) hg (fun _=>hne)).mono hsz
 ·rcases hv with e | e
  ·rw [e]
   rcases List.mem_append.1 hp with hp | hp
   ·exact h.far p hp h0 x hx
   ·rw [List.mem_singleton.1 hp] at hx
    exact hne x hx
  ·rw [e]
   intro e2
   cases e2
   have hr:BK W.heap.size W p.2 p.1.text.length (Lib.byteCells p.1.text):=by
    rcases List.mem_append.1 hp with hp | hp
    ·exact h1.texts p hp
    ·rw [List.mem_singleton.1 hp];exact ht
   obtain ⟨a,cap,e3,_,_,h5⟩:=hr
   rcases h5 with h5 | ⟨_,b,off,rfl,hb,_⟩
   ·exact h0 h5.1
   ·rw [e3] at hx
    cases hx
    exact absurd hb (Nat.lt_irrefl _)
theorem PaR.row (h:PaR w L d wr):Gf wr d L:=by
 refine ⟨?_,h.texts⟩
 rcases h.own.2 with ⟨rfl,h0⟩ | ⟨g,cap,cur,rfl,h2,h3,h4,h5,h6,h7⟩
 ·have:=List.eq_nil_of_length_eq_zero h0
  subst this
  exact ⟨none,0,rfl,Nat.le_refl _,Nat.zero_le _,.inl ⟨rfl,rfl,fun _=>rfl⟩⟩
 ·refine ⟨_,_,rfl,h4,h5,?_⟩
  by_cases h0:L.length=0
  ·have:=List.eq_nil_of_length_eq_zero h0
   subst this
   exact .inl ⟨rfl,rfl,fun h=>by cases h⟩
  ·refine .inr ⟨by omega,g,0,rfl,lt_of_block h3,fun j u hu => ?_⟩
   rw [Nat.zero_add]
   refine Am h3 j u ?_
   have hj:j<L.length*18:=by
    have h1:=(List.getElem?_eq_some_iff.1 hu).1
    rw [h.own.1] at h1
    exact h1
   rw [←h7,List.getElem?_take_of_lt hj] at hu
   simpa using hu
end
def Hq (b:List UInt8) (w':World) (e:Ending):Prop:=if 65536<b.length∨2000<(sp.DT b).length then e=.returned (.tuple #[.slice none 0 0,.int .i64 0,.int .i64 2]) else match sp.FC 0 (sp.DT b) with
 | .inl n=>e=.returned (.tuple #[.slice none 0 0,.int .i64 (n:Nat),.int .i64 12])
 | .inr l=>∃v L,L.map (·.1)=l∧e=.returned (.tuple #[v,.int .i64 0,.int .i64 0])∧Gf w' v L
theorem ZK {b:List UInt8} (h:65536<b.length∨2000<(sp.DT b).length) (W:World):Hq b W (.returned (.tuple #[.slice none 0 0,.int .i64 0,.int .i64 2])):=by unfold Hq;rw [if_pos h]
theorem AAR {b:List UInt8} (h1:b.length≤65536) (h2:(sp.DT b).length≤2000) {n:Nat} (h:sp.FC 0 (sp.DT b)=.inl n) (W:World):Hq b W (.returned (.tuple #[.slice none 0 0,.int .i64 (n:Nat),.int .i64 12])):=by unfold Hq;rw [if_neg (by omega),h]
theorem AAS {b:List UInt8} (h1:b.length≤65536) (h2:(sp.DT b).length≤2000) {L:List (sp.Op×Value)} (h:sp.FC 0 (sp.DT b)=.inr (L.map (·.1))) {w W:World} {d:Value} (hr:PaR w L d W):Hq b W (.returned (.tuple #[d,.int .i64 0,.int .i64 0])):=by
 unfold Hq
 rw [if_neg (by omega),h]
 exact ⟨d,L,rfl,rfl,hr.row⟩
def FD (l:List (List UInt8)) (k:Nat) (ops:List sp.Op):Prop:=sp.FC 0 l=match sp.FC k (l.drop k) with
 | .inl n=>.inl n
 | .inr r=>.inr (ops++r)
section
variable {l:List (List UInt8)} {k:Nat} {ops:List sp.Op} {s:List UInt8}
theorem FD.start (l:List (List UInt8)):FD l 0 []:=by
 unfold FD
 rw [List.drop_zero]
 cases sp.FC 0 l<;>rfl
theorem FD.fin (h:FD l k ops) (hk:l.length≤k):sp.FC 0 l=.inr ops:=by
 unfold FD at h
 rw [List.drop_of_length_le hk,sp.FC] at h
 simpa using h
theorem FD.bad (h:FD l k ops) (hk:k<l.length) (hs:l[k]=s) (hl:sp.lineS s=none):sp.FC 0 l=.inl (k+1):=by
 unfold FD at h
 rw [List.drop_eq_getElem_cons hk,hs,sp.FC,hl] at h
 exact h
theorem FD.skip (h:FD l k ops) (hk:k<l.length) (hs:l[k]=s) (hl:sp.lineS s=some none):FD l (k+1) ops:=by
 unfold FD at h ⊢
 rw [List.drop_eq_getElem_cons hk,hs,sp.FC,hl] at h
 exact h
theorem FD.one (h:FD l k ops) (hk:k<l.length) (hs:l[k]=s) {o:sp.Op} (hl:sp.lineS s=some (some o)):FD l (k+1) (ops++[o]):=by
 unfold FD at h ⊢
 rw [List.drop_eq_getElem_cons hk,hs,sp.FC,hl] at h
 simp only at h
 rw [h]
 cases sp.FC (k+1) (l.drop (k+1)) with
 | inl n=>rfl
 | inr r=>simp
end
theorem AAT {B:Nat} {w wr:World} {a:Option Addr} {n c:Nat} {l:List (List UInt8)} (h:BK B w (.slice a n c) l.length (strCells l)) (hb:Below B w wr) {k:Nat} (hk:k<l.length):∃b off,a=some ⟨b,off,none⟩∧n=l.length∧wr.cell? ⟨b,off+k,none⟩=some (.string (AA l[k])):=by
 have hn:n=l.length:=by obtain ⟨_,_,e,_⟩:=h;cases e;rfl
 subst hn
 obtain ⟨bx,off,rfl,hbx,hrg⟩:=h.place (by omega)
 exact ⟨bx,off,rfl,rfl,KU hb hbx hrg k _ (by simp [strCells,hk])⟩
theorem start_eq (w:World):((w.alloc (.cells #[.int .i64 0,.int .i64 0,.int .i64 0,.int .i64 0,.string ⟨#[]⟩,.string ⟨#[]⟩,.slice none 0 0,.int .i64 0,.int .i64 0,.int .i64 0,.int .i64 0,.int .i64 0,.string ⟨#[]⟩,.int .i64 0,.int .i64 0,.int .i64 0,.int .i64 0,.bool false] 28)).alloc (.cells #[.bool false] 4)).alloc (.cells #[.int .i64 0] 29)=Dv w:=rfl
theorem Res.row {n:Nat} {cs cs':Array Value} {sy:Bool} {er:Int} {W:World} (h:Res n (n+1) (n+2) cs sy er W):Res n (n+1) (n+2) cs' sy er (W.setRow n cs')∧Below n W (W.setRow n cs') :=
 ⟨⟨Ee h.op _,(JD _ (by omega)).trans h.says,(JD _ (by omega)).trans h.err⟩,below_setRow (Below.refl n W) (Nat.le_refl _) _⟩
theorem Oy (W:World) (s:List UInt8):Bh (W.alloc (.cells #[.string (AA s),.int .i64 0] 61)) W.heap.size (AA s) s:=⟨[],by rw [CY];rfl,AX _ _⟩
theorem ZL {w w2:World} {o:Obj} (hf:Fr ((Dv w).alloc o) w2 (Dv w).heap.size none):Res w.heap.size (w.heap.size+1) (w.heap.size+2) (Ap 0) false 0 w2∧Below w.heap.size w w2:=by
 obtain ⟨hr,hb,hsz⟩:=JF w
 have h1:Below (Dv w).heap.size (Dv w) w2:=(AZ (Dv w) o).trans (hf.below (Nat.le_refl _) (fun g hg=>by cases hg) (by simp))
 exact ⟨hr.on h1,hb.trans (h1.mono (by omega))⟩
set_option maxRecDepth 100000 in
set_option maxHeartbeats 4000000 in
theorem AAU (s:List UInt8) (w:World) (h:10∉s) (h2:sp.Dx s=true):Calls Tryz.prog 9 #[.string (AA s)] w fun e w'=>Es w.heap.size s w' e∧Below w.heap.size w w':=by
 have hmf:∀(fn:Fn) (first cap:Array Value) (w:World),(Instr.makeFunc fn first cap).run Tryz.prog w=.ok (.func fn first cap) w:=fun _ _ _ _=>rfl
 obtain ⟨hr,hb,_⟩:=JF w
 have HR:=Lib.hid hr;have HB:=Lib.hid hb
 have HF:=Lib.hid (fun W=>Ub (B:=w.heap.size) (Uc h h2) W)
 have HC:=Lib.hid (fun W=>Kw s W)
 rw [show decide (10∈s)=false by simpa using h] at HC
 have HS:=Lib.hid (fun W=>MW s W)
 rw [h2] at HS
 clear hr hb h h2
 go_enter_defers Tryz.func9,Tryz.ntmps9
 go_wp2_with (first
  | (go_at_call 24;refine (HC.out _).mono ?_;rintro e w1 ⟨rfl,rfl⟩)
  | (go_at_call 23;refine (FP _).mono ?_;rintro e w1 ⟨rfl,rfl⟩)
  | (go_at_call 25;refine (HS.out _).mono ?_;rintro e w1 ⟨rfl,rfl⟩;rw [start_eq];have HR1:=Lib.hid (HR.out.row (cs':=Ap 0)).1;have HB1:=Lib.hid (HB.out.trans (HR.out.row (cs':=Ap 0)).2))
  | (refine wpList_store_row rfl 28 _ _ rfl w.heap.size (Ap 0) rfl rfl 28 _ HR.out.op BU rfl IR ?_;obtain ⟨k0,k1,y0,y1⟩:=HR1.out.cells;generalize (Dv w).setRow w.heap.size (Ap 0)=W2 at *))
 obtain ⟨n1,n2,n3⟩:=VG w.heap.size
 have HG:=HR1.out.fin n1 n2 n3 false 0
 exact ZH HG.1 rfl ⟨rfl,rfl,rfl⟩ ⟨HF.out _,HB1.out.trans (HG.2 _ (Nat.le_succ _) (by omega))⟩
set_option maxRecDepth 100000 in
set_option maxHeartbeats 4000000 in
theorem AAV (s:List UInt8) (w:World) (h:10∉s) (h2:sp.Dx s=false) (hw:sp.words s=none) (hn:s.length≤1099511627776):Calls Tryz.prog 9 #[.string (AA s)] w fun e w'=>Es w.heap.size s w' e∧Below w.heap.size w w':=by
 have hmf:∀(fn:Fn) (first cap:Array Value) (w:World),(Instr.makeFunc fn first cap).run Tryz.prog w=.ok (.func fn first cap) w:=fun _ _ _ _=>rfl
 obtain ⟨hr,hb,hsz⟩:=JF w
 have HR:=Lib.hid hr;have HB:=Lib.hid hb
 have HF:=Lib.hid (fun W=>IU (B:=w.heap.size) (s:=s) (by rw [KQ h h2,hw]) W)
 have HC:=Lib.hid (fun W=>Kw s W)
 rw [show decide (10∈s)=false by simpa using h] at HC
 have HS:=Lib.hid (fun W=>MW s W)
 rw [h2] at HS
 have HL:=Lib.hid (Oy (Dv w) s)
 have HW:=Lib.hid hw;have HN:=Lib.hid hn;have HSZ:=Lib.hid hsz
 clear hr hb h h2 hw hn hsz
 go_enter_defers Tryz.func9,Tryz.ntmps9
 go_wp2_with (first
  | (go_at_call 24;refine (HC.out _).mono ?_;rintro e w1 ⟨rfl,rfl⟩)
  | (go_at_call 23;refine (FP _).mono ?_;rintro e w1 ⟨rfl,rfl⟩)
  | (go_at_call 25;refine (HS.out _).mono ?_;rintro e w1 ⟨rfl,rfl⟩;rw [start_eq])
  | (go_at_call 26;refine (Ou _ (Dv w).heap.size (AA s) s HL.out (by rw [Aa];exact HN.out)).mono ?_;rintro e w2 ⟨he,hf⟩;unfold Ib at he;rw [HW.out] at he;subst he))
 have HA:=ZL hf
 exact Jg HA.1 rfl ⟨rfl,rfl,rfl⟩ fun W' hW=>⟨HF.out _,HA.2.trans hW⟩
end Go.Proofs.YtihlneenajlhoaaGreatDoor
