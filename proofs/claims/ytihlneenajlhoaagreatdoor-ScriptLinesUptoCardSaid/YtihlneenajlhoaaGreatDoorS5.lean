/-
 Contracts, for a run of one goroutine, of jalousieref27's reader: a plain word, a quoted text. Condition: the reader's block and the words stand; lengths that fit.
-/
import Derived.Test.YtihlneenajlhoaaGreatDoorS4
import Derived.Test.YtihlneenajlhoaaGreatDoorS3
import Derived.Test.YtihlneenajlhoaaGreatDoorS2
set_option linter.unusedSimpArgs false
set_option linter.unusedVariables false
namespace Go.Proofs.YtihlneenajlhoaaGreatDoor
open Go Go.RowKit
set_option maxRecDepth 100000 in
set_option maxHeartbeats 4000000 in
theorem rword_any (w0 w:World) (b g n cap:Nat) (r:List (List UInt8×Bool)) (bad:Bool) (h:RdR w0 b g n cap r bad w):Calls Tryz.prog 64 #[.pointer (some ⟨b,0,none⟩)] w fun e w'=>e=.returned (.string (bstr (nextW r).1))∧RdR w0 b g n cap r.tail (bad||r.isEmpty||(nextW r).2) w':=by
 have hN:=next_any w0 w b g n cap r bad h
 obtain ⟨⟨t,q⟩,hx⟩:∃x,nextW r=x:=⟨_,rfl⟩
 rw [hx] at hN ⊢
 obtain ⟨bd,hbd⟩:∃bd,(bad||r.isEmpty)=bd:=⟨_,rfl⟩
 rw [hbd] at hN ⊢
 obtain ⟨rt,hrt⟩:∃rt,r.tail=rt:=⟨_,rfl⟩
 rw [hrt] at hN ⊢
 simp only at hN ⊢
 have HN:=Lib.hid hN
 clear hN h hx hbd hrt
 cases bd with
 | false =>
  cases q with
  | false =>
   show Calls Tryz.prog 64 #[.pointer (some ⟨b,0,none⟩)] w fun e w'=>e=.returned (.string (bstr t))∧RdR w0 b g n cap rt false w'
   go_enter Tryz.func64,Tryz.ntmps64
   go_wp2_with (go_at_call 96;refine HN.out.mono ?_;rintro e w1 ⟨rfl,h1⟩;have H1:=Lib.hid (h1.on (below_new w1 (.cells #[.string (bstr t),.bool false] 110)));have c2:=H1.out.c2;have z2:=H1.out.z 2;have hne:w1.heap.size≠b:=(Nat.ne_of_gt (lt_of_block h1.blk));clear h1)
   go_ret
   exact ⟨rfl,H1.out.setBad _⟩
  | true =>
   show Calls Tryz.prog 64 #[.pointer (some ⟨b,0,none⟩)] w fun e w'=>e=.returned (.string (bstr t))∧RdR w0 b g n cap rt true w'
   go_enter Tryz.func64,Tryz.ntmps64
   go_wp2_with (go_at_call 96;refine HN.out.mono ?_;rintro e w1 ⟨rfl,h1⟩;have H1:=Lib.hid (h1.on (below_new w1 (.cells #[.string (bstr t),.bool true] 110)));have c2:=H1.out.c2;have z2:=H1.out.z 2;have hne:w1.heap.size≠b:=(Nat.ne_of_gt (lt_of_block h1.blk));clear h1)
   go_ret
   exact ⟨rfl,H1.out.setBad _⟩
 | true =>
  cases q with
  | false =>
   show Calls Tryz.prog 64 #[.pointer (some ⟨b,0,none⟩)] w fun e w'=>e=.returned (.string (bstr t))∧RdR w0 b g n cap rt true w'
   go_enter Tryz.func64,Tryz.ntmps64
   go_wp2_with (go_at_call 96;refine HN.out.mono ?_;rintro e w1 ⟨rfl,h1⟩;have H1:=Lib.hid (h1.on (below_new w1 (.cells #[.string (bstr t),.bool false] 110)));have c2:=H1.out.c2;have z2:=H1.out.z 2;have hne:w1.heap.size≠b:=(Nat.ne_of_gt (lt_of_block h1.blk));clear h1)
   go_ret
   exact ⟨rfl,H1.out.setBad _⟩
  | true =>
   show Calls Tryz.prog 64 #[.pointer (some ⟨b,0,none⟩)] w fun e w'=>e=.returned (.string (bstr t))∧RdR w0 b g n cap rt true w'
   go_enter Tryz.func64,Tryz.ntmps64
   go_wp2_with (go_at_call 96;refine HN.out.mono ?_;rintro e w1 ⟨rfl,h1⟩;have H1:=Lib.hid (h1.on (below_new w1 (.cells #[.string (bstr t),.bool true] 110)));have c2:=H1.out.c2;have z2:=H1.out.z 2;have hne:w1.heap.size≠b:=(Nat.ne_of_gt (lt_of_block h1.blk));clear h1)
   go_ret
   exact ⟨rfl,H1.out.setBad _⟩
set_option maxRecDepth 100000 in
set_option maxHeartbeats 4000000 in
theorem rtext_word (w0 w:World) (b g n cap:Nat) (r:List (List UInt8×Bool)) (bad:Bool) (h:RdR w0 b g n cap r bad w):Calls Tryz.prog 66 #[.pointer (some ⟨b,0,none⟩)] w fun e w'=>e=.returned (.string (bstr (nextW r).1))∧RdR w0 b g n cap r.tail (bad||r.isEmpty || !(nextW r).2) w':=by
 have hN:=next_any w0 w b g n cap r bad h
 obtain ⟨⟨t,q⟩,hx⟩:∃x,nextW r=x:=⟨_,rfl⟩
 rw [hx] at hN ⊢
 obtain ⟨bd,hbd⟩:∃bd,(bad||r.isEmpty)=bd:=⟨_,rfl⟩
 rw [hbd] at hN ⊢
 obtain ⟨rt,hrt⟩:∃rt,r.tail=rt:=⟨_,rfl⟩
 rw [hrt] at hN ⊢
 simp only at hN ⊢
 have HN:=Lib.hid hN
 clear hN h hx hbd hrt
 cases bd with
 | false =>
  cases q with
  | false =>
   show Calls Tryz.prog 66 #[.pointer (some ⟨b,0,none⟩)] w fun e w'=>e=.returned (.string (bstr t))∧RdR w0 b g n cap rt true w'
   go_enter Tryz.func66,Tryz.ntmps66
   go_wp2_with (go_at_call 96;refine HN.out.mono ?_;rintro e w1 ⟨rfl,h1⟩;have H1:=Lib.hid (h1.on (below_new w1 (.cells #[.string (bstr t),.bool false] 110)));have c2:=H1.out.c2;have z2:=H1.out.z 2;have hne:w1.heap.size≠b:=(Nat.ne_of_gt (lt_of_block h1.blk));clear h1)
   go_ret
   exact ⟨rfl,H1.out.setBad _⟩
  | true =>
   show Calls Tryz.prog 66 #[.pointer (some ⟨b,0,none⟩)] w fun e w'=>e=.returned (.string (bstr t))∧RdR w0 b g n cap rt false w'
   go_enter Tryz.func66,Tryz.ntmps66
   go_wp2_with (go_at_call 96;refine HN.out.mono ?_;rintro e w1 ⟨rfl,h1⟩;have H1:=Lib.hid (h1.on (below_new w1 (.cells #[.string (bstr t),.bool true] 110)));have c2:=H1.out.c2;have z2:=H1.out.z 2;have hne:w1.heap.size≠b:=(Nat.ne_of_gt (lt_of_block h1.blk));clear h1)
   go_ret
   exact ⟨rfl,H1.out.setBad _⟩
 | true =>
  cases q with
  | false =>
   show Calls Tryz.prog 66 #[.pointer (some ⟨b,0,none⟩)] w fun e w'=>e=.returned (.string (bstr t))∧RdR w0 b g n cap rt true w'
   go_enter Tryz.func66,Tryz.ntmps66
   go_wp2_with (go_at_call 96;refine HN.out.mono ?_;rintro e w1 ⟨rfl,h1⟩;have H1:=Lib.hid (h1.on (below_new w1 (.cells #[.string (bstr t),.bool false] 110)));have c2:=H1.out.c2;have z2:=H1.out.z 2;have hne:w1.heap.size≠b:=(Nat.ne_of_gt (lt_of_block h1.blk));clear h1)
   go_ret
   exact ⟨rfl,H1.out.setBad _⟩
  | true =>
   show Calls Tryz.prog 66 #[.pointer (some ⟨b,0,none⟩)] w fun e w'=>e=.returned (.string (bstr t))∧RdR w0 b g n cap rt true w'
   go_enter Tryz.func66,Tryz.ntmps66
   go_wp2_with (go_at_call 96;refine HN.out.mono ?_;rintro e w1 ⟨rfl,h1⟩;have H1:=Lib.hid (h1.on (below_new w1 (.cells #[.string (bstr t),.bool true] 110)));have c2:=H1.out.c2;have z2:=H1.out.z 2;have hne:w1.heap.size≠b:=(Nat.ne_of_gt (lt_of_block h1.blk));clear h1)
   go_ret
   exact ⟨rfl,H1.out.setBad _⟩
theorem ret_rat {W:World} {g:Nat} {a b:Value} {fn:Func} {tmps:Array Value} {R:Ending→World→Prop} (hr:fn.results=#[.cell 2 24]) (hp:tmps.getD 2 undef=.pointer (some ⟨g,0,none⟩)) (hg:W.heap[g]?=some (.cells #[a,b] 24 (0,0)))
  (h:R (.returned (.agg #[a,b])) W):bodyPost Tryz.prog fn R .ret ⟨tmps,[]⟩ W :=
 bodyPost_ret (results_cell_row hr tmps W g 24 #[a,b] (0,0) _ hp hg Tryz.underlying24 rfl info24) rfl h
theorem nextW_short {w W:World} {b g n cap:Nat} {r:List (List UInt8×Bool)} {bad:Bool} (h:RdR w b g n cap r bad W):(nextW r).1.length≤1099511627776:=by
 match r,h with
 | [],_=>simp [nextW]
 | x :: r,h=>exact h.short x List.mem_cons_self
def numOr (t:List UInt8):Int:=match sp.num t with
 | some n=>n
 | none=>0
noncomputable def fracOr (t:List UInt8):Int×Int:=match sp.fracS t with
 | some p=>p
 | none=>(0,0)
set_option maxRecDepth 100000 in
set_option maxHeartbeats 4000000 in
theorem rnum_word (w0 w:World) (b g n cap:Nat) (r:List (List UInt8×Bool)) (bad:Bool) (h:RdR w0 b g n cap r bad w):Calls Tryz.prog 65 #[.pointer (some ⟨b,0,none⟩)] w fun e w'=>e=.returned (.int .i64 (numOr (nextW r).1))∧RdR w0 b g n cap r.tail (bad||r.isEmpty||(nextW r).2||(sp.num (nextW r).1).isNone) w':=by
 have hN:=rword_any w0 w b g n cap r bad h
 have hs:=nextW_short h
 obtain ⟨t,hx⟩:∃t,(nextW r).1=t:=⟨_,rfl⟩
 rw [hx] at hN hs ⊢
 obtain ⟨bd,hbd⟩:∃bd,(bad||r.isEmpty||(nextW r).2)=bd:=⟨_,rfl⟩
 rw [hbd] at hN ⊢
 obtain ⟨rt,hrt⟩:∃rt,r.tail=rt:=⟨_,rfl⟩
 rw [hrt] at hN ⊢
 have HN:=Lib.hid hN
 have HM:=Lib.hid (fun W=>rnumber_any t W hs)
 clear hN h hx hbd hrt hs
 cases hq:sp.num t with
 | none =>
  have hv:numOr t=0:=by unfold numOr;rw [hq]
  have hr:rnumV t=.tuple #[.int .i64 0,.bool false]:=by unfold rnumV;rw [hq]
  rw [hr] at HM
  rw [hv]
  clear hv hr hq
  cases bd with
  | false =>
   show Calls Tryz.prog 65 #[.pointer (some ⟨b,0,none⟩)] w fun e w'=>e=.returned (.int .i64 0)∧RdR w0 b g n cap rt true w'
   go_enter Tryz.func65,Tryz.ntmps65
   go_wp2_with (first
    | (go_at_call 64;refine HN.out.mono ?_;rintro e w1 ⟨rfl,h1⟩;have H0:=Lib.hid h1;clear h1)
    | (go_at_call 97;refine (HM.out _).mono ?_;rintro e w2 ⟨rfl,hb2⟩;have H1:=Lib.hid (H0.out.on hb2);have c2:=H1.out.c2;have z2:=H1.out.z 2;clear hb2))
   go_ret
   exact ⟨rfl,H1.out.setBad _⟩
  | true =>
   show Calls Tryz.prog 65 #[.pointer (some ⟨b,0,none⟩)] w fun e w'=>e=.returned (.int .i64 0)∧RdR w0 b g n cap rt true w'
   go_enter Tryz.func65,Tryz.ntmps65
   go_wp2_with (first
    | (go_at_call 64;refine HN.out.mono ?_;rintro e w1 ⟨rfl,h1⟩;have H0:=Lib.hid h1;clear h1)
    | (go_at_call 97;refine (HM.out _).mono ?_;rintro e w2 ⟨rfl,hb2⟩;have H1:=Lib.hid (H0.out.on hb2);have c2:=H1.out.c2;have z2:=H1.out.z 2;clear hb2))
   go_ret
   exact ⟨rfl,H1.out.setBad _⟩
 | some m =>
  have hv:numOr t=m:=by unfold numOr;rw [hq]
  have hr:rnumV t=.tuple #[.int .i64 m,.bool true]:=by unfold rnumV;rw [hq]
  rw [hr] at HM
  rw [hv]
  clear hv hr hq
  cases bd with
  | false =>
   show Calls Tryz.prog 65 #[.pointer (some ⟨b,0,none⟩)] w fun e w'=>e=.returned (.int .i64 m)∧RdR w0 b g n cap rt false w'
   go_enter Tryz.func65,Tryz.ntmps65
   go_wp2_with (first
    | (go_at_call 64;refine HN.out.mono ?_;rintro e w1 ⟨rfl,h1⟩;have H0:=Lib.hid h1;clear h1)
    | (go_at_call 97;refine (HM.out _).mono ?_;rintro e w2 ⟨rfl,hb2⟩;have H1:=Lib.hid (H0.out.on hb2);have c2:=H1.out.c2;have z2:=H1.out.z 2;clear hb2))
   go_ret
   exact ⟨rfl,H1.out.setBad _⟩
  | true =>
   show Calls Tryz.prog 65 #[.pointer (some ⟨b,0,none⟩)] w fun e w'=>e=.returned (.int .i64 m)∧RdR w0 b g n cap rt true w'
   go_enter Tryz.func65,Tryz.ntmps65
   go_wp2_with (first
    | (go_at_call 64;refine HN.out.mono ?_;rintro e w1 ⟨rfl,h1⟩;have H0:=Lib.hid h1;clear h1)
    | (go_at_call 97;refine (HM.out _).mono ?_;rintro e w2 ⟨rfl,hb2⟩;have H1:=Lib.hid (H0.out.on hb2);have c2:=H1.out.c2;have z2:=H1.out.z 2;clear hb2))
   go_ret
   exact ⟨rfl,H1.out.setBad _⟩
set_option maxRecDepth 100000 in
set_option maxHeartbeats 4000000 in
theorem rrat_word (w0 w:World) (b g n cap:Nat) (r:List (List UInt8×Bool)) (bad:Bool) (h:RdR w0 b g n cap r bad w):Calls Tryz.prog 67 #[.pointer (some ⟨b,0,none⟩)] w fun e w'=>e=.returned (.agg #[.int .i64 (fracOr (nextW r).1).1,.int .i64 (fracOr (nextW r).1).2])∧RdR w0 b g n cap r.tail (bad||r.isEmpty||(nextW r).2||(sp.fracS (nextW r).1).isNone) w':=by
 have HB0:=Lib.hid (h.on (below_new w (.cells #[.int .i64 0,.int .i64 0] 24)))
 have HGL:Hid (w.heap.size≠b∧w.heap.size≠g∧w0.heap.size≤w.heap.size∧w.heap.size<(w.alloc (.cells #[.int .i64 0,.int .i64 0] 24)).heap.size):=Lib.hid ⟨Nat.ne_of_gt (lt_of_block h.blk),Nat.ne_of_gt h.glt,h.fr.size,by simp⟩
 have hN:=rword_any _ _ b g n cap r bad HB0.out.base
 have hs:=nextW_short h
 obtain ⟨t,hx⟩:∃t,(nextW r).1=t:=⟨_,rfl⟩
 rw [hx] at hN hs ⊢
 obtain ⟨bd,hbd⟩:∃bd,(bad||r.isEmpty||(nextW r).2)=bd:=⟨_,rfl⟩
 rw [hbd] at hN ⊢
 obtain ⟨rt,hrt⟩:∃rt,r.tail=rt:=⟨_,rfl⟩
 rw [hrt] at hN ⊢
 have HN:=Lib.hid hN
 have HM:=Lib.hid (fun W=>rparse_any t W hs)
 have HP:Hid (w0.heap.size≤w.heap.size):=Lib.hid h.fr.size
 clear hN h hx hbd hrt hs
 cases hq:sp.fracS t with
 | none =>
  have hv:fracOr t=(0,0):=by unfold fracOr;rw [hq]
  have HR:Hid (∀e,FracIs t e→e=.returned (.tuple #[.agg #[.int .i64 0,.int .i64 0],.int .i64 3])):=Lib.hid (fun e he=>by unfold FracIs at he;rw [hq] at he;exact he)
  rw [hv]
  clear hv hq
  cases bd with
  | false =>
   show Calls Tryz.prog 67 #[.pointer (some ⟨b,0,none⟩)] w fun e w'=>e=.returned (.agg #[.int .i64 0,.int .i64 0])∧RdR w0 b g n cap rt true w'
   go_enter Tryz.func67,Tryz.ntmps67
   go_wp2_with (first
    | (go_at_call 64;refine HN.out.mono ?_;rintro e w1 ⟨rfl,h1⟩;have H0:=Lib.hid h1;have HM0:=Lib.hid ((h1.fr.block _ HGL.out.2.2.2 HGL.out.1 (by simp)).trans (heap_alloc_at w _));clear h1)
    | (go_at_call 98;refine (HM.out _).mono ?_;rintro e w2 ⟨he,hb2⟩;have he2:=HR.out _ he;clear he;subst he2;have H1:=Lib.hid (H0.out.on (hb2.alloc hb2.size (.cells #[.int .i64 0,.int .i64 0] 24)));have c2:=H1.out.c2;have z2:=H1.out.z 2;have hm2:=heap_old w2 (.cells #[.int .i64 0,.int .i64 0] 24) _ ((hb2.block _ (lt_of_block HM0.out)).trans HM0.out);have HM2:=Lib.hid hm2;have d0:=blk_cell hm2 0 _ rfl;have d1:=blk_cell hm2 1 _ rfl;have y0:=blk_free hm2 0;have y1:=blk_free hm2 1;have n1:=HGL.out.1;clear hb2 hm2))
   have hq2:((w2.alloc (.cells #[.int .i64 0,.int .i64 0] 24)).setCell ⟨b,2,none⟩ (.bool true)).heap[w.heap.size]?=some (.cells #[.int .i64 0,.int .i64 0] 24 (0,0)):=(Below.heap_setCell _ _ _ _ n1).trans HM2.out
   have hr2:=((HB0.out.back (H1.out.setBad true)).other HGL.out.1 HGL.out.2.1 HGL.out.2.2.1 0 (.int .i64 0)).other HGL.out.1 HGL.out.2.1 HGL.out.2.2.1 1 (.int .i64 0)
   exact ret_rat rfl rfl (two_set hq2 _ _) ⟨rfl,hr2⟩
  | true =>
   show Calls Tryz.prog 67 #[.pointer (some ⟨b,0,none⟩)] w fun e w'=>e=.returned (.agg #[.int .i64 0,.int .i64 0])∧RdR w0 b g n cap rt true w'
   go_enter Tryz.func67,Tryz.ntmps67
   go_wp2_with (first
    | (go_at_call 64;refine HN.out.mono ?_;rintro e w1 ⟨rfl,h1⟩;have H0:=Lib.hid h1;have HM0:=Lib.hid ((h1.fr.block _ HGL.out.2.2.2 HGL.out.1 (by simp)).trans (heap_alloc_at w _));clear h1)
    | (go_at_call 98;refine (HM.out _).mono ?_;rintro e w2 ⟨he,hb2⟩;have he2:=HR.out _ he;clear he;subst he2;have H1:=Lib.hid (H0.out.on (hb2.alloc hb2.size (.cells #[.int .i64 0,.int .i64 0] 24)));have c2:=H1.out.c2;have z2:=H1.out.z 2;have hm2:=heap_old w2 (.cells #[.int .i64 0,.int .i64 0] 24) _ ((hb2.block _ (lt_of_block HM0.out)).trans HM0.out);have HM2:=Lib.hid hm2;have d0:=blk_cell hm2 0 _ rfl;have d1:=blk_cell hm2 1 _ rfl;have y0:=blk_free hm2 0;have y1:=blk_free hm2 1;have n1:=HGL.out.1;clear hb2 hm2))
   have hq2:((w2.alloc (.cells #[.int .i64 0,.int .i64 0] 24)).setCell ⟨b,2,none⟩ (.bool true)).heap[w.heap.size]?=some (.cells #[.int .i64 0,.int .i64 0] 24 (0,0)):=(Below.heap_setCell _ _ _ _ n1).trans HM2.out
   have hr2:=((HB0.out.back (H1.out.setBad true)).other HGL.out.1 HGL.out.2.1 HGL.out.2.2.1 0 (.int .i64 0)).other HGL.out.1 HGL.out.2.1 HGL.out.2.2.1 1 (.int .i64 0)
   exact ret_rat rfl rfl (two_set hq2 _ _) ⟨rfl,hr2⟩
 | some p =>
  have hv:fracOr t=p:=by unfold fracOr;rw [hq]
  have HR:Hid (∀e,FracIs t e→e=.returned (.tuple #[.agg #[.int .i64 p.1,.int .i64 p.2],.int .i64 0])):=Lib.hid (fun e he=>by unfold FracIs at he;rw [hq] at he;exact he)
  rw [hv]
  clear hv hq
  cases bd with
  | false =>
   show Calls Tryz.prog 67 #[.pointer (some ⟨b,0,none⟩)] w fun e w'=>e=.returned (.agg #[.int .i64 p.1,.int .i64 p.2])∧RdR w0 b g n cap rt false w'
   go_enter Tryz.func67,Tryz.ntmps67
   go_wp2_with (first
    | (go_at_call 64;refine HN.out.mono ?_;rintro e w1 ⟨rfl,h1⟩;have H0:=Lib.hid h1;have HM0:=Lib.hid ((h1.fr.block _ HGL.out.2.2.2 HGL.out.1 (by simp)).trans (heap_alloc_at w _));clear h1)
    | (go_at_call 98;refine (HM.out _).mono ?_;rintro e w2 ⟨he,hb2⟩;have he2:=HR.out _ he;clear he;subst he2;have H1:=Lib.hid (H0.out.on (hb2.alloc hb2.size (.cells #[.int .i64 p.1,.int .i64 p.2] 24)));have c2:=H1.out.c2;have z2:=H1.out.z 2;have hm2:=heap_old w2 (.cells #[.int .i64 p.1,.int .i64 p.2] 24) _ ((hb2.block _ (lt_of_block HM0.out)).trans HM0.out);have HM2:=Lib.hid hm2;have d0:=blk_cell hm2 0 _ rfl;have d1:=blk_cell hm2 1 _ rfl;have y0:=blk_free hm2 0;have y1:=blk_free hm2 1;have n1:=HGL.out.1;clear hb2 hm2))
   have hq2:((w2.alloc (.cells #[.int .i64 p.1,.int .i64 p.2] 24)).setCell ⟨b,2,none⟩ (.bool false)).heap[w.heap.size]?=some (.cells #[.int .i64 0,.int .i64 0] 24 (0,0)):=(Below.heap_setCell _ _ _ _ n1).trans HM2.out
   have hr2:=((HB0.out.back (H1.out.setBad false)).other HGL.out.1 HGL.out.2.1 HGL.out.2.2.1 0 (.int .i64 p.1)).other HGL.out.1 HGL.out.2.1 HGL.out.2.2.1 1 (.int .i64 p.2)
   exact ret_rat rfl rfl (two_set hq2 _ _) ⟨rfl,hr2⟩
  | true =>
   show Calls Tryz.prog 67 #[.pointer (some ⟨b,0,none⟩)] w fun e w'=>e=.returned (.agg #[.int .i64 p.1,.int .i64 p.2])∧RdR w0 b g n cap rt true w'
   go_enter Tryz.func67,Tryz.ntmps67
   go_wp2_with (first
    | (go_at_call 64;refine HN.out.mono ?_;rintro e w1 ⟨rfl,h1⟩;have H0:=Lib.hid h1;have HM0:=Lib.hid ((h1.fr.block _ HGL.out.2.2.2 HGL.out.1 (by simp)).trans (heap_alloc_at w _));clear h1)
    | (go_at_call 98;refine (HM.out _).mono ?_;rintro e w2 ⟨he,hb2⟩;have he2:=HR.out _ he;clear he;subst he2;have H1:=Lib.hid (H0.out.on (hb2.alloc hb2.size (.cells #[.int .i64 p.1,.int .i64 p.2] 24)));have c2:=H1.out.c2;have z2:=H1.out.z 2;have hm2:=heap_old w2 (.cells #[.int .i64 p.1,.int .i64 p.2] 24) _ ((hb2.block _ (lt_of_block HM0.out)).trans HM0.out);have HM2:=Lib.hid hm2;have d0:=blk_cell hm2 0 _ rfl;have d1:=blk_cell hm2 1 _ rfl;have y0:=blk_free hm2 0;have y1:=blk_free hm2 1;have n1:=HGL.out.1;clear hb2 hm2))
   have hq2:((w2.alloc (.cells #[.int .i64 p.1,.int .i64 p.2] 24)).setCell ⟨b,2,none⟩ (.bool true)).heap[w.heap.size]?=some (.cells #[.int .i64 0,.int .i64 0] 24 (0,0)):=(Below.heap_setCell _ _ _ _ n1).trans HM2.out
   have hr2:=((HB0.out.back (H1.out.setBad true)).other HGL.out.1 HGL.out.2.1 HGL.out.2.2.1 0 (.int .i64 p.1)).other HGL.out.1 HGL.out.2.1 HGL.out.2.2.1 1 (.int .i64 p.2)
   exact ret_rat rfl rfl (two_set hq2 _ _) ⟨rfl,hr2⟩
theorem cell_heap {W W':World} {g:Nat} (h:W'.heap[g]?=W.heap[g]?) (k:Nat):W'.cell? ⟨g,k,none⟩=W.cell? ⟨g,k,none⟩:=by unfold World.cell?;rw [h]
theorem RdR.row {w W:World} {b g n cap:Nat} {r:List (List UInt8×Bool)} {bad:Bool} (h:RdR w b g n cap r bad W) {m:Nat} (hm:m≠b) (hg:m≠g) (hw:w.heap.size≤m) (xs:Array Value):RdR w b g n cap r bad (W.setRow m xs) :=
 ⟨(setRow_far xs hm).trans h.blk,h.len,fun j u hu=>(cell_heap (setRow_far xs hg) _).trans (h.words j u hu),by simpa [World.setRow] using h.glt,h.ne,h.blt,⟨h.fr.os,h.fr.tape,h.fr.output,by simpa [World.setRow] using h.fr.size,fun j hj hb ho=>(setRow_far xs (show m≠j by omega)).trans (h.fr.block j hj hb ho)⟩,h.n63,h.short⟩
structure BxR (w0:World) (m b g n cap:Nat) (cs:Array Value) (r:List (List UInt8×Bool)) (bad:Bool) (W:World):Prop where
 rd:RdR w0 b g n cap r bad W
 res:W.heap[m]?=some (.cells #[.int .i64 0,.string ⟨#[]⟩,.int .i64 0,.int .i64 0,.int .i64 0,.int .i64 0] 26 (0,0))
 loc:W.heap[m+1]?=some (.cells cs 26 (0,0))
 n1:m≠b
 n2:m+1≠b
 n3:m≠g
 n4:m+1≠g
 lo:w0.heap.size≤m
section
variable {w0 W W':World} {m b g n cap:Nat} {cs:Array Value} {r r':List (List UInt8×Bool)} {bad bad':Bool}
theorem BxR.read (h:BxR w0 m b g n cap cs r bad W) (h2:RdR W b g n cap r' bad' W'):BxR w0 m b g n cap cs r' bad' W' :=
 ⟨h.rd.back h2,(h2.fr.block _ (lt_of_block h.res) h.n1 (by simp)).trans h.res,(h2.fr.block _ (lt_of_block h.loc) h.n2 (by simp)).trans h.loc,h.n1,h.n2,h.n3,h.n4,h.lo⟩
theorem BxR.set (h:BxR w0 m b g n cap cs r bad W) (k:Nat) (v:Value):BxR w0 m b g n cap (cs.setIfInBounds k v) r bad (W.setCell ⟨m+1,k,none⟩ v) :=
 ⟨h.rd.other h.n2 h.n4 (by have:=h.lo;omega) k v,(Below.heap_setCell _ _ _ _ (show m≠m+1 by omega)).trans h.res,blk_set h.loc k v,h.n1,h.n2,h.n3,h.n4,h.lo⟩
theorem BxR.setBad (h:BxR w0 m b g n cap cs r bad W) (v:Bool):BxR w0 m b g n cap cs r v (W.setCell ⟨b,2,none⟩ (.bool v)) :=
 ⟨h.rd.setBad v,(Below.heap_setCell _ _ _ _ (show m≠b from h.n1)).trans h.res,(Below.heap_setCell _ _ _ _ (show m+1≠b from h.n2)).trans h.loc,h.n1,h.n2,h.n3,h.n4,h.lo⟩
end
section
variable {w0 W W':World} {m b g n cap:Nat} {c0 c1 c2 c3 c4 c5:Value} {r r':List (List UInt8×Bool)} {bad bad':Bool}
theorem BxR.set0 (h:BxR w0 m b g n cap #[c0,c1,c2,c3,c4,c5] r bad W) (v:Value):BxR w0 m b g n cap #[v,c1,c2,c3,c4,c5] r bad (W.setCell ⟨m+1,0,none⟩ v):=by simpa using h.set 0 v
theorem BxR.set1 (h:BxR w0 m b g n cap #[c0,c1,c2,c3,c4,c5] r bad W) (v:Value):BxR w0 m b g n cap #[c0,v,c2,c3,c4,c5] r bad (W.setCell ⟨m+1,1,none⟩ v):=by simpa using h.set 1 v
theorem BxR.set23 (h:BxR w0 m b g n cap #[c0,c1,c2,c3,c4,c5] r bad W) (x y:Value):BxR w0 m b g n cap #[c0,c1,x,y,c4,c5] r bad ((W.setCell ⟨m+1,2,none⟩ x).setCell ⟨m+1,3,none⟩ y):=by simpa using (h.set 2 x).set 3 y
theorem BxR.set45 (h:BxR w0 m b g n cap #[c0,c1,c2,c3,c4,c5] r bad W) (x y:Value):BxR w0 m b g n cap #[c0,c1,c2,c3,x,y] r bad ((W.setCell ⟨m+1,4,none⟩ x).setCell ⟨m+1,5,none⟩ y):=by simpa using (h.set 4 x).set 5 y
end
theorem there_block {W:World} {g:Nat} {cs:Array Value} {t:TypeId} (h:W.heap[g]?=some (.cells cs t (0,0))) {o k:Nat} (hk:o+k≤cs.size):W.there g o k:=fun j hj=>by
 have hc:W.cell? ⟨g,o+j,none⟩=some (cs[o+j]'(by omega)):=blk_cell h _ _ (Array.getElem?_eq_getElem (by omega))
 exact ⟨by rw [hc];rfl,blk_free h _⟩
section
variable {ops:Array Oper} {rest:List Oper} {op:Oper} {a:Act} {Q:Exit→Act→World→Prop} {w0 W:World} {m b g n cap:Nat} {c0 c1 c2 c3 c4 c5:Value} {r:List (List UInt8×Bool)} {bad:Bool}
theorem wpl_bx2 (hgd:op.guard=none) (x y:Operand) (hop:op.op=.store 24 x y) (H:BxR w0 m b g n cap #[c0,c1,c2,c3,c4,c5] r bad W) (p q:Int) (hx:a.eval x=.pointer (some ⟨m+1,2,none⟩)) (hy:a.eval y=.agg #[.int .i64 p,.int .i64 q])
  (h:∀W',BxR w0 m b g n cap #[c0,c1,.int .i64 p,.int .i64 q,c4,c5] r bad W'→wpList Tryz.prog ops Q rest (a.put op.dst undef) W'):wpList Tryz.prog ops Q (op :: rest) a W :=
 wpList_store_mid hgd 24 x y hop (m+1) 2 _ hx hy (there_block H.loc (show 2+2≤6 by decide)) info24 (by simp [Value.oneCell']) (h _ (H.set23 _ _))
theorem wpl_bx4 (hgd:op.guard=none) (x y:Operand) (hop:op.op=.store 24 x y) (H:BxR w0 m b g n cap #[c0,c1,c2,c3,c4,c5] r bad W) (p q:Int) (hx:a.eval x=.pointer (some ⟨m+1,4,none⟩)) (hy:a.eval y=.agg #[.int .i64 p,.int .i64 q])
  (h:∀W',BxR w0 m b g n cap #[c0,c1,c2,c3,.int .i64 p,.int .i64 q] r bad W'→wpList Tryz.prog ops Q rest (a.put op.dst undef) W'):wpList Tryz.prog ops Q (op :: rest) a W :=
 wpList_store_mid hgd 24 x y hop (m+1) 4 _ hx hy (there_block H.loc (show 4+2≤6 by decide)) info24 (by simp [Value.oneCell']) (h _ (H.set45 _ _))
end
theorem BxR.start {w0 w:World} {b g n cap:Nat} {r:List (List UInt8×Bool)} {bad:Bool} (h:RdR w0 b g n cap r bad w):BxR w0 w.heap.size b g n cap #[.int .i64 0,.string ⟨#[]⟩,.int .i64 0,.int .i64 0,.int .i64 0,.int .i64 0] r bad ((w.alloc (.cells #[.int .i64 0,.string ⟨#[]⟩,.int .i64 0,.int .i64 0,.int .i64 0,.int .i64 0] 26)).alloc (.cells #[.int .i64 0,.string ⟨#[]⟩,.int .i64 0,.int .i64 0,.int .i64 0,.int .i64 0] 26)):=by
 have h1:=heap_alloc_at w (.cells #[.int .i64 0,.string ⟨#[]⟩,.int .i64 0,.int .i64 0,.int .i64 0,.int .i64 0] 26)
 have h2:=heap_alloc_at (w.alloc (.cells #[.int .i64 0,.string ⟨#[]⟩,.int .i64 0,.int .i64 0,.int .i64 0,.int .i64 0] 26)) (.cells #[.int .i64 0,.string ⟨#[]⟩,.int .i64 0,.int .i64 0,.int .i64 0,.int .i64 0] 26)
 have e1:(w.alloc (.cells #[.int .i64 0,.string ⟨#[]⟩,.int .i64 0,.int .i64 0,.int .i64 0,.int .i64 0] 26)).heap.size=w.heap.size+1:=by simp
 rw [e1] at h2
 have hb:=lt_of_block h.blk
 have hg:=h.glt
 exact ⟨h.on ((below_new w _).alloc (by simp) _),heap_old _ _ _ h1,h2,by omega,by omega,by omega,by omega,h.fr.size⟩
def boxC (bt:Int) (bn:List UInt8) (p q:Int×Int):Array Value:=#[.int .i64 bt,.string (bstr bn),.int .i64 p.1,.int .i64 p.2,.int .i64 q.1,.int .i64 q.2]
theorem size26:(Tryz.prog.info? 26).map (·.size)=some 6:=by kernel_rfl
theorem ret_box {W:World} {g:Nat} {cs:Array Value} {fn:Func} {tmps:Array Value} {R:Ending→World→Prop} (hr:fn.results=#[.cell 2 26]) (hp:tmps.getD 2 undef=.pointer (some ⟨g,0,none⟩)) (hg:W.heap[g]?=some (.cells cs 26 (0,0))) (hc:cs.size=6)
  (h:R (.returned (.agg cs)) W):bodyPost Tryz.prog fn R .ret ⟨tmps,[]⟩ W :=
 bodyPost_ret (results_cell_row hr tmps W g 26 cs (0,0) _ hp hg Tryz.underlying26 rfl (by rw [hc];exact size26)) rfl h
set_option maxRecDepth 100000 in
set_option maxHeartbeats 4000000 in
theorem rbox_none_dash (w0 w:World) (b g n cap:Nat) (r:List (List UInt8×Bool)) (bad:Bool) (h:RdR w0 b g n cap r bad w) (h1:(nextW r).1=sp.kNone) (hd:(nextW r.tail).1 = [45]):Calls Tryz.prog 68 #[.pointer (some ⟨b,0,none⟩)] w fun e w'=>e=.returned (.agg (boxC 0 [] (fracOr (nextW r.tail.tail).1) (fracOr (nextW r.tail.tail.tail).1)))∧RdR w0 b g n cap r.tail.tail.tail.tail ((bad||r.isEmpty||(nextW r).2)||r.tail.isEmpty||(nextW r.tail).2||r.tail.tail.isEmpty||(nextW r.tail.tail).2||(sp.fracS (nextW r.tail.tail).1).isNone||r.tail.tail.tail.isEmpty||(nextW r.tail.tail.tail).2||(sp.fracS (nextW r.tail.tail.tail).1).isNone) w':=by
 have H0:=Lib.hid (BxR.start h)
 have HC1:=Lib.hid (rword_any _ _ b g n cap r bad H0.out.rd.base)
 have s0:((bstr (nextW r).1).toList==[110,111,110,101])=true:=str_eq h1
 have sd:((bstr (nextW r.tail).1).toList==[45])=true:=str_eq hd
 clear h hd h1
 generalize hT1:(nextW r).1=t1 at HC1 s0
 generalize hT2:(nextW r.tail).1=t2 at sd ⊢
 have HT2:=Lib.hid hT2
 clear hT1 hT2
 go_enter Tryz.func68,Tryz.ntmps68
 go_wp2_with (first
  | (have hgd:=HC1;clear hgd;go_at_call 64;refine HC1.out.mono ?_;rintro e w1 ⟨rfl,h1⟩;have H1:=Lib.hid (H0.out.read h1);have l0:=blk_cell H1.out.loc 0 _ rfl;have f0:=blk_free H1.out.loc 0;have c2:=H1.out.rd.c2;have z2:=H1.out.rd.z 2;have HQ:=Lib.hid (H1.out);clear h1 HC1)
  | (have hgd:=HQ;clear hgd;go_at_call 64;refine (rword_any _ _ b g n cap _ _ HQ.out.rd.base).mono ?_;rw [HT2.out];rintro e w2 ⟨rfl,h2⟩;have H2:=Lib.hid (HQ.out.read h2);have l1:=blk_cell H2.out.loc 1 (.string ⟨#[]⟩) rfl;have f1:=blk_free H2.out.loc 1;have HP:=Lib.hid ((H2.out.set1 (.string (bstr t2))).set1 (.string ⟨#[]⟩));clear h2 HQ)
  | (have hgd:=HP;clear hgd;go_at_call 67;refine (rrat_word _ _ b g n cap _ _ HP.out.rd.base).mono ?_;rintro e w3 ⟨rfl,h3⟩;have H3:=Lib.hid (HP.out.read h3);clear h3 HP)
  | (have hgd:=H3;clear hgd;go_at_call 67;refine (rrat_word _ _ b g n cap _ _ H3.out.rd.base).mono ?_;rintro e w4 ⟨rfl,h4⟩;have H4:=Lib.hid (H3.out.read h4);clear h4 H3)
  | (have hgd:=H4;clear hgd;refine wpl_bx2 rfl _ _ rfl H4.out (fracOr (nextW r.tail.tail).1).1 (fracOr (nextW r.tail.tail).1).2 rfl rfl ?_;intro w5 h5;have H5:=Lib.hid h5;clear h5 H4)
  | (have hgd:=H5;clear hgd;refine wpl_bx4 rfl _ _ rfl H5.out (fracOr (nextW r.tail.tail.tail).1).1 (fracOr (nextW r.tail.tail.tail).1).2 rfl rfl ?_;intro w6 h6;have H6:=Lib.hid h6;clear h6 H5)
  | (have hgd:=H6;clear hgd;refine wpList_load_row rfl 26 _ rfl (w.heap.size+1) rfl 26 #[.int .i64 0,.string ⟨#[]⟩,.int .i64 (fracOr (nextW r.tail.tail).1).1,.int .i64 (fracOr (nextW r.tail.tail).1).2,.int .i64 (fracOr (nextW r.tail.tail.tail).1).1,.int .i64 (fracOr (nextW r.tail.tail.tail).1).2] (0,0) _ H6.out.loc Tryz.underlying26 rfl size26 ?_)
  | (have hgd:=H6;clear hgd;refine wpList_store_row rfl 26 _ _ rfl w.heap.size #[.int .i64 0,.string ⟨#[]⟩,.int .i64 (fracOr (nextW r.tail.tail).1).1,.int .i64 (fracOr (nextW r.tail.tail).1).2,.int .i64 (fracOr (nextW r.tail.tail.tail).1).1,.int .i64 (fracOr (nextW r.tail.tail.tail).1).2] rfl rfl 26 _ H6.out.res size26 rfl (by simp [Value.oneCell']) ?_))
 exact ret_box (cs:=#[.int .i64 0,.string ⟨#[]⟩,.int .i64 (fracOr (nextW r.tail.tail).1).1,.int .i64 (fracOr (nextW r.tail.tail).1).2,.int .i64 (fracOr (nextW r.tail.tail.tail).1).1,.int .i64 (fracOr (nextW r.tail.tail.tail).1).2]) rfl rfl (setRow_at H6.out.res _) rfl ⟨rfl,H6.out.rd.row H6.out.n1 H6.out.n3 H6.out.lo _⟩
set_option maxRecDepth 100000 in
set_option maxHeartbeats 4000000 in
theorem rbox_none_named (w0 w:World) (b g n cap:Nat) (r:List (List UInt8×Bool)) (bad:Bool) (h:RdR w0 b g n cap r bad w) (h1:(nextW r).1=sp.kNone) (hd:(nextW r.tail).1≠[45]):Calls Tryz.prog 68 #[.pointer (some ⟨b,0,none⟩)] w fun e w'=>e=.returned (.agg (boxC 0 (nextW r.tail).1 (fracOr (nextW r.tail.tail).1) (fracOr (nextW r.tail.tail.tail).1)))∧RdR w0 b g n cap r.tail.tail.tail.tail ((bad||r.isEmpty||(nextW r).2)||r.tail.isEmpty||(nextW r.tail).2||r.tail.tail.isEmpty||(nextW r.tail.tail).2||(sp.fracS (nextW r.tail.tail).1).isNone||r.tail.tail.tail.isEmpty||(nextW r.tail.tail.tail).2||(sp.fracS (nextW r.tail.tail.tail).1).isNone) w':=by
 have H0:=Lib.hid (BxR.start h)
 have HC1:=Lib.hid (rword_any _ _ b g n cap r bad H0.out.rd.base)
 have s0:((bstr (nextW r).1).toList==[110,111,110,101])=true:=str_eq h1
 have sd:((bstr (nextW r.tail).1).toList==[45])=false:=str_ne hd
 clear h hd h1
 generalize hT1:(nextW r).1=t1 at HC1 s0
 generalize hT2:(nextW r.tail).1=t2 at sd ⊢
 have HT2:=Lib.hid hT2
 clear hT1 hT2
 go_enter Tryz.func68,Tryz.ntmps68
 go_wp2_with (first
  | (have hgd:=HC1;clear hgd;go_at_call 64;refine HC1.out.mono ?_;rintro e w1 ⟨rfl,h1⟩;have H1:=Lib.hid (H0.out.read h1);have l0:=blk_cell H1.out.loc 0 _ rfl;have f0:=blk_free H1.out.loc 0;have c2:=H1.out.rd.c2;have z2:=H1.out.rd.z 2;have HQ:=Lib.hid (H1.out);clear h1 HC1)
  | (have hgd:=HQ;clear hgd;go_at_call 64;refine (rword_any _ _ b g n cap _ _ HQ.out.rd.base).mono ?_;rw [HT2.out];rintro e w2 ⟨rfl,h2⟩;have H2:=Lib.hid (HQ.out.read h2);have l1:=blk_cell H2.out.loc 1 (.string ⟨#[]⟩) rfl;have f1:=blk_free H2.out.loc 1;have HP:=Lib.hid (H2.out.set1 (.string (bstr t2)));clear h2 HQ)
  | (have hgd:=HP;clear hgd;go_at_call 67;refine (rrat_word _ _ b g n cap _ _ HP.out.rd.base).mono ?_;rintro e w3 ⟨rfl,h3⟩;have H3:=Lib.hid (HP.out.read h3);clear h3 HP)
  | (have hgd:=H3;clear hgd;go_at_call 67;refine (rrat_word _ _ b g n cap _ _ H3.out.rd.base).mono ?_;rintro e w4 ⟨rfl,h4⟩;have H4:=Lib.hid (H3.out.read h4);clear h4 H3)
  | (have hgd:=H4;clear hgd;refine wpl_bx2 rfl _ _ rfl H4.out (fracOr (nextW r.tail.tail).1).1 (fracOr (nextW r.tail.tail).1).2 rfl rfl ?_;intro w5 h5;have H5:=Lib.hid h5;clear h5 H4)
  | (have hgd:=H5;clear hgd;refine wpl_bx4 rfl _ _ rfl H5.out (fracOr (nextW r.tail.tail.tail).1).1 (fracOr (nextW r.tail.tail.tail).1).2 rfl rfl ?_;intro w6 h6;have H6:=Lib.hid h6;clear h6 H5)
  | (have hgd:=H6;clear hgd;refine wpList_load_row rfl 26 _ rfl (w.heap.size+1) rfl 26 #[.int .i64 0,.string (bstr t2),.int .i64 (fracOr (nextW r.tail.tail).1).1,.int .i64 (fracOr (nextW r.tail.tail).1).2,.int .i64 (fracOr (nextW r.tail.tail.tail).1).1,.int .i64 (fracOr (nextW r.tail.tail.tail).1).2] (0,0) _ H6.out.loc Tryz.underlying26 rfl size26 ?_)
  | (have hgd:=H6;clear hgd;refine wpList_store_row rfl 26 _ _ rfl w.heap.size #[.int .i64 0,.string (bstr t2),.int .i64 (fracOr (nextW r.tail.tail).1).1,.int .i64 (fracOr (nextW r.tail.tail).1).2,.int .i64 (fracOr (nextW r.tail.tail.tail).1).1,.int .i64 (fracOr (nextW r.tail.tail.tail).1).2] rfl rfl 26 _ H6.out.res size26 rfl (by simp [Value.oneCell']) ?_))
 exact ret_box (cs:=#[.int .i64 0,.string (bstr t2),.int .i64 (fracOr (nextW r.tail.tail).1).1,.int .i64 (fracOr (nextW r.tail.tail).1).2,.int .i64 (fracOr (nextW r.tail.tail.tail).1).1,.int .i64 (fracOr (nextW r.tail.tail.tail).1).2]) rfl rfl (setRow_at H6.out.res _) rfl ⟨rfl,H6.out.rd.row H6.out.n1 H6.out.n3 H6.out.lo _⟩
set_option maxRecDepth 100000 in
set_option maxHeartbeats 4000000 in
theorem rbox_inline_dash (w0 w:World) (b g n cap:Nat) (r:List (List UInt8×Bool)) (bad:Bool) (h:RdR w0 b g n cap r bad w) (h1:(nextW r).1=sp.kInline) (hd:(nextW r.tail).1 = [45]):Calls Tryz.prog 68 #[.pointer (some ⟨b,0,none⟩)] w fun e w'=>e=.returned (.agg (boxC 1 [] (fracOr (nextW r.tail.tail).1) (fracOr (nextW r.tail.tail.tail).1)))∧RdR w0 b g n cap r.tail.tail.tail.tail ((bad||r.isEmpty||(nextW r).2)||r.tail.isEmpty||(nextW r.tail).2||r.tail.tail.isEmpty||(nextW r.tail.tail).2||(sp.fracS (nextW r.tail.tail).1).isNone||r.tail.tail.tail.isEmpty||(nextW r.tail.tail.tail).2||(sp.fracS (nextW r.tail.tail.tail).1).isNone) w':=by
 have H0:=Lib.hid (BxR.start h)
 have HC1:=Lib.hid (rword_any _ _ b g n cap r bad H0.out.rd.base)
 have s0:((bstr (nextW r).1).toList==[110,111,110,101])=false:=str_ne (by rw [h1];decide)
 have s1:((bstr (nextW r).1).toList==[105,110,108,105,110,101])=true:=str_eq h1
 have sd:((bstr (nextW r.tail).1).toList==[45])=true:=str_eq hd
 clear h hd h1
 generalize hT1:(nextW r).1=t1 at HC1 s0 s1
 generalize hT2:(nextW r.tail).1=t2 at sd ⊢
 have HT2:=Lib.hid hT2
 clear hT1 hT2
 go_enter Tryz.func68,Tryz.ntmps68
 go_wp2_with (first
  | (have hgd:=HC1;clear hgd;go_at_call 64;refine HC1.out.mono ?_;rintro e w1 ⟨rfl,h1⟩;have H1:=Lib.hid (H0.out.read h1);have l0:=blk_cell H1.out.loc 0 _ rfl;have f0:=blk_free H1.out.loc 0;have c2:=H1.out.rd.c2;have z2:=H1.out.rd.z 2;have HQ:=Lib.hid (H1.out.set0 (.int .i64 1));clear h1 HC1)
  | (have hgd:=HQ;clear hgd;go_at_call 64;refine (rword_any _ _ b g n cap _ _ HQ.out.rd.base).mono ?_;rw [HT2.out];rintro e w2 ⟨rfl,h2⟩;have H2:=Lib.hid (HQ.out.read h2);have l1:=blk_cell H2.out.loc 1 (.string ⟨#[]⟩) rfl;have f1:=blk_free H2.out.loc 1;have HP:=Lib.hid ((H2.out.set1 (.string (bstr t2))).set1 (.string ⟨#[]⟩));clear h2 HQ)
  | (have hgd:=HP;clear hgd;go_at_call 67;refine (rrat_word _ _ b g n cap _ _ HP.out.rd.base).mono ?_;rintro e w3 ⟨rfl,h3⟩;have H3:=Lib.hid (HP.out.read h3);clear h3 HP)
  | (have hgd:=H3;clear hgd;go_at_call 67;refine (rrat_word _ _ b g n cap _ _ H3.out.rd.base).mono ?_;rintro e w4 ⟨rfl,h4⟩;have H4:=Lib.hid (H3.out.read h4);clear h4 H3)
  | (have hgd:=H4;clear hgd;refine wpl_bx2 rfl _ _ rfl H4.out (fracOr (nextW r.tail.tail).1).1 (fracOr (nextW r.tail.tail).1).2 rfl rfl ?_;intro w5 h5;have H5:=Lib.hid h5;clear h5 H4)
  | (have hgd:=H5;clear hgd;refine wpl_bx4 rfl _ _ rfl H5.out (fracOr (nextW r.tail.tail.tail).1).1 (fracOr (nextW r.tail.tail.tail).1).2 rfl rfl ?_;intro w6 h6;have H6:=Lib.hid h6;clear h6 H5)
  | (have hgd:=H6;clear hgd;refine wpList_load_row rfl 26 _ rfl (w.heap.size+1) rfl 26 #[.int .i64 1,.string ⟨#[]⟩,.int .i64 (fracOr (nextW r.tail.tail).1).1,.int .i64 (fracOr (nextW r.tail.tail).1).2,.int .i64 (fracOr (nextW r.tail.tail.tail).1).1,.int .i64 (fracOr (nextW r.tail.tail.tail).1).2] (0,0) _ H6.out.loc Tryz.underlying26 rfl size26 ?_)
  | (have hgd:=H6;clear hgd;refine wpList_store_row rfl 26 _ _ rfl w.heap.size #[.int .i64 1,.string ⟨#[]⟩,.int .i64 (fracOr (nextW r.tail.tail).1).1,.int .i64 (fracOr (nextW r.tail.tail).1).2,.int .i64 (fracOr (nextW r.tail.tail.tail).1).1,.int .i64 (fracOr (nextW r.tail.tail.tail).1).2] rfl rfl 26 _ H6.out.res size26 rfl (by simp [Value.oneCell']) ?_))
 exact ret_box (cs:=#[.int .i64 1,.string ⟨#[]⟩,.int .i64 (fracOr (nextW r.tail.tail).1).1,.int .i64 (fracOr (nextW r.tail.tail).1).2,.int .i64 (fracOr (nextW r.tail.tail.tail).1).1,.int .i64 (fracOr (nextW r.tail.tail.tail).1).2]) rfl rfl (setRow_at H6.out.res _) rfl ⟨rfl,H6.out.rd.row H6.out.n1 H6.out.n3 H6.out.lo _⟩
set_option maxRecDepth 100000 in
set_option maxHeartbeats 4000000 in
theorem rbox_inline_named (w0 w:World) (b g n cap:Nat) (r:List (List UInt8×Bool)) (bad:Bool) (h:RdR w0 b g n cap r bad w) (h1:(nextW r).1=sp.kInline) (hd:(nextW r.tail).1≠[45]):Calls Tryz.prog 68 #[.pointer (some ⟨b,0,none⟩)] w fun e w'=>e=.returned (.agg (boxC 1 (nextW r.tail).1 (fracOr (nextW r.tail.tail).1) (fracOr (nextW r.tail.tail.tail).1)))∧RdR w0 b g n cap r.tail.tail.tail.tail ((bad||r.isEmpty||(nextW r).2)||r.tail.isEmpty||(nextW r.tail).2||r.tail.tail.isEmpty||(nextW r.tail.tail).2||(sp.fracS (nextW r.tail.tail).1).isNone||r.tail.tail.tail.isEmpty||(nextW r.tail.tail.tail).2||(sp.fracS (nextW r.tail.tail.tail).1).isNone) w':=by
 have H0:=Lib.hid (BxR.start h)
 have HC1:=Lib.hid (rword_any _ _ b g n cap r bad H0.out.rd.base)
 have s0:((bstr (nextW r).1).toList==[110,111,110,101])=false:=str_ne (by rw [h1];decide)
 have s1:((bstr (nextW r).1).toList==[105,110,108,105,110,101])=true:=str_eq h1
 have sd:((bstr (nextW r.tail).1).toList==[45])=false:=str_ne hd
 clear h hd h1
 generalize hT1:(nextW r).1=t1 at HC1 s0 s1
 generalize hT2:(nextW r.tail).1=t2 at sd ⊢
 have HT2:=Lib.hid hT2
 clear hT1 hT2
 go_enter Tryz.func68,Tryz.ntmps68
 go_wp2_with (first
  | (have hgd:=HC1;clear hgd;go_at_call 64;refine HC1.out.mono ?_;rintro e w1 ⟨rfl,h1⟩;have H1:=Lib.hid (H0.out.read h1);have l0:=blk_cell H1.out.loc 0 _ rfl;have f0:=blk_free H1.out.loc 0;have c2:=H1.out.rd.c2;have z2:=H1.out.rd.z 2;have HQ:=Lib.hid (H1.out.set0 (.int .i64 1));clear h1 HC1)
  | (have hgd:=HQ;clear hgd;go_at_call 64;refine (rword_any _ _ b g n cap _ _ HQ.out.rd.base).mono ?_;rw [HT2.out];rintro e w2 ⟨rfl,h2⟩;have H2:=Lib.hid (HQ.out.read h2);have l1:=blk_cell H2.out.loc 1 (.string ⟨#[]⟩) rfl;have f1:=blk_free H2.out.loc 1;have HP:=Lib.hid (H2.out.set1 (.string (bstr t2)));clear h2 HQ)
  | (have hgd:=HP;clear hgd;go_at_call 67;refine (rrat_word _ _ b g n cap _ _ HP.out.rd.base).mono ?_;rintro e w3 ⟨rfl,h3⟩;have H3:=Lib.hid (HP.out.read h3);clear h3 HP)
  | (have hgd:=H3;clear hgd;go_at_call 67;refine (rrat_word _ _ b g n cap _ _ H3.out.rd.base).mono ?_;rintro e w4 ⟨rfl,h4⟩;have H4:=Lib.hid (H3.out.read h4);clear h4 H3)
  | (have hgd:=H4;clear hgd;refine wpl_bx2 rfl _ _ rfl H4.out (fracOr (nextW r.tail.tail).1).1 (fracOr (nextW r.tail.tail).1).2 rfl rfl ?_;intro w5 h5;have H5:=Lib.hid h5;clear h5 H4)
  | (have hgd:=H5;clear hgd;refine wpl_bx4 rfl _ _ rfl H5.out (fracOr (nextW r.tail.tail.tail).1).1 (fracOr (nextW r.tail.tail.tail).1).2 rfl rfl ?_;intro w6 h6;have H6:=Lib.hid h6;clear h6 H5)
  | (have hgd:=H6;clear hgd;refine wpList_load_row rfl 26 _ rfl (w.heap.size+1) rfl 26 #[.int .i64 1,.string (bstr t2),.int .i64 (fracOr (nextW r.tail.tail).1).1,.int .i64 (fracOr (nextW r.tail.tail).1).2,.int .i64 (fracOr (nextW r.tail.tail.tail).1).1,.int .i64 (fracOr (nextW r.tail.tail.tail).1).2] (0,0) _ H6.out.loc Tryz.underlying26 rfl size26 ?_)
  | (have hgd:=H6;clear hgd;refine wpList_store_row rfl 26 _ _ rfl w.heap.size #[.int .i64 1,.string (bstr t2),.int .i64 (fracOr (nextW r.tail.tail).1).1,.int .i64 (fracOr (nextW r.tail.tail).1).2,.int .i64 (fracOr (nextW r.tail.tail.tail).1).1,.int .i64 (fracOr (nextW r.tail.tail.tail).1).2] rfl rfl 26 _ H6.out.res size26 rfl (by simp [Value.oneCell']) ?_))
 exact ret_box (cs:=#[.int .i64 1,.string (bstr t2),.int .i64 (fracOr (nextW r.tail.tail).1).1,.int .i64 (fracOr (nextW r.tail.tail).1).2,.int .i64 (fracOr (nextW r.tail.tail.tail).1).1,.int .i64 (fracOr (nextW r.tail.tail.tail).1).2]) rfl rfl (setRow_at H6.out.res _) rfl ⟨rfl,H6.out.rd.row H6.out.n1 H6.out.n3 H6.out.lo _⟩
set_option maxRecDepth 100000 in
set_option maxHeartbeats 4000000 in
theorem rbox_size_dash (w0 w:World) (b g n cap:Nat) (r:List (List UInt8×Bool)) (bad:Bool) (h:RdR w0 b g n cap r bad w) (h1:(nextW r).1=sp.kSize) (hd:(nextW r.tail).1 = [45]):Calls Tryz.prog 68 #[.pointer (some ⟨b,0,none⟩)] w fun e w'=>e=.returned (.agg (boxC 2 [] (fracOr (nextW r.tail.tail).1) (fracOr (nextW r.tail.tail.tail).1)))∧RdR w0 b g n cap r.tail.tail.tail.tail ((bad||r.isEmpty||(nextW r).2)||r.tail.isEmpty||(nextW r.tail).2||r.tail.tail.isEmpty||(nextW r.tail.tail).2||(sp.fracS (nextW r.tail.tail).1).isNone||r.tail.tail.tail.isEmpty||(nextW r.tail.tail.tail).2||(sp.fracS (nextW r.tail.tail.tail).1).isNone) w':=by
 have H0:=Lib.hid (BxR.start h)
 have HC1:=Lib.hid (rword_any _ _ b g n cap r bad H0.out.rd.base)
 have s0:((bstr (nextW r).1).toList==[110,111,110,101])=false:=str_ne (by rw [h1];decide)
 have s1:((bstr (nextW r).1).toList==[105,110,108,105,110,101])=false:=str_ne (by rw [h1];decide)
 have s2:((bstr (nextW r).1).toList==[115,105,122,101])=true:=str_eq h1
 have sd:((bstr (nextW r.tail).1).toList==[45])=true:=str_eq hd
 clear h hd h1
 generalize hT1:(nextW r).1=t1 at HC1 s0 s1 s2
 generalize hT2:(nextW r.tail).1=t2 at sd ⊢
 have HT2:=Lib.hid hT2
 clear hT1 hT2
 go_enter Tryz.func68,Tryz.ntmps68
 go_wp2_with (first
  | (have hgd:=HC1;clear hgd;go_at_call 64;refine HC1.out.mono ?_;rintro e w1 ⟨rfl,h1⟩;have H1:=Lib.hid (H0.out.read h1);have l0:=blk_cell H1.out.loc 0 _ rfl;have f0:=blk_free H1.out.loc 0;have c2:=H1.out.rd.c2;have z2:=H1.out.rd.z 2;have HQ:=Lib.hid (H1.out.set0 (.int .i64 2));clear h1 HC1)
  | (have hgd:=HQ;clear hgd;go_at_call 64;refine (rword_any _ _ b g n cap _ _ HQ.out.rd.base).mono ?_;rw [HT2.out];rintro e w2 ⟨rfl,h2⟩;have H2:=Lib.hid (HQ.out.read h2);have l1:=blk_cell H2.out.loc 1 (.string ⟨#[]⟩) rfl;have f1:=blk_free H2.out.loc 1;have HP:=Lib.hid ((H2.out.set1 (.string (bstr t2))).set1 (.string ⟨#[]⟩));clear h2 HQ)
  | (have hgd:=HP;clear hgd;go_at_call 67;refine (rrat_word _ _ b g n cap _ _ HP.out.rd.base).mono ?_;rintro e w3 ⟨rfl,h3⟩;have H3:=Lib.hid (HP.out.read h3);clear h3 HP)
  | (have hgd:=H3;clear hgd;go_at_call 67;refine (rrat_word _ _ b g n cap _ _ H3.out.rd.base).mono ?_;rintro e w4 ⟨rfl,h4⟩;have H4:=Lib.hid (H3.out.read h4);clear h4 H3)
  | (have hgd:=H4;clear hgd;refine wpl_bx2 rfl _ _ rfl H4.out (fracOr (nextW r.tail.tail).1).1 (fracOr (nextW r.tail.tail).1).2 rfl rfl ?_;intro w5 h5;have H5:=Lib.hid h5;clear h5 H4)
  | (have hgd:=H5;clear hgd;refine wpl_bx4 rfl _ _ rfl H5.out (fracOr (nextW r.tail.tail.tail).1).1 (fracOr (nextW r.tail.tail.tail).1).2 rfl rfl ?_;intro w6 h6;have H6:=Lib.hid h6;clear h6 H5)
  | (have hgd:=H6;clear hgd;refine wpList_load_row rfl 26 _ rfl (w.heap.size+1) rfl 26 #[.int .i64 2,.string ⟨#[]⟩,.int .i64 (fracOr (nextW r.tail.tail).1).1,.int .i64 (fracOr (nextW r.tail.tail).1).2,.int .i64 (fracOr (nextW r.tail.tail.tail).1).1,.int .i64 (fracOr (nextW r.tail.tail.tail).1).2] (0,0) _ H6.out.loc Tryz.underlying26 rfl size26 ?_)
  | (have hgd:=H6;clear hgd;refine wpList_store_row rfl 26 _ _ rfl w.heap.size #[.int .i64 2,.string ⟨#[]⟩,.int .i64 (fracOr (nextW r.tail.tail).1).1,.int .i64 (fracOr (nextW r.tail.tail).1).2,.int .i64 (fracOr (nextW r.tail.tail.tail).1).1,.int .i64 (fracOr (nextW r.tail.tail.tail).1).2] rfl rfl 26 _ H6.out.res size26 rfl (by simp [Value.oneCell']) ?_))
 exact ret_box (cs:=#[.int .i64 2,.string ⟨#[]⟩,.int .i64 (fracOr (nextW r.tail.tail).1).1,.int .i64 (fracOr (nextW r.tail.tail).1).2,.int .i64 (fracOr (nextW r.tail.tail.tail).1).1,.int .i64 (fracOr (nextW r.tail.tail.tail).1).2]) rfl rfl (setRow_at H6.out.res _) rfl ⟨rfl,H6.out.rd.row H6.out.n1 H6.out.n3 H6.out.lo _⟩
set_option maxRecDepth 100000 in
set_option maxHeartbeats 4000000 in
theorem rbox_size_named (w0 w:World) (b g n cap:Nat) (r:List (List UInt8×Bool)) (bad:Bool) (h:RdR w0 b g n cap r bad w) (h1:(nextW r).1=sp.kSize) (hd:(nextW r.tail).1≠[45]):Calls Tryz.prog 68 #[.pointer (some ⟨b,0,none⟩)] w fun e w'=>e=.returned (.agg (boxC 2 (nextW r.tail).1 (fracOr (nextW r.tail.tail).1) (fracOr (nextW r.tail.tail.tail).1)))∧RdR w0 b g n cap r.tail.tail.tail.tail ((bad||r.isEmpty||(nextW r).2)||r.tail.isEmpty||(nextW r.tail).2||r.tail.tail.isEmpty||(nextW r.tail.tail).2||(sp.fracS (nextW r.tail.tail).1).isNone||r.tail.tail.tail.isEmpty||(nextW r.tail.tail.tail).2||(sp.fracS (nextW r.tail.tail.tail).1).isNone) w':=by
 have H0:=Lib.hid (BxR.start h)
 have HC1:=Lib.hid (rword_any _ _ b g n cap r bad H0.out.rd.base)
 have s0:((bstr (nextW r).1).toList==[110,111,110,101])=false:=str_ne (by rw [h1];decide)
 have s1:((bstr (nextW r).1).toList==[105,110,108,105,110,101])=false:=str_ne (by rw [h1];decide)
 have s2:((bstr (nextW r).1).toList==[115,105,122,101])=true:=str_eq h1
 have sd:((bstr (nextW r.tail).1).toList==[45])=false:=str_ne hd
 clear h hd h1
 generalize hT1:(nextW r).1=t1 at HC1 s0 s1 s2
 generalize hT2:(nextW r.tail).1=t2 at sd ⊢
 have HT2:=Lib.hid hT2
 clear hT1 hT2
 go_enter Tryz.func68,Tryz.ntmps68
 go_wp2_with (first
  | (have hgd:=HC1;clear hgd;go_at_call 64;refine HC1.out.mono ?_;rintro e w1 ⟨rfl,h1⟩;have H1:=Lib.hid (H0.out.read h1);have l0:=blk_cell H1.out.loc 0 _ rfl;have f0:=blk_free H1.out.loc 0;have c2:=H1.out.rd.c2;have z2:=H1.out.rd.z 2;have HQ:=Lib.hid (H1.out.set0 (.int .i64 2));clear h1 HC1)
  | (have hgd:=HQ;clear hgd;go_at_call 64;refine (rword_any _ _ b g n cap _ _ HQ.out.rd.base).mono ?_;rw [HT2.out];rintro e w2 ⟨rfl,h2⟩;have H2:=Lib.hid (HQ.out.read h2);have l1:=blk_cell H2.out.loc 1 (.string ⟨#[]⟩) rfl;have f1:=blk_free H2.out.loc 1;have HP:=Lib.hid (H2.out.set1 (.string (bstr t2)));clear h2 HQ)
  | (have hgd:=HP;clear hgd;go_at_call 67;refine (rrat_word _ _ b g n cap _ _ HP.out.rd.base).mono ?_;rintro e w3 ⟨rfl,h3⟩;have H3:=Lib.hid (HP.out.read h3);clear h3 HP)
  | (have hgd:=H3;clear hgd;go_at_call 67;refine (rrat_word _ _ b g n cap _ _ H3.out.rd.base).mono ?_;rintro e w4 ⟨rfl,h4⟩;have H4:=Lib.hid (H3.out.read h4);clear h4 H3)
  | (have hgd:=H4;clear hgd;refine wpl_bx2 rfl _ _ rfl H4.out (fracOr (nextW r.tail.tail).1).1 (fracOr (nextW r.tail.tail).1).2 rfl rfl ?_;intro w5 h5;have H5:=Lib.hid h5;clear h5 H4)
  | (have hgd:=H5;clear hgd;refine wpl_bx4 rfl _ _ rfl H5.out (fracOr (nextW r.tail.tail.tail).1).1 (fracOr (nextW r.tail.tail.tail).1).2 rfl rfl ?_;intro w6 h6;have H6:=Lib.hid h6;clear h6 H5)
  | (have hgd:=H6;clear hgd;refine wpList_load_row rfl 26 _ rfl (w.heap.size+1) rfl 26 #[.int .i64 2,.string (bstr t2),.int .i64 (fracOr (nextW r.tail.tail).1).1,.int .i64 (fracOr (nextW r.tail.tail).1).2,.int .i64 (fracOr (nextW r.tail.tail.tail).1).1,.int .i64 (fracOr (nextW r.tail.tail.tail).1).2] (0,0) _ H6.out.loc Tryz.underlying26 rfl size26 ?_)
  | (have hgd:=H6;clear hgd;refine wpList_store_row rfl 26 _ _ rfl w.heap.size #[.int .i64 2,.string (bstr t2),.int .i64 (fracOr (nextW r.tail.tail).1).1,.int .i64 (fracOr (nextW r.tail.tail).1).2,.int .i64 (fracOr (nextW r.tail.tail.tail).1).1,.int .i64 (fracOr (nextW r.tail.tail.tail).1).2] rfl rfl 26 _ H6.out.res size26 rfl (by simp [Value.oneCell']) ?_))
 exact ret_box (cs:=#[.int .i64 2,.string (bstr t2),.int .i64 (fracOr (nextW r.tail.tail).1).1,.int .i64 (fracOr (nextW r.tail.tail).1).2,.int .i64 (fracOr (nextW r.tail.tail.tail).1).1,.int .i64 (fracOr (nextW r.tail.tail.tail).1).2]) rfl rfl (setRow_at H6.out.res _) rfl ⟨rfl,H6.out.rd.row H6.out.n1 H6.out.n3 H6.out.lo _⟩
set_option maxRecDepth 100000 in
set_option maxHeartbeats 4000000 in
theorem rbox_other_dash (w0 w:World) (b g n cap:Nat) (r:List (List UInt8×Bool)) (bad:Bool) (h:RdR w0 b g n cap r bad w) (h1:(nextW r).1≠sp.kNone) (h2:(nextW r).1≠sp.kInline) (h3:(nextW r).1≠sp.kSize) (hd:(nextW r.tail).1 = [45]):Calls Tryz.prog 68 #[.pointer (some ⟨b,0,none⟩)] w fun e w'=>e=.returned (.agg (boxC 0 [] (fracOr (nextW r.tail.tail).1) (fracOr (nextW r.tail.tail.tail).1)))∧RdR w0 b g n cap r.tail.tail.tail.tail (true||r.tail.isEmpty||(nextW r.tail).2||r.tail.tail.isEmpty||(nextW r.tail.tail).2||(sp.fracS (nextW r.tail.tail).1).isNone||r.tail.tail.tail.isEmpty||(nextW r.tail.tail.tail).2||(sp.fracS (nextW r.tail.tail.tail).1).isNone) w':=by
 have H0:=Lib.hid (BxR.start h)
 have HC1:=Lib.hid (rword_any _ _ b g n cap r bad H0.out.rd.base)
 have s0:((bstr (nextW r).1).toList==[110,111,110,101])=false:=str_ne h1
 have s1:((bstr (nextW r).1).toList==[105,110,108,105,110,101])=false:=str_ne h2
 have s2:((bstr (nextW r).1).toList==[115,105,122,101])=false:=str_ne h3
 have sd:((bstr (nextW r.tail).1).toList==[45])=true:=str_eq hd
 clear h hd h1 h2 h3
 generalize hT1:(nextW r).1=t1 at HC1 s0 s1 s2
 generalize hT2:(nextW r.tail).1=t2 at sd ⊢
 have HT2:=Lib.hid hT2
 clear hT1 hT2
 go_enter Tryz.func68,Tryz.ntmps68
 go_wp2_with (first
  | (have hgd:=HC1;clear hgd;go_at_call 64;refine HC1.out.mono ?_;rintro e w1 ⟨rfl,h1⟩;have H1:=Lib.hid (H0.out.read h1);have l0:=blk_cell H1.out.loc 0 _ rfl;have f0:=blk_free H1.out.loc 0;have c2:=H1.out.rd.c2;have z2:=H1.out.rd.z 2;have HQ:=Lib.hid (H1.out.setBad true);clear h1 HC1)
  | (have hgd:=HQ;clear hgd;go_at_call 64;refine (rword_any _ _ b g n cap _ _ HQ.out.rd.base).mono ?_;rw [HT2.out];rintro e w2 ⟨rfl,h2⟩;have H2:=Lib.hid (HQ.out.read h2);have l1:=blk_cell H2.out.loc 1 (.string ⟨#[]⟩) rfl;have f1:=blk_free H2.out.loc 1;have HP:=Lib.hid ((H2.out.set1 (.string (bstr t2))).set1 (.string ⟨#[]⟩));clear h2 HQ)
  | (have hgd:=HP;clear hgd;go_at_call 67;refine (rrat_word _ _ b g n cap _ _ HP.out.rd.base).mono ?_;rintro e w3 ⟨rfl,h3⟩;have H3:=Lib.hid (HP.out.read h3);clear h3 HP)
  | (have hgd:=H3;clear hgd;go_at_call 67;refine (rrat_word _ _ b g n cap _ _ H3.out.rd.base).mono ?_;rintro e w4 ⟨rfl,h4⟩;have H4:=Lib.hid (H3.out.read h4);clear h4 H3)
  | (have hgd:=H4;clear hgd;refine wpl_bx2 rfl _ _ rfl H4.out (fracOr (nextW r.tail.tail).1).1 (fracOr (nextW r.tail.tail).1).2 rfl rfl ?_;intro w5 h5;have H5:=Lib.hid h5;clear h5 H4)
  | (have hgd:=H5;clear hgd;refine wpl_bx4 rfl _ _ rfl H5.out (fracOr (nextW r.tail.tail.tail).1).1 (fracOr (nextW r.tail.tail.tail).1).2 rfl rfl ?_;intro w6 h6;have H6:=Lib.hid h6;clear h6 H5)
  | (have hgd:=H6;clear hgd;refine wpList_load_row rfl 26 _ rfl (w.heap.size+1) rfl 26 #[.int .i64 0,.string ⟨#[]⟩,.int .i64 (fracOr (nextW r.tail.tail).1).1,.int .i64 (fracOr (nextW r.tail.tail).1).2,.int .i64 (fracOr (nextW r.tail.tail.tail).1).1,.int .i64 (fracOr (nextW r.tail.tail.tail).1).2] (0,0) _ H6.out.loc Tryz.underlying26 rfl size26 ?_)
  | (have hgd:=H6;clear hgd;refine wpList_store_row rfl 26 _ _ rfl w.heap.size #[.int .i64 0,.string ⟨#[]⟩,.int .i64 (fracOr (nextW r.tail.tail).1).1,.int .i64 (fracOr (nextW r.tail.tail).1).2,.int .i64 (fracOr (nextW r.tail.tail.tail).1).1,.int .i64 (fracOr (nextW r.tail.tail.tail).1).2] rfl rfl 26 _ H6.out.res size26 rfl (by simp [Value.oneCell']) ?_))
 exact ret_box (cs:=#[.int .i64 0,.string ⟨#[]⟩,.int .i64 (fracOr (nextW r.tail.tail).1).1,.int .i64 (fracOr (nextW r.tail.tail).1).2,.int .i64 (fracOr (nextW r.tail.tail.tail).1).1,.int .i64 (fracOr (nextW r.tail.tail.tail).1).2]) rfl rfl (setRow_at H6.out.res _) rfl ⟨rfl,H6.out.rd.row H6.out.n1 H6.out.n3 H6.out.lo _⟩
set_option maxRecDepth 100000 in
set_option maxHeartbeats 4000000 in
theorem rbox_other_named (w0 w:World) (b g n cap:Nat) (r:List (List UInt8×Bool)) (bad:Bool) (h:RdR w0 b g n cap r bad w) (h1:(nextW r).1≠sp.kNone) (h2:(nextW r).1≠sp.kInline) (h3:(nextW r).1≠sp.kSize) (hd:(nextW r.tail).1≠[45]):Calls Tryz.prog 68 #[.pointer (some ⟨b,0,none⟩)] w fun e w'=>e=.returned (.agg (boxC 0 (nextW r.tail).1 (fracOr (nextW r.tail.tail).1) (fracOr (nextW r.tail.tail.tail).1)))∧RdR w0 b g n cap r.tail.tail.tail.tail (true||r.tail.isEmpty||(nextW r.tail).2||r.tail.tail.isEmpty||(nextW r.tail.tail).2||(sp.fracS (nextW r.tail.tail).1).isNone||r.tail.tail.tail.isEmpty||(nextW r.tail.tail.tail).2||(sp.fracS (nextW r.tail.tail.tail).1).isNone) w':=by
 have H0:=Lib.hid (BxR.start h)
 have HC1:=Lib.hid (rword_any _ _ b g n cap r bad H0.out.rd.base)
 have s0:((bstr (nextW r).1).toList==[110,111,110,101])=false:=str_ne h1
 have s1:((bstr (nextW r).1).toList==[105,110,108,105,110,101])=false:=str_ne h2
 have s2:((bstr (nextW r).1).toList==[115,105,122,101])=false:=str_ne h3
 have sd:((bstr (nextW r.tail).1).toList==[45])=false:=str_ne hd
 clear h hd h1 h2 h3
 generalize hT1:(nextW r).1=t1 at HC1 s0 s1 s2
 generalize hT2:(nextW r.tail).1=t2 at sd ⊢
 have HT2:=Lib.hid hT2
 clear hT1 hT2
 go_enter Tryz.func68,Tryz.ntmps68
 go_wp2_with (first
  | (have hgd:=HC1;clear hgd;go_at_call 64;refine HC1.out.mono ?_;rintro e w1 ⟨rfl,h1⟩;have H1:=Lib.hid (H0.out.read h1);have l0:=blk_cell H1.out.loc 0 _ rfl;have f0:=blk_free H1.out.loc 0;have c2:=H1.out.rd.c2;have z2:=H1.out.rd.z 2;have HQ:=Lib.hid (H1.out.setBad true);clear h1 HC1)
  | (have hgd:=HQ;clear hgd;go_at_call 64;refine (rword_any _ _ b g n cap _ _ HQ.out.rd.base).mono ?_;rw [HT2.out];rintro e w2 ⟨rfl,h2⟩;have H2:=Lib.hid (HQ.out.read h2);have l1:=blk_cell H2.out.loc 1 (.string ⟨#[]⟩) rfl;have f1:=blk_free H2.out.loc 1;have HP:=Lib.hid (H2.out.set1 (.string (bstr t2)));clear h2 HQ)
  | (have hgd:=HP;clear hgd;go_at_call 67;refine (rrat_word _ _ b g n cap _ _ HP.out.rd.base).mono ?_;rintro e w3 ⟨rfl,h3⟩;have H3:=Lib.hid (HP.out.read h3);clear h3 HP)
  | (have hgd:=H3;clear hgd;go_at_call 67;refine (rrat_word _ _ b g n cap _ _ H3.out.rd.base).mono ?_;rintro e w4 ⟨rfl,h4⟩;have H4:=Lib.hid (H3.out.read h4);clear h4 H3)
  | (have hgd:=H4;clear hgd;refine wpl_bx2 rfl _ _ rfl H4.out (fracOr (nextW r.tail.tail).1).1 (fracOr (nextW r.tail.tail).1).2 rfl rfl ?_;intro w5 h5;have H5:=Lib.hid h5;clear h5 H4)
  | (have hgd:=H5;clear hgd;refine wpl_bx4 rfl _ _ rfl H5.out (fracOr (nextW r.tail.tail.tail).1).1 (fracOr (nextW r.tail.tail.tail).1).2 rfl rfl ?_;intro w6 h6;have H6:=Lib.hid h6;clear h6 H5)
  | (have hgd:=H6;clear hgd;refine wpList_load_row rfl 26 _ rfl (w.heap.size+1) rfl 26 #[.int .i64 0,.string (bstr t2),.int .i64 (fracOr (nextW r.tail.tail).1).1,.int .i64 (fracOr (nextW r.tail.tail).1).2,.int .i64 (fracOr (nextW r.tail.tail.tail).1).1,.int .i64 (fracOr (nextW r.tail.tail.tail).1).2] (0,0) _ H6.out.loc Tryz.underlying26 rfl size26 ?_)
  | (have hgd:=H6;clear hgd;refine wpList_store_row rfl 26 _ _ rfl w.heap.size #[.int .i64 0,.string (bstr t2),.int .i64 (fracOr (nextW r.tail.tail).1).1,.int .i64 (fracOr (nextW r.tail.tail).1).2,.int .i64 (fracOr (nextW r.tail.tail.tail).1).1,.int .i64 (fracOr (nextW r.tail.tail.tail).1).2] rfl rfl 26 _ H6.out.res size26 rfl (by simp [Value.oneCell']) ?_))
 exact ret_box (cs:=#[.int .i64 0,.string (bstr t2),.int .i64 (fracOr (nextW r.tail.tail).1).1,.int .i64 (fracOr (nextW r.tail.tail).1).2,.int .i64 (fracOr (nextW r.tail.tail.tail).1).1,.int .i64 (fracOr (nextW r.tail.tail.tail).1).2]) rfl rfl (setRow_at H6.out.res _) rfl ⟨rfl,H6.out.rd.row H6.out.n1 H6.out.n3 H6.out.lo _⟩
end Go.Proofs.YtihlneenajlhoaaGreatDoor
set_option linter.unusedSimpArgs false
set_option linter.unusedVariables false
namespace Go.Proofs.YtihlneenajlhoaaGreatDoor
open Go
abbrev RSt:=List (List UInt8×Bool)×Bool
def vW (s:RSt):List UInt8:=(nextW s.1).1
def vN (s:RSt):Int:=numOr (nextW s.1).1
noncomputable def vF (s:RSt):Int×Int:=fracOr (nextW s.1).1
def sW (s:RSt):RSt:=(s.1.tail,s.2||s.1.isEmpty||(nextW s.1).2)
def sT (s:RSt):RSt:=(s.1.tail,s.2||s.1.isEmpty || !(nextW s.1).2)
def sN (s:RSt):RSt:=(s.1.tail,s.2||s.1.isEmpty||(nextW s.1).2||(sp.num (nextW s.1).1).isNone)
noncomputable def sF (s:RSt):RSt:=(s.1.tail,s.2||s.1.isEmpty||(nextW s.1).2||(sp.fracS (nextW s.1).1).isNone)
def sP (s:RSt):RSt:=((sW s).1,(sW s).2 || !(vW s==sp.kOn||vW s==sp.kOff))
def sK (s:RSt):RSt:=((sW s).1,(sW s).2||(sp.boxOf (vW s)).isNone)
noncomputable def sB (s:RSt):RSt:=sF (sF (sW (sK s)))
noncomputable def opR (s:RSt):sp.Op×RSt :=
 if vW s=sp.kSheet then ({ kind:=1,origin:=vN (sW s),text:=vW (sN (sW s)) },(sT (sN (sW s))))
 else if vW s=sp.kView then ({ kind:=2,w:=vF (sW s),h:=vF (sF (sW s)) },(sF (sF (sW s))))
 else if vW s=sp.kFont then ({ kind:=3,w:=vF (sW s) },(sF (sW s)))
 else if vW s=sp.kColor then ({ kind:=13,w:=vF (sW s) },(sF (sW s)))
 else if vW s=sp.kPrint then ({ kind:=14,on:=vW (sW s)==sp.kOn },(sP (sW s)))
 else if vW s=sp.kWord then ({ kind:=4,name:=vW (sW s),word:=vW (sW (sW s)) },(sW (sW (sW s))))
 else if vW s=sp.kInsert then ({ kind:=5,node:=vN (sW s),at_:=vN (sN (sW s)),name:=vW (sN (sN (sW s))) },(sW (sN (sN (sW s)))))
 else if vW s=sp.kRemove then ({ kind:=6,node:=vN (sW s) },(sN (sW s)))
 else if vW s=sp.kSet then ({ kind:=7,node:=vN (sW s),name:=vW (sN (sW s)),word:=vW (sW (sN (sW s))) },(sT (sW (sN (sW s)))))
 else if vW s=sp.kUnset then ({ kind:=8,node:=vN (sW s),name:=vW (sN (sW s)) },(sW (sN (sW s))))
 else if vW s=sp.kBox then ({ kind:=9,node:=vN (sW s),bt:=(sp.boxOf (vW (sN (sW s)))).getD 0,bn:=sp.boxName (vW (sK (sN (sW s)))),bw:=vF (sW (sK (sN (sW s)))),bh:=vF (sF (sW (sK (sN (sW s))))) },(sB (sN (sW s))))
 else if vW s=sp.kAsk then ({ kind:=10,node:=vN (sW s),name:=vW (sN (sW s)) },(sW (sN (sW s))))
 else if vW s=sp.kCustom then ({ kind:=11,node:=vN (sW s),name:=vW (sN (sW s)) },(sW (sN (sW s))))
 else if vW s=sp.kRules then ({ kind:=12,node:=vN (sW s) },(sN (sW s)))
 else if vW s=sp.kCount then ({ kind:=15 },(sW s))
 else ({ },((sW s).1,true))
section
variable (l:List (List UInt8×Bool)) (x:List UInt8×Bool) (b:Bool)
theorem sW_bad:sW (l,true)=(l.tail,true):=by simp [sW]
theorem sT_bad:sT (l,true)=(l.tail,true):=by simp [sT]
theorem sN_bad:sN (l,true)=(l.tail,true):=by simp [sN]
theorem sF_bad:sF (l,true)=(l.tail,true):=by simp [sF]
theorem sP_bad:sP (l,true)=(l.tail,true):=by simp [sP,sW]
theorem sK_bad:sK (l,true)=(l.tail,true):=by simp [sK,sW]
theorem sB_bad:sB (l,true)=(l.tail.tail.tail.tail,true):=by simp [sB,sK_bad,sW_bad,sF_bad]
theorem sW_nil:sW ([],b)=([],true):=by simp [sW]
theorem sT_nil:sT ([],b)=([],true):=by simp [sT]
theorem sN_nil:sN ([],b)=([],true):=by simp [sN]
theorem sF_nil:sF ([],b)=([],true):=by simp [sF]
theorem sP_nil:sP ([],b)=([],true):=by simp [sP,sW]
theorem sK_nil:sK ([],b)=([],true):=by simp [sK,sW]
end
section
variable {l:List (List UInt8×Bool)} {x:List UInt8×Bool}
theorem sW_some {v:List UInt8} (h:sp.wPlain x=some v):sW (x :: l,false)=(l,false)∧vW (x :: l,false)=v:=by
 obtain ⟨t,q⟩:=x
 cases q<;>simp [sp.wPlain] at h
 exact ⟨by simp [sW,nextW],by simpa [vW,nextW] using h⟩
theorem sW_none (h:sp.wPlain x=none):sW (x :: l,false)=(l,true):=by
 obtain ⟨t,q⟩:=x
 cases q<;>simp [sp.wPlain] at h
 simp [sW,nextW]
theorem sT_some {v:List UInt8} (h:sp.wText x=some v):sT (x :: l,false)=(l,false)∧vW (x :: l,false)=v:=by
 obtain ⟨t,q⟩:=x
 cases q<;>simp [sp.wText] at h
 exact ⟨by simp [sT,nextW],by simpa [vW,nextW] using h⟩
theorem sT_none (h:sp.wText x=none):sT (x :: l,false)=(l,true):=by
 obtain ⟨t,q⟩:=x
 cases q<;>simp [sp.wText] at h
 simp [sT,nextW]
theorem sN_some {v:Int} (h:sp.wNum x=some v):sN (x :: l,false)=(l,false)∧vN (x :: l,false)=v:=by
 obtain ⟨t,q⟩:=x
 cases q<;>simp [sp.wNum] at h
 exact ⟨by simp [sN,nextW,h],by simp [vN,nextW,numOr,h]⟩
theorem sN_none (h:sp.wNum x=none):sN (x :: l,false)=(l,true):=by
 obtain ⟨t,q⟩:=x
 cases q
 ·have h':sp.num t=none:=by simpa [sp.wNum] using h
  simp [sN,nextW,h']
 ·simp [sN,nextW]
theorem sF_some {v:Int×Int} (h:sp.wFrac x=some v):sF (x :: l,false)=(l,false)∧vF (x :: l,false)=v:=by
 obtain ⟨t,q⟩:=x
 cases q<;>simp [sp.wFrac] at h
 exact ⟨by simp [sF,nextW,h],by simp [vF,nextW,fracOr,h]⟩
theorem sF_none (h:sp.wFrac x=none):sF (x :: l,false)=(l,true):=by
 obtain ⟨t,q⟩:=x
 cases q
 ·have h':sp.fracS t=none:=by simpa [sp.wFrac] using h
  simp [sF,nextW,h']
 ·simp [sF,nextW]
end
def OpOk (res:Option sp.Op) (p:sp.Op×RSt):Prop:=match res with
 | some o=>p=(o,([],false))
 | none=>p.2.2=true∨p.2.1≠[]
theorem opOk_none2 {r:Option sp.Op} (hr:r=none) {p:sp.Op×RSt} (h:p.2.2=true∨p.2.1≠[]):OpOk r p:=by subst hr;exact h
theorem opOk_none {p:sp.Op×RSt} (h:p.2.2=true∨p.2.1≠[]):OpOk none p:=h
theorem sP_on {l:List (List UInt8×Bool)} {x:List UInt8×Bool} {v:List UInt8} (h:sp.wPlain x=some v):sP (x :: l,false)=(l,!(v==sp.kOn||v==sp.kOff))∧vW (x :: l,false)=v:=by
 obtain ⟨e1,e2⟩:=sW_some (l:=l) h
 exact ⟨by simp only [sP,e1,e2,Bool.false_or],e2⟩
theorem sP_none {l:List (List UInt8×Bool)} {x:List UInt8×Bool} (h:sp.wPlain x=none):sP (x :: l,false)=(l,true):=by
 simp only [sP,sW_none h,Bool.true_or]
theorem sK_some {l:List (List UInt8×Bool)} {x:List UInt8×Bool} {v:List UInt8} (h:sp.wPlain x=some v):sK (x :: l,false)=(l,(sp.boxOf v).isNone)∧vW (x :: l,false)=v:=by
 obtain ⟨e1,e2⟩:=sW_some (l:=l) h
 exact ⟨by simp only [sK,e1,e2,Bool.false_or],e2⟩
theorem sK_none {l:List (List UInt8×Bool)} {x:List UInt8×Bool} (h:sp.wPlain x=none):sK (x :: l,false)=(l,true):=by
 simp only [sK,sW_none h,Bool.true_or]
theorem opR_Sheet (a:List (List UInt8×Bool)):OpOk (sp.opS sp.kSheet a) (opR ((sp.kSheet,false) :: a,false)):=by
 have e:opR ((sp.kSheet,false) :: a,false)=({ kind:=1,origin:=vN (a,false),text:=vW (sN (a,false)) },(sT (sN (a,false)))):=by
  unfold opR
  rw [show vW ((sp.kSheet,false) :: a,false)=sp.kSheet from rfl,if_pos rfl]
  rfl
 unfold sp.opS
 rw [e,if_pos rfl]
 clear e
 match a with
 | []=>exact opOk_none (.inl (by simp [sW,sT,sN,sF,sP,sK,sB,nextW]))
 | [x]=>exact opOk_none (.inl (by simp [sW,sT,sN,sF,sP,sK,sB,nextW]))
 | x :: y :: y1 :: t=>exact opOk_none (.inr (by simp [sW,sT,sN,sF,sP,sK,sB,nextW]))
 | [x,y] =>
  dsimp only
  cases h0:sp.wNum x with
  | none =>
   show OpOk none _
   exact opOk_none (.inl (by simp only [sN_none h0,sW_bad,sT_bad,sN_bad,sF_bad,sP_bad,sK_bad,sW_nil,sT_nil,sN_nil,sF_nil,sP_nil,sK_nil]))
  | some v0 =>
   cases h1:sp.wText y with
   | none =>
    show OpOk none _
    exact opOk_none (.inl (by simp only [(sN_some h0).1,(sN_some h0).2,sT_none h1,sW_bad,sT_bad,sN_bad,sF_bad,sP_bad,sK_bad,sW_nil,sT_nil,sN_nil,sF_nil,sP_nil,sK_nil]))
   | some v1 =>
    simp only [OpOk,(sN_some h0).1,(sN_some h0).2,(sT_some h1).1,(sT_some h1).2,Option.bind_some]
theorem opR_View (a:List (List UInt8×Bool)):OpOk (sp.opS sp.kView a) (opR ((sp.kView,false) :: a,false)):=by
 have e:opR ((sp.kView,false) :: a,false)=({ kind:=2,w:=vF (a,false),h:=vF (sF (a,false)) },(sF (sF (a,false)))):=by
  unfold opR
  rw [show vW ((sp.kView,false) :: a,false)=sp.kView from rfl,if_neg (show ¬sp.kView=sp.kSheet from by decide),if_pos rfl]
  rfl
 unfold sp.opS
 rw [e,if_neg (show ¬sp.kView=sp.kSheet from by decide),if_pos rfl]
 clear e
 match a with
 | []=>exact opOk_none (.inl (by simp [sW,sT,sN,sF,sP,sK,sB,nextW]))
 | [x]=>exact opOk_none (.inl (by simp [sW,sT,sN,sF,sP,sK,sB,nextW]))
 | x :: y :: y1 :: t=>exact opOk_none (.inr (by simp [sW,sT,sN,sF,sP,sK,sB,nextW]))
 | [x,y] =>
  dsimp only
  cases h0:sp.wFrac x with
  | none =>
   show OpOk none _
   exact opOk_none (.inl (by simp only [sF_none h0,sW_bad,sT_bad,sN_bad,sF_bad,sP_bad,sK_bad,sW_nil,sT_nil,sN_nil,sF_nil,sP_nil,sK_nil]))
  | some v0 =>
   cases h1:sp.wFrac y with
   | none =>
    show OpOk none _
    exact opOk_none (.inl (by simp only [(sF_some h0).1,(sF_some h0).2,sF_none h1,sW_bad,sT_bad,sN_bad,sF_bad,sP_bad,sK_bad,sW_nil,sT_nil,sN_nil,sF_nil,sP_nil,sK_nil]))
   | some v1 =>
    simp only [OpOk,(sF_some h0).1,(sF_some h0).2,(sF_some h1).1,(sF_some h1).2,Option.bind_some]
theorem opR_Font (a:List (List UInt8×Bool)):OpOk (sp.opS sp.kFont a) (opR ((sp.kFont,false) :: a,false)):=by
 have e:opR ((sp.kFont,false) :: a,false)=({ kind:=3,w:=vF (a,false) },(sF (a,false))):=by
  unfold opR
  rw [show vW ((sp.kFont,false) :: a,false)=sp.kFont from rfl,if_neg (show ¬sp.kFont=sp.kSheet from by decide),if_neg (show ¬sp.kFont=sp.kView from by decide),if_pos rfl]
  rfl
 unfold sp.opS
 rw [e,if_neg (show ¬sp.kFont=sp.kSheet from by decide),if_neg (show ¬sp.kFont=sp.kView from by decide),if_pos rfl]
 clear e
 match a with
 | []=>exact opOk_none (.inl (by simp [sW,sT,sN,sF,sP,sK,sB,nextW]))
 | x :: y1 :: t=>exact opOk_none (.inr (by simp [sW,sT,sN,sF,sP,sK,sB,nextW]))
 | [x] =>
  dsimp only
  cases h0:sp.wFrac x with
  | none =>
   show OpOk none _
   exact opOk_none (.inl (by simp only [sF_none h0,sW_bad,sT_bad,sN_bad,sF_bad,sP_bad,sK_bad,sW_nil,sT_nil,sN_nil,sF_nil,sP_nil,sK_nil]))
  | some v0 =>
   simp only [OpOk,(sF_some h0).1,(sF_some h0).2,Option.bind_some]
theorem opR_Color (a:List (List UInt8×Bool)):OpOk (sp.opS sp.kColor a) (opR ((sp.kColor,false) :: a,false)):=by
 have e:opR ((sp.kColor,false) :: a,false)=({ kind:=13,w:=vF (a,false) },(sF (a,false))):=by
  unfold opR
  rw [show vW ((sp.kColor,false) :: a,false)=sp.kColor from rfl,if_neg (show ¬sp.kColor=sp.kSheet from by decide),if_neg (show ¬sp.kColor=sp.kView from by decide),if_neg (show ¬sp.kColor=sp.kFont from by decide),if_pos rfl]
  rfl
 unfold sp.opS
 rw [e,if_neg (show ¬sp.kColor=sp.kSheet from by decide),if_neg (show ¬sp.kColor=sp.kView from by decide),if_neg (show ¬sp.kColor=sp.kFont from by decide),if_pos rfl]
 clear e
 match a with
 | []=>exact opOk_none (.inl (by simp [sW,sT,sN,sF,sP,sK,sB,nextW]))
 | x :: y1 :: t=>exact opOk_none (.inr (by simp [sW,sT,sN,sF,sP,sK,sB,nextW]))
 | [x] =>
  dsimp only
  cases h0:sp.wFrac x with
  | none =>
   show OpOk none _
   exact opOk_none (.inl (by simp only [sF_none h0,sW_bad,sT_bad,sN_bad,sF_bad,sP_bad,sK_bad,sW_nil,sT_nil,sN_nil,sF_nil,sP_nil,sK_nil]))
  | some v0 =>
   simp only [OpOk,(sF_some h0).1,(sF_some h0).2,Option.bind_some]
theorem opR_Print (a:List (List UInt8×Bool)):OpOk (sp.opS sp.kPrint a) (opR ((sp.kPrint,false) :: a,false)):=by
 have e:opR ((sp.kPrint,false) :: a,false)=({ kind:=14,on:=vW (a,false)==sp.kOn },(sP (a,false))):=by
  unfold opR
  rw [show vW ((sp.kPrint,false) :: a,false)=sp.kPrint from rfl,if_neg (show ¬sp.kPrint=sp.kSheet from by decide),if_neg (show ¬sp.kPrint=sp.kView from by decide),if_neg (show ¬sp.kPrint=sp.kFont from by decide),if_neg (show ¬sp.kPrint=sp.kColor from by decide),if_pos rfl]
  rfl
 unfold sp.opS
 rw [e,if_neg (show ¬sp.kPrint=sp.kSheet from by decide),if_neg (show ¬sp.kPrint=sp.kView from by decide),if_neg (show ¬sp.kPrint=sp.kFont from by decide),if_neg (show ¬sp.kPrint=sp.kColor from by decide),if_pos rfl]
 clear e
 match a with
 | []=>exact opOk_none (.inl (by simp [sW,sT,sN,sF,sP,sK,sB,nextW]))
 | x :: y1 :: t=>exact opOk_none (.inr (by simp [sW,sT,sN,sF,sP,sK,sB,nextW]))
 | [x] =>
  dsimp only
  cases h0:sp.wPlain x with
  | none =>
   show OpOk none _
   exact opOk_none (.inl (by simp only [sP_none h0,sW_bad,sT_bad,sN_bad,sF_bad,sP_bad,sK_bad,sW_nil,sT_nil,sN_nil,sF_nil,sP_nil,sK_nil]))
  | some v0 =>
   obtain ⟨e1,e2⟩:=sP_on (l:=[]) h0
   rw [e1,e2]
   by_cases g1:v0=sp.kOn
   ·subst g1;rfl
   by_cases g2:v0=sp.kOff
   ·subst g2;rfl
   have g1b:(v0==sp.kOn)=false:=by simpa using g1
   have g2b:(v0==sp.kOff)=false:=by simpa using g2
   show OpOk (if v0=sp.kOn then _ else if v0=sp.kOff then _ else none) _
   rw [if_neg g1,if_neg g2,g1b,g2b]
   exact opOk_none (.inl rfl)
theorem opR_Word (a:List (List UInt8×Bool)):OpOk (sp.opS sp.kWord a) (opR ((sp.kWord,false) :: a,false)):=by
 have e:opR ((sp.kWord,false) :: a,false)=({ kind:=4,name:=vW (a,false),word:=vW (sW (a,false)) },(sW (sW (a,false)))):=by
  unfold opR
  rw [show vW ((sp.kWord,false) :: a,false)=sp.kWord from rfl,if_neg (show ¬sp.kWord=sp.kSheet from by decide),if_neg (show ¬sp.kWord=sp.kView from by decide),if_neg (show ¬sp.kWord=sp.kFont from by decide),if_neg (show ¬sp.kWord=sp.kColor from by decide),if_neg (show ¬sp.kWord=sp.kPrint from by decide),if_pos rfl]
  rfl
 unfold sp.opS
 rw [e,if_neg (show ¬sp.kWord=sp.kSheet from by decide),if_neg (show ¬sp.kWord=sp.kView from by decide),if_neg (show ¬sp.kWord=sp.kFont from by decide),if_neg (show ¬sp.kWord=sp.kColor from by decide),if_neg (show ¬sp.kWord=sp.kPrint from by decide),if_pos rfl]
 clear e
 match a with
 | []=>exact opOk_none (.inl (by simp [sW,sT,sN,sF,sP,sK,sB,nextW]))
 | [x]=>exact opOk_none (.inl (by simp [sW,sT,sN,sF,sP,sK,sB,nextW]))
 | x :: y :: y1 :: t=>exact opOk_none (.inr (by simp [sW,sT,sN,sF,sP,sK,sB,nextW]))
 | [x,y] =>
  dsimp only
  cases h0:sp.wPlain x with
  | none =>
   show OpOk none _
   exact opOk_none (.inl (by simp only [sW_none h0,sW_bad,sT_bad,sN_bad,sF_bad,sP_bad,sK_bad,sW_nil,sT_nil,sN_nil,sF_nil,sP_nil,sK_nil]))
  | some v0 =>
   cases h1:sp.wPlain y with
   | none =>
    show OpOk none _
    exact opOk_none (.inl (by simp only [(sW_some h0).1,(sW_some h0).2,sW_none h1,sW_bad,sT_bad,sN_bad,sF_bad,sP_bad,sK_bad,sW_nil,sT_nil,sN_nil,sF_nil,sP_nil,sK_nil]))
   | some v1 =>
    simp only [OpOk,(sW_some h0).1,(sW_some h0).2,(sW_some h1).1,(sW_some h1).2,Option.bind_some]
theorem opR_Insert (a:List (List UInt8×Bool)):OpOk (sp.opS sp.kInsert a) (opR ((sp.kInsert,false) :: a,false)):=by
 have e:opR ((sp.kInsert,false) :: a,false)=({ kind:=5,node:=vN (a,false),at_:=vN (sN (a,false)),name:=vW (sN (sN (a,false))) },(sW (sN (sN (a,false))))):=by
  unfold opR
  rw [show vW ((sp.kInsert,false) :: a,false)=sp.kInsert from rfl,if_neg (show ¬sp.kInsert=sp.kSheet from by decide),if_neg (show ¬sp.kInsert=sp.kView from by decide),if_neg (show ¬sp.kInsert=sp.kFont from by decide),if_neg (show ¬sp.kInsert=sp.kColor from by decide),if_neg (show ¬sp.kInsert=sp.kPrint from by decide),if_neg (show ¬sp.kInsert=sp.kWord from by decide),if_pos rfl]
  rfl
 unfold sp.opS
 rw [e,if_neg (show ¬sp.kInsert=sp.kSheet from by decide),if_neg (show ¬sp.kInsert=sp.kView from by decide),if_neg (show ¬sp.kInsert=sp.kFont from by decide),if_neg (show ¬sp.kInsert=sp.kColor from by decide),if_neg (show ¬sp.kInsert=sp.kPrint from by decide),if_neg (show ¬sp.kInsert=sp.kWord from by decide),if_pos rfl]
 clear e
 match a with
 | []=>exact opOk_none (.inl (by simp [sW,sT,sN,sF,sP,sK,sB,nextW]))
 | [x]=>exact opOk_none (.inl (by simp [sW,sT,sN,sF,sP,sK,sB,nextW]))
 | [x,y]=>exact opOk_none (.inl (by simp [sW,sT,sN,sF,sP,sK,sB,nextW]))
 | x :: y :: z :: y1 :: t=>exact opOk_none (.inr (by simp [sW,sT,sN,sF,sP,sK,sB,nextW]))
 | [x,y,z] =>
  dsimp only
  cases h0:sp.wNum x with
  | none =>
   show OpOk none _
   exact opOk_none (.inl (by simp only [sN_none h0,sW_bad,sT_bad,sN_bad,sF_bad,sP_bad,sK_bad,sW_nil,sT_nil,sN_nil,sF_nil,sP_nil,sK_nil]))
  | some v0 =>
   cases h1:sp.wNum y with
   | none =>
    show OpOk none _
    exact opOk_none (.inl (by simp only [(sN_some h0).1,(sN_some h0).2,sN_none h1,sW_bad,sT_bad,sN_bad,sF_bad,sP_bad,sK_bad,sW_nil,sT_nil,sN_nil,sF_nil,sP_nil,sK_nil]))
   | some v1 =>
    cases h2:sp.wPlain z with
    | none =>
     show OpOk none _
     exact opOk_none (.inl (by simp only [(sN_some h0).1,(sN_some h0).2,(sN_some h1).1,(sN_some h1).2,sW_none h2,sW_bad,sT_bad,sN_bad,sF_bad,sP_bad,sK_bad,sW_nil,sT_nil,sN_nil,sF_nil,sP_nil,sK_nil]))
    | some v2 =>
     simp only [OpOk,(sN_some h0).1,(sN_some h0).2,(sN_some h1).1,(sN_some h1).2,(sW_some h2).1,(sW_some h2).2,Option.bind_some]
theorem opR_Remove (a:List (List UInt8×Bool)):OpOk (sp.opS sp.kRemove a) (opR ((sp.kRemove,false) :: a,false)):=by
 have e:opR ((sp.kRemove,false) :: a,false)=({ kind:=6,node:=vN (a,false) },(sN (a,false))):=by
  unfold opR
  rw [show vW ((sp.kRemove,false) :: a,false)=sp.kRemove from rfl,if_neg (show ¬sp.kRemove=sp.kSheet from by decide),if_neg (show ¬sp.kRemove=sp.kView from by decide),if_neg (show ¬sp.kRemove=sp.kFont from by decide),if_neg (show ¬sp.kRemove=sp.kColor from by decide),if_neg (show ¬sp.kRemove=sp.kPrint from by decide),if_neg (show ¬sp.kRemove=sp.kWord from by decide),if_neg (show ¬sp.kRemove=sp.kInsert from by decide),if_pos rfl]
  rfl
 unfold sp.opS
 rw [e,if_neg (show ¬sp.kRemove=sp.kSheet from by decide),if_neg (show ¬sp.kRemove=sp.kView from by decide),if_neg (show ¬sp.kRemove=sp.kFont from by decide),if_neg (show ¬sp.kRemove=sp.kColor from by decide),if_neg (show ¬sp.kRemove=sp.kPrint from by decide),if_neg (show ¬sp.kRemove=sp.kWord from by decide),if_neg (show ¬sp.kRemove=sp.kInsert from by decide),if_pos rfl]
 clear e
 match a with
 | []=>exact opOk_none (.inl (by simp [sW,sT,sN,sF,sP,sK,sB,nextW]))
 | x :: y1 :: t=>exact opOk_none (.inr (by simp [sW,sT,sN,sF,sP,sK,sB,nextW]))
 | [x] =>
  dsimp only
  cases h0:sp.wNum x with
  | none =>
   show OpOk none _
   exact opOk_none (.inl (by simp only [sN_none h0,sW_bad,sT_bad,sN_bad,sF_bad,sP_bad,sK_bad,sW_nil,sT_nil,sN_nil,sF_nil,sP_nil,sK_nil]))
  | some v0 =>
   simp only [OpOk,(sN_some h0).1,(sN_some h0).2,Option.bind_some]
theorem opR_Set (a:List (List UInt8×Bool)):OpOk (sp.opS sp.kSet a) (opR ((sp.kSet,false) :: a,false)):=by
 have e:opR ((sp.kSet,false) :: a,false)=({ kind:=7,node:=vN (a,false),name:=vW (sN (a,false)),word:=vW (sW (sN (a,false))) },(sT (sW (sN (a,false))))):=by
  unfold opR
  rw [show vW ((sp.kSet,false) :: a,false)=sp.kSet from rfl,if_neg (show ¬sp.kSet=sp.kSheet from by decide),if_neg (show ¬sp.kSet=sp.kView from by decide),if_neg (show ¬sp.kSet=sp.kFont from by decide),if_neg (show ¬sp.kSet=sp.kColor from by decide),if_neg (show ¬sp.kSet=sp.kPrint from by decide),if_neg (show ¬sp.kSet=sp.kWord from by decide),if_neg (show ¬sp.kSet=sp.kInsert from by decide),if_neg (show ¬sp.kSet=sp.kRemove from by decide),if_pos rfl]
  rfl
 unfold sp.opS
 rw [e,if_neg (show ¬sp.kSet=sp.kSheet from by decide),if_neg (show ¬sp.kSet=sp.kView from by decide),if_neg (show ¬sp.kSet=sp.kFont from by decide),if_neg (show ¬sp.kSet=sp.kColor from by decide),if_neg (show ¬sp.kSet=sp.kPrint from by decide),if_neg (show ¬sp.kSet=sp.kWord from by decide),if_neg (show ¬sp.kSet=sp.kInsert from by decide),if_neg (show ¬sp.kSet=sp.kRemove from by decide),if_pos rfl]
 clear e
 match a with
 | []=>exact opOk_none (.inl (by simp [sW,sT,sN,sF,sP,sK,sB,nextW]))
 | [x]=>exact opOk_none (.inl (by simp [sW,sT,sN,sF,sP,sK,sB,nextW]))
 | [x,y]=>exact opOk_none (.inl (by simp [sW,sT,sN,sF,sP,sK,sB,nextW]))
 | x :: y :: z :: y1 :: t=>exact opOk_none (.inr (by simp [sW,sT,sN,sF,sP,sK,sB,nextW]))
 | [x,y,z] =>
  dsimp only
  cases h0:sp.wNum x with
  | none =>
   show OpOk none _
   exact opOk_none (.inl (by simp only [sN_none h0,sW_bad,sT_bad,sN_bad,sF_bad,sP_bad,sK_bad,sW_nil,sT_nil,sN_nil,sF_nil,sP_nil,sK_nil]))
  | some v0 =>
   cases h1:sp.wPlain y with
   | none =>
    show OpOk none _
    exact opOk_none (.inl (by simp only [(sN_some h0).1,(sN_some h0).2,sW_none h1,sW_bad,sT_bad,sN_bad,sF_bad,sP_bad,sK_bad,sW_nil,sT_nil,sN_nil,sF_nil,sP_nil,sK_nil]))
   | some v1 =>
    cases h2:sp.wText z with
    | none =>
     show OpOk none _
     exact opOk_none (.inl (by simp only [(sN_some h0).1,(sN_some h0).2,(sW_some h1).1,(sW_some h1).2,sT_none h2,sW_bad,sT_bad,sN_bad,sF_bad,sP_bad,sK_bad,sW_nil,sT_nil,sN_nil,sF_nil,sP_nil,sK_nil]))
    | some v2 =>
     simp only [OpOk,(sN_some h0).1,(sN_some h0).2,(sW_some h1).1,(sW_some h1).2,(sT_some h2).1,(sT_some h2).2,Option.bind_some]
theorem opR_Unset (a:List (List UInt8×Bool)):OpOk (sp.opS sp.kUnset a) (opR ((sp.kUnset,false) :: a,false)):=by
 have e:opR ((sp.kUnset,false) :: a,false)=({ kind:=8,node:=vN (a,false),name:=vW (sN (a,false)) },(sW (sN (a,false)))):=by
  unfold opR
  rw [show vW ((sp.kUnset,false) :: a,false)=sp.kUnset from rfl,if_neg (show ¬sp.kUnset=sp.kSheet from by decide),if_neg (show ¬sp.kUnset=sp.kView from by decide),if_neg (show ¬sp.kUnset=sp.kFont from by decide),if_neg (show ¬sp.kUnset=sp.kColor from by decide),if_neg (show ¬sp.kUnset=sp.kPrint from by decide),if_neg (show ¬sp.kUnset=sp.kWord from by decide),if_neg (show ¬sp.kUnset=sp.kInsert from by decide),if_neg (show ¬sp.kUnset=sp.kRemove from by decide),if_neg (show ¬sp.kUnset=sp.kSet from by decide),if_pos rfl]
  rfl
 unfold sp.opS
 rw [e,if_neg (show ¬sp.kUnset=sp.kSheet from by decide),if_neg (show ¬sp.kUnset=sp.kView from by decide),if_neg (show ¬sp.kUnset=sp.kFont from by decide),if_neg (show ¬sp.kUnset=sp.kColor from by decide),if_neg (show ¬sp.kUnset=sp.kPrint from by decide),if_neg (show ¬sp.kUnset=sp.kWord from by decide),if_neg (show ¬sp.kUnset=sp.kInsert from by decide),if_neg (show ¬sp.kUnset=sp.kRemove from by decide),if_neg (show ¬sp.kUnset=sp.kSet from by decide),if_pos rfl]
 clear e
 match a with
 | []=>exact opOk_none (.inl (by simp [sW,sT,sN,sF,sP,sK,sB,nextW]))
 | [x]=>exact opOk_none (.inl (by simp [sW,sT,sN,sF,sP,sK,sB,nextW]))
 | x :: y :: y1 :: t=>exact opOk_none (.inr (by simp [sW,sT,sN,sF,sP,sK,sB,nextW]))
 | [x,y] =>
  dsimp only
  cases h0:sp.wNum x with
  | none =>
   show OpOk none _
   exact opOk_none (.inl (by simp only [sN_none h0,sW_bad,sT_bad,sN_bad,sF_bad,sP_bad,sK_bad,sW_nil,sT_nil,sN_nil,sF_nil,sP_nil,sK_nil]))
  | some v0 =>
   cases h1:sp.wPlain y with
   | none =>
    show OpOk none _
    exact opOk_none (.inl (by simp only [(sN_some h0).1,(sN_some h0).2,sW_none h1,sW_bad,sT_bad,sN_bad,sF_bad,sP_bad,sK_bad,sW_nil,sT_nil,sN_nil,sF_nil,sP_nil,sK_nil]))
   | some v1 =>
    simp only [OpOk,(sN_some h0).1,(sN_some h0).2,(sW_some h1).1,(sW_some h1).2,Option.bind_some]
theorem opR_Box (a:List (List UInt8×Bool)):OpOk (sp.opS sp.kBox a) (opR ((sp.kBox,false) :: a,false)):=by
 have e:opR ((sp.kBox,false) :: a,false)=({ kind:=9,node:=vN (a,false),bt:=(sp.boxOf (vW (sN (a,false)))).getD 0,bn:=sp.boxName (vW (sK (sN (a,false)))),bw:=vF (sW (sK (sN (a,false)))),bh:=vF (sF (sW (sK (sN (a,false))))) },(sB (sN (a,false)))):=by
  unfold opR
  rw [show vW ((sp.kBox,false) :: a,false)=sp.kBox from rfl,if_neg (show ¬sp.kBox=sp.kSheet from by decide),if_neg (show ¬sp.kBox=sp.kView from by decide),if_neg (show ¬sp.kBox=sp.kFont from by decide),if_neg (show ¬sp.kBox=sp.kColor from by decide),if_neg (show ¬sp.kBox=sp.kPrint from by decide),if_neg (show ¬sp.kBox=sp.kWord from by decide),if_neg (show ¬sp.kBox=sp.kInsert from by decide),if_neg (show ¬sp.kBox=sp.kRemove from by decide),if_neg (show ¬sp.kBox=sp.kSet from by decide),if_neg (show ¬sp.kBox=sp.kUnset from by decide),if_pos rfl]
  rfl
 unfold sp.opS
 rw [e,if_neg (show ¬sp.kBox=sp.kSheet from by decide),if_neg (show ¬sp.kBox=sp.kView from by decide),if_neg (show ¬sp.kBox=sp.kFont from by decide),if_neg (show ¬sp.kBox=sp.kColor from by decide),if_neg (show ¬sp.kBox=sp.kPrint from by decide),if_neg (show ¬sp.kBox=sp.kWord from by decide),if_neg (show ¬sp.kBox=sp.kInsert from by decide),if_neg (show ¬sp.kBox=sp.kRemove from by decide),if_neg (show ¬sp.kBox=sp.kSet from by decide),if_neg (show ¬sp.kBox=sp.kUnset from by decide),if_pos rfl]
 clear e
 match a with
 | []=>exact opOk_none (.inl (by simp [sW,sT,sN,sF,sP,sK,sB,nextW]))
 | [x]=>exact opOk_none (.inl (by simp [sW,sT,sN,sF,sP,sK,sB,nextW]))
 | [x,y]=>exact opOk_none (.inl (by simp [sW,sT,sN,sF,sP,sK,sB,nextW]))
 | [x,y,z]=>exact opOk_none (.inl (by simp [sW,sT,sN,sF,sP,sK,sB,nextW]))
 | [x,y,z,u]=>exact opOk_none (.inl (by simp [sW,sT,sN,sF,sP,sK,sB,nextW]))
 | x :: y :: z :: u :: v :: y1 :: t=>exact opOk_none (.inr (by simp [sW,sT,sN,sF,sP,sK,sB,nextW]))
 | [x,y,z,u,v] =>
  dsimp only
  unfold sB
  cases h0:sp.wNum x with
  | none =>
   show OpOk none _
   exact opOk_none (.inl (by simp only [sN_none h0,sW_bad,sT_bad,sN_bad,sF_bad,sP_bad,sK_bad,sW_nil,sT_nil,sN_nil,sF_nil,sP_nil,sK_nil]))
  | some v0 =>
   cases h1:sp.wPlain y with
   | none =>
    show OpOk none _
    exact opOk_none (.inl (by simp only [(sN_some h0).1,(sN_some h0).2,sK_none h1,sW_bad,sT_bad,sN_bad,sF_bad,sP_bad,sK_bad,sW_nil,sT_nil,sN_nil,sF_nil,sP_nil,sK_nil]))
   | some v1 =>
    have ek:=fun l=>(sK_some (l:=l) h1).1
    have ev:=fun l=>(sK_some (l:=l) h1).2
    cases g1:sp.boxOf v1 with
    | none=>exact opOk_none2 (by show (sp.boxOf v1).bind _=none;rw [g1];rfl) (.inl (by simp only [(sN_some h0).1,(sN_some h0).2,ek,g1,Option.isNone_none,sW_bad,sT_bad,sN_bad,sF_bad,sP_bad,sK_bad,sW_nil,sT_nil,sN_nil,sF_nil,sP_nil,sK_nil]))
    | some k1 =>
     simp only [Option.bind_some,g1]
     have ek2:∀l,sK (y :: l,false)=(l,false):=fun l=>by rw [ek,g1];rfl
     cases h2:sp.wPlain z with
     | none =>
      show OpOk none _
      exact opOk_none (.inl (by simp only [(sN_some h0).1,(sN_some h0).2,ek2,ev,g1,Option.getD_some,sW_none h2,sW_bad,sT_bad,sN_bad,sF_bad,sP_bad,sK_bad,sW_nil,sT_nil,sN_nil,sF_nil,sP_nil,sK_nil]))
     | some v2 =>
      cases h3:sp.wFrac u with
      | none =>
       show OpOk none _
       exact opOk_none (.inl (by simp only [(sN_some h0).1,(sN_some h0).2,ek2,ev,g1,Option.getD_some,(sW_some h2).1,(sW_some h2).2,sF_none h3,sW_bad,sT_bad,sN_bad,sF_bad,sP_bad,sK_bad,sW_nil,sT_nil,sN_nil,sF_nil,sP_nil,sK_nil]))
      | some v3 =>
       cases h4:sp.wFrac v with
       | none =>
        show OpOk none _
        exact opOk_none (.inl (by simp only [(sN_some h0).1,(sN_some h0).2,ek2,ev,g1,Option.getD_some,(sW_some h2).1,(sW_some h2).2,(sF_some h3).1,(sF_some h3).2,sF_none h4,sW_bad,sT_bad,sN_bad,sF_bad,sP_bad,sK_bad,sW_nil,sT_nil,sN_nil,sF_nil,sP_nil,sK_nil]))
       | some v4 =>
        simp only [OpOk,(sN_some h0).1,(sN_some h0).2,ek2,ev,g1,Option.getD_some,(sW_some h2).1,(sW_some h2).2,(sF_some h3).1,(sF_some h3).2,(sF_some h4).1,(sF_some h4).2,g1,Option.bind_some]
theorem opR_Ask (a:List (List UInt8×Bool)):OpOk (sp.opS sp.kAsk a) (opR ((sp.kAsk,false) :: a,false)):=by
 have e:opR ((sp.kAsk,false) :: a,false)=({ kind:=10,node:=vN (a,false),name:=vW (sN (a,false)) },(sW (sN (a,false)))):=by
  unfold opR
  rw [show vW ((sp.kAsk,false) :: a,false)=sp.kAsk from rfl,if_neg (show ¬sp.kAsk=sp.kSheet from by decide),if_neg (show ¬sp.kAsk=sp.kView from by decide),if_neg (show ¬sp.kAsk=sp.kFont from by decide),if_neg (show ¬sp.kAsk=sp.kColor from by decide),if_neg (show ¬sp.kAsk=sp.kPrint from by decide),if_neg (show ¬sp.kAsk=sp.kWord from by decide),if_neg (show ¬sp.kAsk=sp.kInsert from by decide),if_neg (show ¬sp.kAsk=sp.kRemove from by decide),if_neg (show ¬sp.kAsk=sp.kSet from by decide),if_neg (show ¬sp.kAsk=sp.kUnset from by decide),if_neg (show ¬sp.kAsk=sp.kBox from by decide),if_pos rfl]
  rfl
 unfold sp.opS
 rw [e,if_neg (show ¬sp.kAsk=sp.kSheet from by decide),if_neg (show ¬sp.kAsk=sp.kView from by decide),if_neg (show ¬sp.kAsk=sp.kFont from by decide),if_neg (show ¬sp.kAsk=sp.kColor from by decide),if_neg (show ¬sp.kAsk=sp.kPrint from by decide),if_neg (show ¬sp.kAsk=sp.kWord from by decide),if_neg (show ¬sp.kAsk=sp.kInsert from by decide),if_neg (show ¬sp.kAsk=sp.kRemove from by decide),if_neg (show ¬sp.kAsk=sp.kSet from by decide),if_neg (show ¬sp.kAsk=sp.kUnset from by decide),if_neg (show ¬sp.kAsk=sp.kBox from by decide),if_pos rfl]
 clear e
 match a with
 | []=>exact opOk_none (.inl (by simp [sW,sT,sN,sF,sP,sK,sB,nextW]))
 | [x]=>exact opOk_none (.inl (by simp [sW,sT,sN,sF,sP,sK,sB,nextW]))
 | x :: y :: y1 :: t=>exact opOk_none (.inr (by simp [sW,sT,sN,sF,sP,sK,sB,nextW]))
 | [x,y] =>
  dsimp only
  cases h0:sp.wNum x with
  | none =>
   show OpOk none _
   exact opOk_none (.inl (by simp only [sN_none h0,sW_bad,sT_bad,sN_bad,sF_bad,sP_bad,sK_bad,sW_nil,sT_nil,sN_nil,sF_nil,sP_nil,sK_nil]))
  | some v0 =>
   cases h1:sp.wPlain y with
   | none =>
    show OpOk none _
    exact opOk_none (.inl (by simp only [(sN_some h0).1,(sN_some h0).2,sW_none h1,sW_bad,sT_bad,sN_bad,sF_bad,sP_bad,sK_bad,sW_nil,sT_nil,sN_nil,sF_nil,sP_nil,sK_nil]))
   | some v1 =>
    simp only [OpOk,(sN_some h0).1,(sN_some h0).2,(sW_some h1).1,(sW_some h1).2,Option.bind_some]
theorem opR_Custom (a:List (List UInt8×Bool)):OpOk (sp.opS sp.kCustom a) (opR ((sp.kCustom,false) :: a,false)):=by
 have e:opR ((sp.kCustom,false) :: a,false)=({ kind:=11,node:=vN (a,false),name:=vW (sN (a,false)) },(sW (sN (a,false)))):=by
  unfold opR
  rw [show vW ((sp.kCustom,false) :: a,false)=sp.kCustom from rfl,if_neg (show ¬sp.kCustom=sp.kSheet from by decide),if_neg (show ¬sp.kCustom=sp.kView from by decide),if_neg (show ¬sp.kCustom=sp.kFont from by decide),if_neg (show ¬sp.kCustom=sp.kColor from by decide),if_neg (show ¬sp.kCustom=sp.kPrint from by decide),if_neg (show ¬sp.kCustom=sp.kWord from by decide),if_neg (show ¬sp.kCustom=sp.kInsert from by decide),if_neg (show ¬sp.kCustom=sp.kRemove from by decide),if_neg (show ¬sp.kCustom=sp.kSet from by decide),if_neg (show ¬sp.kCustom=sp.kUnset from by decide),if_neg (show ¬sp.kCustom=sp.kBox from by decide),if_neg (show ¬sp.kCustom=sp.kAsk from by decide),if_pos rfl]
  rfl
 unfold sp.opS
 rw [e,if_neg (show ¬sp.kCustom=sp.kSheet from by decide),if_neg (show ¬sp.kCustom=sp.kView from by decide),if_neg (show ¬sp.kCustom=sp.kFont from by decide),if_neg (show ¬sp.kCustom=sp.kColor from by decide),if_neg (show ¬sp.kCustom=sp.kPrint from by decide),if_neg (show ¬sp.kCustom=sp.kWord from by decide),if_neg (show ¬sp.kCustom=sp.kInsert from by decide),if_neg (show ¬sp.kCustom=sp.kRemove from by decide),if_neg (show ¬sp.kCustom=sp.kSet from by decide),if_neg (show ¬sp.kCustom=sp.kUnset from by decide),if_neg (show ¬sp.kCustom=sp.kBox from by decide),if_neg (show ¬sp.kCustom=sp.kAsk from by decide),if_pos rfl]
 clear e
 match a with
 | []=>exact opOk_none (.inl (by simp [sW,sT,sN,sF,sP,sK,sB,nextW]))
 | [x]=>exact opOk_none (.inl (by simp [sW,sT,sN,sF,sP,sK,sB,nextW]))
 | x :: y :: y1 :: t=>exact opOk_none (.inr (by simp [sW,sT,sN,sF,sP,sK,sB,nextW]))
 | [x,y] =>
  dsimp only
  cases h0:sp.wNum x with
  | none =>
   show OpOk none _
   exact opOk_none (.inl (by simp only [sN_none h0,sW_bad,sT_bad,sN_bad,sF_bad,sP_bad,sK_bad,sW_nil,sT_nil,sN_nil,sF_nil,sP_nil,sK_nil]))
  | some v0 =>
   cases h1:sp.wPlain y with
   | none =>
    show OpOk none _
    exact opOk_none (.inl (by simp only [(sN_some h0).1,(sN_some h0).2,sW_none h1,sW_bad,sT_bad,sN_bad,sF_bad,sP_bad,sK_bad,sW_nil,sT_nil,sN_nil,sF_nil,sP_nil,sK_nil]))
   | some v1 =>
    simp only [OpOk,(sN_some h0).1,(sN_some h0).2,(sW_some h1).1,(sW_some h1).2,Option.bind_some]
theorem opR_Rules (a:List (List UInt8×Bool)):OpOk (sp.opS sp.kRules a) (opR ((sp.kRules,false) :: a,false)):=by
 have e:opR ((sp.kRules,false) :: a,false)=({ kind:=12,node:=vN (a,false) },(sN (a,false))):=by
  unfold opR
  rw [show vW ((sp.kRules,false) :: a,false)=sp.kRules from rfl,if_neg (show ¬sp.kRules=sp.kSheet from by decide),if_neg (show ¬sp.kRules=sp.kView from by decide),if_neg (show ¬sp.kRules=sp.kFont from by decide),if_neg (show ¬sp.kRules=sp.kColor from by decide),if_neg (show ¬sp.kRules=sp.kPrint from by decide),if_neg (show ¬sp.kRules=sp.kWord from by decide),if_neg (show ¬sp.kRules=sp.kInsert from by decide),if_neg (show ¬sp.kRules=sp.kRemove from by decide),if_neg (show ¬sp.kRules=sp.kSet from by decide),if_neg (show ¬sp.kRules=sp.kUnset from by decide),if_neg (show ¬sp.kRules=sp.kBox from by decide),if_neg (show ¬sp.kRules=sp.kAsk from by decide),if_neg (show ¬sp.kRules=sp.kCustom from by decide),if_pos rfl]
  rfl
 unfold sp.opS
 rw [e,if_neg (show ¬sp.kRules=sp.kSheet from by decide),if_neg (show ¬sp.kRules=sp.kView from by decide),if_neg (show ¬sp.kRules=sp.kFont from by decide),if_neg (show ¬sp.kRules=sp.kColor from by decide),if_neg (show ¬sp.kRules=sp.kPrint from by decide),if_neg (show ¬sp.kRules=sp.kWord from by decide),if_neg (show ¬sp.kRules=sp.kInsert from by decide),if_neg (show ¬sp.kRules=sp.kRemove from by decide),if_neg (show ¬sp.kRules=sp.kSet from by decide),if_neg (show ¬sp.kRules=sp.kUnset from by decide),if_neg (show ¬sp.kRules=sp.kBox from by decide),if_neg (show ¬sp.kRules=sp.kAsk from by decide),if_neg (show ¬sp.kRules=sp.kCustom from by decide),if_pos rfl]
 clear e
 match a with
 | []=>exact opOk_none (.inl (by simp [sW,sT,sN,sF,sP,sK,sB,nextW]))
 | x :: y1 :: t=>exact opOk_none (.inr (by simp [sW,sT,sN,sF,sP,sK,sB,nextW]))
 | [x] =>
  dsimp only
  cases h0:sp.wNum x with
  | none =>
   show OpOk none _
   exact opOk_none (.inl (by simp only [sN_none h0,sW_bad,sT_bad,sN_bad,sF_bad,sP_bad,sK_bad,sW_nil,sT_nil,sN_nil,sF_nil,sP_nil,sK_nil]))
  | some v0 =>
   simp only [OpOk,(sN_some h0).1,(sN_some h0).2,Option.bind_some]
theorem opR_Count (a:List (List UInt8×Bool)):OpOk (sp.opS sp.kCount a) (opR ((sp.kCount,false) :: a,false)):=by
 have e:opR ((sp.kCount,false) :: a,false)=({ kind:=15 },(a,false)):=by
  unfold opR
  rw [show vW ((sp.kCount,false) :: a,false)=sp.kCount from rfl,if_neg (show ¬sp.kCount=sp.kSheet from by decide),if_neg (show ¬sp.kCount=sp.kView from by decide),if_neg (show ¬sp.kCount=sp.kFont from by decide),if_neg (show ¬sp.kCount=sp.kColor from by decide),if_neg (show ¬sp.kCount=sp.kPrint from by decide),if_neg (show ¬sp.kCount=sp.kWord from by decide),if_neg (show ¬sp.kCount=sp.kInsert from by decide),if_neg (show ¬sp.kCount=sp.kRemove from by decide),if_neg (show ¬sp.kCount=sp.kSet from by decide),if_neg (show ¬sp.kCount=sp.kUnset from by decide),if_neg (show ¬sp.kCount=sp.kBox from by decide),if_neg (show ¬sp.kCount=sp.kAsk from by decide),if_neg (show ¬sp.kCount=sp.kCustom from by decide),if_neg (show ¬sp.kCount=sp.kRules from by decide),if_pos rfl]
  rfl
 unfold sp.opS
 rw [e,if_neg (show ¬sp.kCount=sp.kSheet from by decide),if_neg (show ¬sp.kCount=sp.kView from by decide),if_neg (show ¬sp.kCount=sp.kFont from by decide),if_neg (show ¬sp.kCount=sp.kColor from by decide),if_neg (show ¬sp.kCount=sp.kPrint from by decide),if_neg (show ¬sp.kCount=sp.kWord from by decide),if_neg (show ¬sp.kCount=sp.kInsert from by decide),if_neg (show ¬sp.kCount=sp.kRemove from by decide),if_neg (show ¬sp.kCount=sp.kSet from by decide),if_neg (show ¬sp.kCount=sp.kUnset from by decide),if_neg (show ¬sp.kCount=sp.kBox from by decide),if_neg (show ¬sp.kCount=sp.kAsk from by decide),if_neg (show ¬sp.kCount=sp.kCustom from by decide),if_neg (show ¬sp.kCount=sp.kRules from by decide),if_pos rfl]
 clear e
 match a with
 | y1 :: t=>exact opOk_none (.inr (by simp [sW,sT,sN,sF,sP,sK,sB,nextW]))
 | [] =>
  dsimp only
  rfl
end Go.Proofs.YtihlneenajlhoaaGreatDoor
set_option linter.unusedSimpArgs false
set_option linter.unusedVariables false
namespace Go.Proofs.YtihlneenajlhoaaGreatDoor
open Go Go.RowKit
structure OpR (w0:World) (m b g n cap:Nat) (s:RSt) (W:World):Prop where
 rd:RdR w0 b g n cap s.1 s.2 W
 res:W.heap[m]?=some (.cells (zeroC 0) 28 (0,0))
 n1:m≠b
 n3:m≠g
 lo:w0.heap.size≤m
section
variable {w0 w W W':World} {m b g n cap:Nat} {s s':RSt}
theorem OpR.read (h:OpR w0 m b g n cap s W) (h2:RdR W b g n cap s'.1 s'.2 W'):OpR w0 m b g n cap s' W' :=
 ⟨h.rd.back h2,(h2.fr.block _ (lt_of_block h.res) h.n1 (by simp)).trans h.res,h.n1,h.n3,h.lo⟩
theorem OpR.on (h:OpR w0 m b g n cap s W) (hb:Below W.heap.size W W'):OpR w0 m b g n cap s W' :=
 ⟨h.rd.on hb,(hb.block _ (lt_of_block h.res)).trans h.res,h.n1,h.n3,h.lo⟩
theorem OpR.setBad (h:OpR w0 m b g n cap s W) (v:Bool):OpR w0 m b g n cap (s.1,v) (W.setCell ⟨b,2,none⟩ (.bool v)) :=
 ⟨h.rd.setBad v,(Below.heap_setCell _ _ _ _ (show m≠b from h.n1)).trans h.res,h.n1,h.n3,h.lo⟩
theorem OpR.start (h:RdR w0 b g n cap s.1 s.2 w):OpR w0 w.heap.size b g n cap s (w.alloc (.cells (zeroC 0) 28)):=by
 have hb:=lt_of_block h.blk
 have hg:=h.glt
 exact ⟨h.on (below_new w _),heap_alloc_at _ _,by omega,by omega,h.fr.size⟩
theorem OpR.fin (h:OpR w0 m b g n cap s W) (xs:Array Value):RdR w0 b g n cap s.1 s.2 (W.setRow m xs)∧(W.setRow m xs).heap[m]?=some (.cells xs 28 (0,0)):=⟨h.rd.row h.n1 h.n3 h.lo _,setRow_at h.res _⟩
theorem stW (w0 w:World) (b g n cap:Nat) (s:RSt) (h:RdR w0 b g n cap s.1 s.2 w):Calls Tryz.prog 64 #[.pointer (some ⟨b,0,none⟩)] w fun e w'=>e=.returned (.string (bstr (vW s)))∧RdR w0 b g n cap (sW s).1 (sW s).2 w':=rword_any w0 w b g n cap _ _ h
theorem stT (w0 w:World) (b g n cap:Nat) (s:RSt) (h:RdR w0 b g n cap s.1 s.2 w):Calls Tryz.prog 66 #[.pointer (some ⟨b,0,none⟩)] w fun e w'=>e=.returned (.string (bstr (vW s)))∧RdR w0 b g n cap (sT s).1 (sT s).2 w':=rtext_word w0 w b g n cap _ _ h
theorem stN (w0 w:World) (b g n cap:Nat) (s:RSt) (h:RdR w0 b g n cap s.1 s.2 w):Calls Tryz.prog 65 #[.pointer (some ⟨b,0,none⟩)] w fun e w'=>e=.returned (.int .i64 (vN s))∧RdR w0 b g n cap (sN s).1 (sN s).2 w':=rnum_word w0 w b g n cap _ _ h
theorem stF (w0 w:World) (b g n cap:Nat) (s:RSt) (h:RdR w0 b g n cap s.1 s.2 w):Calls Tryz.prog 67 #[.pointer (some ⟨b,0,none⟩)] w fun e w'=>e=.returned (.agg #[.int .i64 (vF s).1,.int .i64 (vF s).2])∧RdR w0 b g n cap (sF s).1 (sF s).2 w':=rrat_word w0 w b g n cap _ _ h
end
theorem stB (w0 w:World) (b g n cap:Nat) (s:RSt) (h:RdR w0 b g n cap s.1 s.2 w):Calls Tryz.prog 68 #[.pointer (some ⟨b,0,none⟩)] w fun e w'=>e=.returned (.agg #[.int .i64 ((sp.boxOf (vW s)).getD 0),.string (bstr (sp.boxName (vW (sK s)))),.int .i64 (vF (sW (sK s))).1,.int .i64 (vF (sW (sK s))).2,.int .i64 (vF (sF (sW (sK s)))).1,.int .i64 (vF (sF (sW (sK s)))).2])∧RdR w0 b g n cap (sB s).1 (sB s).2 w':=by
 have hn:vW (sK s)=(nextW s.1.tail).1:=rfl
 have hname:∀t,(t = [45]→sp.boxName t = [])∧(t≠[45]→sp.boxName t=t):=fun t=>⟨fun e=>by unfold sp.boxName;rw [if_pos e],fun e=>by unfold sp.boxName;rw [if_neg e]⟩
 have hB:(sB s).1=s.1.tail.tail.tail.tail:=rfl
 have hB2:∀k,(sp.boxOf (nextW s.1).1).isNone=k→(sB s).2=((((s.2||s.1.isEmpty||(nextW s.1).2)||k)||s.1.tail.isEmpty||(nextW s.1.tail).2)||s.1.tail.tail.isEmpty||(nextW s.1.tail.tail).2||(sp.fracS (nextW s.1.tail.tail).1).isNone||s.1.tail.tail.tail.isEmpty||(nextW s.1.tail.tail.tail).2||(sp.fracS (nextW s.1.tail.tail.tail).1).isNone):=fun k hk=>by rw [←hk];rfl
 rw [hn,hB]
 by_cases h1:(nextW s.1).1=sp.kNone
 ·have hb:sp.boxOf (nextW s.1).1=some 0:=by unfold sp.boxOf;rw [if_pos h1]
  rw [hB2 false (by rw [hb];rfl),show vW s=(nextW s.1).1 from rfl,hb,Bool.or_false]
  by_cases hd:(nextW s.1.tail).1 = [45]
  ·rw [(hname _).1 hd];exact rbox_none_dash w0 w b g n cap _ _ h h1 hd
  ·rw [(hname _).2 hd];exact rbox_none_named w0 w b g n cap _ _ h h1 hd
 by_cases h2:(nextW s.1).1=sp.kInline
 ·have hb:sp.boxOf (nextW s.1).1=some 1:=by unfold sp.boxOf;rw [if_neg h1,if_pos h2]
  rw [hB2 false (by rw [hb];rfl),show vW s=(nextW s.1).1 from rfl,hb,Bool.or_false]
  by_cases hd:(nextW s.1.tail).1 = [45]
  ·rw [(hname _).1 hd];exact rbox_inline_dash w0 w b g n cap _ _ h h2 hd
  ·rw [(hname _).2 hd];exact rbox_inline_named w0 w b g n cap _ _ h h2 hd
 by_cases h3:(nextW s.1).1=sp.kSize
 ·have hb:sp.boxOf (nextW s.1).1=some 2:=by unfold sp.boxOf;rw [if_neg h1,if_neg h2,if_pos h3]
  rw [hB2 false (by rw [hb];rfl),show vW s=(nextW s.1).1 from rfl,hb,Bool.or_false]
  by_cases hd:(nextW s.1.tail).1 = [45]
  ·rw [(hname _).1 hd];exact rbox_size_dash w0 w b g n cap _ _ h h3 hd
  ·rw [(hname _).2 hd];exact rbox_size_named w0 w b g n cap _ _ h h3 hd
 have hb:sp.boxOf (nextW s.1).1=none:=by unfold sp.boxOf;rw [if_neg h1,if_neg h2,if_neg h3]
 rw [hB2 true (by rw [hb];rfl),show vW s=(nextW s.1).1 from rfl,hb,Bool.or_true]
 by_cases hd:(nextW s.1.tail).1 = [45]
 ·rw [(hname _).1 hd];exact rbox_other_dash w0 w b g n cap _ _ h h1 h2 h3 hd
 ·rw [(hname _).2 hd];exact rbox_other_named w0 w b g n cap _ _ h h1 h2 h3 hd
theorem ret_op {W:World} {g:Nat} {cs:Array Value} {fn:Func} {tmps:Array Value} {R:Ending→World→Prop} (hr:fn.results=#[.cell 2 28]) (hp:tmps.getD 2 undef=.pointer (some ⟨g,0,none⟩)) (hg:W.heap[g]?=some (.cells cs 28 (0,0))) (hc:cs.size=18)
  (h:R (.returned (.agg cs)) W):bodyPost Tryz.prog fn R .ret ⟨tmps,[]⟩ W :=
 bodyPost_ret (results_cell_row hr tmps W g 28 cs (0,0) _ hp hg Tryz.underlying28 rfl (by rw [hc];exact size28')) rfl h
theorem rowAt_row2 {W:World} {B b n:Nat} {v:Value} {cs:List Value} (h:RowAt B W v n cs) (hne:∀g,v.ownBlock=some g→g≠b) (xs:Array Value):RowAt B (W.setRow b xs) v n cs:=by
 obtain ⟨a,cap,h1,h2,h3,h4⟩:=h
 exact ⟨a,cap,h1,h2,h3,h4.imp id fun ⟨x1,g,off,y1,y2,y3⟩=>⟨x1,g,off,y1,y2,fun j u hu=>(cell_heap (setRow_far xs (Ne.symm (hne g (by rw [h1,y1];rfl)))) _).trans (y3 j u hu)⟩⟩
def OpIs (w0:World) (b g n cap:Nat) (o:sp.Op) (s:RSt) (e:Ending) (w':World):Prop :=
 ∃tv,e=.returned (.agg (opCells o tv))∧RowAt w'.heap.size w' tv o.text.length (Lib.byteCells o.text)∧RdR w0 b g n cap s.1 s.2 w'∧∀x,tv.ownBlock=some x→w0.heap.size≤x
theorem opIs_plain {w0 W:World} {b g n cap:Nat} {o:sp.Op} {s:RSt} (ho:o.text = []) (h:RdR w0 b g n cap s.1 s.2 W):OpIs w0 b g n cap o s (.returned (.agg (opCells o (.slice none 0 0)))) W :=
 ⟨_,rfl,by rw [ho];exact rowAt_nil _ _,h,fun x hx=>by cases hx⟩
end Go.Proofs.YtihlneenajlhoaaGreatDoor
