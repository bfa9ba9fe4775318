/-
 Plain laws of quoted texts and of words: how long they are.
-/
import Derived.Test.YtihlneenajlhoaaGreatDoorS1
import Derived.Test.YtihlneenajlhoaaGreatDoorS3
import Derived.Test.YtihlneenajlhoaaGreatDoorS2
import Derived.Deep.RegionHeld
set_option linter.unusedSimpArgs false
set_option linter.unusedVariables false
namespace Go.Proofs.YtihlneenajlhoaaGreatDoor
open Go Go.RowKit
theorem qread_len (n:Nat):∀r:List UInt8,r.length≤n→∀t u,sp.qread r=some (t,u)→t.length+u.length<r.length:=by
 induction n with
 | zero =>
  intro r hr t u h
  obtain rfl:=List.length_eq_zero_iff.1 (Nat.le_zero.1 hr)
  rw [sp.qread_nil] at h
  cases h
 | succ n ih =>
  intro r hr t u h
  match r with
  | []=>rw [sp.qread_nil] at h;cases h
  | c :: r =>
   by_cases h1:c=34
   ·subst h1
    rw [sp.qread_end] at h
    cases h
    simp
   ·by_cases h2:c=92
    ·subst h2
     rw [qread_esc] at h
     cases he:escS r with
     | none=>rw [he] at h;cases h
     | some q =>
      obtain ⟨d,v⟩:=q
      rw [he] at h
      have hl:=escS_len he
      simp only [Option.bind_some,Option.map_eq_some_iff,Prod.mk.injEq] at h
      obtain ⟨⟨t1,u1⟩,h3,rfl,rfl⟩:=h
      have:=ih v (by simp only [List.length_cons] at hr;omega) t1 u1 h3
      simp only [List.length_cons] at *
      omega
    ·rw [sp.qread_plain h1 h2] at h
     simp only [Option.map_eq_some_iff,Prod.mk.injEq] at h
     obtain ⟨⟨t1,u1⟩,h3,rfl,rfl⟩:=h
     have:=ih r (by simp only [List.length_cons] at hr;omega) t1 u1 h3
     simp only [List.length_cons] at *
     omega
theorem words_len (n:Nat):∀s:List UInt8,s.length≤n→∀l,sp.words s=some l→(∀p∈l,p.1.length≤s.length)∧l.length≤s.length:=by
 induction n with
 | zero =>
  intro r hr l h
  obtain rfl:=List.length_eq_zero_iff.1 (Nat.le_zero.1 hr)
  rw [sp.words_nil] at h
  cases h
  exact ⟨fun p hp=>(by cases hp),Nat.le_refl _⟩
 | succ n ih =>
  intro r hr l h
  match r with
  | []=>rw [sp.words_nil] at h;cases h;exact ⟨fun p hp=>(by cases hp),Nat.le_refl _⟩
  | c :: r =>
   have hr':r.length≤n:=by simp only [List.length_cons] at hr;omega
   by_cases h1:c=32
   ·subst h1
    rw [sp.words_space] at h
    obtain ⟨a,b⟩:=ih r hr' l h
    exact ⟨fun p hp=>by have:=a p hp;simp only [List.length_cons];omega,by simp only [List.length_cons];omega⟩
   ·by_cases h2:c=34
    ·subst h2
     cases hq:sp.qread r with
     | none=>rw [words_q_none hq] at h;cases h
     | some q =>
      obtain ⟨t,u⟩:=q
      have hl:=qread_len _ r (Nat.le_refl _) t u hq
      rw [words_q_some hq] at h
      split at h
      ·simp only [Option.map_eq_some_iff] at h
       obtain ⟨m,hm,rfl⟩:=h
       obtain ⟨a,b⟩:=ih u (by omega) m hm
       refine ⟨fun p hp => ?_,by simp only [List.length_cons];omega⟩
       simp only [List.length_cons]
       rcases List.mem_cons.1 hp with rfl | hp
       ·simp only;omega
       ·have:=a p hp;omega
      ·cases h
    ·rw [words_p h1 h2] at h
     split at h
     ·cases h
     ·simp only [Option.map_eq_some_iff] at h
      obtain ⟨m,hm,rfl⟩:=h
      have hcw:sp.wordB c=true:=by simp [sp.wordB,h1,h2]
      have e:=List.takeWhile_append_dropWhile (p:=sp.wordB) (l:=c :: r)
      have e2:=congrArg List.length e
      rw [List.length_append] at e2
      have e3:((c :: r).takeWhile sp.wordB).length=(r.takeWhile sp.wordB).length+1:=by rw [List.takeWhile_cons,if_pos hcw];rfl
      simp only [List.length_cons] at e2
      obtain ⟨a,b⟩:=ih ((c :: r).dropWhile sp.wordB) (by omega) m hm
      refine ⟨fun p hp => ?_,by simp only [List.length_cons];omega⟩
      simp only [List.length_cons]
      rcases List.mem_cons.1 hp with rfl | hp
      ·simp only;omega
      ·have:=a p hp;omega
theorem qread_suffix (n:Nat):∀r:List UInt8,r.length≤n→∀t u,sp.qread r=some (t,u)→∃pre,r=pre++u:=by
 induction n with
 | zero =>
  intro r hr t u h
  obtain rfl:=List.length_eq_zero_iff.1 (Nat.le_zero.1 hr)
  rw [sp.qread_nil] at h
  cases h
 | succ n ih =>
  intro r hr t u h
  match r with
  | []=>rw [sp.qread_nil] at h;cases h
  | c :: r =>
   by_cases h1:c=34
   ·subst h1
    rw [sp.qread_end] at h
    cases h
    exact ⟨[34],rfl⟩
   ·by_cases h2:c=92
    ·subst h2
     rw [qread_esc] at h
     cases he:escS r with
     | none=>rw [he] at h;cases h
     | some q =>
      obtain ⟨d,v⟩:=q
      rw [he] at h
      have hl:=escS_len he
      have hs:∃pre,r=pre++v:=by
       cases r with
       | nil=>cases he
       | cons c2 r2 =>
        simp only [escS] at he
        split at he
        ·cases he;exact ⟨[_],rfl⟩
        ·split at he
         ·cases he;exact ⟨[_],rfl⟩
         ·split at he
          ·unfold escX at he
           split at he
           ·rename_i a b r'
            cases ha:sp.hexv a with
            | none=>rw [ha] at he;cases he
            | some x =>
             cases hb:sp.hexv b with
             | none=>rw [ha,hb] at he;cases he
             | some y=>rw [ha,hb] at he;cases he;exact ⟨[_,_,_],rfl⟩
           ·cases he
          ·cases he
      simp only [Option.bind_some,Option.map_eq_some_iff,Prod.mk.injEq] at h
      obtain ⟨⟨t1,u1⟩,h3,rfl,rfl⟩:=h
      obtain ⟨p1,e1⟩:=hs
      obtain ⟨p2,e2⟩:=ih v (by simp only [List.length_cons] at hr;omega) t1 u1 h3
      simp only at *
      exact ⟨92 :: (p1++p2),by rw [e1,e2];simp⟩
    ·rw [sp.qread_plain h1 h2] at h
     simp only [Option.map_eq_some_iff,Prod.mk.injEq] at h
     obtain ⟨⟨t1,u1⟩,h3,rfl,rfl⟩:=h
     obtain ⟨p2,e2⟩:=ih r (by simp only [List.length_cons] at hr;omega) t1 u1 h3
     simp only at *
     exact ⟨c :: p2,by rw [e2];simp⟩
theorem line_nl {s:List UInt8} (h:10∈s):sp.lineS s=none:=by unfold sp.lineS;rw [if_pos h]
theorem line_silent {s:List UInt8} (h:10∉s) (h2:sp.silentB s=true):sp.lineS s=some none:=by unfold sp.lineS;rw [if_neg h,if_pos h2]
theorem line_words {s:List UInt8} (h:10∉s) (h2:sp.silentB s=false):sp.lineS s=match sp.words s with | some ((w,false) :: a)=>(sp.opS w a).map some | _=>none:=by
 unfold sp.lineS
 rw [if_neg h,if_neg (by rw [h2];decide)]
 rfl
theorem words_some_ne {s:List UInt8} (h2:sp.silentB s=false):sp.words s≠some []:=by
 intro e
 rw [sp.words.eq_def] at e
 split at e
 ·rename_i h
  unfold sp.silentB at h2
  rw [h] at h2
  cases h2
 ·split at e
  ·split at e
   ·cases e
   ·split at e
    ·rw [Option.map_eq_some_iff] at e
     obtain ⟨_,_,h⟩:=e
     cases h
    ·cases e
  ·split at e
   ·cases e
   ·rw [Option.map_eq_some_iff] at e
    obtain ⟨_,_,h⟩:=e
    cases h
theorem op_unknown {name:List UInt8} (h:name∉rowsL.map (·.1)) (a:List (List UInt8×Bool)):sp.opS name a=none:=by
 simp only [rowsL,List.map_cons,List.map_nil,List.mem_cons,List.not_mem_nil,or_false,not_or] at h
 obtain ⟨h1,h2,h3,h4,h5,h6,h7,h8,h9,h10,h11,h12,h13,h14,h15⟩:=h
 unfold sp.opS
 rw [if_neg h1,if_neg h2,if_neg h3,if_neg h4,if_neg h5,if_neg h6,if_neg h7,if_neg h8,if_neg h9,if_neg h10,if_neg h11,if_neg h12,if_neg h13,if_neg h14,if_neg h15]
theorem op_count {name:List UInt8} {r:Rw} (hr:(name,r)∈rowsL) {a:List (List UInt8×Bool)} (hn:(a.length:Int)≠r.n):sp.opS name a=none:=by
 simp only [rowsL,List.mem_cons,List.not_mem_nil,or_false,Prod.mk.injEq] at hr
 rcases hr with ⟨rfl,rfl⟩ | ⟨rfl,rfl⟩ | ⟨rfl,rfl⟩ | ⟨rfl,rfl⟩ | ⟨rfl,rfl⟩ | ⟨rfl,rfl⟩ | ⟨rfl,rfl⟩ | ⟨rfl,rfl⟩ | ⟨rfl,rfl⟩ | ⟨rfl,rfl⟩ | ⟨rfl,rfl⟩ | ⟨rfl,rfl⟩ | ⟨rfl,rfl⟩ | ⟨rfl,rfl⟩ | ⟨rfl,rfl⟩
 all_goals
  match a,hn with
  | [],hn=>first | rfl | exact absurd rfl hn
  | [_],hn=>first | rfl | exact absurd rfl hn
  | [_,_],hn=>first | rfl | exact absurd rfl hn
  | [_,_,_],hn=>first | rfl | exact absurd rfl hn
  | [_,_,_,_],hn=>first | rfl | exact absurd rfl hn
  | [_,_,_,_,_],hn=>first | rfl | exact absurd rfl hn
  | _ :: _ :: _ :: _ :: _ :: _ :: _,hn=>rfl
def capL (n:Nat):Array Value:=#[.pointer (some ⟨n,0,none⟩),.pointer (some ⟨n+1,0,none⟩),.pointer (some ⟨n+2,0,none⟩)]
def LineIs (B:Nat) (s:List UInt8) (w':World) (e:Ending):Prop:=match sp.lineS s with
 | none=>e=.returned (.tuple #[.agg (zeroC 0),.bool false,.int .i64 12])
 | some none=>e=.returned (.tuple #[.agg (zeroC 0),.bool false,.int .i64 0])
 | some (some o)=>∃tv,e=.returned (.tuple #[.agg (opCells o tv),.bool true,.int .i64 0])∧RowAt w'.heap.size w' tv o.text.length (Lib.byteCells o.text)∧∀x,tv.ownBlock=some x→B≤x
theorem und4':Tryz.prog.underlying 4=some .bool:=by kernel_rfl
theorem und29:Tryz.prog.underlying 29=some (.int .i64):=by kernel_rfl
set_option maxRecDepth 100000 in
theorem results_line {n:Nat} {tmps:Array Value} {W:World} {cs:Array Value} {sy:Bool} {er:Int} (hr:Res n (n+1) (n+2) cs sy er W) (hc:cs.size=18) (h2:tmps.getD 2 undef=.pointer (some ⟨n,0,none⟩)) (h3:tmps.getD 3 undef=.pointer (some ⟨n+1,0,none⟩)) (h4:tmps.getD 4 undef=.pointer (some ⟨n+2,0,none⟩)) :
  (results Tryz.f9 tmps).run Tryz.prog W=.ok (.tuple #[.agg cs,.bool sy,.int .i64 er]) W:=by
 have hl:=run_loadVar_row (P:=Tryz.prog) W n 28 28 cs (0,0) _ hr.op Tryz.underlying28 rfl (by rw [hc];exact size28')
 obtain ⟨c3,c4,_,_⟩:=hr.cells
 have e:Tryz.f9.results=#[.cell 2 28,.cell 3 4,.cell 4 29]:=rfl
 have l3:(loadVar 4 ⟨n+1,0,none⟩).run Tryz.prog W=.ok (.bool sy) W:=by
  unfold loadVar
  simp [Sem.run_bind,run_isAgg_plain und4' rfl,go_sem,c3,Result.andThen]
 have l4:(loadVar 29 ⟨n+2,0,none⟩).run Tryz.prog W=.ok (.int .i64 er) W:=by
  unfold loadVar
  simp [Sem.run_bind,run_isAgg_plain und29 rfl,go_sem,c4,Result.andThen]
 have h2':tmps[2]?.getD undef=.pointer (some ⟨n,0,none⟩):=by simpa using h2
 have h3':tmps[3]?.getD undef=.pointer (some ⟨n+1,0,none⟩):=by simpa using h3
 have h4':tmps[4]?.getD undef=.pointer (some ⟨n+2,0,none⟩):=by simpa using h4
 simp only [results,e]
 simp [Sem.run_bind,Result.andThen,h2',h3',h4',asAddr,hl,l3,l4]
structure SlotsL (n:Nat) (tmps:Array Value):Prop where
 s2:tmps.getD 2 undef=.pointer (some ⟨n,0,none⟩)
 s3:tmps.getD 3 undef=.pointer (some ⟨n+1,0,none⟩)
 s4:tmps.getD 4 undef=.pointer (some ⟨n+2,0,none⟩)
def defL (n:Nat):List Deferred:=[{ target:=.fn (.func 22) (capL n),args:=#[] }]
theorem ne12 (n:Nat):n≠n+1∧n≠n+2∧n+1≠n+2:=by omega
theorem leave_ok {n:Nat} {tmps:Array Value} {W:World} {cs:Array Value} {sy:Bool} {er:Int} {R:Ending→World→Prop} (hr:Res n (n+1) (n+2) cs sy er W) (hc:cs.size=18) (hs:SlotsL n tmps) (hR:R (.returned (.tuple #[.agg cs,.bool sy,.int .i64 er])) W) :
  Leaves Tryz.prog Tryz.f9 tmps R (defL n) .returning W:=by
 refine leaves_cons (f:=22) (args:=capL n) (by simp) (by simp [go_sem,capL]) ?_
 refine (line_idle _ _ _ W).mono ?_
 rintro e u' w'' ⟨rfl,rfl,rfl⟩
 exact ⟨_,results_line hr hc hs.s2 hs.s3 hs.s4,hR⟩
theorem leave_bar {n:Nat} {tmps:Array Value} {W:World} {cs:Array Value} {sy:Bool} {er:Int} {R:Ending→World→Prop} (hr:Res n (n+1) (n+2) cs sy er W) (hc:cs.size=18) (hs:SlotsL n tmps) (hR:∀W',Below n W W'→R (.returned (.tuple #[.agg (zeroC 0),.bool false,.int .i64 12])) W') :
  Leaves Tryz.prog Tryz.f9 tmps R (defL n) (.panicking bar) W:=by
 obtain ⟨n1,n2,n3⟩:=ne12 n
 refine leaves_cons (f:=22) (args:=capL n) (by simp) (by simp [go_sem,capL]) ?_
 refine (line_bar n (n+1) (n+2) cs sy er W hr hc n1 n2 n3).mono ?_
 rintro e u' w'' ⟨rfl,rfl,hr2,hb⟩
 exact ⟨_,results_line hr2 rfl hs.s2 hs.s3 hs.s4,hR _ (hb n (Nat.le_refl _) (by omega) (by omega))⟩
structure PanSt (n:Nat) (w:World) (c:List PanicEntry) (a:Act) (W:World):Prop where
 bar:c=bar
 defers:a.defers=defL n
 slots:SlotsL n a.tmps
 res:∃cs sy er,cs.size=18∧Res n (n+1) (n+2) cs sy er W
 bel:Below w.heap.size w W
theorem slot_put (a:Act) (d i:Nat) (v:Value) (h:d≠i):(a.put (some d) v).tmps.getD i undef=a.tmps.getD i undef:=by
 show (a.tmps.setIfInBounds d v).getD i undef=_
 simp [Array.getElem?_setIfInBounds,h]
theorem PanSt.unput {n:Nat} {w:World} {c:List PanicEntry} {a:Act} {W:World} {d:Nat} {v:Value} (h:PanSt n w c (a.put (some d) v) W) (hd:4<d):PanSt n w c a W :=
 ⟨h.bar,h.defers,⟨by rw [←slot_put a d 2 v (by omega)];exact h.slots.s2,by rw [←slot_put a d 3 v (by omega)];exact h.slots.s3,by rw [←slot_put a d 4 v (by omega)];exact h.slots.s4⟩,h.res,h.bel⟩
def PanQ (PS:List PanicEntry→Act→World→Prop) (Q:Exit→Act→World→Prop):Exit→Act→World→Prop
 | .panic c,a,w=>PS c a w
 | e,a,w=>Q e a w
theorem wp_pan {P:Program} {c:Code} {PS:List PanicEntry→Act→World→Prop} {Q:Exit→Act→World→Prop} {a:Act} {w:World} (hp:∀c a W,PS c a W→Q (.panic c) a W) (h:c.wp P (PanQ PS Q) a w):c.wp P Q a w :=
 wp_mono h fun e a W hX=>by
  cases e with
  | panic c=>exact hp c a W hX
  | normal=>exact hX
  | ret=>exact hX
  | exit _=>exact hX
  | goto _=>exact hX
  | outgrown=>exact hX
theorem PanQ.normal {PS:List PanicEntry→Act→World→Prop} {Q:Exit→Act→World→Prop} {a:Act} {w:World} (h:Q .normal a w):PanQ PS Q .normal a w:=h
theorem lineIs_none {B:Nat} {s:List UInt8} (h:sp.lineS s=none) (W:World):LineIs B s W (.returned (.tuple #[.agg (zeroC 0),.bool false,.int .i64 12])):=by unfold LineIs;rw [h]
theorem lineIs_silent {B:Nat} {s:List UInt8} (h:sp.lineS s=some none) (W:World):LineIs B s W (.returned (.tuple #[.agg (zeroC 0),.bool false,.int .i64 0])):=by unfold LineIs;rw [h]
def startL (w:World):World:=((w.alloc (.cells (zeroC 0) 28)).alloc (.cells #[.bool false] 4)).alloc (.cells #[.int .i64 0] 29)
theorem start_res (w:World):Res w.heap.size (w.heap.size+1) (w.heap.size+2) (zeroC 0) false 0 (startL w)∧Below w.heap.size w (startL w)∧(startL w).heap.size=w.heap.size+3:=by
 have h1:=heap_alloc_at w (.cells (zeroC 0) 28)
 have h2:=heap_alloc_at (w.alloc (.cells (zeroC 0) 28)) (.cells #[.bool false] 4)
 have h3:=heap_alloc_at ((w.alloc (.cells (zeroC 0) 28)).alloc (.cells #[.bool false] 4)) (.cells #[.int .i64 0] 29)
 have e1:(w.alloc (.cells (zeroC 0) 28)).heap.size=w.heap.size+1:=by simp
 have e2:((w.alloc (.cells (zeroC 0) 28)).alloc (.cells #[.bool false] 4)).heap.size=w.heap.size+2:=by simp
 rw [e1] at h2
 rw [e2] at h3
 refine ⟨⟨heap_old _ _ _ (heap_old _ _ _ h1),heap_old _ _ _ h2,h3⟩,(((below_new w _).alloc (by simp) _).alloc (by simp;omega) _),by simp [startL]⟩
theorem Res.on {n:Nat} {cs:Array Value} {sy:Bool} {er:Int} {W W':World} (h:Res n (n+1) (n+2) cs sy er W) (hb:Below W.heap.size W W'):Res n (n+1) (n+2) cs sy er W' :=
 ⟨(hb.block _ (lt_of_block h.op)).trans h.op,(hb.block _ (lt_of_block h.says)).trans h.says,(hb.block _ (lt_of_block h.err)).trans h.err⟩
set_option maxRecDepth 100000 in
set_option maxHeartbeats 4000000 in
theorem line_has_nl (s:List UInt8) (w:World) (h:10∈s):Calls Tryz.prog 9 #[.string (bstr s)] w fun e w'=>LineIs w.heap.size s w' e∧Below w.heap.size w w':=by
 have hmf:∀(fn:Fn) (first cap:Array Value) (w:World),(Instr.makeFunc fn first cap).run Tryz.prog w=.ok (.func fn first cap) w:=fun _ _ _ _=>rfl
 obtain ⟨hr,hb,_⟩:=start_res w
 have HR:=Lib.hid hr;have HB:=Lib.hid hb
 have HF:=Lib.hid (fun W=>lineIs_none (B:=w.heap.size) (line_nl h) W)
 have HC:=Lib.hid (fun W=>contains_nl s W)
 rw [show decide (10∈s)=true by simpa using h] at HC
 clear hr hb h
 go_enter_defers Tryz.func9,Tryz.ntmps9
 go_wp2_with (first
  | (go_at_call 24;refine (HC.out _).mono ?_;rintro e w1 ⟨rfl,rfl⟩)
  | (go_at_call 23;refine (must_no _).mono ?_;rintro e w1 ⟨rfl,rfl⟩))
 refine leave_bar HR.out rfl ⟨rfl,rfl,rfl⟩ fun W' hW=>⟨HF.out _,?_⟩
 exact HB.out.trans hW
end Go.Proofs.YtihlneenajlhoaaGreatDoor
set_option linter.unusedSimpArgs false
set_option linter.unusedVariables false
namespace Go.Proofs.YtihlneenajlhoaaGreatDoor
open Go Go.RowKit Go.Shelf
def MaxAt (w:World):Prop:=∃m,w.cell? ⟨Tryz.laysSplit_ren.g 1,0,none⟩=some (.int .i64 m)
theorem MaxAt.on {w w':World} (h:MaxAt w) (hb:Below w.heap.size w w'):MaxAt w':=by
 obtain ⟨m,hm⟩:=h
 refine ⟨m,?_⟩
 have hlt:Tryz.laysSplit_ren.g 1<w.heap.size:=by
  unfold World.cell? at hm
  split at hm
  ·rename_i c t f hc
   exact lt_of_block hc
  ·cases hm
 rw [←hm]
 unfold World.cell?
 rw [hb.block _ hlt]
theorem split_call (w:World) (s:List UInt8) (hm:MaxAt w) (hn:s.length≤1073741824):Calls Tryz.prog 71 #[.string (bstr s),.string ⟨#[10]⟩] w fun e w'=>e=.returned (.slice (some ⟨w.heap.size,0,none⟩) (Lib.countB (bstr s) nlB+1) (Lib.countB (bstr s) nlB+1))∧w'=w.alloc (.cells ((Lib.splitB nlB 0 (Lib.countB (bstr s) nlB) (bstr s)).map Value.string).toArray 9):=by
 obtain ⟨m,hm⟩:=hm
 exact Any.strings_Split { Tryz.laysSplit with } Tryz.laysSplit.i9 (bstr s) nlB m w (by rw [bstr_size];omega) hm (by decide)
def strCells (l:List (List UInt8)):List Value:=l.map fun s=>.string (bstr s)
theorem rowAt_strs {W:World} {g n cap:Nat} {cs:Array Value} {l:List (List UInt8)} (hg:W.heap[g]?=some (.cells cs 9 (0,0))) (hn:n=l.length) (h1:n≤cap) (h2:cap≤maxLen) (hc:∀(j:Nat) (u:Value),(strCells l)[j]?=some u→cs[j]?=some u):RowAt W.heap.size W (.slice (some ⟨g,0,none⟩) n cap) l.length (strCells l):=by
 subst hn
 refine ⟨_,_,rfl,h1,h2,?_⟩
 by_cases h0:l.length=0
 ·left
  have:=List.eq_nil_of_length_eq_zero h0
  subst this
  exact ⟨rfl,rfl,fun h=>by cases h⟩
 ·right
  refine ⟨by omega,g,0,rfl,lt_of_block hg,fun j u hu => ?_⟩
  rw [Nat.zero_add]
  exact blk_cell hg j u (hc j u hu)
theorem array_strs (l:List (List UInt8)):((l.map bstr).map Value.string).toArray=(strCells l).toArray:=by simp [strCells]
set_option maxRecDepth 100000 in
set_option maxHeartbeats 4000000 in
theorem lines_any (w:World) (v:Value) (b:List UInt8) (h:RowAt w.heap.size w v b.length (Lib.byteCells b)) (hm:MaxAt w) (hn:b.length≤1048576) :
  Calls Tryz.prog 32 #[v] w fun e w'=>∃v',e=.returned v'∧RowAt w'.heap.size w' v' (sp.linesS b).length (strCells (sp.linesS b))∧Below w.heap.size w w':=by
 have hcv:=conv_row h
 obtain ⟨l,hl1,hl2,hl3⟩:=split_lines _ b (Nat.le_refl _)
 have HC:=Lib.hid (split_call w b hm (by omega))
 rw [hl1,array_strs,←hl2] at HC
 have hlen:l.length≤b.length+2:=by
  have:=(linesS_len b).1
  rcases hl3 with ⟨l',rfl,e⟩ | ⟨l',x,rfl,_,e⟩
  ·rw [e] at this;simp;omega
  ·rw [e] at this;simp at this ⊢; omega
 have HL:=Lib.hid hlen
 have hmx:(2097152:Nat)≤maxLen:=by unfold maxLen;decide
 have HB:Hid (∀o:Obj,Below w.heap.size w (w.alloc o)):=Lib.hid (below_new w)
 clear hl1 hl2 h hm hlen
 rcases hl3 with ⟨l',rfl,e⟩ | ⟨l',x,rfl,hx,e⟩
 ·have HG:=Lib.hid (heap_alloc_at w (.cells (strCells (l'++[[]])).toArray 9))
  have c1:=blk_cell HG.out l'.length (.string ⟨#[]⟩) (by simp [strCells];rfl)
  have HE:=Lib.hid e
  have hlb:(l'.length:Int)≤2097152:=by have:=HL.out;simp at this;omega
  have HMX:=Lib.hid hmx
  rw [List.length_append] at HC
  clear e hmx
  go_enter Tryz.func32,Tryz.ntmps32
  go_wp2_with (go_at_call 71;refine HC.out.mono ?_;rintro e w1 ⟨rfl,rfl⟩)
  go_ret
  refine ⟨_,rfl,?_,HB.out _⟩
  rw [HE.out]
  have hL:=HL.out
  have hM:=HMX.out
  rw [List.length_append] at hL
  exact rowAt_strs HG.out rfl (Nat.le_succ _) (by simp at hL;omega) fun j u hu=>by
   have hj:j<l'.length:=by
    have:=(List.getElem?_eq_some_iff.1 hu).1
    simpa [strCells] using this
   simp only [List.getElem?_toArray,strCells,List.map_append]
   rw [List.getElem?_append_left (by simpa using hj)]
   exact hu
 ·have HG:=Lib.hid (heap_alloc_at w (.cells (strCells (l'++[x])).toArray 9))
  have c1:=blk_cell HG.out l'.length (.string (bstr x)) (by simp [strCells])
  have HE:=Lib.hid e
  have hlb:(l'.length:Int)≤2097152:=by have:=HL.out;simp at this;omega
  have HMX:=Lib.hid hmx
  have hx0:(bstr x).toList.isEmpty=false:=by
   rw [Lib.toList_data,bstr_toList]
   cases x with
   | nil=>exact absurd rfl hx
   | cons _ _=>rfl
  rw [List.length_append] at HC
  clear e hmx hx
  go_enter Tryz.func32,Tryz.ntmps32
  go_wp2_with (go_at_call 71;refine HC.out.mono ?_;rintro e w1 ⟨rfl,rfl⟩)
  go_ret
  refine ⟨_,rfl,?_,HB.out _⟩
  rw [HE.out]
  have hL:=HL.out
  have hM:=HMX.out
  rw [List.length_append] at hL
  exact rowAt_strs HG.out (by simp) (Nat.le_refl _) (by simp at hL;omega) fun j u hu=>by simpa using hu
end Go.Proofs.YtihlneenajlhoaaGreatDoor
set_option linter.unusedSimpArgs false
set_option linter.unusedVariables false
namespace Go.Proofs.YtihlneenajlhoaaGreatDoor
open Go Go.RowKit
section
variable {ops:Array Oper} {rest:List Oper} {o:Oper} {a:Act} {Q:Exit→Act→World→Prop} {w:World}
theorem wpl_append_op (hgd:o.guard=none) (s x:Operand) (ho:o.op=.call { callee:=.builtin .append,args:=#[s,x],argTypes:=#[35,35] }) (base:Nat) (xs:List (sp.Op×Value)) (d:Value) (hs:a.eval s=d) (hown:w.ownsRow base 28 18 d xs.length (xs.flatMap opRow))
  (b:Nat) (y:sp.Op×Value) (fz:Nat×Nat) (hx:a.eval x=.slice (some ⟨b,0,none⟩) 1 1) (hb:w.heap[b]?=some (.cells (opCells y.1 y.2) 28 fz)) (h1:(opCells y.1 y.2).all (·.oneCell')=true) (hn:xs.length≤1048576) (hbase:base≤w.heap.size)
  (h:∀v' w',w'.ownsRow base 28 18 v' (xs++[y]).length ((xs++[y]).flatMap opRow)→w.grownBy w' d.ownBlock→(v'.ownBlock=d.ownBlock∨v'.ownBlock=some w.heap.size)→wpList Tryz.prog ops Q rest (a.put o.dst v') w'):wpList Tryz.prog ops Q (o :: rest) a w:=by
 obtain ⟨i,hi,hz,hsz,hby⟩:=info_parts info28'
 refine Go.wpList_append_own_at w hgd s x 35 ho base 28 i _ 18 184 Tryz.underlying35 hi hz hsz hby rfl (by decide) d xs.length (xs.flatMap opRow) hs hown ⟨b,0,none⟩ 1 1 (opRow y) hx rfl (fun j u hu => ?_) (fun u hu => ?_) (by unfold maxLen;omega) (by omega) hbase (fun v' w' k1 k2 _ k3=>h v' w' ?_ k2 k3)
 ·rw [Addr.add_mid,Nat.zero_add,cell_of_row w b j _ 28 fz hb]
  simpa [opRow] using hu
 ·exact (Array.all_eq_true_iff_forall_mem.1 h1) u (by simpa [opRow] using hu)
 ·rw [List.length_append,List.flatMap_append,List.flatMap_singleton]
  exact k1
end
theorem rowAt_grown {B:Nat} {w w':World} {v:Value} {n:Nat} {cs:List Value} {own:Option Nat} (h:RowAt B w v n cs) (hB:B≤w.heap.size) (hg:w.grownBy w' own) (hne:n≠0→∀x,v.ownBlock=some x→own≠some x):RowAt B w' v n cs:=by
 obtain ⟨a,cap,rfl,h2,h3,h4⟩:=h
 refine ⟨a,cap,rfl,h2,h3,?_⟩
 rcases h4 with h4 | ⟨h0,b,off,rfl,hb,hr⟩
 ·exact .inl h4
 ·exact .inr ⟨h0,b,off,rfl,hb,fun j u hu=>(cell_heap2 (hg.block b (by omega) (Ne.symm (hne (by omega) b rfl))) _).trans (hr j u hu)⟩
structure PaR (w:World) (L:List (sp.Op×Value)) (d:Value) (wr:World):Prop where
 own:wr.ownsRow w.heap.size 28 18 d L.length (L.flatMap opRow)
 bel:Below w.heap.size w wr
 texts:∀p∈L,RowAt wr.heap.size wr p.2 p.1.text.length (Lib.byteCells p.1.text)
 far:∀p∈L,p.1.text.length≠0→∀x,p.2.ownBlock=some x→d.ownBlock≠some x
theorem PaR.nil (w:World):PaR w [] (.slice none 0 0) w:=⟨World.ownsRow_nil _ _ _ _,Below.refl _ _,fun p hp=>(by cases hp),fun p hp=>(by cases hp)⟩
theorem PaR.start {w w1:World} (h:PaR w [] (.slice none 0 0) w) (hb:Below w.heap.size w w1):PaR w [] (.slice none 0 0) w1:=⟨World.ownsRow_nil _ _ _ _,hb,fun p hp=>(by cases hp),fun p hp=>(by cases hp)⟩
theorem ownsRow_below {w w':World} {base:Nat} {e:TypeId} {k n:Nat} {v:Value} {xs:List Value} (h:w.ownsRow base e k v n xs) (hb:Below w.heap.size w w'):w'.ownsRow base e k v n xs:=by
 obtain ⟨hl,h5⟩:=h
 exact ⟨hl,h5.imp id fun ⟨g,cap,cur,y1,y2,y3,y4⟩=>⟨g,cap,cur,y1,y2,(hb.block g (lt_of_block y3)).trans y3,y4⟩⟩
theorem own_lt {w:World} {base:Nat} {e:TypeId} {k n:Nat} {v:Value} {xs:List Value} (h:w.ownsRow base e k v n xs):∀g,v.ownBlock=some g→base≤g∧g<w.heap.size:=by
 intro g hg
 rcases h.2 with ⟨rfl,_⟩ | ⟨g',cap,cur,rfl,h2,h3,_⟩
 ·cases hg
 ·cases hg
  exact ⟨h2,lt_of_block h3⟩
section
variable {w wr W w':World} {L:List (sp.Op×Value)} {d v' tv:Value} {o:sp.Op}
theorem PaR.on (h:PaR w L d wr) (hb:Below wr.heap.size wr W):PaR w L d W :=
 ⟨ownsRow_below h.own hb,h.bel.trans (hb.mono h.bel.size),fun p hp=>((h.texts p hp).keep hb).mono hb.size,h.far⟩
theorem PaR.app (h:PaR w L d wr) (hb:Below wr.heap.size wr W) (ht:RowAt W.heap.size W tv o.text.length (Lib.byteCells o.text)) (hn:∀x,tv.ownBlock=some x→wr.heap.size≤x)
  (hown:w'.ownsRow w.heap.size 28 18 v' (L++[(o,tv)]).length ((L++[(o,tv)]).flatMap opRow)) (hg:W.grownBy w' d.ownBlock) (hv:v'.ownBlock=d.ownBlock∨v'.ownBlock=some W.heap.size):PaR w (L++[(o,tv)]) v' w':=by
 have h1:=h.on hb
 have hlt:=own_lt h.own
 have hsz:W.heap.size≤w'.heap.size:=hg.size
 have hne:∀x,tv.ownBlock=some x→d.ownBlock≠some x:=fun x hx e=>by
  have:=hn x hx
  have:=(hlt x e).2
  omega
 refine ⟨hown,h1.bel.grown hg h1.bel.size (fun k hk=>(hlt k hk).1),fun p hp => ?_,fun p hp h0 x hx => ?_⟩
 ·rcases List.mem_append.1 hp with hp | hp
  ·exact (rowAt_grown (h1.texts p hp) (Nat.le_refl _) hg (fun h0=>h.far p hp h0)).mono hsz
  ·rw [List.mem_singleton.1 hp]
   exact (rowAt_grown ht (Nat.le_refl _) hg (fun _=>hne)).mono hsz
 ·rcases hv with e | e
  ·rw [e]
   rcases List.mem_append.1 hp with hp | hp
   ·exact h.far p hp h0 x hx
   ·rw [List.mem_singleton.1 hp] at hx
    exact hne x hx
  ·rw [e]
   intro e2
   cases e2
   have hr:RowAt W.heap.size W p.2 p.1.text.length (Lib.byteCells p.1.text):=by
    rcases List.mem_append.1 hp with hp | hp
    ·exact h1.texts p hp
    ·rw [List.mem_singleton.1 hp];exact ht
   obtain ⟨a,cap,e3,_,_,h5⟩:=hr
   rcases h5 with h5 | ⟨_,b,off,rfl,hb,_⟩
   ·exact h0 h5.1
   ·rw [e3] at hx
    cases hx
    exact absurd hb (Nat.lt_irrefl _)
theorem PaR.row (h:PaR w L d wr):SameRow wr d L:=by
 refine ⟨?_,h.texts⟩
 rcases h.own.2 with ⟨rfl,h0⟩ | ⟨g,cap,cur,rfl,h2,h3,h4,h5,h6,h7⟩
 ·have:=List.eq_nil_of_length_eq_zero h0
  subst this
  exact ⟨none,0,rfl,Nat.le_refl _,Nat.zero_le _,.inl ⟨rfl,rfl,fun _=>rfl⟩⟩
 ·refine ⟨_,_,rfl,h4,h5,?_⟩
  by_cases h0:L.length=0
  ·have:=List.eq_nil_of_length_eq_zero h0
   subst this
   exact .inl ⟨rfl,rfl,fun h=>by cases h⟩
  ·refine .inr ⟨by omega,g,0,rfl,lt_of_block h3,fun j u hu => ?_⟩
   rw [Nat.zero_add]
   refine blk_cell h3 j u ?_
   have hj:j<L.length*18:=by
    have h1:=(List.getElem?_eq_some_iff.1 hu).1
    rw [h.own.1] at h1
    exact h1
   rw [←h7,List.getElem?_take_of_lt hj] at hu
   simpa using hu
end
def ParseIs (b:List UInt8) (w':World) (e:Ending):Prop:=if 65536<b.length∨2000<(sp.linesS b).length then e=.returned (.tuple #[.slice none 0 0,.int .i64 0,.int .i64 2]) else match sp.parseL 0 (sp.linesS b) with
 | .inl n=>e=.returned (.tuple #[.slice none 0 0,.int .i64 (n:Nat),.int .i64 12])
 | .inr l=>∃v L,L.map (·.1)=l∧e=.returned (.tuple #[v,.int .i64 0,.int .i64 0])∧SameRow w' v L
theorem parse_long {b:List UInt8} (h:65536<b.length∨2000<(sp.linesS b).length) (W:World):ParseIs b W (.returned (.tuple #[.slice none 0 0,.int .i64 0,.int .i64 2])):=by unfold ParseIs;rw [if_pos h]
theorem parse_err {b:List UInt8} (h1:b.length≤65536) (h2:(sp.linesS b).length≤2000) {n:Nat} (h:sp.parseL 0 (sp.linesS b)=.inl n) (W:World):ParseIs b W (.returned (.tuple #[.slice none 0 0,.int .i64 (n:Nat),.int .i64 12])):=by unfold ParseIs;rw [if_neg (by omega),h]
theorem parse_ok {b:List UInt8} (h1:b.length≤65536) (h2:(sp.linesS b).length≤2000) {L:List (sp.Op×Value)} (h:sp.parseL 0 (sp.linesS b)=.inr (L.map (·.1))) {w W:World} {d:Value} (hr:PaR w L d W):ParseIs b W (.returned (.tuple #[d,.int .i64 0,.int .i64 0])):=by
 unfold ParseIs
 rw [if_neg (by omega),h]
 exact ⟨d,L,rfl,rfl,hr.row⟩
def PaAt (l:List (List UInt8)) (k:Nat) (ops:List sp.Op):Prop:=sp.parseL 0 l=match sp.parseL k (l.drop k) with
 | .inl n=>.inl n
 | .inr r=>.inr (ops++r)
section
variable {l:List (List UInt8)} {k:Nat} {ops:List sp.Op} {s:List UInt8}
theorem PaAt.start (l:List (List UInt8)):PaAt l 0 []:=by
 unfold PaAt
 rw [List.drop_zero]
 cases sp.parseL 0 l<;>rfl
theorem PaAt.fin (h:PaAt l k ops) (hk:l.length≤k):sp.parseL 0 l=.inr ops:=by
 unfold PaAt at h
 rw [List.drop_of_length_le hk,sp.parseL] at h
 simpa using h
theorem PaAt.bad (h:PaAt l k ops) (hk:k<l.length) (hs:l[k]=s) (hl:sp.lineS s=none):sp.parseL 0 l=.inl (k+1):=by
 unfold PaAt at h
 rw [List.drop_eq_getElem_cons hk,hs,sp.parseL,hl] at h
 exact h
theorem PaAt.skip (h:PaAt l k ops) (hk:k<l.length) (hs:l[k]=s) (hl:sp.lineS s=some none):PaAt l (k+1) ops:=by
 unfold PaAt at h ⊢
 rw [List.drop_eq_getElem_cons hk,hs,sp.parseL,hl] at h
 exact h
theorem PaAt.one (h:PaAt l k ops) (hk:k<l.length) (hs:l[k]=s) {o:sp.Op} (hl:sp.lineS s=some (some o)):PaAt l (k+1) (ops++[o]):=by
 unfold PaAt at h ⊢
 rw [List.drop_eq_getElem_cons hk,hs,sp.parseL,hl] at h
 simp only at h
 rw [h]
 cases sp.parseL (k+1) (l.drop (k+1)) with
 | inl n=>rfl
 | inr r=>simp
end
theorem str_el {B:Nat} {w wr:World} {a:Option Addr} {n c:Nat} {l:List (List UInt8)} (h:RowAt B w (.slice a n c) l.length (strCells l)) (hb:Below B w wr) {k:Nat} (hk:k<l.length):∃b off,a=some ⟨b,off,none⟩∧n=l.length∧wr.cell? ⟨b,off+k,none⟩=some (.string (bstr l[k])):=by
 have hn:n=l.length:=by obtain ⟨_,_,e,_⟩:=h;cases e;rfl
 subst hn
 obtain ⟨bx,off,rfl,hbx,hrg⟩:=h.place (by omega)
 exact ⟨bx,off,rfl,rfl,rangeAt_below hb hbx hrg k _ (by simp [strCells,hk])⟩
theorem start_eq (w:World):((w.alloc (.cells #[.int .i64 0,.int .i64 0,.int .i64 0,.int .i64 0,.string ⟨#[]⟩,.string ⟨#[]⟩,.slice none 0 0,.int .i64 0,.int .i64 0,.int .i64 0,.int .i64 0,.int .i64 0,.string ⟨#[]⟩,.int .i64 0,.int .i64 0,.int .i64 0,.int .i64 0,.bool false] 28)).alloc (.cells #[.bool false] 4)).alloc (.cells #[.int .i64 0] 29)=startL w:=rfl
theorem Res.row {n:Nat} {cs cs':Array Value} {sy:Bool} {er:Int} {W:World} (h:Res n (n+1) (n+2) cs sy er W):Res n (n+1) (n+2) cs' sy er (W.setRow n cs')∧Below n W (W.setRow n cs') :=
 ⟨⟨setRow_at h.op _,(setRow_far _ (by omega)).trans h.says,(setRow_far _ (by omega)).trans h.err⟩,below_setRow (Below.refl n W) (Nat.le_refl _) _⟩
theorem lineR_new (W:World) (s:List UInt8):LineR (W.alloc (.cells #[.string (bstr s),.int .i64 0] 61)) W.heap.size (bstr s) s:=⟨[],by rw [bstr_toList];rfl,heap_alloc_at _ _⟩
theorem after_words {w w2:World} {o:Obj} (hf:Fr ((startL w).alloc o) w2 (startL w).heap.size none):Res w.heap.size (w.heap.size+1) (w.heap.size+2) (zeroC 0) false 0 w2∧Below w.heap.size w w2:=by
 obtain ⟨hr,hb,hsz⟩:=start_res w
 have h1:Below (startL w).heap.size (startL w) w2:=(below_new (startL w) o).trans (hf.below (Nat.le_refl _) (fun g hg=>by cases hg) (by simp))
 exact ⟨hr.on h1,hb.trans (h1.mono (by omega))⟩
set_option maxRecDepth 100000 in
set_option maxHeartbeats 4000000 in
theorem line_nothing (s:List UInt8) (w:World) (h:10∉s) (h2:sp.silentB s=true):Calls Tryz.prog 9 #[.string (bstr s)] w fun e w'=>LineIs w.heap.size s w' e∧Below w.heap.size w w':=by
 have hmf:∀(fn:Fn) (first cap:Array Value) (w:World),(Instr.makeFunc fn first cap).run Tryz.prog w=.ok (.func fn first cap) w:=fun _ _ _ _=>rfl
 obtain ⟨hr,hb,_⟩:=start_res w
 have HR:=Lib.hid hr;have HB:=Lib.hid hb
 have HF:=Lib.hid (fun W=>lineIs_silent (B:=w.heap.size) (line_silent h h2) W)
 have HC:=Lib.hid (fun W=>contains_nl s W)
 rw [show decide (10∈s)=false by simpa using h] at HC
 have HS:=Lib.hid (fun W=>silent_any s W)
 rw [h2] at HS
 clear hr hb h h2
 go_enter_defers Tryz.func9,Tryz.ntmps9
 go_wp2_with (first
  | (go_at_call 24;refine (HC.out _).mono ?_;rintro e w1 ⟨rfl,rfl⟩)
  | (go_at_call 23;refine (must_yes _).mono ?_;rintro e w1 ⟨rfl,rfl⟩)
  | (go_at_call 25;refine (HS.out _).mono ?_;rintro e w1 ⟨rfl,rfl⟩;rw [start_eq];have HR1:=Lib.hid (HR.out.row (cs':=zeroC 0)).1;have HB1:=Lib.hid (HB.out.trans (HR.out.row (cs':=zeroC 0)).2))
  | (refine wpList_store_row rfl 28 _ _ rfl w.heap.size (zeroC 0) rfl rfl 28 _ HR.out.op size28' rfl zero_one ?_;obtain ⟨k0,k1,y0,y1⟩:=HR1.out.cells;generalize (startL w).setRow w.heap.size (zeroC 0)=W2 at *))
 obtain ⟨n1,n2,n3⟩:=ne12 w.heap.size
 have HG:=HR1.out.fin n1 n2 n3 false 0
 exact leave_ok HG.1 rfl ⟨rfl,rfl,rfl⟩ ⟨HF.out _,HB1.out.trans (HG.2 _ (Nat.le_succ _) (by omega))⟩
set_option maxRecDepth 100000 in
set_option maxHeartbeats 4000000 in
theorem line_no_words (s:List UInt8) (w:World) (h:10∉s) (h2:sp.silentB s=false) (hw:sp.words s=none) (hn:s.length≤1099511627776):Calls Tryz.prog 9 #[.string (bstr s)] w fun e w'=>LineIs w.heap.size s w' e∧Below w.heap.size w w':=by
 have hmf:∀(fn:Fn) (first cap:Array Value) (w:World),(Instr.makeFunc fn first cap).run Tryz.prog w=.ok (.func fn first cap) w:=fun _ _ _ _=>rfl
 obtain ⟨hr,hb,hsz⟩:=start_res w
 have HR:=Lib.hid hr;have HB:=Lib.hid hb
 have HF:=Lib.hid (fun W=>lineIs_none (B:=w.heap.size) (s:=s) (by rw [line_words h h2,hw]) W)
 have HC:=Lib.hid (fun W=>contains_nl s W)
 rw [show decide (10∈s)=false by simpa using h] at HC
 have HS:=Lib.hid (fun W=>silent_any s W)
 rw [h2] at HS
 have HL:=Lib.hid (lineR_new (startL w) s)
 have HW:=Lib.hid hw;have HN:=Lib.hid hn;have HSZ:=Lib.hid hsz
 clear hr hb h h2 hw hn hsz
 go_enter_defers Tryz.func9,Tryz.ntmps9
 go_wp2_with (first
  | (go_at_call 24;refine (HC.out _).mono ?_;rintro e w1 ⟨rfl,rfl⟩)
  | (go_at_call 23;refine (must_yes _).mono ?_;rintro e w1 ⟨rfl,rfl⟩)
  | (go_at_call 25;refine (HS.out _).mono ?_;rintro e w1 ⟨rfl,rfl⟩;rw [start_eq])
  | (go_at_call 26;refine (words_any _ (startL w).heap.size (bstr s) s HL.out (by rw [bstr_size];exact HN.out)).mono ?_;rintro e w2 ⟨he,hf⟩;unfold WordsIs at he;rw [HW.out] at he;subst he))
 have HA:=after_words hf
 exact leave_bar HA.1 rfl ⟨rfl,rfl,rfl⟩ fun W' hW=>⟨HF.out _,HA.2.trans hW⟩
structure LW (w:World) (g:Nat) (l:List (List UInt8×Bool)) (W:World):Prop where
 res:Res w.heap.size (w.heap.size+1) (w.heap.size+2) (zeroC 0) false 0 W
 row:∃cur,W.heap[g]?=some (.cells cur 71 (0,0))∧cur.toList.take (l.length*2)=wdCells l
 far:w.heap.size+2<g
 bel:Below w.heap.size w W
theorem LW.on {w W W':World} {g:Nat} {l:List (List UInt8×Bool)} (h:LW w g l W) (hb:Below W.heap.size W W'):LW w g l W':=by
 obtain ⟨cur,h1,h2⟩:=h.row
 have:=lt_of_block h.res.op
 exact ⟨h.res.on hb,⟨cur,(hb.block _ (lt_of_block h1)).trans h1,h2⟩,h.far,h.bel.trans (hb.mono (by omega))⟩
theorem LW.cell {w W:World} {g:Nat} {l:List (List UInt8×Bool)} (h:LW w g l W) {j:Nat} {u:Value} (hj:(wdCells l)[j]?=some u):W.cell? ⟨g,j,none⟩=some u:=by
 obtain ⟨cur,h1,h2⟩:=h.row
 rw [cell_of_row W g j cur 71 (0,0) h1]
 have h3:=hj
 rw [←h2,List.getElem?_take] at h3
 split at h3
 ·simpa using h3
 ·cases h3
theorem lw_start {w w2:World} {o:Obj} {v:Value} {l:List (List UInt8×Bool)} (hf:Fr ((startL w).alloc o) w2 (startL w).heap.size none) (hown:w2.ownsRow ((startL w).alloc o).heap.size 71 2 v l.length (wdCells l)) (h0:l≠[]) :
  ∃g cap,v=.slice (some ⟨g,0,none⟩) l.length cap∧l.length≤cap∧cap≤maxLen∧LW w g l w2:=by
 have hA:=after_words hf
 obtain ⟨_,_,hsz⟩:=start_res w
 rcases hown.2 with ⟨_,hz⟩ | ⟨g,cap,cur,hv,hbg,hg,hnc,hcm,hcs,htake⟩
 ·exact absurd (List.length_eq_zero_iff.1 hz) h0
 ·refine ⟨g,cap,hv,hnc,hcm,hA.1,⟨cur,hg,htake⟩,?_,hA.2⟩
  simp at hbg
  omega
def CutQ (N:Act→World→Prop) (PS:List PanicEntry→Act→World→Prop):Exit→Act→World→Prop
 | .normal,a,w=>N a w
 | .panic c,a,w=>PS c a w
 | _,_,_=>False
theorem wp_cut {P:Program} {c:Code} {Q:Exit→Act→World→Prop} {a:Act} {w:World} (N:Act→World→Prop) (PS:List PanicEntry→Act→World→Prop) (hp:∀c a W,PS c a W→Q (.panic c) a W) (h:c.wp P (CutQ N PS) a w) (hn:∀a W,N a W→Q .normal a W):c.wp P Q a w :=
 wp_mono h fun e a W hX=>by
  cases e with
  | panic c=>exact hp c a W hX
  | normal=>exact hn a W hX
  | ret=>exact (hX:False).elim
  | exit _=>exact (hX:False).elim
  | goto _=>exact (hX:False).elim
  | outgrown=>exact (hX:False).elim
theorem LW.pan {w W:World} {g:Nat} {l:List (List UInt8×Bool)} {a:Act} (h:LW w g l W) (hd:a.defers=defL w.heap.size) (hs:SlotsL w.heap.size a.tmps):PanSt w.heap.size w bar a W:=⟨rfl,hd,hs,⟨_,_,_,rfl,h.res⟩,h.bel⟩
def zr:Array Value:=#[.int .i64 0,.int .i64 0,.nilFunc]
def actL (n g cap m lz:Nat) (s:List UInt8) (p:List UInt8×Bool) (rv:Value) (okb:Bool) (R M:Nat):Act :=
 ⟨#[.string (bstr s),undef,.pointer (some ⟨n,0,none⟩),.pointer (some ⟨n+1,0,none⟩),.pointer (some ⟨n+1+1,0,none⟩),.slice (some ⟨g,0,none⟩) m cap,.pointer (some ⟨R,0,none⟩),.bool okb,
  .func (.func 22) #[] #[.pointer (some ⟨n,0,none⟩),.pointer (some ⟨n+1,0,none⟩),.pointer (some ⟨n+1+1,0,none⟩)],.string (bstr s),.bool false,.bool true,.tuple #[],.string (bstr s),.bool false,undef,.string (bstr s),.agg #[.string (bstr s),.int .i64 0],
  .pointer (some ⟨lz,0,none⟩),.slice (some ⟨g,0,none⟩) m cap,.tuple #[rv,.bool okb],.map (some M),.slice (some ⟨g,0,none⟩) m cap,.pointer (some ⟨g,0,none⟩),.agg #[.string (bstr p.1),.bool p.2],.string (bstr p.1),.tuple #[rv,.bool okb],rv,.bool okb,
  undef,undef,undef,undef,undef,undef,undef,undef,undef,undef,undef,undef,undef,undef,undef,undef,undef,undef,undef],defL n⟩
theorem row_range {name:List UInt8} {r:Rw} (hr:(name,r)∈rowsL):0≤r.n∧r.n≤5:=by
 have:∀p∈rowsL,0≤p.2.n∧p.2.n≤5:=by decide
 exact this _ hr
theorem LW.put {w W:World} {g R:Nat} {l:List (List UInt8×Bool)} (h:LW w g l W) (hR:W.heap[R]?=some (.cells zr 65 (0,0))) (hn:w.heap.size+2<R) (a b c:Value):LW w g l (((W.setCell ⟨R,0,none⟩ a).setCell ⟨R,1,none⟩ b).setCell ⟨R,2,none⟩ c)∧(((W.setCell ⟨R,0,none⟩ a).setCell ⟨R,1,none⟩ b).setCell ⟨R,2,none⟩ c).heap[R]?=some (.cells #[a,b,c] 65 (0,0)):=by
 obtain ⟨cur,h1,h2⟩:=h.row
 have hgR:R≠g:=fun e=>by rw [e,h1] at hR;cases hR
 refine ⟨⟨⟨?_,?_,?_⟩,⟨cur,?_,h2⟩,h.far,?_⟩,?_⟩
 ·rw [heap_other (by omega),heap_other (by omega),heap_other (by omega)];exact h.res.op
 ·rw [heap_other (by omega),heap_other (by omega),heap_other (by omega)];exact h.res.says
 ·rw [heap_other (by omega),heap_other (by omega),heap_other (by omega)];exact h.res.err
 ·rw [heap_other hgR,heap_other hgR,heap_other hgR];exact h1
 ·exact ((h.bel.setCell (show w.heap.size≤R by omega) _).setCell (show w.heap.size≤R by omega) _).setCell (show w.heap.size≤R by omega) _
 ·have:=blk_set (blk_set (blk_set hR 0 a) 1 b) 2 c
  simpa [zr] using this
set_option maxRecDepth 100000 in
set_option maxHeartbeats 8000000 in
theorem line_quoted (s:List UInt8) (w:World) (h:10∉s) (h2:sp.silentB s=false) (p:List UInt8×Bool) (l:List (List UInt8×Bool)) (hp:p.2=true) (hw:sp.words s=some (p :: l)) (hn:s.length≤1099511627776):Calls Tryz.prog 9 #[.string (bstr s)] w fun e w'=>LineIs w.heap.size s w' e∧Below w.heap.size w w':=by
 have HPAN:=Lib.hid (fun W=>lineIs_none (B:=w.heap.size) (s:=s) (by rw [line_words h h2,hw];obtain ⟨a,b⟩:=p;simp only at hp;subst hp;rfl) W)
 have HPX:Hid (sp.wPlain p=none):=Lib.hid (by unfold sp.wPlain;rw [if_pos hp])
 clear hp
 have hmf:∀(fn:Fn) (first cap:Array Value) (w:World),(Instr.makeFunc fn first cap).run Tryz.prog w=.ok (.func fn first cap) w:=fun _ _ _ _=>rfl
 obtain ⟨hr,hb,hsz⟩:=start_res w
 have HC:=Lib.hid (fun W=>contains_nl s W)
 rw [show decide (10∈s)=false by simpa using h] at HC
 have HS:=Lib.hid (fun W=>silent_any s W)
 rw [h2] at HS
 have HL:=Lib.hid (lineR_new (startL w) s)
 have HP:=Lib.hid (fun W=>wplain_any p W)
 have HW:=Lib.hid hw;have HN:=Lib.hid hn;have HSZ:=Lib.hid hsz
 clear hr hb h h2 hw hn hsz
 go_enter_defers Tryz.func9,Tryz.ntmps9
 go_wp2_with (first
  | (go_at_call 24;refine (HC.out _).mono ?_;rintro e w1 ⟨rfl,rfl⟩)
  | (go_at_call 23;refine (must_yes _).mono ?_;rintro e w1 ⟨rfl,rfl⟩)
  | (go_at_call 25;refine (HS.out _).mono ?_;rintro e w1 ⟨rfl,rfl⟩;rw [start_eq])
  | (go_at_call 26;refine (words_any _ (startL w).heap.size (bstr s) s HL.out (by rw [bstr_size];exact HN.out)).mono ?_;rintro e w2 ⟨he,hf⟩;unfold WordsIs at he;rw [HW.out] at he;obtain ⟨v,rfl,hown⟩:=he;obtain ⟨g,cap,rfl,hc1,hc2,hlw⟩:=lw_start hf hown (by simp);have H0:=Lib.hid hlw;have HC1:=Lib.hid hc1;have HC2:=Lib.hid hc2;clear hf hown hlw hc1 hc2))
 refine wp_cut (fun _ _=>False) (PanSt w.heap.size w) ?_ ?_ ?_
 ·rintro c a W h
  obtain ⟨cs,sy,er,q1,q2⟩:=h.res
  rw [h.bar]
  show Leaves Tryz.prog Tryz.f9 a.tmps _ a.defers (.panicking bar) W
  rw [h.defers]
  exact leave_bar q2 q1 h.slots fun W' hW=>⟨HPAN.out _,h.bel.trans hW⟩
 ·have H0:=Lib.hid (H0.out.on (Below.refl _ _).drew)
  refine wp_region_held_drew (S:=fun W=>LW w g (p :: l) W) (by kernel_rfl) H0.out (fun hHeld => ?_)
  refine tk 1 (.slice (some ⟨g,0,none⟩) (l.length+1) cap) rfl hHeld (fun s hs=>by go_simp) ?_ (hQ:=fun _ _ _ h=>h.unput (by decide))
  refine tk 2 (.pointer (some ⟨g,0,none⟩)) rfl hHeld (fun s hs=>by go_simp<;>omega) ?_ (hQ:=fun _ _ _ h=>h.unput (by decide))
  refine tk 3 (.agg #[.string (bstr p.1),.bool p.2]) rfl hHeld (fun s hs=>by have e0:s.cell? ⟨g,0,none⟩=some (.string (bstr p.1)):=LW.cell hs rfl;have e1:s.cell? ⟨g,1,none⟩=some (.bool p.2):=LW.cell hs rfl;go_simp) ?_ (hQ:=fun _ _ _ h=>h.unput (by decide))
  generalize w2.drew=u0 at *
  refine wpAnyH_ready (rs:=[0,9]) (by kernel_rfl) (by simp) ?_
  refine AllReadyH.cons rfl (fun K hK => ?_) (AllReadyH.cons rfl (fun K hK => ?_) AllReadyH.nil)
  ·rw [if_pos (by kernel_rfl)]
   go_simp
   refine (rows_any _).mono ?_
   rintro e u1 ⟨rfl,hm,hb⟩
   obtain ⟨M,hM⟩:∃M,M=u0.heap.size:=⟨_,rfl⟩
   rw [←hM] at hm ⊢
   have H1:=Lib.hid (H0.out.on hb)
   have HM1:=Lib.hid hm
   clear hm hb hM
   refine hK.out _ _ H1.out (fun hHeld => ?_)
   clear hK
   refine wpAnyH_ready (rs:=[4,9]) (by kernel_rfl) (by simp) ?_
   refine AllReadyH.cons rfl (fun K hK => ?_) (AllReadyH.cons rfl (fun K hK => ?_) AllReadyH.nil)
   ·rw [if_pos (by kernel_rfl)]
    go_simp
    refine (HP.out _).mono ?_
    rintro e u2 ⟨he,hb⟩
    unfold PlainIs at he
    rw [HPX.out] at he
    subst he
    have H2:=Lib.hid (H1.out.on hb)
    exact H2.out.pan rfl ⟨rfl,rfl,rfl⟩
   ·rw [if_pos (by kernel_rfl)]
    go_simp
    have H2:=Lib.hid (H1.out.on (below_new _ (.cells zr 65)))
    obtain ⟨R,hR⟩:∃R,R=u1.heap.size:=⟨_,rfl⟩
    have HR2:=Lib.hid (heap_alloc_at u1 (.cells zr 65))
    have HRN:=Lib.hid (show w.heap.size+2<R by have:=lt_of_block H1.out.row.choose_spec.1;have:=H1.out.far;omega)
    have HM2:=Lib.hid (HM1.out.below (below_new _ (.cells zr 65)) HM1.out.lt)
    rw [←hR] at HR2 ⊢
    clear hR
    change K _ (u1.alloc (.cells zr 65))
    generalize u1.alloc (.cells zr 65)=u2 at H2 HR2 HM2 ⊢
    refine hK.out _ _ H2.out (fun hHeld => ?_)
    clear hK
    refine rd1 4 rfl fun K hK => ?_
    go_simp
    refine (HP.out _).mono ?_
    rintro e u3 ⟨he,hb⟩
    unfold PlainIs at he
    rw [HPX.out] at he
    subst he
    have H3:=Lib.hid (H2.out.on hb)
    exact H3.out.pan rfl ⟨rfl,rfl,rfl⟩
  ·rw [if_pos (by kernel_rfl)]
   go_simp
   have H1:=Lib.hid (H0.out.on (below_new _ (.cells zr 65)))
   obtain ⟨R,hR⟩:∃R,R=u0.heap.size:=⟨_,rfl⟩
   have HR1:=Lib.hid (heap_alloc_at u0 (.cells zr 65))
   have HRN:=Lib.hid (show w.heap.size+2<R by have:=lt_of_block H0.out.row.choose_spec.1;have:=H0.out.far;omega)
   rw [←hR] at HR1 ⊢
   clear hR
   change K _ (u0.alloc (.cells zr 65))
   generalize u0.alloc (.cells zr 65)=u1 at H1 HR1 ⊢
   refine hK.out _ _ H1.out (fun hHeld => ?_)
   clear hK
   refine rd1 0 rfl fun K hK => ?_
   go_simp
   refine (rows_any _).mono ?_
   rintro e u2 ⟨rfl,hm,hb⟩
   obtain ⟨M,hM⟩:∃M,M=u1.heap.size:=⟨_,rfl⟩
   rw [←hM] at hm ⊢
   have H2:=Lib.hid (H1.out.on hb)
   have HM2:=Lib.hid hm
   have HR2:=Lib.hid ((hb.block _ (lt_of_block HR1.out)).trans HR1.out)
   clear hm hb hM
   refine hK.out _ _ H2.out (fun hHeld => ?_)
   clear hK
   refine rd1 4 rfl fun K hK => ?_
   go_simp
   refine (HP.out _).mono ?_
   rintro e u3 ⟨he,hb⟩
   unfold PlainIs at he
   rw [HPX.out] at he
   subst he
   have H3:=Lib.hid (H2.out.on hb)
   exact H3.out.pan rfl ⟨rfl,rfl,rfl⟩
 ·intro a W h
  exact h.elim
theorem elem58:Tryz.prog.elem 58=71:=by kernel_rfl
theorem sizeOf71 (W:World):(sizeOf 71).run Tryz.prog W=.ok 2 W:=by kernel_rfl
theorem slice_rest (W:World) (g m cap:Nat) (h1:m+1≤cap) (h2:cap≤maxLen):(Instr.sliceAt 58 (.slice (some ⟨g,0,none⟩) (m+1) cap) (some (.int .i64 1)) none none).run Tryz.prog W=.ok (.slice (some (if cap=1 then ⟨g,0,none⟩ else ⟨g,2,none⟩)) m (cap-1)) W:=by
 have hu:Tryz.prog.underlying 58=some (.slice (Tryz.prog.elem 58)):=by rw [elem58];exact Tryz.underlying58
 rw [run_sliceAt_slice W 58 _ _ _ _ hu,run_slice_l W 58 (some ⟨g,0,none⟩) (m+1) cap hu .i64 1 (by omega) (by omega),elem58,sizeOf71]
 simp only [Result.andThen,sliced]
 by_cases hc:cap=1
 ·subst hc
  simp
 ·simp [hc,Addr.add]
set_option maxRecDepth 100000 in
theorem row_enters {name:List UInt8} {r:Rw} (hr:(name,r)∈rowsL) (args:Array Value) (W:World):(callFunc r.g args).run Tryz.prog W=.ok (.enter r.g args) W:=by
 simp only [rowsL,List.mem_cons,List.not_mem_nil,or_false,Prod.mk.injEq] at hr
 rcases hr with ⟨_,rfl⟩ | ⟨_,rfl⟩ | ⟨_,rfl⟩ | ⟨_,rfl⟩ | ⟨_,rfl⟩ | ⟨_,rfl⟩ | ⟨_,rfl⟩ | ⟨_,rfl⟩ | ⟨_,rfl⟩ | ⟨_,rfl⟩ | ⟨_,rfl⟩ | ⟨_,rfl⟩ | ⟨_,rfl⟩ | ⟨_,rfl⟩ | ⟨_,rfl⟩
 all_goals first | exact enters_of Tryz.func49 (by kernel_rfl) rfl args W | exact enters_of Tryz.func51 (by kernel_rfl) rfl args W | exact enters_of Tryz.func52 (by kernel_rfl) rfl args W | exact enters_of Tryz.func54 (by kernel_rfl) rfl args W | exact enters_of Tryz.func56 (by kernel_rfl) rfl args W | exact enters_of Tryz.func57 (by kernel_rfl) rfl args W | exact enters_of Tryz.func58 (by kernel_rfl) rfl args W | exact enters_of Tryz.func59 (by kernel_rfl) rfl args W | exact enters_of Tryz.func60 (by kernel_rfl) rfl args W | exact enters_of Tryz.func61 (by kernel_rfl) rfl args W | exact enters_of Tryz.func62 (by kernel_rfl) rfl args W
set_option maxRecDepth 100000 in
set_option maxHeartbeats 8000000 in
theorem line_unknown (s:List UInt8) (w:World) (h:10∉s) (h2:sp.silentB s=false) (p:List UInt8×Bool) (l:List (List UInt8×Bool)) (hp:p.2=false) (hq:p.1∉rowsL.map (·.1)) (hw:sp.words s=some (p :: l)) (hn:s.length≤1099511627776):Calls Tryz.prog 9 #[.string (bstr s)] w fun e w'=>LineIs w.heap.size s w' e∧Below w.heap.size w w':=by
 have HPAN:=Lib.hid (fun W=>lineIs_none (B:=w.heap.size) (s:=s) (by rw [line_words h h2,hw];obtain ⟨a,b⟩:=p;simp only at hp;subst hp;show (sp.opS a l).map some=none;rw [op_unknown hq];rfl) W)
 have HPX:Hid (sp.wPlain p=some p.1):=Lib.hid (by unfold sp.wPlain;rw [if_neg (by rw [hp];decide)])
 have hpl:p.1.length≤maxLen:=by
  have:=(words_len _ s (Nat.le_refl _) _ hw).1 p List.mem_cons_self
  unfold maxLen
  omega
 obtain ⟨K0,e0⟩:∃v:Int,v=0:=⟨_,rfl⟩
 obtain ⟨N0,e1⟩:∃v:Int,v=0:=⟨_,rfl⟩
 obtain ⟨okb,e3⟩:∃v,v=false:=⟨_,rfl⟩
 have HLK:Hid (∀W M,MapIs W M rowsL→(Instr.lookup 67 (.map (some M)) (.string (bstr p.1)) true).run Tryz.prog W=.ok (.tuple #[.agg #[.int .i64 K0,.int .i64 N0,.nilFunc],.bool okb]) W):=Lib.hid (fun W M hm=>by rw [e0,e1,e3];exact hm.lookOk_none hpl hq)
 have E3:=Lib.hid e3
 clear hp hq hpl e0 e1 e3
 have hmf:∀(fn:Fn) (first cap:Array Value) (w:World),(Instr.makeFunc fn first cap).run Tryz.prog w=.ok (.func fn first cap) w:=fun _ _ _ _=>rfl
 obtain ⟨hr,hb,hsz⟩:=start_res w
 have HC:=Lib.hid (fun W=>contains_nl s W)
 rw [show decide (10∈s)=false by simpa using h] at HC
 have HS:=Lib.hid (fun W=>silent_any s W)
 rw [h2] at HS
 have HL:=Lib.hid (lineR_new (startL w) s)
 have HP:=Lib.hid (fun W=>wplain_any p W)
 have HW:=Lib.hid hw;have HN:=Lib.hid hn;have HSZ:=Lib.hid hsz
 clear hr hb h h2 hw hn hsz
 go_enter_defers Tryz.func9,Tryz.ntmps9
 go_wp2_with (first
  | (go_at_call 24;refine (HC.out _).mono ?_;rintro e w1 ⟨rfl,rfl⟩)
  | (go_at_call 23;refine (must_yes _).mono ?_;rintro e w1 ⟨rfl,rfl⟩)
  | (go_at_call 25;refine (HS.out _).mono ?_;rintro e w1 ⟨rfl,rfl⟩;rw [start_eq])
  | (go_at_call 26;refine (words_any _ (startL w).heap.size (bstr s) s HL.out (by rw [bstr_size];exact HN.out)).mono ?_;rintro e w2 ⟨he,hf⟩;unfold WordsIs at he;rw [HW.out] at he;obtain ⟨v,rfl,hown⟩:=he;obtain ⟨g,cap,rfl,hc1,hc2,hlw⟩:=lw_start hf hown (by simp);have H0:=Lib.hid hlw;have HC1:=Lib.hid hc1;have HC2:=Lib.hid hc2;clear hf hown hlw hc1 hc2))
 refine wp_cut (fun a W=>∃R M,a=actL w.heap.size g cap (l.length+1) (startL w).heap.size s p (.agg #[(.int .i64 K0),(.int .i64 N0),(.nilFunc)]) okb R M∧W.heap[R]?=some (.cells #[(.int .i64 K0),(.int .i64 N0),(.nilFunc)] 65 (0,0))∧LW w g (p :: l) W∧w.heap.size+2<R) (PanSt w.heap.size w) ?_ ?_ ?_
 ·rintro c a W h
  obtain ⟨cs,sy,er,q1,q2⟩:=h.res
  rw [h.bar]
  show Leaves Tryz.prog Tryz.f9 a.tmps _ a.defers (.panicking bar) W
  rw [h.defers]
  exact leave_bar q2 q1 h.slots fun W' hW=>⟨HPAN.out _,h.bel.trans hW⟩
 ·have H0:=Lib.hid (H0.out.on (Below.refl _ _).drew)
  refine wp_region_held_drew (S:=fun W=>LW w g (p :: l) W) (by kernel_rfl) H0.out (fun hHeld => ?_)
  refine tk 1 (.slice (some ⟨g,0,none⟩) (l.length+1) cap) rfl hHeld (fun s hs=>by go_simp) ?_ (hQ:=fun _ _ _ h=>h.unput (by decide))
  refine tk 2 (.pointer (some ⟨g,0,none⟩)) rfl hHeld (fun s hs=>by go_simp<;>omega) ?_ (hQ:=fun _ _ _ h=>h.unput (by decide))
  refine tk 3 (.agg #[.string (bstr p.1),.bool p.2]) rfl hHeld (fun s hs=>by have e0:s.cell? ⟨g,0,none⟩=some (.string (bstr p.1)):=LW.cell hs rfl;have e1:s.cell? ⟨g,1,none⟩=some (.bool p.2):=LW.cell hs rfl;go_simp) ?_ (hQ:=fun _ _ _ h=>h.unput (by decide))
  generalize w2.drew=u0 at *
  refine wpAnyH_ready (rs:=[0,9]) (by kernel_rfl) (by simp) ?_
  refine AllReadyH.cons rfl (fun K hK => ?_) (AllReadyH.cons rfl (fun K hK => ?_) AllReadyH.nil)
  ·rw [if_pos (by kernel_rfl)]
   go_simp
   refine (rows_any _).mono ?_
   rintro e u1 ⟨rfl,hm,hb⟩
   obtain ⟨M,hM⟩:∃M,M=u0.heap.size:=⟨_,rfl⟩
   rw [←hM] at hm ⊢
   have H1:=Lib.hid (H0.out.on hb)
   have HM1:=Lib.hid hm
   clear hm hb hM
   refine hK.out _ _ H1.out (fun hHeld => ?_)
   clear hK
   refine wpAnyH_ready (rs:=[4,9]) (by kernel_rfl) (by simp) ?_
   refine AllReadyH.cons rfl (fun K hK => ?_) (AllReadyH.cons rfl (fun K hK => ?_) AllReadyH.nil)
   ·rw [if_pos (by kernel_rfl)]
    go_simp
    refine (HP.out _).mono ?_
    rintro e u2 ⟨he,hb⟩
    unfold PlainIs at he
    rw [HPX.out] at he
    subst he
    have H2:=Lib.hid (H1.out.on hb)
    have HM2:=Lib.hid (HM1.out.below hb HM1.out.lt)
    clear hb
    refine hK.out _ _ H2.out (fun hHeld => ?_)
    clear hK
    refine wpAnyH_ready (rs:=[5,9]) (by kernel_rfl) (by simp) ?_
    refine AllReadyH.cons rfl (fun K hK => ?_) (AllReadyH.cons rfl (fun K hK => ?_) AllReadyH.nil)
    ·rw [if_pos (by kernel_rfl)]
     have hlk:=HLK.out _ _ HM2.out
     go_simp
     clear hlk
     refine hK.out _ _ H2.out (fun hHeld => ?_)
     clear hK
     refine tk 6 (.tuple #[.agg #[(.int .i64 K0),(.int .i64 N0),(.nilFunc)],.bool okb]) rfl hHeld (fun s hs=>by go_simp) ?_ (hQ:=fun _ _ _ h=>h.unput (by decide))
     refine tk 7 (.agg #[(.int .i64 K0),(.int .i64 N0),(.nilFunc)]) rfl hHeld (fun s hs=>by go_simp) ?_ (hQ:=fun _ _ _ h=>h.unput (by decide))
     refine tk 8 (.bool okb) rfl hHeld (fun s hs=>by go_simp) ?_ (hQ:=fun _ _ _ h=>h.unput (by decide))
     refine rd1 9 rfl fun K hK => ?_
     go_simp
     have H3:=Lib.hid (H2.out.on (below_new _ (.cells zr 65)))
     obtain ⟨R,hR⟩:∃R,R=u2.heap.size:=⟨_,rfl⟩
     have HR3:=Lib.hid (heap_alloc_at u2 (.cells zr 65))
     have HRN:=Lib.hid (show w.heap.size+2<R by have:=lt_of_block H2.out.row.choose_spec.1;have:=H2.out.far;omega)
     have HM3:=Lib.hid (HM2.out.below (below_new _ (.cells zr 65)) HM2.out.lt)
     rw [←hR] at HR3 ⊢
     clear hR
     change K _ (u2.alloc (.cells zr 65))
     generalize u2.alloc (.cells zr 65)=u3 at H3 HR3 HM3 ⊢
     refine hK.out _ _ H3.out (fun hHeld => ?_)
     clear hK
     refine rd1 10 rfl fun K hK => ?_
     have r0:u3.cell? ⟨R,0,none⟩=some (.int .i64 0):=by rw [Lib.cell_of_heap HR3.out];rfl
     have r1:u3.cell? ⟨R,1,none⟩=some (.int .i64 0):=by rw [Lib.cell_of_heap HR3.out];rfl
     have r2:u3.cell? ⟨R,2,none⟩=some .nilFunc:=by rw [Lib.cell_of_heap HR3.out];rfl
     have f0:=blk_free HR3.out 0
     have f1:=blk_free HR3.out 1
     have f2:=blk_free HR3.out 2
     go_simp
     have HX:=H3.out.put HR3.out HRN.out (.int .i64 K0) (.int .i64 N0) (.nilFunc)
     refine hK.out _ _ HX.1 (fun hHeld => ?_)
     refine tk 11 (.bool okb) rfl hHeld (fun s hs=>by go_simp) ?_ (hQ:=fun _ _ _ h=>h.unput (by decide))
     refine wpAnyH_done (by kernel_rfl) ?_ _
     exact ⟨R,M,rfl,HX.2,HX.1,HRN.out⟩
    ·rw [if_pos (by kernel_rfl)]
     go_simp
     have H3:=Lib.hid (H2.out.on (below_new _ (.cells zr 65)))
     obtain ⟨R,hR⟩:∃R,R=u2.heap.size:=⟨_,rfl⟩
     have HR3:=Lib.hid (heap_alloc_at u2 (.cells zr 65))
     have HRN:=Lib.hid (show w.heap.size+2<R by have:=lt_of_block H2.out.row.choose_spec.1;have:=H2.out.far;omega)
     have HM3:=Lib.hid (HM2.out.below (below_new _ (.cells zr 65)) HM2.out.lt)
     rw [←hR] at HR3 ⊢
     clear hR
     change K _ (u2.alloc (.cells zr 65))
     generalize u2.alloc (.cells zr 65)=u3 at H3 HR3 HM3 ⊢
     refine hK.out _ _ H3.out (fun hHeld => ?_)
     clear hK
     refine rd1 5 rfl fun K hK => ?_
     have hlk:=HLK.out _ _ HM3.out
     go_simp
     clear hlk
     refine hK.out _ _ H3.out (fun hHeld => ?_)
     clear hK
     refine tk 6 (.tuple #[.agg #[(.int .i64 K0),(.int .i64 N0),(.nilFunc)],.bool okb]) rfl hHeld (fun s hs=>by go_simp) ?_ (hQ:=fun _ _ _ h=>h.unput (by decide))
     refine tk 7 (.agg #[(.int .i64 K0),(.int .i64 N0),(.nilFunc)]) rfl hHeld (fun s hs=>by go_simp) ?_ (hQ:=fun _ _ _ h=>h.unput (by decide))
     refine tk 8 (.bool okb) rfl hHeld (fun s hs=>by go_simp) ?_ (hQ:=fun _ _ _ h=>h.unput (by decide))
     refine rd1 10 rfl fun K hK => ?_
     have r0:u3.cell? ⟨R,0,none⟩=some (.int .i64 0):=by rw [Lib.cell_of_heap HR3.out];rfl
     have r1:u3.cell? ⟨R,1,none⟩=some (.int .i64 0):=by rw [Lib.cell_of_heap HR3.out];rfl
     have r2:u3.cell? ⟨R,2,none⟩=some .nilFunc:=by rw [Lib.cell_of_heap HR3.out];rfl
     have f0:=blk_free HR3.out 0
     have f1:=blk_free HR3.out 1
     have f2:=blk_free HR3.out 2
     go_simp
     have HX:=H3.out.put HR3.out HRN.out (.int .i64 K0) (.int .i64 N0) (.nilFunc)
     refine hK.out _ _ HX.1 (fun hHeld => ?_)
     refine tk 11 (.bool okb) rfl hHeld (fun s hs=>by go_simp) ?_ (hQ:=fun _ _ _ h=>h.unput (by decide))
     refine wpAnyH_done (by kernel_rfl) ?_ _
     exact ⟨R,M,rfl,HX.2,HX.1,HRN.out⟩
   ·rw [if_pos (by kernel_rfl)]
    go_simp
    have H2:=Lib.hid (H1.out.on (below_new _ (.cells zr 65)))
    obtain ⟨R,hR⟩:∃R,R=u1.heap.size:=⟨_,rfl⟩
    have HR2:=Lib.hid (heap_alloc_at u1 (.cells zr 65))
    have HRN:=Lib.hid (show w.heap.size+2<R by have:=lt_of_block H1.out.row.choose_spec.1;have:=H1.out.far;omega)
    have HM2:=Lib.hid (HM1.out.below (below_new _ (.cells zr 65)) HM1.out.lt)
    rw [←hR] at HR2 ⊢
    clear hR
    change K _ (u1.alloc (.cells zr 65))
    generalize u1.alloc (.cells zr 65)=u2 at H2 HR2 HM2 ⊢
    refine hK.out _ _ H2.out (fun hHeld => ?_)
    clear hK
    refine rd1 4 rfl fun K hK => ?_
    go_simp
    refine (HP.out _).mono ?_
    rintro e u3 ⟨he,hb⟩
    unfold PlainIs at he
    rw [HPX.out] at he
    subst he
    have H3:=Lib.hid (H2.out.on hb)
    have HM3:=Lib.hid (HM2.out.below hb HM2.out.lt)
    have HR3:=Lib.hid ((hb.block _ (lt_of_block HR2.out)).trans HR2.out)
    clear hb
    refine hK.out _ _ H3.out (fun hHeld => ?_)
    clear hK
    refine rd1 5 rfl fun K hK => ?_
    have hlk:=HLK.out _ _ HM3.out
    go_simp
    clear hlk
    refine hK.out _ _ H3.out (fun hHeld => ?_)
    clear hK
    refine tk 6 (.tuple #[.agg #[(.int .i64 K0),(.int .i64 N0),(.nilFunc)],.bool okb]) rfl hHeld (fun s hs=>by go_simp) ?_ (hQ:=fun _ _ _ h=>h.unput (by decide))
    refine tk 7 (.agg #[(.int .i64 K0),(.int .i64 N0),(.nilFunc)]) rfl hHeld (fun s hs=>by go_simp) ?_ (hQ:=fun _ _ _ h=>h.unput (by decide))
    refine tk 8 (.bool okb) rfl hHeld (fun s hs=>by go_simp) ?_ (hQ:=fun _ _ _ h=>h.unput (by decide))
    refine rd1 10 rfl fun K hK => ?_
    have r0:u3.cell? ⟨R,0,none⟩=some (.int .i64 0):=by rw [Lib.cell_of_heap HR3.out];rfl
    have r1:u3.cell? ⟨R,1,none⟩=some (.int .i64 0):=by rw [Lib.cell_of_heap HR3.out];rfl
    have r2:u3.cell? ⟨R,2,none⟩=some .nilFunc:=by rw [Lib.cell_of_heap HR3.out];rfl
    have f0:=blk_free HR3.out 0
    have f1:=blk_free HR3.out 1
    have f2:=blk_free HR3.out 2
    go_simp
    have HX:=H3.out.put HR3.out HRN.out (.int .i64 K0) (.int .i64 N0) (.nilFunc)
    refine hK.out _ _ HX.1 (fun hHeld => ?_)
    refine tk 11 (.bool okb) rfl hHeld (fun s hs=>by go_simp) ?_ (hQ:=fun _ _ _ h=>h.unput (by decide))
    refine wpAnyH_done (by kernel_rfl) ?_ _
    exact ⟨R,M,rfl,HX.2,HX.1,HRN.out⟩
  ·rw [if_pos (by kernel_rfl)]
   go_simp
   have H1:=Lib.hid (H0.out.on (below_new _ (.cells zr 65)))
   obtain ⟨R,hR⟩:∃R,R=u0.heap.size:=⟨_,rfl⟩
   have HR1:=Lib.hid (heap_alloc_at u0 (.cells zr 65))
   have HRN:=Lib.hid (show w.heap.size+2<R by have:=lt_of_block H0.out.row.choose_spec.1;have:=H0.out.far;omega)
   rw [←hR] at HR1 ⊢
   clear hR
   change K _ (u0.alloc (.cells zr 65))
   generalize u0.alloc (.cells zr 65)=u1 at H1 HR1 ⊢
   refine hK.out _ _ H1.out (fun hHeld => ?_)
   clear hK
   refine rd1 0 rfl fun K hK => ?_
   go_simp
   refine (rows_any _).mono ?_
   rintro e u2 ⟨rfl,hm,hb⟩
   obtain ⟨M,hM⟩:∃M,M=u1.heap.size:=⟨_,rfl⟩
   rw [←hM] at hm ⊢
   have H2:=Lib.hid (H1.out.on hb)
   have HM2:=Lib.hid hm
   have HR2:=Lib.hid ((hb.block _ (lt_of_block HR1.out)).trans HR1.out)
   clear hm hb hM
   refine hK.out _ _ H2.out (fun hHeld => ?_)
   clear hK
   refine rd1 4 rfl fun K hK => ?_
   go_simp
   refine (HP.out _).mono ?_
   rintro e u3 ⟨he,hb⟩
   unfold PlainIs at he
   rw [HPX.out] at he
   subst he
   have H3:=Lib.hid (H2.out.on hb)
   have HM3:=Lib.hid (HM2.out.below hb HM2.out.lt)
   have HR3:=Lib.hid ((hb.block _ (lt_of_block HR2.out)).trans HR2.out)
   clear hb
   refine hK.out _ _ H3.out (fun hHeld => ?_)
   clear hK
   refine rd1 5 rfl fun K hK => ?_
   have hlk:=HLK.out _ _ HM3.out
   go_simp
   clear hlk
   refine hK.out _ _ H3.out (fun hHeld => ?_)
   clear hK
   refine tk 6 (.tuple #[.agg #[(.int .i64 K0),(.int .i64 N0),(.nilFunc)],.bool okb]) rfl hHeld (fun s hs=>by go_simp) ?_ (hQ:=fun _ _ _ h=>h.unput (by decide))
   refine tk 7 (.agg #[(.int .i64 K0),(.int .i64 N0),(.nilFunc)]) rfl hHeld (fun s hs=>by go_simp) ?_ (hQ:=fun _ _ _ h=>h.unput (by decide))
   refine tk 8 (.bool okb) rfl hHeld (fun s hs=>by go_simp) ?_ (hQ:=fun _ _ _ h=>h.unput (by decide))
   refine rd1 10 rfl fun K hK => ?_
   have r0:u3.cell? ⟨R,0,none⟩=some (.int .i64 0):=by rw [Lib.cell_of_heap HR3.out];rfl
   have r1:u3.cell? ⟨R,1,none⟩=some (.int .i64 0):=by rw [Lib.cell_of_heap HR3.out];rfl
   have r2:u3.cell? ⟨R,2,none⟩=some .nilFunc:=by rw [Lib.cell_of_heap HR3.out];rfl
   have f0:=blk_free HR3.out 0
   have f1:=blk_free HR3.out 1
   have f2:=blk_free HR3.out 2
   go_simp
   have HX:=H3.out.put HR3.out HRN.out (.int .i64 K0) (.int .i64 N0) (.nilFunc)
   refine hK.out _ _ HX.1 (fun hHeld => ?_)
   refine tk 11 (.bool okb) rfl hHeld (fun s hs=>by go_simp) ?_ (hQ:=fun _ _ _ h=>h.unput (by decide))
   refine wpAnyH_done (by kernel_rfl) ?_ _
   exact ⟨R,M,rfl,HX.2,HX.1,HRN.out⟩
 ·rintro a W ⟨R,M,rfl,hR,hlw,hRn⟩
  have HLW:=Lib.hid hlw
  unfold actL
  rw [E3.out]
  clear hR hlw hRn
  go_wp2_with (first
   | (go_at_call 23;refine (must_no _).mono ?_;rintro e w1 ⟨rfl,rfl⟩))
  exact leave_bar HLW.out.res rfl ⟨rfl,rfl,rfl⟩ fun W' hW=>⟨HPAN.out _,HLW.out.bel.trans hW⟩
set_option maxRecDepth 100000 in
set_option maxHeartbeats 8000000 in
theorem line_count (s:List UInt8) (w:World) (h:10∉s) (h2:sp.silentB s=false) (p:List UInt8×Bool) (l:List (List UInt8×Bool)) (hp:p.2=false) (r:Rw) (hq:(p.1,r)∈rowsL) (hc:(l.length:Int)≠r.n) (hw:sp.words s=some (p :: l)) (hn:s.length≤1099511627776):Calls Tryz.prog 9 #[.string (bstr s)] w fun e w'=>LineIs w.heap.size s w' e∧Below w.heap.size w w':=by
 have HPAN:=Lib.hid (fun W=>lineIs_none (B:=w.heap.size) (s:=s) (by rw [line_words h h2,hw];obtain ⟨a,b⟩:=p;simp only at hp;subst hp;show (sp.opS a l).map some=none;rw [op_count hq hc];rfl) W)
 have HPX:Hid (sp.wPlain p=some p.1):=Lib.hid (by unfold sp.wPlain;rw [if_neg (by rw [hp];decide)])
 obtain ⟨K0,e0⟩:∃v,v=r.k:=⟨_,rfl⟩
 obtain ⟨N0,e1⟩:∃v,v=r.n:=⟨_,rfl⟩
 obtain ⟨F0,e2⟩:∃v,v=r.g:=⟨_,rfl⟩
 obtain ⟨okb,e3⟩:∃v,v=true:=⟨_,rfl⟩
 have HLK:Hid (∀W M,MapIs W M rowsL→(Instr.lookup 67 (.map (some M)) (.string (bstr p.1)) true).run Tryz.prog W=.ok (.tuple #[.agg #[.int .i64 K0,.int .i64 N0,.func (.func F0) #[] #[]],.bool okb]) W):=Lib.hid (fun W M hm=>by rw [e0,e1,e2,e3];exact hm.lookOk_some hq)
 have hrn:0≤N0∧N0≤5:=by rw [e1];exact row_range hq
 have hll:(l.length:Int)≤1099511627776:=by
  have:=(words_len _ s (Nat.le_refl _) _ hw).2
  simp only [List.length_cons] at this
  omega
 have ht:((l.length:Int)+1==N0+1)=false:=by simp;omega
 have E3:=Lib.hid e3
 clear hp hq hc e0 e1 e2 e3
 have hmf:∀(fn:Fn) (first cap:Array Value) (w:World),(Instr.makeFunc fn first cap).run Tryz.prog w=.ok (.func fn first cap) w:=fun _ _ _ _=>rfl
 obtain ⟨hr,hb,hsz⟩:=start_res w
 have HC:=Lib.hid (fun W=>contains_nl s W)
 rw [show decide (10∈s)=false by simpa using h] at HC
 have HS:=Lib.hid (fun W=>silent_any s W)
 rw [h2] at HS
 have HL:=Lib.hid (lineR_new (startL w) s)
 have HP:=Lib.hid (fun W=>wplain_any p W)
 have HW:=Lib.hid hw;have HN:=Lib.hid hn;have HSZ:=Lib.hid hsz
 clear hr hb h h2 hw hn hsz
 go_enter_defers Tryz.func9,Tryz.ntmps9
 go_wp2_with (first
  | (go_at_call 24;refine (HC.out _).mono ?_;rintro e w1 ⟨rfl,rfl⟩)
  | (go_at_call 23;refine (must_yes _).mono ?_;rintro e w1 ⟨rfl,rfl⟩)
  | (go_at_call 25;refine (HS.out _).mono ?_;rintro e w1 ⟨rfl,rfl⟩;rw [start_eq])
  | (go_at_call 26;refine (words_any _ (startL w).heap.size (bstr s) s HL.out (by rw [bstr_size];exact HN.out)).mono ?_;rintro e w2 ⟨he,hf⟩;unfold WordsIs at he;rw [HW.out] at he;obtain ⟨v,rfl,hown⟩:=he;obtain ⟨g,cap,rfl,hc1,hc2,hlw⟩:=lw_start hf hown (by simp);have H0:=Lib.hid hlw;have HC1:=Lib.hid hc1;have HC2:=Lib.hid hc2;clear hf hown hlw hc1 hc2))
 refine wp_cut (fun a W=>∃R M,a=actL w.heap.size g cap (l.length+1) (startL w).heap.size s p (.agg #[(.int .i64 K0),(.int .i64 N0),(.func (.func F0) #[] #[])]) okb R M∧W.heap[R]?=some (.cells #[(.int .i64 K0),(.int .i64 N0),(.func (.func F0) #[] #[])] 65 (0,0))∧LW w g (p :: l) W∧w.heap.size+2<R) (PanSt w.heap.size w) ?_ ?_ ?_
 ·rintro c a W h
  obtain ⟨cs,sy,er,q1,q2⟩:=h.res
  rw [h.bar]
  show Leaves Tryz.prog Tryz.f9 a.tmps _ a.defers (.panicking bar) W
  rw [h.defers]
  exact leave_bar q2 q1 h.slots fun W' hW=>⟨HPAN.out _,h.bel.trans hW⟩
 ·have H0:=Lib.hid (H0.out.on (Below.refl _ _).drew)
  refine wp_region_held_drew (S:=fun W=>LW w g (p :: l) W) (by kernel_rfl) H0.out (fun hHeld => ?_)
  refine tk 1 (.slice (some ⟨g,0,none⟩) (l.length+1) cap) rfl hHeld (fun s hs=>by go_simp) ?_ (hQ:=fun _ _ _ h=>h.unput (by decide))
  refine tk 2 (.pointer (some ⟨g,0,none⟩)) rfl hHeld (fun s hs=>by go_simp<;>omega) ?_ (hQ:=fun _ _ _ h=>h.unput (by decide))
  refine tk 3 (.agg #[.string (bstr p.1),.bool p.2]) rfl hHeld (fun s hs=>by have e0:s.cell? ⟨g,0,none⟩=some (.string (bstr p.1)):=LW.cell hs rfl;have e1:s.cell? ⟨g,1,none⟩=some (.bool p.2):=LW.cell hs rfl;go_simp) ?_ (hQ:=fun _ _ _ h=>h.unput (by decide))
  generalize w2.drew=u0 at *
  refine wpAnyH_ready (rs:=[0,9]) (by kernel_rfl) (by simp) ?_
  refine AllReadyH.cons rfl (fun K hK => ?_) (AllReadyH.cons rfl (fun K hK => ?_) AllReadyH.nil)
  ·rw [if_pos (by kernel_rfl)]
   go_simp
   refine (rows_any _).mono ?_
   rintro e u1 ⟨rfl,hm,hb⟩
   obtain ⟨M,hM⟩:∃M,M=u0.heap.size:=⟨_,rfl⟩
   rw [←hM] at hm ⊢
   have H1:=Lib.hid (H0.out.on hb)
   have HM1:=Lib.hid hm
   clear hm hb hM
   refine hK.out _ _ H1.out (fun hHeld => ?_)
   clear hK
   refine wpAnyH_ready (rs:=[4,9]) (by kernel_rfl) (by simp) ?_
   refine AllReadyH.cons rfl (fun K hK => ?_) (AllReadyH.cons rfl (fun K hK => ?_) AllReadyH.nil)
   ·rw [if_pos (by kernel_rfl)]
    go_simp
    refine (HP.out _).mono ?_
    rintro e u2 ⟨he,hb⟩
    unfold PlainIs at he
    rw [HPX.out] at he
    subst he
    have H2:=Lib.hid (H1.out.on hb)
    have HM2:=Lib.hid (HM1.out.below hb HM1.out.lt)
    clear hb
    refine hK.out _ _ H2.out (fun hHeld => ?_)
    clear hK
    refine wpAnyH_ready (rs:=[5,9]) (by kernel_rfl) (by simp) ?_
    refine AllReadyH.cons rfl (fun K hK => ?_) (AllReadyH.cons rfl (fun K hK => ?_) AllReadyH.nil)
    ·rw [if_pos (by kernel_rfl)]
     have hlk:=HLK.out _ _ HM2.out
     go_simp
     clear hlk
     refine hK.out _ _ H2.out (fun hHeld => ?_)
     clear hK
     refine tk 6 (.tuple #[.agg #[(.int .i64 K0),(.int .i64 N0),(.func (.func F0) #[] #[])],.bool okb]) rfl hHeld (fun s hs=>by go_simp) ?_ (hQ:=fun _ _ _ h=>h.unput (by decide))
     refine tk 7 (.agg #[(.int .i64 K0),(.int .i64 N0),(.func (.func F0) #[] #[])]) rfl hHeld (fun s hs=>by go_simp) ?_ (hQ:=fun _ _ _ h=>h.unput (by decide))
     refine tk 8 (.bool okb) rfl hHeld (fun s hs=>by go_simp) ?_ (hQ:=fun _ _ _ h=>h.unput (by decide))
     refine rd1 9 rfl fun K hK => ?_
     go_simp
     have H3:=Lib.hid (H2.out.on (below_new _ (.cells zr 65)))
     obtain ⟨R,hR⟩:∃R,R=u2.heap.size:=⟨_,rfl⟩
     have HR3:=Lib.hid (heap_alloc_at u2 (.cells zr 65))
     have HRN:=Lib.hid (show w.heap.size+2<R by have:=lt_of_block H2.out.row.choose_spec.1;have:=H2.out.far;omega)
     have HM3:=Lib.hid (HM2.out.below (below_new _ (.cells zr 65)) HM2.out.lt)
     rw [←hR] at HR3 ⊢
     clear hR
     change K _ (u2.alloc (.cells zr 65))
     generalize u2.alloc (.cells zr 65)=u3 at H3 HR3 HM3 ⊢
     refine hK.out _ _ H3.out (fun hHeld => ?_)
     clear hK
     refine rd1 10 rfl fun K hK => ?_
     have r0:u3.cell? ⟨R,0,none⟩=some (.int .i64 0):=by rw [Lib.cell_of_heap HR3.out];rfl
     have r1:u3.cell? ⟨R,1,none⟩=some (.int .i64 0):=by rw [Lib.cell_of_heap HR3.out];rfl
     have r2:u3.cell? ⟨R,2,none⟩=some .nilFunc:=by rw [Lib.cell_of_heap HR3.out];rfl
     have f0:=blk_free HR3.out 0
     have f1:=blk_free HR3.out 1
     have f2:=blk_free HR3.out 2
     go_simp
     have HX:=H3.out.put HR3.out HRN.out (.int .i64 K0) (.int .i64 N0) (.func (.func F0) #[] #[])
     refine hK.out _ _ HX.1 (fun hHeld => ?_)
     refine tk 11 (.bool okb) rfl hHeld (fun s hs=>by go_simp) ?_ (hQ:=fun _ _ _ h=>h.unput (by decide))
     refine wpAnyH_done (by kernel_rfl) ?_ _
     exact ⟨R,M,rfl,HX.2,HX.1,HRN.out⟩
    ·rw [if_pos (by kernel_rfl)]
     go_simp
     have H3:=Lib.hid (H2.out.on (below_new _ (.cells zr 65)))
     obtain ⟨R,hR⟩:∃R,R=u2.heap.size:=⟨_,rfl⟩
     have HR3:=Lib.hid (heap_alloc_at u2 (.cells zr 65))
     have HRN:=Lib.hid (show w.heap.size+2<R by have:=lt_of_block H2.out.row.choose_spec.1;have:=H2.out.far;omega)
     have HM3:=Lib.hid (HM2.out.below (below_new _ (.cells zr 65)) HM2.out.lt)
     rw [←hR] at HR3 ⊢
     clear hR
     change K _ (u2.alloc (.cells zr 65))
     generalize u2.alloc (.cells zr 65)=u3 at H3 HR3 HM3 ⊢
     refine hK.out _ _ H3.out (fun hHeld => ?_)
     clear hK
     refine rd1 5 rfl fun K hK => ?_
     have hlk:=HLK.out _ _ HM3.out
     go_simp
     clear hlk
     refine hK.out _ _ H3.out (fun hHeld => ?_)
     clear hK
     refine tk 6 (.tuple #[.agg #[(.int .i64 K0),(.int .i64 N0),(.func (.func F0) #[] #[])],.bool okb]) rfl hHeld (fun s hs=>by go_simp) ?_ (hQ:=fun _ _ _ h=>h.unput (by decide))
     refine tk 7 (.agg #[(.int .i64 K0),(.int .i64 N0),(.func (.func F0) #[] #[])]) rfl hHeld (fun s hs=>by go_simp) ?_ (hQ:=fun _ _ _ h=>h.unput (by decide))
     refine tk 8 (.bool okb) rfl hHeld (fun s hs=>by go_simp) ?_ (hQ:=fun _ _ _ h=>h.unput (by decide))
     refine rd1 10 rfl fun K hK => ?_
     have r0:u3.cell? ⟨R,0,none⟩=some (.int .i64 0):=by rw [Lib.cell_of_heap HR3.out];rfl
     have r1:u3.cell? ⟨R,1,none⟩=some (.int .i64 0):=by rw [Lib.cell_of_heap HR3.out];rfl
     have r2:u3.cell? ⟨R,2,none⟩=some .nilFunc:=by rw [Lib.cell_of_heap HR3.out];rfl
     have f0:=blk_free HR3.out 0
     have f1:=blk_free HR3.out 1
     have f2:=blk_free HR3.out 2
     go_simp
     have HX:=H3.out.put HR3.out HRN.out (.int .i64 K0) (.int .i64 N0) (.func (.func F0) #[] #[])
     refine hK.out _ _ HX.1 (fun hHeld => ?_)
     refine tk 11 (.bool okb) rfl hHeld (fun s hs=>by go_simp) ?_ (hQ:=fun _ _ _ h=>h.unput (by decide))
     refine wpAnyH_done (by kernel_rfl) ?_ _
     exact ⟨R,M,rfl,HX.2,HX.1,HRN.out⟩
   ·rw [if_pos (by kernel_rfl)]
    go_simp
    have H2:=Lib.hid (H1.out.on (below_new _ (.cells zr 65)))
    obtain ⟨R,hR⟩:∃R,R=u1.heap.size:=⟨_,rfl⟩
    have HR2:=Lib.hid (heap_alloc_at u1 (.cells zr 65))
    have HRN:=Lib.hid (show w.heap.size+2<R by have:=lt_of_block H1.out.row.choose_spec.1;have:=H1.out.far;omega)
    have HM2:=Lib.hid (HM1.out.below (below_new _ (.cells zr 65)) HM1.out.lt)
    rw [←hR] at HR2 ⊢
    clear hR
    change K _ (u1.alloc (.cells zr 65))
    generalize u1.alloc (.cells zr 65)=u2 at H2 HR2 HM2 ⊢
    refine hK.out _ _ H2.out (fun hHeld => ?_)
    clear hK
    refine rd1 4 rfl fun K hK => ?_
    go_simp
    refine (HP.out _).mono ?_
    rintro e u3 ⟨he,hb⟩
    unfold PlainIs at he
    rw [HPX.out] at he
    subst he
    have H3:=Lib.hid (H2.out.on hb)
    have HM3:=Lib.hid (HM2.out.below hb HM2.out.lt)
    have HR3:=Lib.hid ((hb.block _ (lt_of_block HR2.out)).trans HR2.out)
    clear hb
    refine hK.out _ _ H3.out (fun hHeld => ?_)
    clear hK
    refine rd1 5 rfl fun K hK => ?_
    have hlk:=HLK.out _ _ HM3.out
    go_simp
    clear hlk
    refine hK.out _ _ H3.out (fun hHeld => ?_)
    clear hK
    refine tk 6 (.tuple #[.agg #[(.int .i64 K0),(.int .i64 N0),(.func (.func F0) #[] #[])],.bool okb]) rfl hHeld (fun s hs=>by go_simp) ?_ (hQ:=fun _ _ _ h=>h.unput (by decide))
    refine tk 7 (.agg #[(.int .i64 K0),(.int .i64 N0),(.func (.func F0) #[] #[])]) rfl hHeld (fun s hs=>by go_simp) ?_ (hQ:=fun _ _ _ h=>h.unput (by decide))
    refine tk 8 (.bool okb) rfl hHeld (fun s hs=>by go_simp) ?_ (hQ:=fun _ _ _ h=>h.unput (by decide))
    refine rd1 10 rfl fun K hK => ?_
    have r0:u3.cell? ⟨R,0,none⟩=some (.int .i64 0):=by rw [Lib.cell_of_heap HR3.out];rfl
    have r1:u3.cell? ⟨R,1,none⟩=some (.int .i64 0):=by rw [Lib.cell_of_heap HR3.out];rfl
    have r2:u3.cell? ⟨R,2,none⟩=some .nilFunc:=by rw [Lib.cell_of_heap HR3.out];rfl
    have f0:=blk_free HR3.out 0
    have f1:=blk_free HR3.out 1
    have f2:=blk_free HR3.out 2
    go_simp
    have HX:=H3.out.put HR3.out HRN.out (.int .i64 K0) (.int .i64 N0) (.func (.func F0) #[] #[])
    refine hK.out _ _ HX.1 (fun hHeld => ?_)
    refine tk 11 (.bool okb) rfl hHeld (fun s hs=>by go_simp) ?_ (hQ:=fun _ _ _ h=>h.unput (by decide))
    refine wpAnyH_done (by kernel_rfl) ?_ _
    exact ⟨R,M,rfl,HX.2,HX.1,HRN.out⟩
  ·rw [if_pos (by kernel_rfl)]
   go_simp
   have H1:=Lib.hid (H0.out.on (below_new _ (.cells zr 65)))
   obtain ⟨R,hR⟩:∃R,R=u0.heap.size:=⟨_,rfl⟩
   have HR1:=Lib.hid (heap_alloc_at u0 (.cells zr 65))
   have HRN:=Lib.hid (show w.heap.size+2<R by have:=lt_of_block H0.out.row.choose_spec.1;have:=H0.out.far;omega)
   rw [←hR] at HR1 ⊢
   clear hR
   change K _ (u0.alloc (.cells zr 65))
   generalize u0.alloc (.cells zr 65)=u1 at H1 HR1 ⊢
   refine hK.out _ _ H1.out (fun hHeld => ?_)
   clear hK
   refine rd1 0 rfl fun K hK => ?_
   go_simp
   refine (rows_any _).mono ?_
   rintro e u2 ⟨rfl,hm,hb⟩
   obtain ⟨M,hM⟩:∃M,M=u1.heap.size:=⟨_,rfl⟩
   rw [←hM] at hm ⊢
   have H2:=Lib.hid (H1.out.on hb)
   have HM2:=Lib.hid hm
   have HR2:=Lib.hid ((hb.block _ (lt_of_block HR1.out)).trans HR1.out)
   clear hm hb hM
   refine hK.out _ _ H2.out (fun hHeld => ?_)
   clear hK
   refine rd1 4 rfl fun K hK => ?_
   go_simp
   refine (HP.out _).mono ?_
   rintro e u3 ⟨he,hb⟩
   unfold PlainIs at he
   rw [HPX.out] at he
   subst he
   have H3:=Lib.hid (H2.out.on hb)
   have HM3:=Lib.hid (HM2.out.below hb HM2.out.lt)
   have HR3:=Lib.hid ((hb.block _ (lt_of_block HR2.out)).trans HR2.out)
   clear hb
   refine hK.out _ _ H3.out (fun hHeld => ?_)
   clear hK
   refine rd1 5 rfl fun K hK => ?_
   have hlk:=HLK.out _ _ HM3.out
   go_simp
   clear hlk
   refine hK.out _ _ H3.out (fun hHeld => ?_)
   clear hK
   refine tk 6 (.tuple #[.agg #[(.int .i64 K0),(.int .i64 N0),(.func (.func F0) #[] #[])],.bool okb]) rfl hHeld (fun s hs=>by go_simp) ?_ (hQ:=fun _ _ _ h=>h.unput (by decide))
   refine tk 7 (.agg #[(.int .i64 K0),(.int .i64 N0),(.func (.func F0) #[] #[])]) rfl hHeld (fun s hs=>by go_simp) ?_ (hQ:=fun _ _ _ h=>h.unput (by decide))
   refine tk 8 (.bool okb) rfl hHeld (fun s hs=>by go_simp) ?_ (hQ:=fun _ _ _ h=>h.unput (by decide))
   refine rd1 10 rfl fun K hK => ?_
   have r0:u3.cell? ⟨R,0,none⟩=some (.int .i64 0):=by rw [Lib.cell_of_heap HR3.out];rfl
   have r1:u3.cell? ⟨R,1,none⟩=some (.int .i64 0):=by rw [Lib.cell_of_heap HR3.out];rfl
   have r2:u3.cell? ⟨R,2,none⟩=some .nilFunc:=by rw [Lib.cell_of_heap HR3.out];rfl
   have f0:=blk_free HR3.out 0
   have f1:=blk_free HR3.out 1
   have f2:=blk_free HR3.out 2
   go_simp
   have HX:=H3.out.put HR3.out HRN.out (.int .i64 K0) (.int .i64 N0) (.func (.func F0) #[] #[])
   refine hK.out _ _ HX.1 (fun hHeld => ?_)
   refine tk 11 (.bool okb) rfl hHeld (fun s hs=>by go_simp) ?_ (hQ:=fun _ _ _ h=>h.unput (by decide))
   refine wpAnyH_done (by kernel_rfl) ?_ _
   exact ⟨R,M,rfl,HX.2,HX.1,HRN.out⟩
 ·rintro a W ⟨R,M,rfl,hR,hlw,hRn⟩
  have HLW:=Lib.hid hlw
  have c1:W.cell? ⟨R,1,none⟩=some (.int .i64 N0):=by rw [Lib.cell_of_heap hR];rfl
  unfold actL
  rw [E3.out]
  clear hR hlw hRn
  go_wp2_with (first
   | (go_at_call 23;refine (must_no _).mono ?_;rintro e w1 ⟨rfl,rfl⟩))
  exact leave_bar HLW.out.res rfl ⟨rfl,rfl,rfl⟩ fun W' hW=>⟨HPAN.out _,HLW.out.bel.trans hW⟩
theorem slice_cap {g m cap:Nat} (h:m+1≤cap):0<m→(some (if cap=1 then (⟨g,0,none⟩:Addr) else ⟨g,2,none⟩))=some ⟨g,2,none⟩:=fun h0=>by
 rw [if_neg (by omega)]
theorem LW.rowS {w W:World} {g:Nat} {p:List UInt8×Bool} {l:List (List UInt8×Bool)} (h:LW w g (p :: l) W) (k:Int):RowS ((W.setCell ⟨w.heap.size,0,none⟩ (.int .i64 k)).drew) w.heap.size g l (zeroC k) ((W.setCell ⟨w.heap.size,0,none⟩ (.int .i64 k)).drew):=by
 obtain ⟨cur,h1,h2⟩:=h.row
 have hne:g≠w.heap.size:=by have:=h.far;omega
 have hr:W.rangeAt g 2 (wdCells l):=fun j u hu=>by
  have e:(wdCells (p :: l))[2+j]?=some u:=by
   rw [show wdCells (p :: l)=wdCell p++wdCells l by simp [wdCells],List.getElem?_append_right (by simp [wdCell])]
   simpa [wdCell] using hu
  exact h.cell e
 refine ⟨?_,rfl,range_other hr hne _ _,by have:=lt_of_block h1;simpa using this,hne,Fr.refl _ _ _⟩
 show (W.setCell ⟨w.heap.size,0,none⟩ (.int .i64 k)).heap[w.heap.size]?=_
 have:=blk_set h.res.op 0 (.int .i64 k)
 simpa [zeroC,opCells] using this
theorem word_cells {o:sp.Op} {tv:Value} {B n:Nat} {W:World} {cs:List Value} (h:RowAt B W tv n cs):(opCells o tv).all (·.oneCell')=true:=by
 obtain ⟨a,cap,rfl⟩:=h.slice
 simp [opCells,Value.oneCell']
theorem rowAt_other {W:World} {B b n:Nat} {v x:Value} {cs:List Value} (h:RowAt B W v n cs) (hne:∀g,v.ownBlock=some g→g≠b) (o:Nat):RowAt B (W.setCell ⟨b,o,none⟩ x) v n cs:=by
 obtain ⟨a,cap,h1,h2,h3,h4⟩:=h
 refine ⟨a,cap,h1,h2,h3,h4.imp id fun ⟨x1,g,off,y1,y2,y3⟩=>⟨x1,g,off,y1,y2,range_other y3 (hne g (by rw [h1,y1];rfl)) _ _⟩⟩
theorem rowAt_row {W:World} {B b n:Nat} {v:Value} {cs:List Value} (h:RowAt B W v n cs) (hne:∀g,v.ownBlock=some g→g≠b) (xs:Array Value):RowAt B (W.setRow b xs) v n cs:=by
 obtain ⟨a,cap,h1,h2,h3,h4⟩:=h
 refine ⟨a,cap,h1,h2,h3,h4.imp id fun ⟨x1,g,off,y1,y2,y3⟩=>⟨x1,g,off,y1,y2,fun j u hu => ?_⟩⟩
 have hg:=hne g (by rw [h1,y1];rfl)
 have e:=y3 j u hu
 have e2:(W.setRow b xs).heap[g]?=W.heap[g]?:=setRow_far xs (Ne.symm hg)
 rw [←e]
 unfold World.cell?
 simp only [e2]
set_option maxRecDepth 100000 in
set_option maxHeartbeats 16000000 in
theorem line_known (s:List UInt8) (w:World) (h:10∉s) (h2:sp.silentB s=false) (p:List UInt8×Bool) (l:List (List UInt8×Bool)) (hp:p.2=false) (r:Rw) (hq:(p.1,r)∈rowsL) (hc:(l.length:Int)=r.n) (hw:sp.words s=some (p :: l)) (hn:s.length≤1099511627776):Calls Tryz.prog 9 #[.string (bstr s)] w fun e w'=>LineIs w.heap.size s w' e∧Below w.heap.size w w':=by
 have HLS:Hid (sp.lineS s=(sp.opS p.1 l).map some):=Lib.hid (by rw [line_words h h2,hw];obtain ⟨a,b⟩:=p;simp only at hp;subst hp;rfl)
 have HPX:Hid (sp.wPlain p=some p.1):=Lib.hid (by unfold sp.wPlain;rw [if_neg (by rw [hp];decide)])
 obtain ⟨K0,e0⟩:∃v,v=r.k:=⟨_,rfl⟩
 obtain ⟨N0,e1⟩:∃v,v=r.n:=⟨_,rfl⟩
 obtain ⟨F0,e2⟩:∃v,v=r.g:=⟨_,rfl⟩
 obtain ⟨okb,e3⟩:∃v,v=true:=⟨_,rfl⟩
 have HLK:Hid (∀W M,MapIs W M rowsL→(Instr.lookup 67 (.map (some M)) (.string (bstr p.1)) true).run Tryz.prog W=.ok (.tuple #[.agg #[.int .i64 K0,.int .i64 N0,.func (.func F0) #[] #[]],.bool okb]) W):=Lib.hid (fun W M hm=>by rw [e0,e1,e2,e3];exact hm.lookOk_some hq)
 have hrn:0≤N0∧N0≤5:=by rw [e1];exact row_range hq
 have hll:(l.length:Int)≤5:=by rw [hc,←e1];omega
 have ht:((l.length:Int)+1==N0+1)=true:=by simp;omega
 have HENT:Hid (∀args W,(callFunc F0 args).run Tryz.prog W=.ok (.enter F0 args) W):=Lib.hid (fun args W=>by rw [e2];exact row_enters hq args W)
 have HROW:Hid (∀(ad:Option Addr) (c:Nat) (w0 W:World) (g:Nat),(0<l.length→ad=some ⟨g,2,none⟩)→RowS w0 w.heap.size g l (zeroC K0) W→Calls Tryz.prog F0 #[.pointer (some ⟨w.heap.size,0,none⟩),.slice ad l.length c] W fun e w'=>RowIs w0 w.heap.size (sp.opS p.1 l) e w'):=Lib.hid (fun ad c w0 W g had hrs=>by
  rw [e2]
  rw [e0] at hrs
  refine row_any p.1 r hq l hc ad c w0 W _ g had (fun q hq' => ?_) hrs
  have:=(words_len _ s (Nat.le_refl _) _ hw).1 q (List.mem_cons_of_mem _ hq')
  omega)
 have E3:=Lib.hid e3
 clear hp hq hc e0 e1 e2 e3
 have hmf:∀(fn:Fn) (first cap:Array Value) (w:World),(Instr.makeFunc fn first cap).run Tryz.prog w=.ok (.func fn first cap) w:=fun _ _ _ _=>rfl
 obtain ⟨hr,hb,hsz⟩:=start_res w
 have HC:=Lib.hid (fun W=>contains_nl s W)
 rw [show decide (10∈s)=false by simpa using h] at HC
 have HS:=Lib.hid (fun W=>silent_any s W)
 rw [h2] at HS
 have HL:=Lib.hid (lineR_new (startL w) s)
 have HP:=Lib.hid (fun W=>wplain_any p W)
 have HW:=Lib.hid hw;have HN:=Lib.hid hn;have HSZ:=Lib.hid hsz
 clear hr hb h h2 hw hn hsz
 go_enter_defers Tryz.func9,Tryz.ntmps9
 go_wp2_with (first
  | (go_at_call 24;refine (HC.out _).mono ?_;rintro e w1 ⟨rfl,rfl⟩)
  | (go_at_call 23;refine (must_yes _).mono ?_;rintro e w1 ⟨rfl,rfl⟩)
  | (go_at_call 25;refine (HS.out _).mono ?_;rintro e w1 ⟨rfl,rfl⟩;rw [start_eq])
  | (go_at_call 26;refine (words_any _ (startL w).heap.size (bstr s) s HL.out (by rw [bstr_size];exact HN.out)).mono ?_;rintro e w2 ⟨he,hf⟩;unfold WordsIs at he;rw [HW.out] at he;obtain ⟨v,rfl,hown⟩:=he;obtain ⟨g,cap,rfl,hc1,hc2,hlw⟩:=lw_start hf hown (by simp);have H0:=Lib.hid hlw;have HC1:=Lib.hid hc1;have HC2:=Lib.hid hc2;clear hf hown hlw hc1 hc2))
 refine wp_cut (fun a W=>∃R M,a=actL w.heap.size g cap (l.length+1) (startL w).heap.size s p (.agg #[(.int .i64 K0),(.int .i64 N0),(.func (.func F0) #[] #[])]) okb R M∧W.heap[R]?=some (.cells #[(.int .i64 K0),(.int .i64 N0),(.func (.func F0) #[] #[])] 65 (0,0))∧LW w g (p :: l) W∧w.heap.size+2<R) (fun _ _ _=>False) (fun _ _ _ h=>h.elim) ?_ ?_
 ·have H0:=Lib.hid (H0.out.on (Below.refl _ _).drew)
  refine wp_region_held_drew (S:=fun W=>LW w g (p :: l) W) (by kernel_rfl) H0.out (fun hHeld => ?_)
  refine tk 1 (.slice (some ⟨g,0,none⟩) (l.length+1) cap) rfl hHeld (fun s hs=>by go_simp) ?_
  refine tk 2 (.pointer (some ⟨g,0,none⟩)) rfl hHeld (fun s hs=>by go_simp<;>omega) ?_
  refine tk 3 (.agg #[.string (bstr p.1),.bool p.2]) rfl hHeld (fun s hs=>by have e0:s.cell? ⟨g,0,none⟩=some (.string (bstr p.1)):=LW.cell hs rfl;have e1:s.cell? ⟨g,1,none⟩=some (.bool p.2):=LW.cell hs rfl;go_simp) ?_
  generalize w2.drew=u0 at *
  refine wpAnyH_ready (rs:=[0,9]) (by kernel_rfl) (by simp) ?_
  refine AllReadyH.cons rfl (fun K hK => ?_) (AllReadyH.cons rfl (fun K hK => ?_) AllReadyH.nil)
  ·rw [if_pos (by kernel_rfl)]
   go_simp
   refine (rows_any _).mono ?_
   rintro e u1 ⟨rfl,hm,hb⟩
   obtain ⟨M,hM⟩:∃M,M=u0.heap.size:=⟨_,rfl⟩
   rw [←hM] at hm ⊢
   have H1:=Lib.hid (H0.out.on hb)
   have HM1:=Lib.hid hm
   clear hm hb hM
   refine hK.out _ _ H1.out (fun hHeld => ?_)
   clear hK
   refine wpAnyH_ready (rs:=[4,9]) (by kernel_rfl) (by simp) ?_
   refine AllReadyH.cons rfl (fun K hK => ?_) (AllReadyH.cons rfl (fun K hK => ?_) AllReadyH.nil)
   ·rw [if_pos (by kernel_rfl)]
    go_simp
    refine (HP.out _).mono ?_
    rintro e u2 ⟨he,hb⟩
    unfold PlainIs at he
    rw [HPX.out] at he
    subst he
    have H2:=Lib.hid (H1.out.on hb)
    have HM2:=Lib.hid (HM1.out.below hb HM1.out.lt)
    clear hb
    refine hK.out _ _ H2.out (fun hHeld => ?_)
    clear hK
    refine wpAnyH_ready (rs:=[5,9]) (by kernel_rfl) (by simp) ?_
    refine AllReadyH.cons rfl (fun K hK => ?_) (AllReadyH.cons rfl (fun K hK => ?_) AllReadyH.nil)
    ·rw [if_pos (by kernel_rfl)]
     have hlk:=HLK.out _ _ HM2.out
     go_simp
     clear hlk
     refine hK.out _ _ H2.out (fun hHeld => ?_)
     clear hK
     refine tk 6 (.tuple #[.agg #[(.int .i64 K0),(.int .i64 N0),(.func (.func F0) #[] #[])],.bool okb]) rfl hHeld (fun s hs=>by go_simp) ?_
     refine tk 7 (.agg #[(.int .i64 K0),(.int .i64 N0),(.func (.func F0) #[] #[])]) rfl hHeld (fun s hs=>by go_simp) ?_
     refine tk 8 (.bool okb) rfl hHeld (fun s hs=>by go_simp) ?_
     refine rd1 9 rfl fun K hK => ?_
     go_simp
     have H3:=Lib.hid (H2.out.on (below_new _ (.cells zr 65)))
     obtain ⟨R,hR⟩:∃R,R=u2.heap.size:=⟨_,rfl⟩
     have HR3:=Lib.hid (heap_alloc_at u2 (.cells zr 65))
     have HRN:=Lib.hid (show w.heap.size+2<R by have:=lt_of_block H2.out.row.choose_spec.1;have:=H2.out.far;omega)
     have HM3:=Lib.hid (HM2.out.below (below_new _ (.cells zr 65)) HM2.out.lt)
     rw [←hR] at HR3 ⊢
     clear hR
     change K _ (u2.alloc (.cells zr 65))
     generalize u2.alloc (.cells zr 65)=u3 at H3 HR3 HM3 ⊢
     refine hK.out _ _ H3.out (fun hHeld => ?_)
     clear hK
     refine rd1 10 rfl fun K hK => ?_
     have r0:u3.cell? ⟨R,0,none⟩=some (.int .i64 0):=by rw [Lib.cell_of_heap HR3.out];rfl
     have r1:u3.cell? ⟨R,1,none⟩=some (.int .i64 0):=by rw [Lib.cell_of_heap HR3.out];rfl
     have r2:u3.cell? ⟨R,2,none⟩=some .nilFunc:=by rw [Lib.cell_of_heap HR3.out];rfl
     have f0:=blk_free HR3.out 0
     have f1:=blk_free HR3.out 1
     have f2:=blk_free HR3.out 2
     go_simp
     have HX:=H3.out.put HR3.out HRN.out (.int .i64 K0) (.int .i64 N0) (.func (.func F0) #[] #[])
     refine hK.out _ _ HX.1 (fun hHeld => ?_)
     refine tk 11 (.bool okb) rfl hHeld (fun s hs=>by go_simp) ?_
     refine wpAnyH_done (by kernel_rfl) ?_ _
     exact ⟨R,M,rfl,HX.2,HX.1,HRN.out⟩
    ·rw [if_pos (by kernel_rfl)]
     go_simp
     have H3:=Lib.hid (H2.out.on (below_new _ (.cells zr 65)))
     obtain ⟨R,hR⟩:∃R,R=u2.heap.size:=⟨_,rfl⟩
     have HR3:=Lib.hid (heap_alloc_at u2 (.cells zr 65))
     have HRN:=Lib.hid (show w.heap.size+2<R by have:=lt_of_block H2.out.row.choose_spec.1;have:=H2.out.far;omega)
     have HM3:=Lib.hid (HM2.out.below (below_new _ (.cells zr 65)) HM2.out.lt)
     rw [←hR] at HR3 ⊢
     clear hR
     change K _ (u2.alloc (.cells zr 65))
     generalize u2.alloc (.cells zr 65)=u3 at H3 HR3 HM3 ⊢
     refine hK.out _ _ H3.out (fun hHeld => ?_)
     clear hK
     refine rd1 5 rfl fun K hK => ?_
     have hlk:=HLK.out _ _ HM3.out
     go_simp
     clear hlk
     refine hK.out _ _ H3.out (fun hHeld => ?_)
     clear hK
     refine tk 6 (.tuple #[.agg #[(.int .i64 K0),(.int .i64 N0),(.func (.func F0) #[] #[])],.bool okb]) rfl hHeld (fun s hs=>by go_simp) ?_
     refine tk 7 (.agg #[(.int .i64 K0),(.int .i64 N0),(.func (.func F0) #[] #[])]) rfl hHeld (fun s hs=>by go_simp) ?_
     refine tk 8 (.bool okb) rfl hHeld (fun s hs=>by go_simp) ?_
     refine rd1 10 rfl fun K hK => ?_
     have r0:u3.cell? ⟨R,0,none⟩=some (.int .i64 0):=by rw [Lib.cell_of_heap HR3.out];rfl
     have r1:u3.cell? ⟨R,1,none⟩=some (.int .i64 0):=by rw [Lib.cell_of_heap HR3.out];rfl
     have r2:u3.cell? ⟨R,2,none⟩=some .nilFunc:=by rw [Lib.cell_of_heap HR3.out];rfl
     have f0:=blk_free HR3.out 0
     have f1:=blk_free HR3.out 1
     have f2:=blk_free HR3.out 2
     go_simp
     have HX:=H3.out.put HR3.out HRN.out (.int .i64 K0) (.int .i64 N0) (.func (.func F0) #[] #[])
     refine hK.out _ _ HX.1 (fun hHeld => ?_)
     refine tk 11 (.bool okb) rfl hHeld (fun s hs=>by go_simp) ?_
     refine wpAnyH_done (by kernel_rfl) ?_ _
     exact ⟨R,M,rfl,HX.2,HX.1,HRN.out⟩
   ·rw [if_pos (by kernel_rfl)]
    go_simp
    have H2:=Lib.hid (H1.out.on (below_new _ (.cells zr 65)))
    obtain ⟨R,hR⟩:∃R,R=u1.heap.size:=⟨_,rfl⟩
    have HR2:=Lib.hid (heap_alloc_at u1 (.cells zr 65))
    have HRN:=Lib.hid (show w.heap.size+2<R by have:=lt_of_block H1.out.row.choose_spec.1;have:=H1.out.far;omega)
    have HM2:=Lib.hid (HM1.out.below (below_new _ (.cells zr 65)) HM1.out.lt)
    rw [←hR] at HR2 ⊢
    clear hR
    change K _ (u1.alloc (.cells zr 65))
    generalize u1.alloc (.cells zr 65)=u2 at H2 HR2 HM2 ⊢
    refine hK.out _ _ H2.out (fun hHeld => ?_)
    clear hK
    refine rd1 4 rfl fun K hK => ?_
    go_simp
    refine (HP.out _).mono ?_
    rintro e u3 ⟨he,hb⟩
    unfold PlainIs at he
    rw [HPX.out] at he
    subst he
    have H3:=Lib.hid (H2.out.on hb)
    have HM3:=Lib.hid (HM2.out.below hb HM2.out.lt)
    have HR3:=Lib.hid ((hb.block _ (lt_of_block HR2.out)).trans HR2.out)
    clear hb
    refine hK.out _ _ H3.out (fun hHeld => ?_)
    clear hK
    refine rd1 5 rfl fun K hK => ?_
    have hlk:=HLK.out _ _ HM3.out
    go_simp
    clear hlk
    refine hK.out _ _ H3.out (fun hHeld => ?_)
    clear hK
    refine tk 6 (.tuple #[.agg #[(.int .i64 K0),(.int .i64 N0),(.func (.func F0) #[] #[])],.bool okb]) rfl hHeld (fun s hs=>by go_simp) ?_
    refine tk 7 (.agg #[(.int .i64 K0),(.int .i64 N0),(.func (.func F0) #[] #[])]) rfl hHeld (fun s hs=>by go_simp) ?_
    refine tk 8 (.bool okb) rfl hHeld (fun s hs=>by go_simp) ?_
    refine rd1 10 rfl fun K hK => ?_
    have r0:u3.cell? ⟨R,0,none⟩=some (.int .i64 0):=by rw [Lib.cell_of_heap HR3.out];rfl
    have r1:u3.cell? ⟨R,1,none⟩=some (.int .i64 0):=by rw [Lib.cell_of_heap HR3.out];rfl
    have r2:u3.cell? ⟨R,2,none⟩=some .nilFunc:=by rw [Lib.cell_of_heap HR3.out];rfl
    have f0:=blk_free HR3.out 0
    have f1:=blk_free HR3.out 1
    have f2:=blk_free HR3.out 2
    go_simp
    have HX:=H3.out.put HR3.out HRN.out (.int .i64 K0) (.int .i64 N0) (.func (.func F0) #[] #[])
    refine hK.out _ _ HX.1 (fun hHeld => ?_)
    refine tk 11 (.bool okb) rfl hHeld (fun s hs=>by go_simp) ?_
    refine wpAnyH_done (by kernel_rfl) ?_ _
    exact ⟨R,M,rfl,HX.2,HX.1,HRN.out⟩
  ·rw [if_pos (by kernel_rfl)]
   go_simp
   have H1:=Lib.hid (H0.out.on (below_new _ (.cells zr 65)))
   obtain ⟨R,hR⟩:∃R,R=u0.heap.size:=⟨_,rfl⟩
   have HR1:=Lib.hid (heap_alloc_at u0 (.cells zr 65))
   have HRN:=Lib.hid (show w.heap.size+2<R by have:=lt_of_block H0.out.row.choose_spec.1;have:=H0.out.far;omega)
   rw [←hR] at HR1 ⊢
   clear hR
   change K _ (u0.alloc (.cells zr 65))
   generalize u0.alloc (.cells zr 65)=u1 at H1 HR1 ⊢
   refine hK.out _ _ H1.out (fun hHeld => ?_)
   clear hK
   refine rd1 0 rfl fun K hK => ?_
   go_simp
   refine (rows_any _).mono ?_
   rintro e u2 ⟨rfl,hm,hb⟩
   obtain ⟨M,hM⟩:∃M,M=u1.heap.size:=⟨_,rfl⟩
   rw [←hM] at hm ⊢
   have H2:=Lib.hid (H1.out.on hb)
   have HM2:=Lib.hid hm
   have HR2:=Lib.hid ((hb.block _ (lt_of_block HR1.out)).trans HR1.out)
   clear hm hb hM
   refine hK.out _ _ H2.out (fun hHeld => ?_)
   clear hK
   refine rd1 4 rfl fun K hK => ?_
   go_simp
   refine (HP.out _).mono ?_
   rintro e u3 ⟨he,hb⟩
   unfold PlainIs at he
   rw [HPX.out] at he
   subst he
   have H3:=Lib.hid (H2.out.on hb)
   have HM3:=Lib.hid (HM2.out.below hb HM2.out.lt)
   have HR3:=Lib.hid ((hb.block _ (lt_of_block HR2.out)).trans HR2.out)
   clear hb
   refine hK.out _ _ H3.out (fun hHeld => ?_)
   clear hK
   refine rd1 5 rfl fun K hK => ?_
   have hlk:=HLK.out _ _ HM3.out
   go_simp
   clear hlk
   refine hK.out _ _ H3.out (fun hHeld => ?_)
   clear hK
   refine tk 6 (.tuple #[.agg #[(.int .i64 K0),(.int .i64 N0),(.func (.func F0) #[] #[])],.bool okb]) rfl hHeld (fun s hs=>by go_simp) ?_
   refine tk 7 (.agg #[(.int .i64 K0),(.int .i64 N0),(.func (.func F0) #[] #[])]) rfl hHeld (fun s hs=>by go_simp) ?_
   refine tk 8 (.bool okb) rfl hHeld (fun s hs=>by go_simp) ?_
   refine rd1 10 rfl fun K hK => ?_
   have r0:u3.cell? ⟨R,0,none⟩=some (.int .i64 0):=by rw [Lib.cell_of_heap HR3.out];rfl
   have r1:u3.cell? ⟨R,1,none⟩=some (.int .i64 0):=by rw [Lib.cell_of_heap HR3.out];rfl
   have r2:u3.cell? ⟨R,2,none⟩=some .nilFunc:=by rw [Lib.cell_of_heap HR3.out];rfl
   have f0:=blk_free HR3.out 0
   have f1:=blk_free HR3.out 1
   have f2:=blk_free HR3.out 2
   go_simp
   have HX:=H3.out.put HR3.out HRN.out (.int .i64 K0) (.int .i64 N0) (.func (.func F0) #[] #[])
   refine hK.out _ _ HX.1 (fun hHeld => ?_)
   refine tk 11 (.bool okb) rfl hHeld (fun s hs=>by go_simp) ?_
   refine wpAnyH_done (by kernel_rfl) ?_ _
   exact ⟨R,M,rfl,HX.2,HX.1,HRN.out⟩
 ·rintro a W ⟨R,M,rfl,hR,hlw,hRn⟩
  have HLW:=Lib.hid hlw
  have c0:W.cell? ⟨R,0,none⟩=some (.int .i64 K0):=by rw [Lib.cell_of_heap hR];rfl
  have c1:W.cell? ⟨R,1,none⟩=some (.int .i64 N0):=by rw [Lib.cell_of_heap hR];rfl
  have b0:W.cell? ⟨w.heap.size,0,none⟩=some (.int .i64 0):=by rw [Lib.cell_of_heap hlw.res.op];rfl
  have z0:W.frozen? ⟨w.heap.size,0,none⟩=false:=blk_free hlw.res.op 0
  have HRS:=Lib.hid (hlw.rowS K0)
  have hRB:R≠w.heap.size:=by omega
  have HR2:Hid ((W.setCell ⟨w.heap.size,0,none⟩ (.int .i64 K0)).drew.cell? ⟨R,2,none⟩=some (.func (.func F0) #[] #[])):=Lib.hid (by
   show (W.setCell ⟨w.heap.size,0,none⟩ (.int .i64 K0)).cell? ⟨R,2,none⟩=_
   rw [World.cell?_setCell_far W _ _ _ (by simpa using Ne.symm hRB),Lib.cell_of_heap hR]
   rfl)
  have HRES:Hid ((W.setCell ⟨w.heap.size,0,none⟩ (.int .i64 K0)).drew.heap[w.heap.size+1]?=some (.cells #[.bool false] 4 (0,0))∧(W.setCell ⟨w.heap.size,0,none⟩ (.int .i64 K0)).drew.heap[w.heap.size+2]?=some (.cells #[.int .i64 0] 29 (0,0))):=Lib.hid ⟨(heap_other (by omega) _ _).trans hlw.res.says,(heap_other (by omega) _ _).trans hlw.res.err⟩
  have HBEL:Hid (Below w.heap.size w (W.setCell ⟨w.heap.size,0,none⟩ (.int .i64 K0)).drew):=Lib.hid (hlw.bel.setCell (Nat.le_refl _) _).drew
  have HRB:=Lib.hid hRB
  have HRL:=Lib.hid (lt_of_block hR)
  have HRN:=Lib.hid hRn
  unfold actL
  rw [E3.out]
  clear hR hlw hRn
  go_wp2_with (first
   | (go_at_call 23;refine (must_yes _).mono ?_;rintro e w1 ⟨rfl,rfl⟩))
  refine wp_pan (PS:=fun c a W=>PanSt w.heap.size w c a W∧sp.opS p.1 l=none) ?_ ?_
  ·rintro c a W ⟨h,ho⟩
   obtain ⟨cs,sy,er,q1,q2⟩:=h.res
   rw [h.bar]
   show Leaves Tryz.prog Tryz.f9 a.tmps _ a.defers (.panicking bar) W
   rw [h.defers]
   exact leave_bar q2 q1 h.slots fun W' hW=>⟨lineIs_none (B:=w.heap.size) (by rw [HLS.out,ho];rfl) _,h.bel.trans hW⟩
  ·obtain ⟨ad,had⟩:∃ad,ad=(some (if cap=1 then (⟨g,0,none⟩:Addr) else ⟨g,2,none⟩)):=⟨_,rfl⟩
   have HAD:=Lib.hid (slice_cap (g:=g) HC1.out)
   rw [←had] at HAD
   have hsl:=fun W=>slice_rest W g l.length cap HC1.out HC2.out
   rw [←had] at hsl
   clear had
   have hent:=HENT.out
   refine wp_region_held_drew (S:=fun W=>W.cell? ⟨R,2,none⟩=some (.func (.func F0) #[] #[])) (by kernel_rfl) HR2.out (fun hHeld => ?_)
   refine wpAnyH_take (i:=0) (v:=.pointer (some ⟨R,2,none⟩)) rfl (by kernel_rfl) (by kernel_rfl) (by kernel_rfl) (fun _ _ _ h=>⟨PanSt.unput h.1 (by decide),h.2⟩) (Or.inl ⟨by kernel_rfl,fun s hs=>by have e0:=hs;go_simp⟩) hHeld ?_
   refine wpAnyH_take (i:=1) (v:=.func (.func F0) #[] #[]) rfl (by kernel_rfl) (by kernel_rfl) (by kernel_rfl) (fun _ _ _ h=>⟨PanSt.unput h.1 (by decide),h.2⟩) (Or.inl ⟨by kernel_rfl,fun s hs=>by have e0:=hs;go_simp⟩) hHeld ?_
   refine wpAnyH_take (i:=2) (v:=.slice (some ⟨g,0,none⟩) (l.length+1) cap) rfl (by kernel_rfl) (by kernel_rfl) (by kernel_rfl) (fun _ _ _ h=>⟨PanSt.unput h.1 (by decide),h.2⟩) (Or.inl ⟨by kernel_rfl,fun s hs=>by have e0:=hs;go_simp⟩) hHeld ?_
   refine wpAnyH_take (i:=3) (v:=.slice ad l.length (cap-1)) rfl (by kernel_rfl) (by kernel_rfl) (by kernel_rfl) (fun _ _ _ h=>⟨PanSt.unput h.1 (by decide),h.2⟩) (Or.inl ⟨by kernel_rfl,fun s hs=>by have e0:=hs;go_simp⟩) hHeld ?_
   refine rd1 4 rfl fun K hK => ?_
   go_simp
   refine (HROW.out _ (cap-1) _ _ g HAD.out HRS.out).mono ?_
   rintro e u3 he
   cases ho:sp.opS p.1 l with
   | none =>
    rw [ho] at he
    obtain ⟨rfl,hfr,cs,hcs,hsz⟩:=he
    refine ⟨⟨rfl,rfl,⟨rfl,rfl,rfl⟩,⟨cs,_,_,hsz,hcs,(hfr.block _ (lt_of_block HRES.out.1) (by omega) (fun e=>by cases e)).trans HRES.out.1,(hfr.block _ (lt_of_block HRES.out.2) (by omega) (fun e=>by cases e)).trans HRES.out.2⟩,HBEL.out.trans (hfr.below (Nat.le_refl _) (fun g hg=>by cases hg) HBEL.out.size)⟩,rfl⟩
   | some o =>
    rw [ho] at he
    obtain ⟨rfl,hfr,tv,hop,hrow,htv⟩:=he
    have hlt2:=lt_of_block HRES.out.2
    have HTV:Hid (∀g,tv.ownBlock=some g→w.heap.size+2<g):=Lib.hid fun g hg=>by have:=htv g hg;omega
    have HROWT:=Lib.hid hrow
    have HR3:Hid (Res w.heap.size (w.heap.size+1) (w.heap.size+2) (opCells o tv) false 0 u3):=Lib.hid ⟨hop,(hfr.block _ (lt_of_block HRES.out.1) (by omega) (fun e=>by cases e)).trans HRES.out.1,(hfr.block _ (lt_of_block HRES.out.2) (by omega) (fun e=>by cases e)).trans HRES.out.2⟩
    have HB3:=Lib.hid (HBEL.out.trans (hfr.below (b:=w.heap.size) (B:=w.heap.size) (Nat.le_refl _) (fun g hg=>by cases hg) HBEL.out.size))
    have HO:=Lib.hid ho
    have hc2:u3.cell? ⟨R,2,none⟩=some (.func (.func F0) #[] #[]):=by
     have e1:=HR2.out
     have e2:=hfr.block R (by simpa using HRL.out) HRB.out (fun e=>by cases e)
     rw [←e1]
     unfold World.cell?
     simp only [e2]
    refine hK.out _ _ hc2 (fun hHeld => ?_)
    refine wpAnyH_done (by kernel_rfl) ?_ _
    refine PanQ.normal ?_
    clear hHeld hK hop hrow htv hfr ho hc2 hlt2 hsl hent c0 c1 b0 z0
    have HONE:Hid ((opCells o tv).all (·.oneCell')=true):=Lib.hid (word_cells HROWT.out)
    have HS18:Hid ((opCells o tv).size=18):=Lib.hid rfl
    obtain ⟨oc,hoc⟩:∃oc,oc=opCells o tv:=⟨_,rfl⟩
    rw [←hoc] at HR3 HONE HS18
    have HS18':Hid ((Tryz.prog.info? 28).map (·.size)=some oc.size):=Lib.hid (by rw [HS18.out];exact size28')
    go_wp2_with (first
     | (refine wpList_load_row rfl 28 _ rfl w.heap.size rfl 28 oc (0,0) _ HR3.out.op Tryz.underlying28 rfl HS18'.out ?_)
     | (refine wpList_store_row rfl 28 _ _ rfl w.heap.size oc rfl rfl 28 oc HR3.out.op HS18'.out rfl HONE.out ?_;have HR4:=Lib.hid (HR3.out.row (cs':=oc)).1;have HB4:=Lib.hid (HB3.out.trans (HR3.out.row (cs':=oc)).2);have HT4:=Lib.hid ((rowAt_row HROWT.out (fun g hg=>by have:=HTV.out g hg;omega) oc (b:=w.heap.size)).mono (show u3.heap.size≤(u3.setRow w.heap.size oc).heap.size by simp [World.setRow]));generalize u3.setRow w.heap.size oc=W2 at HR4 HB4 HT4 ⊢; obtain ⟨k0,k1,y0,y1⟩:=HR4.out.cells))
    obtain ⟨n1,n2,n3⟩:=ne12 w.heap.size
    have HG:=HR4.out.fin n1 n2 n3 true 0
    refine leave_ok HG.1 HS18.out ⟨rfl,rfl,rfl⟩ ⟨?_,HB4.out.trans (HG.2 _ (Nat.le_succ _) (by omega))⟩
    unfold LineIs
    rw [HLS.out,HO.out]
    refine ⟨tv,by rw [hoc],?_,fun g hg=>by have:=HTV.out g hg;omega⟩
    have ht5:=rowAt_other (rowAt_other HT4.out (fun g hg=>by have:=HTV.out g hg;omega) 0 (x:=.bool true) (b:=w.heap.size+1)) (fun g hg=>by have:=HTV.out g hg;omega) 0 (x:=.int .i64 0) (b:=w.heap.size+2)
    exact ht5.mono (by simp)
theorem line_any (s:List UInt8) (w:World) (hn:s.length≤1099511627776):Calls Tryz.prog 9 #[.string (bstr s)] w fun e w'=>LineIs w.heap.size s w' e∧Below w.heap.size w w':=by
 by_cases h:10∈s
 ·exact line_has_nl s w h
 cases h2:sp.silentB s with
 | true=>exact line_nothing s w h h2
 | false =>
  cases hw:sp.words s with
  | none=>exact line_no_words s w h h2 hw hn
  | some m =>
   match m with
   | []=>exact absurd hw (words_some_ne h2)
   | p :: l =>
    cases hp:p.2 with
    | true=>exact line_quoted s w h h2 p l hp hw hn
    | false =>
     by_cases hq:p.1∈rowsL.map (·.1)
     ·obtain ⟨⟨x,r⟩,hm,hx⟩:=List.mem_map.1 hq
      simp only at hx
      subst hx
      by_cases hc:(l.length:Int)=r.n
      ·exact line_known s w h h2 p l hp r hm hc hw hn
      ·exact line_count s w h h2 p l hp r hm hc hw hn
     ·exact line_unknown s w h h2 p l hp hq hw hn
set_option maxRecDepth 100000 in
set_option maxHeartbeats 16000000 in
theorem parse_op (w:World) (v:Value) (b:List UInt8) (h:RowAt w.heap.size w v b.length (Lib.byteCells b)) (hm:MaxAt w) (hn:b.length≤1048576) :
  Calls Tryz.prog 13 #[v] w fun e w'=>ParseIs b w' e∧Below w.heap.size w w':=by
 have HLN:=Lib.hid (lines_any w v b h hm hn)
 obtain ⟨av,cv,rfl⟩:=h.slice
 by_cases hbig:65536<b.length
 ·have HF:=Lib.hid (fun W=>parse_long (.inl hbig) W)
  have t6:decide ((65536:Int)<(b.length:Int))=true:=by simp;omega
  have t6n:(65536:Int)<(b.length:Int):=by omega
  have t6g:decide ((b.length:Int)>65536)=true:=by simp;omega
  clear hbig hn h hm
  go_enter Tryz.func13,Tryz.ntmps13
  go_wp2
  go_ret3
  exact ⟨HF.out _,Below.refl _ _⟩
 have t6:decide ((65536:Int)<(b.length:Int))=false:=by simp;omega
 have t6n:¬(65536:Int)<(b.length:Int):=by omega
 have t6g:decide ((b.length:Int)>65536)=false:=by simp;omega
 have HB6:Hid (b.length≤65536):=Lib.hid (by omega)
 have HNB:=Lib.hid hn
 have HLS:=Lib.hid (linesS_len b).2
 by_cases hlong:2000<(sp.linesS b).length
 ·have HF:=Lib.hid (fun W=>parse_long (b:=b) (.inr hlong) W)
  have HLO:=Lib.hid hlong
  clear hbig hn h hm hlong
  go_enter Tryz.func13,Tryz.ntmps13
  go_wp2_with (go_at_call 32;refine HLN.out.mono ?_;rintro e w1 ⟨v',rfl,hr1,hb1⟩;obtain ⟨a1,c1,rfl⟩:=hr1.slice;have hl1:decide (((sp.linesS b).length:Int)>2000)=true:=(by have:=HLO.out;simp;omega);have hl2:((sp.linesS b).length:Int)>2000:=(by have:=HLO.out;omega);have HB1:=Lib.hid hb1;clear hr1 hb1)
  go_ret3
  exact ⟨HF.out _,HB1.out⟩
 have HL2:Hid ((sp.linesS b).length≤2000):=Lib.hid (by omega)
 obtain ⟨lns,hlns⟩:∃lns,lns=sp.linesS b:=⟨_,rfl⟩
 have HLNS:=Lib.hid hlns
 rw [←hlns] at HLN HLS
 have HK2:Hid (lns.length≤2000):=Lib.hid (by rw [hlns];exact HL2.out)
 clear hbig hn h hm hlong hlns
 go_enter Tryz.func13,Tryz.ntmps13
 go_wp2_with (go_at_call 32;refine HLN.out.mono ?_;rintro e w1 ⟨v',rfl,hr1,hb1⟩;obtain ⟨a1,c1,rfl⟩:=hr1.slice;have hl1:decide ((lns.length:Int)>2000)=false:=(by have:=HK2.out;simp;omega);have hl2:¬(lns.length:Int)>2000:=(by have:=HK2.out;omega);have HBA:=Lib.hid hb1;have HROW:=Lib.hid hr1;clear hr1 hb1)
 go_loopw [6,22] (fun d i wr=>∃k:Nat,k≤lns.length∧i=.int .i64 k∧∃L,PaR w1 L d wr∧PaAt lns k (L.map (·.1))∧L.length≤k) (fun _ i _=>lns.length-(intOf i).toNat)
 case atStart=>exact ⟨0,Nat.zero_le _,rfl,[],PaR.nil w1,PaAt.start _,Nat.le_refl _⟩
 case round =>
  obtain ⟨k,hk,rfl,L,hp,hat,hkl⟩:=hrel
  have HP:=Lib.hid hp;have HAT:=Lib.hid hat;have HLK:=Lib.hid hkl
  have HKL:Hid (L.length≤2000):=Lib.hid (by have:=HK2.out;omega)
  have hkb:(k:Int)≤2000:=by have:=HK2.out;omega
  clear hp hat hkl
  by_cases hlt:k<lns.length
  ·obtain ⟨bx,off,hae,_,hcell⟩:=str_el HROW.out HP.out.bel hlt
   subst hae
   have t0:decide ((k:Int)<(lns.length:Int))=true:=by simp;omega
   have HSL:Hid (lns[k].length≤1048576):=Lib.hid (Nat.le_trans (HLS.out _ (List.getElem_mem hlt)) HNB.out)
   obtain ⟨s,hs⟩:∃s,lns[k]=s:=⟨_,rfl⟩
   rw [hs] at hcell HSL
   have HSK:=Lib.hid hs
   have HCL:=Lib.hid (fun W hn=>line_any s W hn)
   cases hq:sp.lineS s with
   | none =>
    have HLE:=Lib.hid hq
    have HF:=Lib.hid (fun W=>parse_err HB6.out HL2.out (by rw [←HLNS.out];exact HAT.out.bad hlt HSK.out hq) W)
    clear hq hs
    go_wp2_with (first
       | (have hgd:=HCL;clear hgd;go_at_call 9;refine (HCL.out _ (Nat.le_trans HSL.out (by decide))).mono ?_;rintro e W1 ⟨he,hb1⟩;unfold LineIs at he;rw [HLE.out] at he;subst he;have HB1:=Lib.hid hb1;clear hb1 HCL)
        | (have hgd:=HB1;clear hgd;refine wpl_st28' rfl _ _ rfl W1.heap.size (zeroC 0) rfl rfl _ (heap_alloc_at _ _) rfl rfl zero_one ?_;intro W2 hW;obtain ⟨q1,q2⟩:=st_new hW;have HQ2:=Lib.hid q1;have HB2:=Lib.hid (HB1.out.trans (q2.mono HB1.out.size));clear hW q1 q2 HB1))
    go_ret3
    exact ⟨by have:=HF.out W2;simpa using this,HBA.out.trans ((HP.out.bel.trans (HB2.out.mono HP.out.bel.size)).mono HBA.out.size)⟩
   | some x =>
    cases x with
    | none =>
     have HLE:=Lib.hid hq
     clear hs
     go_wp2_with (first
       | (have hgd:=HCL;clear hgd;go_at_call 9;refine (HCL.out _ (Nat.le_trans HSL.out (by decide))).mono ?_;rintro e W1 ⟨he,hb1⟩;unfold LineIs at he;rw [HLE.out] at he;subst he;have HB1:=Lib.hid hb1;clear hb1 HCL)
        | (have hgd:=HB1;clear hgd;refine wpl_st28' rfl _ _ rfl W1.heap.size (zeroC 0) rfl rfl _ (heap_alloc_at _ _) rfl rfl zero_one ?_;intro W2 hW;obtain ⟨q1,q2⟩:=st_new hW;have HQ2:=Lib.hid q1;have HB2:=Lib.hid (HB1.out.trans (q2.mono HB1.out.size));clear hW q1 q2 HB1))
     exact ⟨⟨k+1,by omega,by go_num,L,HP.out.on HB2.out,HAT.out.skip hlt HSK.out HLE.out,Nat.le_succ_of_le HLK.out⟩,by simp [intOf];omega⟩
    | some o =>
     have HLE:=Lib.hid hq
     clear hs
     go_wp2_with (first
       | (have hgd:=HCL;clear hgd;go_at_call 9;refine (HCL.out _ (Nat.le_trans HSL.out (by decide))).mono ?_;rintro e W1 ⟨he,hb1⟩;unfold LineIs at he;rw [HLE.out] at he;obtain ⟨tv,rfl,hr1,ho1⟩:=he;have HB1:=Lib.hid hb1;have HT1:=Lib.hid hr1;have HN1:=Lib.hid ho1;have HO1:=Lib.hid (one_op' (o:=o) hr1);clear hb1 hr1 ho1 HCL)
        | (have hgd:=HB1;clear hgd;refine wpl_st28' rfl _ _ rfl W1.heap.size (opCells o tv) rfl rfl _ (heap_alloc_at _ _) rfl rfl HO1.out ?_;intro W2 hW;obtain ⟨q1,q2⟩:=st_new hW;have HQ2:=Lib.hid q1;have HB2:=Lib.hid (HB1.out.trans (q2.mono HB1.out.size));have HT2:=Lib.hid ((HT1.out.keep q2).mono q2.size);clear hW q1 q2 HB1)
        | (have hgd:=HQ2;clear hgd;refine wpList_load_row rfl 28 _ rfl W1.heap.size rfl 28 (opCells o tv) (0,0) _ HQ2.out Tryz.underlying28 rfl size28' ?_;clear HQ2)
        | (have hgd:=HT2;clear hgd;refine wpl_slice28 rfl _ rfl o tv rfl ?_;intro W3 p1 p2;have HQ3:=Lib.hid p1;have HB3:=Lib.hid (HB2.out.trans (p2.mono HB2.out.size));have HT3:=Lib.hid ((HT2.out.keep p2).mono p2.size);clear p1 p2 HT2)
        | (have hgd:=HQ3;clear hgd;at_builtin;refine wpl_append_op rfl _ _ rfl w1.heap.size L _ rfl (HP.out.on HB3.out).own W2.heap.size (o,tv) (0,0) rfl HQ3.out HO1.out (by have:=HKL.out;omega) (HP.out.on HB3.out).bel.size ?_;intro v' W4 hown hgr hvo;have HX:=Lib.hid (HP.out.app HB3.out HT3.out HN1.out hown hgr hvo);clear hown hgr hvo HQ3))
     exact ⟨⟨k+1,by omega,by go_num,L++[(o,tv)],HX.out,by rw [List.map_append];exact HAT.out.one hlt HSK.out HLE.out,by rw [List.length_append];exact Nat.succ_le_succ HLK.out⟩,by simp [intOf];omega⟩
  ·have hke:k=lns.length:=by omega
   have t0:decide ((k:Int)<(lns.length:Int))=false:=by simp;omega
   have HF:=Lib.hid (parse_ok HB6.out HL2.out (by rw [←HLNS.out];exact HAT.out.fin (by omega)) HP.out)
   go_wp2
   go_ret3
   exact ⟨HF.out,HBA.out.trans (HP.out.bel.mono HBA.out.size)⟩
end Go.Proofs.YtihlneenajlhoaaGreatDoor
