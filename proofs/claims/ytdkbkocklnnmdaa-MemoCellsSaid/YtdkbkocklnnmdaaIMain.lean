/-
  One of many: Together from its loop's head: it makes each goroutine's number, starts those that are left and waits for them: the script of a phase. Conditions: what is held of the world outlives the others' doing.
-/
import Derived.Test.YtdkbkocklnnmdaaIKid
import Derived.Test.YtdkbkocklnnmdaaTgAll
set_option linter.unusedSimpArgs false
set_option linter.unusedVariables false
namespace Go.Proofs.Ytdkbkocklnnmdaa.itgm
open Go.Proofs.Ytdkbkocklnnmdaa.itog
open Go.Proofs.Ytdkbkocklnnmdaa.tog hiding RunOk KB runG backCatch catchS
open Go.Proofs.Ytdkbkocklnnmdaa.tgs
open Go Go.Conc Go.RowKit Go.ConcR.Gen Go.ConcN.Gen Go.Proofs.Ytdkbkocklnnmdaa.wg Go.Proofs.Ytdkbkocklnnmdaa.kid Go.Proofs.Ytdkbkocklnnmdaa.lock Go.Proofs.Ytdkbkocklnnmdaa.free
open Go.Proofs.Ytdkbkocklnnmdaa.kid (opsOf cL cR cB)
open Go.ConcR (KK WgAt stA smA rd wr mk DC0)
open Go.ConcN (WgLive RW AtR0 PayAt Has)
open Go.Conc.Lib


/-- Together's slots in the loop. -/
def T19 (C Wg Bc Bo N i : Nat) (J : Nat → Value) : Array Value := #[.pointer (some ⟨C, 0, none⟩), J 1, .pointer (some ⟨Bc, 0, none⟩), J 3, J 4, .pointer (some ⟨Bo, 0, none⟩), .pointer (some ⟨Wg, 0, none⟩), J 7, J 8, J 9, J 10, J 11, J 12, J 13, J 14, J 15, J 16, J 17, .int .i64 N, .int .i64 i, J 20, J 21, J 22, J 23, J 24, J 25, J 26]
noncomputable def body19 : Code := Try.f19.body.getD .skip
noncomputable def Z19 : Code := cR (cR (cR (cR body19)))
noncomputable def loop19 : Code := cB (cB (cR (cL Z19)))
noncomputable def tail19 : Code := cR Z19
theorem q19 : (Try.prog.funcs[(base 19).fn]?).any (·.norace) = false := by kernel_rfl
section
variable {main : Bool} {b : Frame} {a : Act} {kk : List Item} {cs : List Frame} {w : World} {ops : Array Oper} {i : Nat} {rest : List Nat} {o : Oper}
theorem stepG_allocE (ho : ops[i]? = some o) (hw : Region.wanted o (yielded ops a.tmps) = true) (hk : b.kind ≠ .early) (hop : o.op = .alloc 3) :
    stepG Try.prog main (G (b.at a (.inRegion ops (i :: rest) :: kk)) cs) w = .go (G (b.at (a.put o.dst (.pointer (some ⟨w.heap.size, 0, none⟩))) (.inRegion ops rest :: kk)) cs) (w.alloc (.cells #[.int .i64 0] 3)) #[] := by
  have hr : (execOp a.eval o).run Try.prog w = .ok (.value (.pointer (some ⟨w.heap.size, 0, none⟩))) (w.alloc (.cells #[.int .i64 0] 3)) := by
    unfold execOp
    simp only [hop]
    simp [go_sem]
  have he : (execOp a.eval o).events Try.prog w #[] = #[] := by
    unfold execOp
    simp only [hop]
    simp [go_sem, storedEv]
  rw [stepG_value ho hw hk hr]
  unfold listed
  rw [he]
  simp [seen]
end

/-- What is known at the loop's head. -/
structure TgIn (p : Tp) (Bv : Fb) (Bc Bo n : Nat) (w0 : World) : Prop where
  ro : ∀ b, p.Ro b ↔ b = Bv.bv ∨ b = Bv.bf ∨ b = Bc ∨ b = Bo
  bv : w0.heap[Bv.bv]? = some (.cells #[.int .i64 Bv.v] 3)
  bf : w0.heap[Bv.bf]? = some (.cells #[.bool Bv.fl] 4)
  bc : w0.heap[Bc]? = some (.cells #[.pointer (some ⟨p.C, 0, none⟩)] 24)
  bo : w0.heap[Bo]? = some (.cells #[.slice (some ⟨p.Ot, 0, none⟩) n n] 22)
  bd : p.Bd = Bv.bv
  vd : p.vd = .int .i64 Bv.v
  fC : p.fC = .func (.func 17) #[] #[.pointer (some ⟨p.Rn, 0, none⟩), .pointer (some ⟨Bv.bf, 0, none⟩), .pointer (some ⟨Bv.bv, 0, none⟩)]
  fin : p.fin = .int .i64 (if Bv.fl then 0 else Bv.v)
  tb : p.tb = 24
  eb : p.eb = fun _ => #[]
  rnlt : p.Rn < Bc
  otlt : p.Ot < Bo
  cro : ¬ p.Ro p.C
  wro : ¬ p.Ro p.Wg
  rro : ¬ p.Ro p.Rn
  oro : ¬ p.Ro p.Ot
  cw : p.C ≠ p.Wg
  cr : p.C ≠ p.Rn
  co : p.C ≠ p.Ot
  wr : p.Wg ≠ p.Rn
  wo : p.Wg ≠ p.Ot
/-- What main keeps. -/
structure KM (p : Tp) (w0 w : World) : Prop where
  ro : ∀ b, p.Ro b → w.heap[b]? = w0.heap[b]?
  live : WgLive 96 p.Wg w
  cl : CLive p w
def K2 (p : Tp) (w0 : World) (bi : Nat) (x : Int) (w : World) : Prop := KM p w0 w ∧ w.heap[bi]? = some (.cells #[.int .i64 x] 3)
section
variable {p : Tp} {Bc Bo n : Nat} {Bv : Fb} {w0 w w₁ : World} {bi : Nat} {x : Int} {ps : List Nat}
theorem KM.rely (h : KM p w0 w) (r : RT p ps w w₁) : KM p w0 w₁ := ⟨fun b hb => (r.ro b (.inl hb)).trans (h.ro b hb), r.live h.live, r.cl h.cl⟩
theorem K2.rely (h : K2 p w0 bi x w) (r : RT p [bi] w w₁) : K2 p w0 bi x w₁ := ⟨h.1.rely r, (r.ro bi (.inr (by simp))).trans h.2⟩
theorem KM.set (I : TgIn p Bv Bc Bo n w0) (h : KM p w0 w) (a : Addr) (v : Value) (ha : a.block = p.Wg) (hl : WgLive 96 p.Wg (w.setCell a v)) : KM p w0 (w.setCell a v) :=
  have A := aside_setCell w a v
  ⟨fun b hb => (A.block b (by rw [ha]; exact fun e => I.wro (e ▸ hb))).trans (h.ro b hb), hl, by obtain ⟨c, hc⟩ := h.cl; exact ⟨c, (A.block _ (by rw [ha]; exact I.cw)).trans hc⟩⟩
theorem KM.setS (I : TgIn p Bv Bc Bo n w0) (h : KM p w0 w) (y : Int) : KM p w0 (w.setCell (stA p.Wg) (.int .u64 y)) := by
  obtain ⟨st, sm, hw⟩ := h.live
  exact h.set I _ _ rfl ⟨_, _, hw.setSt y⟩
theorem KM.setM (I : TgIn p Bv Bc Bo n w0) (h : KM p w0 w) : KM p w0 (w.setCell (smA p.Wg) (.int .u32 0)) := by
  obtain ⟨st, sm, hw⟩ := h.live
  exact h.set I _ _ rfl ⟨_, _, hw.setSm 0⟩
theorem K2.setS (I : TgIn p Bv Bc Bo n w0) (hb : bi ≠ p.Wg) (h : K2 p w0 bi x w) (y : Int) : K2 p w0 bi x (w.setCell (stA p.Wg) (.int .u64 y)) := ⟨h.1.setS I y, ((aside_setCell w _ _).block bi hb).trans h.2⟩
theorem KM.lt (I : TgIn p Bv Bc Bo n w0) (h : KM p w0 w) : (∀ b, p.Ro b → b < w.heap.size) ∧ p.C < w.heap.size ∧ p.Wg < w.heap.size ∧ p.Rn < w.heap.size ∧ p.Ot < w.heap.size := by
  have hro : ∀ b, p.Ro b → b < w.heap.size := fun b hb => by
    have h1 := h.ro b hb
    rcases (I.ro b).1 hb with rfl | rfl | rfl | rfl
    · rw [I.bv] at h1; exact lt_of_block h1
    · rw [I.bf] at h1; exact lt_of_block h1
    · rw [I.bc] at h1; exact lt_of_block h1
    · rw [I.bo] at h1; exact lt_of_block h1
  obtain ⟨c, hc⟩ := h.cl
  obtain ⟨st, sm, hw⟩ := h.live
  have hw' : w.heap[p.Wg]? = _ := hw
  have hc' : w.heap[p.C]? = _ := hc
  have h1 := hro Bc ((I.ro _).2 (.inr (.inr (.inl rfl))))
  have h2 := hro Bo ((I.ro _).2 (.inr (.inr (.inr rfl))))
  have := I.rnlt
  have := I.otlt
  exact ⟨hro, lt_of_block hc', lt_of_block hw', by omega, by omega⟩
theorem run_ok (I : TgIn p Bv Bc Bo n w0) {ix : Int} (hC : bi ≠ p.C) (hR : bi ≠ p.Rn) : RunOk p bi Bv (K2 p w0 bi ix) where
  st := fun h r => h.rely r
  live := fun h => h.1.cl
  ok := ⟨I.cro, I.cw.symm⟩
  bc := hC
  br := hR
  old := fun {w} h b hb => by
    obtain ⟨l1, l2, l3, l4, l5⟩ := KM.lt I h.1
    rcases hb with hb | rfl | rfl | rfl
    · exact l1 b hb
    · exact lt_of_block h.2
    · exact l4
    · exact l3
  fC := I.fC
  val := fun {w} h => cell_of_one ((h.1.ro Bv.bv ((I.ro _).2 (.inl rfl))).trans I.bv)
  flg := fun {w} h => cell_of_one ((h.1.ro Bv.bf ((I.ro _).2 (.inr (.inl rfl)))).trans I.bf)
  roF := (I.ro _).2 (.inr (.inl rfl))
  roV := (I.ro _).2 (.inl rfl)
  fin := I.fin
  rn := ⟨I.rro, I.cr.symm, I.wr.symm⟩
  tb := I.tb
  eb := I.eb
theorem kid_ok (I : TgIn p Bv Bc Bo n w0) {ix : Nat} (hlt : ix < n) (hC : bi ≠ p.C) (hW : bi ≠ p.Wg) (hR : bi ≠ p.Rn) (hO : bi ≠ p.Ot) : KidOk p bi ix Bv Bc Bo n (K2 p w0 bi ix) where
  R := run_ok I hC hR
  wl := fun h => h.1.live
  bd := fun {w} h => by rw [I.bd, I.vd]; exact cell_of_one ((h.1.ro Bv.bv ((I.ro _).2 (.inl rfl))).trans I.bv)
  roD := by rw [I.bd]; exact (I.ro _).2 (.inl rfl)
  out := fun {w} h => cell_of_one ((h.1.ro Bo ((I.ro _).2 (.inr (.inr (.inr rfl))))).trans I.bo)
  roO := (I.ro _).2 (.inr (.inr (.inr rfl)))
  cel := fun {w} h => cell_of_one ((h.1.ro Bc ((I.ro _).2 (.inr (.inr (.inl rfl))))).trans I.bc)
  roC := (I.ro _).2 (.inr (.inr (.inl rfl)))
  num := fun h => cell_of_one h.2
  lt := hlt
  ot := ⟨I.oro, I.co.symm, I.wo.symm, hO.symm⟩
end

/-! ### Wait's laws hang on its anchor only in what it goes on with -/
theorem to_imp {main : Bool} {R : World → World → Prop} {S S' : Goroutine → World → Prop} (H : ∀ g w, S g w → S' g w) {g : Goroutine} {w : World} (h : To main R S g w) : To main R S' g w := by obtain ⟨m, h⟩ := h; exact ⟨m, goes_imp H h⟩
theorem wdis_imp {R : World → World → Prop} {A A' : Goroutine → World → Prop} (H : ∀ g w, A g w → A' g w) {g : Goroutine} {w : World} (h : WDis R A g w) : WDis R A' g w := by
  obtain ⟨h1, g', h2, h3, h4⟩ := h
  exact ⟨h1, g', h2, h3, to_imp H h4⟩
theorem wcas_imp {R : World → World → Prop} {Wg vs : Nat} {A A' St : Goroutine → World → Prop} (H : ∀ g w, A g w → A' g w) (g : Goroutine) (w : World) (h : WCas R Wg A St vs g w) : WCas R Wg A' St vs g w := by
  obtain ⟨h1, h2⟩ := h
  refine ⟨h1, fun v hv hw => ⟨(h2 v hv hw).1, fun hne => ?_⟩⟩
  obtain ⟨g', a, b, c⟩ := (h2 v hv hw).2 hne
  exact ⟨g', a, b, to_imp H c⟩
theorem wload_imp {R : World → World → Prop} {Wg : Nat} {A A' St : Goroutine → World → Prop} (H : ∀ g w, A g w → A' g w) (g : Goroutine) (w : World) (h : WLoad R Wg A St g w) : WLoad R Wg A' St g w := by
  obtain ⟨h1, h2⟩ := h
  refine ⟨h1, fun v hv hw => ?_⟩
  obtain ⟨g', a, b, c, d⟩ := h2 v hv hw
  exact ⟨g', a, b, c, fun hne => to_imp (wcas_imp H) (d hne)⟩

theorem atGo_of {Y : Ways} {bi ix : Nat} {Next : Goroutine → World → Prop} {g g' child : Goroutine} {w : World} {es : Array Event} (hr : g.status = .running) (hs : stepG Try.prog true g w = .spawn g' child w es) (he : es = #[])
    (hk : ∃ m, Goes Try.prog false (Rb Y bi) (DT Y.P.p [bi]) (At Y.P.p bi ix .od) m child w) (hn : Next g' w) : tgs.AtGo Y bi ix Next g w := by
  subst he
  exact ⟨hr, g', child, hs, hk, hn⟩
/-- Together at its call of Wait. -/
noncomputable def frW (p : Tp) (Bc Bo N : Nat) (J : Nat → Value) : Frame := (base 19).at ⟨T19 p.C p.Wg Bc Bo N N J, []⟩ [.inRegion (opsOf (cL tail19)) [0], .code (cR tail19)]
def AnchT (p : Tp) (Bc Bo N : Nat) (w0 : World) (cs : List Frame) (g : Goroutine) (w : World) : Prop := ∃ J, AnchWN link (KM p w0) p.Wg (frW p Bc Bo N J) cs g w

section
variable {Y : Ways} {Bc Bo N : Nat} {Bv : Fb} {w0 : World} {cs : List Frame}
set_option maxRecDepth 100000 in
set_option maxHeartbeats 16000000 in
theorem togHead (I : TgIn Y.P.p Bv Bc Bo N w0) (hn : Y.P.n = N) (hN : N ≤ 300000) (hA : Y.Anch = AnchT Y.P.p Bc Bo N w0 cs) :
    ∀ (r i : Nat), i + r = N → ∃ m, ∀ (J : Nat → Value) w, KM Y.P.p w0 w → Goes Try.prog true (R0 Y) DC0 (Script Y r) m (G ((base 19).at ⟨T19 Y.P.p.C Y.P.p.Wg Bc Bo N i J, []⟩ [.code loop19, .inLoop loop19, .inBlock 0, .code tail19]) cs) w := by
  intro r
  induction r with
  | zero =>
    intro i hi
    obtain rfl : i = N := by omega
    have q1 : decide ((i : Int) < (i : Int)) = false := decide_eq_false (by omega)
    refine ⟨100, fun J w hF => ?_⟩
    show Goes Try.prog true (R0 Y) DC0 (WDis (R0 Y) Y.Anch) _ _ _
    rw [hA]
    simp only [T19, loop19, tail19, Z19, body19, cL, cR, cB, Try.f19, Option.getD_some]
    u_c stepG_seq KM.rely hF
    u_reg KM.rely hF
    u_op KM.rely hF
    u_c stepG_region_end KM.rely hF
    u_c stepG_seq KM.rely hF
    u_cond false KM.rely hF
    u_exit KM.rely hF
    u_c stepG_seq KM.rely hF
    u_reg KM.rely hF
    u_in KM.rely hF
    refine goes_call rfl rfl (by k_ne) rfl Try.func45 x45 rfl ⟨by u_nil, ?_⟩
    refine goes_imp (S := WDis (R0 Y) (AnchWN link (KM Y.P.p w0) Y.P.p.Wg (frW Y.P.p Bc Bo i (fun k => if k = 20 then .bool false else J k)) cs)) (fun g w h => wdis_imp (fun g w h => ⟨_, h⟩) h) ?_
    have hW := waitStart (R := R0 Y) (F := KM Y.P.p w0) (cs := cs) (Wg := Y.P.p.Wg) KM.rely (fun w h => h.live) (frW Y.P.p Bc Bo i (fun k => if k = 20 then .bool false else J k)) _ hF
    refine Goes.mono ?_ (show 5 ≤ _ by omega)
    simp only [frW, opsOf, T19, loop19, tail19, Z19, body19, cL, cR, cB, Try.f19, Option.getD_some] at hW ⊢
    revert hW
    walk_nrmf Try.f45
    intro hW
    exact hW
  | succ r ih =>
    intro i hi
    have q1 : decide ((i : Int) < (N : Int)) = true := decide_eq_true (by omega)
    have q2 : decide (i < N) = true := decide_eq_true (by omega)
    have ew : IntKind.i64.wrap ((i : Int) + 1) = (i : Int) + 1 := by rw [IntKind.wrap_i64]; omega
    have ec : ((i + 1 : Nat) : Int) = (i : Int) + 1 := by omega
    have hix : Y.P.n - 1 - r = i := by omega
    obtain ⟨m, hm⟩ := ih (i + 1) (by omega)
    clear ih
    have hlit : ∀ g w, g = G ((base 19).at ⟨T19 Y.P.p.C Y.P.p.Wg Bc Bo N (i + 1) (fun k => g.frame.tmps.getD k undef), []⟩ [.code loop19, .inLoop loop19, .inBlock 0, .code tail19]) cs → KM Y.P.p w0 w → Goes Try.prog true (R0 Y) DC0 (Script Y r) m g w := fun g w hg hw => by
      obtain ⟨J, rfl⟩ : ∃ J, g = G ((base 19).at ⟨T19 Y.P.p.C Y.P.p.Wg Bc Bo N (i + 1) J, []⟩ [.code loop19, .inLoop loop19, .inBlock 0, .code tail19]) cs := ⟨_, hg⟩
      exact hm J w hw
    have HM := Lib.hid hlit
    clear hm hlit
    refine ⟨100, fun J w hF => ?_⟩
    show Goes Try.prog true (R0 Y) DC0 (AtAl Y fun bi => AtSt Y bi (Y.P.n - 1 - r) (IncDis (Rb Y bi) Y.P.p.Wg (tgs.AtGo Y bi (Y.P.n - 1 - r) (To true (R0 Y) (Script Y r))))) _ _ _
    rw [hix]
    simp only [T19, loop19, tail19, Z19, body19, cL, cR, cB, Try.f19, Option.getD_some]
    u_c stepG_seq KM.rely hF
    u_reg KM.rely hF
    u_op KM.rely hF
    u_c stepG_region_end KM.rely hF
    u_c stepG_seq KM.rely hF
    u_cond true KM.rely hF
    u_c stepG_skip KM.rely hF
    u_c stepG_seq KM.rely hF
    u_c stepG_block KM.rely hF
    u_c stepG_seq KM.rely hF
    u_reg KM.rely hF
    u_op KM.rely hF
    refine Goes.stop fun w1 h1 => ?_
    replace hF := KM.rely hF h1
    clear h1
    obtain ⟨l1, l2, l3, l4, l5⟩ := hF.lt I
    refine ⟨rfl, _, stepG_allocE rfl rfl (by k_ne) rfl, rfl, 60, ?_⟩
    have hF2 : K2 Y.P.p w0 w1.heap.size 0 (w1.alloc (.cells #[.int .i64 0] 3)) := ⟨hF.rely (RT.alloc (ps := []) (fun b hb => l1 b (hb.resolve_right (by simp))) _), box_new _ _⟩
    have b1 : w1.heap.size ≠ Y.P.p.C ∧ w1.heap.size ≠ Y.P.p.Wg ∧ w1.heap.size ≠ Y.P.p.Rn ∧ w1.heap.size ≠ Y.P.p.Ot ∧ ¬ Y.P.p.Ro w1.heap.size := ⟨by omega, by omega, by omega, by omega, fun h => by have := l1 _ h; omega⟩
    clear hF l1 l2 l3 l4 l5
    generalize w1.alloc (.cells #[.int .i64 0] 3) = w2 at hF2 ⊢
    generalize w1.heap.size = bi at hF2 b1 ⊢
    walk_nrm
    refine Goes.stop fun w3 h3 => ?_
    replace hF2 := K2.rely hF2 h3
    clear h3
    refine ⟨rfl, _, stepG_storeE (ty := 3) (ad := ⟨bi, 0, none⟩) (v := .int .i64 i) (by simp [tog.one]) rfl rfl (by k_ne) rfl rfl rfl (.inl ⟨_, _, rfl⟩) (cell_of_one hF2.2) (by simp [World.frozen?, hF2.2]) q19, rfl, 60, ?_⟩
    have A := aside_setCell w3 ⟨bi, 0, none⟩ (.int .i64 i)
    have hF3 : K2 Y.P.p w0 bi i (w3.setCell ⟨bi, 0, none⟩ (.int .i64 i)) := by
      obtain ⟨hk, hb⟩ := hF2
      refine ⟨⟨fun b hb' => (A.block b (fun e => b1.2.2.2.2 (by have e' : b = bi := e; exact e' ▸ hb'))).trans (hk.ro b hb'), ?_, ?_⟩, ?_⟩
      · obtain ⟨st, sm, hw⟩ := hk.live
        exact ⟨st, sm, hw.of_block (A.block _ b1.2.1.symm)⟩
      · obtain ⟨c, hc⟩ := hk.cl
        exact ⟨c, (A.block _ b1.1.symm).trans hc⟩
      · simp [World.setCell, Array.getElem?_modify, hb]
    clear hF2 A
    generalize w3.setCell ⟨bi, 0, none⟩ (.int .i64 i) = w4 at hF3 ⊢
    walk_nrm
    u_c stepG_region_end K2.rely hF3
    u_c stepG_seq K2.rely hF3
    u_reg K2.rely hF3
    u_in K2.rely hF3
    refine goes_call rfl rfl (by k_ne) rfl Try.func42 x42 rfl ⟨by u_nil, ?_⟩
    have hA2 := @wg.addPos (Rb Y bi) (K2 Y.P.p w0 bi i) Y.P.p.Wg (tgs.AtGo Y bi i (To true (R0 Y) (Script Y r))) K2.rely (fun w h => h.1.live) (fun w x h => K2.setS I b1.2.1 h x)
    simp only [Try.f42, Option.getD_some, Array.replicate_succ, Array.replicate_zero, List.push_toArray, List.append_toArray, List.nil_append, List.cons_append] at hA2
    walk_nrmf Try.f42
    refine Goes.mono (hA2 (mT := 30) (fun w2 hF2 => ?_) _ hF3) (by omega)
    clear hA2 hF3
    walk_nrm
    u_c stepG_region_end K2.rely hF2
    u_reg K2.rely hF2
    have hmf := hmf2
    have hme := hmf3
    u_op K2.rely hF2
    refine Goes.stop fun w₁ h₁ => ?_
    replace hF2 := K2.rely hF2 h₁
    clear h₁ hmf hme
    refine atGo_of rfl (stepG_spawn (d := call43 Y.P.p.Wg Bc Bo bi) (w' := w₁) (f := .func 43) (c := #[.pointer (some ⟨Y.P.p.Wg, 0, none⟩), .pointer (some ⟨Bc, 0, none⟩), .pointer (some ⟨Bo, 0, none⟩), .pointer (some ⟨bi, 0, none⟩)]) rfl rfl (by k_ne) (by simp [go_sem, call43, Deferred.ofValue]) rfl) ?_ ?_ ?_
    · unfold listed
      simp [go_sem, seen_none]
    · exact ⟨250, goes_all (fun k g w h => AtD.anti k _ g w h) 250 _ _ fun d => kidG (kid_ok I (by omega) b1.1 b1.2.1 b1.2.2.1 b1.2.2.2.1) d _ hF2⟩
    · refine ⟨m + 20, ?_⟩
      have hF := hF2.1
      clear hF2
      walk_nrm
      u_c stepG_region_end KM.rely hF
      u_c stepG_inBlock KM.rely hF
      u_reg KM.rely hF
      u_op KM.rely hF
      u_op KM.rely hF
      u_c stepG_region_end KM.rely hF
      u_c stepG_inLoop KM.rely hF
      try simp only [ew, q2]
      refine Goes.mono (HM.out _ _ ?_ hF) (by omega)
      simp only [T19, loop19, tail19, Z19, body19, cL, cR, cB, Try.f19, Option.getD_some, ec]
      rfl
end
end Go.Proofs.Ytdkbkocklnnmdaa.itgm
