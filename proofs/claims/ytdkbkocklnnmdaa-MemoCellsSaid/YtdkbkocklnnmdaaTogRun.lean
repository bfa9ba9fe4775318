/-
  One of many: memo.Cell[string].run over a function that counts its runs and tells a captured value, from its entry to its return. Conditions: what is held of the world outlives the others' doing.
-/
import Derived.Test.YtdkbkocklnnmdaaTogStore
import Derived.Test.YtdkbkocklnnmdaaFreeRun7
set_option linter.unusedSimpArgs false
set_option linter.unusedVariables false
namespace Go.Proofs.Ytdkbkocklnnmdaa.tog
open Go Go.Conc Go.RowKit Go.ConcR.Gen Go.ConcN.Gen Go.Proofs.Ytdkbkocklnnmdaa.wg Go.Proofs.Ytdkbkocklnnmdaa.kid Go.Proofs.Ytdkbkocklnnmdaa.lock Go.Proofs.Ytdkbkocklnnmdaa.free
open Go.ConcR (KK WgAt stA smA rd wr mk DC0)
open Go.ConcN (WgLive RW AtR0)
open Go.Conc.Lib


theorem x47 : (Try.f47.name == "runtime.NumGoroutine") = false := by kernel_rfl
theorem x21 : (Try.f21.name == "runtime.NumGoroutine") = false := by kernel_rfl
theorem q47 : (Try.prog.funcs[(base 47).fn]?).any (·.norace) = false := by kernel_rfl
theorem q21 : (Try.prog.funcs[(base 21).fn]?).any (·.norace) = false := by kernel_rfl
noncomputable def body47 : Code := Try.f47.body.getD .skip
noncomputable def ops47 : Array Oper := opsOf (cR (cR (cR (cR body47))))
theorem ord47 : orders ops47 9 (Array.replicate 9 false) = [[0, 1, 2, 3, 4, 5, 6, 7, 8], [1, 0, 2, 3, 4, 5, 6, 7, 8], [1, 2, 0, 3, 4, 5, 6, 7, 8], [1, 2, 3, 0, 4, 5, 6, 7, 8], [1, 2, 3, 4, 0, 5, 6, 7, 8], [1, 2, 3, 4, 5, 0, 6, 7, 8]] := by kernel_rfl
theorem feq52 (fn : Fn) (first cap : Array Value) (w : World) : (binOp .eql 52 (.func fn first cap) .nilFunc).run Try.prog w = .ok (.bool false) w := by
  unfold binOp Op.equal Op.maxDepth
  unfold Op.equalIn
  simp [go_sem, run_underlying Try.underlying52]
theorem fev52 (fn : Fn) (first cap : Array Value) (w : World) (es : Array Event) : (binOp .eql 52 (.func fn first cap) .nilFunc).events Try.prog w es = es := by
  unfold binOp Op.equal Op.maxDepth
  unfold Op.equalIn
  simp [go_sem, run_underlying Try.underlying52, Result.evThen]
theorem CLive.f {p : Tp} {w : World} (h : CLive p w) : w.cell? (cA p 3) = some p.fC := by obtain ⟨c, hc⟩ := h; exact cs3 hc

/-- What run asks of the world and of the call of Together's. -/
structure RunOk (p : Tp) (bi Bv : Nat) (K : World → Prop) : Prop where
  st : ∀ {w w₁ : World}, K w → RT p [bi] w w₁ → K w₁
  live : ∀ {w : World}, K w → CLive p w
  ok : p.Ok
  bc : bi ≠ p.C
  br : bi ≠ p.Rn
  old : ∀ {w : World}, K w → ∀ b, p.Ro b ∨ b = bi ∨ b = p.Rn ∨ b = p.Wg → b < w.heap.size
  fC : p.fC = .func (.func 21) #[] #[.pointer (some ⟨p.Rn, 0, none⟩), .pointer (some ⟨Bv, 0, none⟩)]
  val : ∀ {w : World}, K w → w.cell? ⟨Bv, 0, none⟩ = some p.fin
  roV : p.Ro Bv
  fin : Atom p.fin
  rn : ¬ p.Ro p.Rn ∧ p.Rn ≠ p.C ∧ p.Rn ≠ p.Wg
  tb : p.tb = 50
  eb : p.eb = fun _ => #[]
theorem RT.alloc {p : Tp} {ps : List Nat} {w : World} (h : ∀ b, p.Ro b ∨ b ∈ ps → b < w.heap.size) (o : Obj) : RT p ps w (w.alloc o) := by
  have old : ∀ b, b < w.heap.size → (w.alloc o).heap[b]? = w.heap[b]? := fun b hb => by
    show (w.heap.push o)[b]? = _
    rw [Array.getElem?_push_lt hb, Array.getElem?_eq_getElem hb]
  refine ⟨fun b hb => old b (h b hb), fun ⟨st, sm, x⟩ => ⟨st, sm, x.of_block (old _ ?_)⟩, fun ⟨c, x⟩ => ⟨c, box_old x⟩⟩
  exact (Array.getElem?_eq_some_iff.1 x).1
theorem RT.rn {p : Tp} {ps : List Nat} (w : World) (v : Value) (h : ∀ b, p.Ro b ∨ b ∈ ps → b ≠ p.Rn) (hc : p.Rn ≠ p.C) (hw : p.Rn ≠ p.Wg) : RT p ps w (w.setCell (nA p) v) :=
  have A := aside_setCell w (nA p) v
  ⟨fun b hb => A.block b (h b hb), fun ⟨st, sm, x⟩ => ⟨st, sm, x.of_block (A.block _ hw.symm)⟩, fun ⟨c, x⟩ => ⟨c, (A.block _ hc.symm).trans x⟩⟩
/-- .. with one's own box. -/
def KB (p : Tp) (K : World → Prop) (ba : Nat) (w : World) : Prop := K w ∧ w.heap[ba]? = some (.cells #[.pointer (some ⟨p.C, 0, none⟩)] 50)
theorem KB.st {p : Tp} {bi ba : Nat} {K : World → Prop} (hK : ∀ {w w₁ : World}, K w → RT p [bi] w w₁ → K w₁) {w w₁ : World} (h : KB p K ba w) (r : RT p [bi, ba] w w₁) : KB p K ba w₁ :=
  ⟨hK h.1 (r.weaken (by simp)), (r.ro ba (.inr (by simp))).trans h.2⟩
theorem KB.cell {p : Tp} {ba : Nat} {K : World → Prop} {w : World} (h : KB p K ba w) : w.cell? ⟨ba, 0, none⟩ = some (.pointer (some ⟨p.C, 0, none⟩)) := cell_of_one h.2

section
variable {p : Tp} {bi ba ix Bv : Nat} {K : World → Prop} {b₀ : Frame} {a₀ : Act} {ops₀ : Array Oper} {i₀ : Nat} {rest₀ : List Nat} {k₀ : List Item} {cs : List Frame} {mT : Nat}
set_option maxRecDepth 100000 in
set_option maxHeartbeats 64000000 in
theorem back47 (hK : ∀ {w w₁ : World}, K w → RT p [bi, ba] w w₁ → K w₁) (hC : ∀ {w : World}, K w → CLive p w) (hO : p.Ok) (hb : ∀ b ∈ [bi, ba], b ≠ p.C) (hT : ∀ d w, K w → Goes Try.prog false (RT p [bi, ba]) (DT p [bi, ba]) (AtD p bi ix d (.os ba)) mT (G (b₀.at (a₀.put ((ops₀[i₀]?).bind (·.dst)) (.tuple #[])) (.inRegion ops₀ rest₀ :: k₀)) cs) w) (hm : mT ≤ 260) :
    ∀ (T : Array Value) d w, K w → Goes Try.prog false (RT p [bi, ba]) (DT p [bi, ba]) (AtD p bi ix d (.os ba)) 280
      (G { (base 47).at ⟨T, []⟩ [] with mode := .returning } (b₀.at a₀ (.inRegion ops₀ (i₀ :: rest₀) :: k₀) :: cs)) w := by
  intro T d w hF
  refine crew.Goes.after (S₁ := fun g w => Goes Try.prog false (RT p [bi, ba]) (DT p [bi, ba]) (AtD p bi ix d (.os ba)) mT g w) (RT.refl (p := p) (ps := [bi, ba])) (fun g w h => h) (m := 20) (n := mT) (dmono (D := DC0) (fun w w' es h => dt_of w w' es h) ?_) |>.mono (by omega)
  show Goes Try.prog false (RT p [bi, ba]) DC0 _ _ _ _
  u_leave0 Try.func47 hK hF
  refine Goes.stop fun w₃ h₃ => ?_
  exact hT d _ (hK hF h₃)

set_option maxRecDepth 100000 in
set_option maxHeartbeats 64000000 in
/-- run. -/
theorem runG (R : RunOk p bi Bv K) (hT : ∀ ba, (∀ b ∈ [bi, ba], b ≠ p.C) → ∀ d w, KB p K ba w → Goes Try.prog false (RT p [bi, ba]) (DT p [bi, ba]) (AtD p bi ix d (.os ba)) mT (G (b₀.at (a₀.put ((ops₀[i₀]?).bind (·.dst)) (.tuple #[])) (.inRegion ops₀ rest₀ :: k₀)) cs) w) (hm : mT ≤ 260) :
    ∀ d w, K w → Goes Try.prog false (RT p [bi]) (DT p [bi]) (AtD p bi ix d .bx) 60
      (G ((base 47).at ⟨#[.pointer (some ⟨p.C, 0, none⟩), undef, undef, undef, undef, undef, undef, undef, undef, undef, undef, undef, undef, undef, undef, undef, undef, undef, undef, undef], []⟩ [.code body47]) (b₀.at a₀ (.inRegion ops₀ (i₀ :: rest₀) :: k₀) :: cs)) w := by
  intro d w hF
  have hmf := hmf2
  have hme := hmf3
  have hfr := feq52
  have hfe := fev52
  have ho := fun t => schedule_orders ops47 t
  simp only [show ops47.size = 9 from by kernel_rfl, ord47] at ho
  simp only [ops47, body47, opsOf, cR, Try.f47, Option.getD_some] at ho ⊢
  have HO := Lib.hid ho
  clear ho
  have hK : ∀ {w w₁ : World}, K w → RT p [bi] w w₁ → K w₁ := @R.st
  refine dmono (D := DC0) (fun w w' es h => dt_of w w' es h) ?_
  u_c stepG_seq hK hF
  u_reg hK hF
  refine Goes.stop fun w1 h1 => ?_
  replace hF := hK hF h1
  clear h1
  rcases d with _ | d
  · trivial
  refine ⟨rfl, rfl, fun w' es s' hn => ?_, fun _ _ e => by (cases e), fun _ e => by (cases e), fun _ e => by (cases e)⟩
  cases hn
  simp only [R.tb, R.eb]
  refine ⟨_, stepG_boxE (v := .pointer (some ⟨p.C, 0, none⟩)) rfl rfl (by k_ne) rfl rfl (.inr (.inr ⟨_, rfl⟩)) q47, rfl, ?_⟩
  have hbB : ∀ b ∈ [bi, w1.heap.size], b ≠ p.C := fun b hb => by
    obtain ⟨c, hc⟩ := R.live hF
    have := (Array.getElem?_eq_some_iff.1 hc).1
    simp at hb
    rcases hb with rfl | rfl
    · exact R.bc
    · omega
  have hrn : ∀ b, p.Ro b ∨ b ∈ [bi, w1.heap.size] → b ≠ p.Rn := fun b hb => by
    have := R.old hF p.Rn (.inr (.inr (.inl rfl)))
    rcases hb with hb | hb
    · exact fun e => R.rn.1 (e ▸ hb)
    · simp at hb
      rcases hb with rfl | rfl
      · exact R.br
      · omega
  have hKB : KB p K w1.heap.size (w1.alloc (.cells #[.pointer (some ⟨p.C, 0, none⟩)] 50)) := ⟨hK hF (RT.alloc (fun b hb => R.old hF b (hb.imp id (fun h => .inl (by simpa using h)))) _), box_new _ _⟩
  clear hF
  show Goes Try.prog false (RT p [bi, w1.heap.size]) (DT p [bi, w1.heap.size]) _ _ _ _
  generalize (w1.alloc (.cells #[.pointer (some ⟨p.C, 0, none⟩)] 50)) = w2 at hKB ⊢
  generalize w1.heap.size = ba at *
  have hF := hKB
  clear hKB hK
  have hK : ∀ {w w₁ : World}, KB p K ba w → RT p [bi, ba] w w₁ → KB p K ba w₁ := KB.st @R.st
  have hC : ∀ {w : World}, KB p K ba w → CLive p w := fun h => R.live h.1
  refine crew.Goes.after (S₁ := fun g w => Goes Try.prog false (RT p [bi, ba]) (DT p [bi, ba]) (AtD p bi ix d (.ra ba)) 300 g w) (RT.refl (p := p) (ps := [bi, ba])) (fun g w h => h) (m := 40) (n := 300) (dmono (D := DC0) (fun w w' es h => dt_of w w' es h) ?_) |>.mono (by omega)
  walk_nrm
  show Goes Try.prog false (RT p [bi, ba]) DC0 _ _ _ _
  u_c stepG_region_end hK hF
  u_c stepG_seq hK hF
  u_reg hK hF
  u_op hK hF
  u_in hK hF
  rw [stepG_defer_clo rfl rfl (by k_ne) rfl rfl]
  simp only [goes_go]
  refine ⟨by u_nil, ?_⟩
  walk_nrm
  u_c stepG_region_end hK hF
  u_c stepG_seq hK hF
  u_c stepG_seq hK hF
  u_reg hK hF
  refine Goes.stop fun w₃ h₃ => ?_
  replace hF := hK hF h₃
  clear h₃
  u_in hK hF
  have hcell := hF.cell
  rw [stepG_loadE (ty := 50) (by simp [one]) rfl rfl (by k_ne) rfl rfl hcell q47]
  simp only [goes_go]
  refine ⟨dt_read (.inr (.inl (by simp))), ?_⟩
  walk_nrm
  clear hcell
  refine crew.Goes.after (S₁ := fun g w => Goes Try.prog false (RT p [bi, ba]) (DT p [bi, ba]) (AtD p bi ix d (.ra ba)) 250 g w) (RT.refl (p := p) (ps := [bi, ba])) (fun g w h => h) (m := 20) (n := 250) (dmono (D := DC0) (fun w w' es h => dt_of w w' es h) ?_) |>.mono (by omega)
  show Goes Try.prog false (RT p [bi, ba]) DC0 _ _ _ _
  u_op hK hF
  u_op hK hF
  refine Goes.stop fun w₃ h₃ => ?_
  replace hF := hK hF h₃
  clear h₃
  u_in hK hF
  have hcell := (CLive.f (hC hF)).trans (congrArg some R.fC)
  rw [stepG_loadE (ty := 52) (by simp [one]) rfl rfl (by k_ne) rfl rfl hcell q47]
  simp only [goes_go]
  refine ⟨dt_read (.inr (.inr rfl)), ?_⟩
  walk_nrm
  clear hcell
  refine crew.Goes.after (S₁ := fun g w => Goes Try.prog false (RT p [bi, ba]) (DT p [bi, ba]) (AtD p bi ix d (.ra ba)) 200 g w) (RT.refl (p := p) (ps := [bi, ba])) (fun g w h => h) (m := 40) (n := 200) (dmono (D := DC0) (fun w w' es h => dt_of w w' es h) ?_) |>.mono (by omega)
  show Goes Try.prog false (RT p [bi, ba]) DC0 _ _ _ _
  u_op hK hF
  u_c stepG_region_end hK hF
  u_cond false hK hF
  u_c stepG_skip hK hF
  u_c stepG_seq hK hF
  u_reg hK hF
  refine Goes.stop fun w₃ h₃ => ?_
  replace hF := hK hF h₃
  clear h₃
  u_in hK hF
  have hcell := hF.cell
  rw [stepG_loadE (ty := 50) (by simp [one]) rfl rfl (by k_ne) rfl rfl hcell q47]
  simp only [goes_go]
  refine ⟨dt_read (.inr (.inl (by simp))), ?_⟩
  walk_nrm
  clear hcell
  refine dmono (D := DC0) (fun w w' es h => dt_of w w' es h) ?_
  show Goes Try.prog false (RT p [bi, ba]) DC0 _ _ _ _
  u_op hK hF
  u_op hK hF
  u_call Try.func58 x58 Try.f58 hK hF
  u_c stepG_seq hK hF
  u_reg hK hF
  u_op hK hF
  u_c stepG_region_end hK hF
  u_c stepG_seq hK hF
  u_reg hK hF
  u_op hK hF
  u_op hK hF
  u_op hK hF
  u_op hK hF
  refine Goes.stop fun w3 h3 => ?_
  replace hF := hK hF h3
  clear h3
  rcases d with _ | d
  · trivial
  refine ⟨rfl, rfl, fun w' es s' hn => ?_, fun _ _ e => by (cases e), fun _ e => by (cases e), fun _ e => by (cases e)⟩
  cases hn with
  | ra c _ hc hr =>
    have hs1 := set6 hc 1
    have h6 := cs6 hc
    rw [hr] at h6
    have hst : IntKind.i64.wrap (0 + 1) = 1 := by decide
    refine ⟨_, (stepG_add_atomic (v := 0) (d := 1) rfl rfl (by k_ne) rfl Try.func88 x88.1 x88.2.1 x88.2.2 .i64 e88 rfl rfl h6 (csz hc 6)), rfl, ?_⟩
    simp only [hst]
    replace hF := hK hF (RT.own R.ok hbB hs1)
    clear hs1 hc h6 hr hst
    refine crew.Goes.after (S₁ := fun g w => Goes Try.prog false (RT p [bi, ba]) (DT p [bi, ba]) (AtD p bi ix d (.rl ba)) 300 g w) (RT.refl (p := p) (ps := [bi, ba])) (fun g w h => h) (m := 40) (n := 300) (dmono (D := DC0) (fun w w' es h => dt_of w w' es h) ?_) |>.mono (by omega)
    walk_nrm
    show Goes Try.prog false (RT p [bi, ba]) DC0 _ _ _ _
    u_op hK hF
    u_c stepG_region_end hK hF
    u_c stepG_ret' hK hF
    u_leave1 Try.func58 hK hF
    u_c stepG_region_end hK hF
    refine Goes.stop fun w₃ h₃ => ?_
    replace hF := hK hF h₃
    clear h₃
    u_in hK hF
    rw [stepG_region_draw]
    simp only [goes_go]
    refine ⟨dt_draw _, ?_⟩
    replace hF := hK hF (RT.drawn _)
    generalize hs : Region.schedule _ _ _ = sched
    obtain ⟨t, ht⟩ := Exists.intro (p := fun t => Region.schedule _ _ t = sched) _ hs
    have ho := HO.out t
    rw [ht] at ho
    clear ht hs HO
    simp only [List.mem_cons, List.not_mem_nil, or_false] at ho
    rcases ho with rfl | rfl | rfl | rfl | rfl | rfl
    · u_in hK hF
      have hcell := hF.cell
      rw [stepG_loadE (ty := 50) (by simp [one]) rfl rfl (by k_ne) rfl rfl hcell q47]
      simp only [goes_go]
      refine ⟨dt_read (.inr (.inl (by simp))), ?_⟩
      walk_nrm
      clear hcell
      u_in hK hF
      have hcell := hF.cell
      rw [stepG_loadE (ty := 50) (by simp [one]) rfl rfl (by k_ne) rfl rfl hcell q47]
      simp only [goes_go]
      refine ⟨dt_read (.inr (.inl (by simp))), ?_⟩
      walk_nrm
      clear hcell
      refine crew.Goes.after (S₁ := fun g w => Goes Try.prog false (RT p [bi, ba]) (DT p [bi, ba]) (AtD p bi ix d (.rl ba)) 238 g w) (RT.refl (p := p) (ps := [bi, ba])) (fun g w h => h) (m := 10) (n := 238) (dmono (D := DC0) (fun w w' es h => dt_of w w' es h) ?_) |>.mono (by omega)
      show Goes Try.prog false (RT p [bi, ba]) DC0 _ _ _ _
      u_op hK hF
      u_op hK hF
      refine Goes.stop fun w₃ h₃ => ?_
      replace hF := hK hF h₃
      clear h₃
      u_in hK hF
      have hcell := (CLive.f (hC hF)).trans (congrArg some R.fC)
      rw [stepG_loadE (ty := 52) (by simp [one]) rfl rfl (by k_ne) rfl rfl hcell q47]
      simp only [goes_go]
      refine ⟨dt_read (.inr (.inr rfl)), ?_⟩
      walk_nrm
      clear hcell
      refine dmono (D := DC0) (fun w w' es h => dt_of w w' es h) ?_
      show Goes Try.prog false (RT p [bi, ba]) DC0 _ _ _ _
      u_in hK hF
      refine goes_callv rfl rfl (by k_ne) rfl rfl Try.func21 x21 rfl ⟨by u_nil, ?_⟩
      walk_nrmf Try.f21
      u_c stepG_seq hK hF
      u_reg hK hF
      u_op hK hF
      u_c stepG_region_end hK hF
      u_c stepG_seq hK hF
      u_reg hK hF
      refine Goes.stop fun w4 h4 => ?_
      replace hF := hK hF h4
      clear h4
      rcases d with _ | d
      · trivial
      refine ⟨rfl, rfl, fun w' es s' hn => ?_, fun _ _ e => by (cases e), fun _ e => by (cases e), fun _ e => by (cases e)⟩
      cases hn with
      | rl _ x hx =>
        refine ⟨_, stepG_loadE (ty := 3) (by simp [one]) rfl rfl (by k_ne) rfl rfl hx q21, rfl, ?_⟩
        clear hx
        refine dmono (D := DC0) (fun w w' es h => dt_of w w' es h) ?_
        walk_nrm
        show Goes Try.prog false (RT p [bi, ba]) DC0 _ _ _ _
        u_op hK hF
        refine Goes.stop fun w5 h5 => ?_
        replace hF := hK hF h5
        clear h5
        rcases d with _ | d
        · trivial
        refine ⟨rfl, rfl, fun w' es s' hn => ?_, fun _ _ e => by (cases e), fun _ e => by (cases e), fun _ e => by (cases e)⟩
        cases hn with
        | rs _ x' y hx hz =>
          refine ⟨_, stepG_storeE (ty := 3) (v := .int .i64 (IntKind.i64.wrap (x + 1))) (by simp [one]) rfl rfl (by k_ne) rfl rfl rfl (.inl ⟨_, _, rfl⟩) hx hz q21, rfl, ?_⟩
          replace hF := hK hF (RT.rn _ (.int .i64 (IntKind.i64.wrap (x + 1))) hrn R.rn.2.1 R.rn.2.2)
          clear hx hz
          refine crew.Goes.after (S₁ := fun g w => Goes Try.prog false (RT p [bi, ba]) (DT p [bi, ba]) (AtD p bi ix d (.vs ba)) 250 g w) (RT.refl (p := p) (ps := [bi, ba])) (fun g w h => h) (m := 30) (n := 250) (dmono (D := DC0) (fun w w' es h => dt_of w w' es h) ?_) |>.mono (by omega)
          walk_nrm
          show Goes Try.prog false (RT p [bi, ba]) DC0 _ _ _ _
          u_c stepG_region_end hK hF
          u_c stepG_seq hK hF
          u_reg hK hF
          refine Goes.stop fun w₃ h₃ => ?_
          replace hF := hK hF h₃
          clear h₃
          u_in hK hF
          have hcell := R.val hF.1
          rw [stepG_loadE (ty := 9) (by simp [one]) rfl rfl (by k_ne) rfl rfl hcell q21]
          simp only [goes_go]
          refine ⟨dt_read (.inl R.roV), ?_⟩
          walk_nrm
          clear hcell
          refine crew.Goes.after (S₁ := fun g w => Goes Try.prog false (RT p [bi, ba]) (DT p [bi, ba]) (AtD p bi ix d (.vs ba)) 200 g w) (RT.refl (p := p) (ps := [bi, ba])) (fun g w h => h) (m := 30) (n := 200) (dmono (D := DC0) (fun w w' es h => dt_of w w' es h) ?_) |>.mono (by omega)
          show Goes Try.prog false (RT p [bi, ba]) DC0 _ _ _ _
          u_op hK hF
          u_c stepG_region_end hK hF
          u_c stepG_ret' hK hF
          u_leave1 Try.func21 hK hF
          refine Goes.stop fun w₃ h₃ => ?_
          replace hF := hK hF h₃
          clear h₃
          refine dmono (D := DC0) (fun w w' es h => dt_of w w' es h) ?_
          show Goes Try.prog false (RT p [bi, ba]) DC0 _ _ _ _
          u_op hK hF
          u_op hK hF
          refine Goes.stop fun w6 h6 => ?_
          replace hF := hK hF h6
          clear h6
          rcases d with _ | d
          · trivial
          refine ⟨rfl, rfl, fun w' es s' hn => ?_, fun _ _ e => by (cases e), fun _ e => by (cases e), fun _ e => by (cases e)⟩
          cases hn with
          | vs c _ hc =>
            have hs1 := set4 hc p.fin
            refine ⟨_, stepG_storeE (ty := 9) (by simp [one]) rfl rfl (by k_ne) rfl rfl rfl R.fin (cs4 hc) (csz hc 4) q47, rfl, ?_⟩
            replace hF := hK hF (RT.own R.ok hbB hs1)
            clear hs1 hc
            refine crew.Goes.after (S₁ := fun g w => Goes Try.prog false (RT p [bi, ba]) (DT p [bi, ba]) (AtD p bi ix d (.cs ba)) 200 g w) (RT.refl (p := p) (ps := [bi, ba])) (fun g w h => h) (m := 60) (n := 200) (dmono (D := DC0) (fun w w' es h => dt_of w w' es h) ?_) |>.mono (by omega)
            walk_nrm
            show Goes Try.prog false (RT p [bi, ba]) DC0 _ _ _ _
            u_c stepG_region_end hK hF
            u_c stepG_end hK hF
            u_in hK hF
            rw [stepG_unwind_clo rfl Try.func82 x82 rfl]
            simp only [goes_go]
            refine ⟨by u_nil, ?_⟩
            walk_nrmf Try.f82
            refine Goes.stop fun w₃ h₃ => ?_
            exact catchS (mT := 280) rfl hK hC R.ok hbB (fun h => h.cell) (fun d w hw => back47 hK hC R.ok hbB (hT _ hbB) hm _ d w hw) (by omega) d _ (hK hF h₃)
    · u_in hK hF
      have hcell := hF.cell
      rw [stepG_loadE (ty := 50) (by simp [one]) rfl rfl (by k_ne) rfl rfl hcell q47]
      simp only [goes_go]
      refine ⟨dt_read (.inr (.inl (by simp))), ?_⟩
      walk_nrm
      clear hcell
      u_in hK hF
      have hcell := hF.cell
      rw [stepG_loadE (ty := 50) (by simp [one]) rfl rfl (by k_ne) rfl rfl hcell q47]
      simp only [goes_go]
      refine ⟨dt_read (.inr (.inl (by simp))), ?_⟩
      walk_nrm
      clear hcell
      refine crew.Goes.after (S₁ := fun g w => Goes Try.prog false (RT p [bi, ba]) (DT p [bi, ba]) (AtD p bi ix d (.rl ba)) 238 g w) (RT.refl (p := p) (ps := [bi, ba])) (fun g w h => h) (m := 10) (n := 238) (dmono (D := DC0) (fun w w' es h => dt_of w w' es h) ?_) |>.mono (by omega)
      show Goes Try.prog false (RT p [bi, ba]) DC0 _ _ _ _
      u_op hK hF
      u_op hK hF
      refine Goes.stop fun w₃ h₃ => ?_
      replace hF := hK hF h₃
      clear h₃
      u_in hK hF
      have hcell := (CLive.f (hC hF)).trans (congrArg some R.fC)
      rw [stepG_loadE (ty := 52) (by simp [one]) rfl rfl (by k_ne) rfl rfl hcell q47]
      simp only [goes_go]
      refine ⟨dt_read (.inr (.inr rfl)), ?_⟩
      walk_nrm
      clear hcell
      refine dmono (D := DC0) (fun w w' es h => dt_of w w' es h) ?_
      show Goes Try.prog false (RT p [bi, ba]) DC0 _ _ _ _
      u_in hK hF
      refine goes_callv rfl rfl (by k_ne) rfl rfl Try.func21 x21 rfl ⟨by u_nil, ?_⟩
      walk_nrmf Try.f21
      u_c stepG_seq hK hF
      u_reg hK hF
      u_op hK hF
      u_c stepG_region_end hK hF
      u_c stepG_seq hK hF
      u_reg hK hF
      refine Goes.stop fun w4 h4 => ?_
      replace hF := hK hF h4
      clear h4
      rcases d with _ | d
      · trivial
      refine ⟨rfl, rfl, fun w' es s' hn => ?_, fun _ _ e => by (cases e), fun _ e => by (cases e), fun _ e => by (cases e)⟩
      cases hn with
      | rl _ x hx =>
        refine ⟨_, stepG_loadE (ty := 3) (by simp [one]) rfl rfl (by k_ne) rfl rfl hx q21, rfl, ?_⟩
        clear hx
        refine dmono (D := DC0) (fun w w' es h => dt_of w w' es h) ?_
        walk_nrm
        show Goes Try.prog false (RT p [bi, ba]) DC0 _ _ _ _
        u_op hK hF
        refine Goes.stop fun w5 h5 => ?_
        replace hF := hK hF h5
        clear h5
        rcases d with _ | d
        · trivial
        refine ⟨rfl, rfl, fun w' es s' hn => ?_, fun _ _ e => by (cases e), fun _ e => by (cases e), fun _ e => by (cases e)⟩
        cases hn with
        | rs _ x' y hx hz =>
          refine ⟨_, stepG_storeE (ty := 3) (v := .int .i64 (IntKind.i64.wrap (x + 1))) (by simp [one]) rfl rfl (by k_ne) rfl rfl rfl (.inl ⟨_, _, rfl⟩) hx hz q21, rfl, ?_⟩
          replace hF := hK hF (RT.rn _ (.int .i64 (IntKind.i64.wrap (x + 1))) hrn R.rn.2.1 R.rn.2.2)
          clear hx hz
          refine crew.Goes.after (S₁ := fun g w => Goes Try.prog false (RT p [bi, ba]) (DT p [bi, ba]) (AtD p bi ix d (.vs ba)) 250 g w) (RT.refl (p := p) (ps := [bi, ba])) (fun g w h => h) (m := 30) (n := 250) (dmono (D := DC0) (fun w w' es h => dt_of w w' es h) ?_) |>.mono (by omega)
          walk_nrm
          show Goes Try.prog false (RT p [bi, ba]) DC0 _ _ _ _
          u_c stepG_region_end hK hF
          u_c stepG_seq hK hF
          u_reg hK hF
          refine Goes.stop fun w₃ h₃ => ?_
          replace hF := hK hF h₃
          clear h₃
          u_in hK hF
          have hcell := R.val hF.1
          rw [stepG_loadE (ty := 9) (by simp [one]) rfl rfl (by k_ne) rfl rfl hcell q21]
          simp only [goes_go]
          refine ⟨dt_read (.inl R.roV), ?_⟩
          walk_nrm
          clear hcell
          refine crew.Goes.after (S₁ := fun g w => Goes Try.prog false (RT p [bi, ba]) (DT p [bi, ba]) (AtD p bi ix d (.vs ba)) 200 g w) (RT.refl (p := p) (ps := [bi, ba])) (fun g w h => h) (m := 30) (n := 200) (dmono (D := DC0) (fun w w' es h => dt_of w w' es h) ?_) |>.mono (by omega)
          show Goes Try.prog false (RT p [bi, ba]) DC0 _ _ _ _
          u_op hK hF
          u_c stepG_region_end hK hF
          u_c stepG_ret' hK hF
          u_leave1 Try.func21 hK hF
          refine Goes.stop fun w₃ h₃ => ?_
          replace hF := hK hF h₃
          clear h₃
          refine dmono (D := DC0) (fun w w' es h => dt_of w w' es h) ?_
          show Goes Try.prog false (RT p [bi, ba]) DC0 _ _ _ _
          u_op hK hF
          u_op hK hF
          refine Goes.stop fun w6 h6 => ?_
          replace hF := hK hF h6
          clear h6
          rcases d with _ | d
          · trivial
          refine ⟨rfl, rfl, fun w' es s' hn => ?_, fun _ _ e => by (cases e), fun _ e => by (cases e), fun _ e => by (cases e)⟩
          cases hn with
          | vs c _ hc =>
            have hs1 := set4 hc p.fin
            refine ⟨_, stepG_storeE (ty := 9) (by simp [one]) rfl rfl (by k_ne) rfl rfl rfl R.fin (cs4 hc) (csz hc 4) q47, rfl, ?_⟩
            replace hF := hK hF (RT.own R.ok hbB hs1)
            clear hs1 hc
            refine crew.Goes.after (S₁ := fun g w => Goes Try.prog false (RT p [bi, ba]) (DT p [bi, ba]) (AtD p bi ix d (.cs ba)) 200 g w) (RT.refl (p := p) (ps := [bi, ba])) (fun g w h => h) (m := 60) (n := 200) (dmono (D := DC0) (fun w w' es h => dt_of w w' es h) ?_) |>.mono (by omega)
            walk_nrm
            show Goes Try.prog false (RT p [bi, ba]) DC0 _ _ _ _
            u_c stepG_region_end hK hF
            u_c stepG_end hK hF
            u_in hK hF
            rw [stepG_unwind_clo rfl Try.func82 x82 rfl]
            simp only [goes_go]
            refine ⟨by u_nil, ?_⟩
            walk_nrmf Try.f82
            refine Goes.stop fun w₃ h₃ => ?_
            exact catchS (mT := 280) rfl hK hC R.ok hbB (fun h => h.cell) (fun d w hw => back47 hK hC R.ok hbB (hT _ hbB) hm _ d w hw) (by omega) d _ (hK hF h₃)
    · u_in hK hF
      have hcell := hF.cell
      rw [stepG_loadE (ty := 50) (by simp [one]) rfl rfl (by k_ne) rfl rfl hcell q47]
      simp only [goes_go]
      refine ⟨dt_read (.inr (.inl (by simp))), ?_⟩
      walk_nrm
      clear hcell
      refine crew.Goes.after (S₁ := fun g w => Goes Try.prog false (RT p [bi, ba]) (DT p [bi, ba]) (AtD p bi ix d (.rl ba)) 239 g w) (RT.refl (p := p) (ps := [bi, ba])) (fun g w h => h) (m := 10) (n := 239) (dmono (D := DC0) (fun w w' es h => dt_of w w' es h) ?_) |>.mono (by omega)
      show Goes Try.prog false (RT p [bi, ba]) DC0 _ _ _ _
      u_op hK hF
      refine Goes.stop fun w₃ h₃ => ?_
      replace hF := hK hF h₃
      clear h₃
      u_in hK hF
      have hcell := hF.cell
      rw [stepG_loadE (ty := 50) (by simp [one]) rfl rfl (by k_ne) rfl rfl hcell q47]
      simp only [goes_go]
      refine ⟨dt_read (.inr (.inl (by simp))), ?_⟩
      walk_nrm
      clear hcell
      refine crew.Goes.after (S₁ := fun g w => Goes Try.prog false (RT p [bi, ba]) (DT p [bi, ba]) (AtD p bi ix d (.rl ba)) 228 g w) (RT.refl (p := p) (ps := [bi, ba])) (fun g w h => h) (m := 10) (n := 228) (dmono (D := DC0) (fun w w' es h => dt_of w w' es h) ?_) |>.mono (by omega)
      show Goes Try.prog false (RT p [bi, ba]) DC0 _ _ _ _
      u_op hK hF
      refine Goes.stop fun w₃ h₃ => ?_
      replace hF := hK hF h₃
      clear h₃
      u_in hK hF
      have hcell := (CLive.f (hC hF)).trans (congrArg some R.fC)
      rw [stepG_loadE (ty := 52) (by simp [one]) rfl rfl (by k_ne) rfl rfl hcell q47]
      simp only [goes_go]
      refine ⟨dt_read (.inr (.inr rfl)), ?_⟩
      walk_nrm
      clear hcell
      refine dmono (D := DC0) (fun w w' es h => dt_of w w' es h) ?_
      show Goes Try.prog false (RT p [bi, ba]) DC0 _ _ _ _
      u_in hK hF
      refine goes_callv rfl rfl (by k_ne) rfl rfl Try.func21 x21 rfl ⟨by u_nil, ?_⟩
      walk_nrmf Try.f21
      u_c stepG_seq hK hF
      u_reg hK hF
      u_op hK hF
      u_c stepG_region_end hK hF
      u_c stepG_seq hK hF
      u_reg hK hF
      refine Goes.stop fun w4 h4 => ?_
      replace hF := hK hF h4
      clear h4
      rcases d with _ | d
      · trivial
      refine ⟨rfl, rfl, fun w' es s' hn => ?_, fun _ _ e => by (cases e), fun _ e => by (cases e), fun _ e => by (cases e)⟩
      cases hn with
      | rl _ x hx =>
        refine ⟨_, stepG_loadE (ty := 3) (by simp [one]) rfl rfl (by k_ne) rfl rfl hx q21, rfl, ?_⟩
        clear hx
        refine dmono (D := DC0) (fun w w' es h => dt_of w w' es h) ?_
        walk_nrm
        show Goes Try.prog false (RT p [bi, ba]) DC0 _ _ _ _
        u_op hK hF
        refine Goes.stop fun w5 h5 => ?_
        replace hF := hK hF h5
        clear h5
        rcases d with _ | d
        · trivial
        refine ⟨rfl, rfl, fun w' es s' hn => ?_, fun _ _ e => by (cases e), fun _ e => by (cases e), fun _ e => by (cases e)⟩
        cases hn with
        | rs _ x' y hx hz =>
          refine ⟨_, stepG_storeE (ty := 3) (v := .int .i64 (IntKind.i64.wrap (x + 1))) (by simp [one]) rfl rfl (by k_ne) rfl rfl rfl (.inl ⟨_, _, rfl⟩) hx hz q21, rfl, ?_⟩
          replace hF := hK hF (RT.rn _ (.int .i64 (IntKind.i64.wrap (x + 1))) hrn R.rn.2.1 R.rn.2.2)
          clear hx hz
          refine crew.Goes.after (S₁ := fun g w => Goes Try.prog false (RT p [bi, ba]) (DT p [bi, ba]) (AtD p bi ix d (.vs ba)) 250 g w) (RT.refl (p := p) (ps := [bi, ba])) (fun g w h => h) (m := 30) (n := 250) (dmono (D := DC0) (fun w w' es h => dt_of w w' es h) ?_) |>.mono (by omega)
          walk_nrm
          show Goes Try.prog false (RT p [bi, ba]) DC0 _ _ _ _
          u_c stepG_region_end hK hF
          u_c stepG_seq hK hF
          u_reg hK hF
          refine Goes.stop fun w₃ h₃ => ?_
          replace hF := hK hF h₃
          clear h₃
          u_in hK hF
          have hcell := R.val hF.1
          rw [stepG_loadE (ty := 9) (by simp [one]) rfl rfl (by k_ne) rfl rfl hcell q21]
          simp only [goes_go]
          refine ⟨dt_read (.inl R.roV), ?_⟩
          walk_nrm
          clear hcell
          refine crew.Goes.after (S₁ := fun g w => Goes Try.prog false (RT p [bi, ba]) (DT p [bi, ba]) (AtD p bi ix d (.vs ba)) 200 g w) (RT.refl (p := p) (ps := [bi, ba])) (fun g w h => h) (m := 30) (n := 200) (dmono (D := DC0) (fun w w' es h => dt_of w w' es h) ?_) |>.mono (by omega)
          show Goes Try.prog false (RT p [bi, ba]) DC0 _ _ _ _
          u_op hK hF
          u_c stepG_region_end hK hF
          u_c stepG_ret' hK hF
          u_leave1 Try.func21 hK hF
          refine Goes.stop fun w₃ h₃ => ?_
          replace hF := hK hF h₃
          clear h₃
          refine dmono (D := DC0) (fun w w' es h => dt_of w w' es h) ?_
          show Goes Try.prog false (RT p [bi, ba]) DC0 _ _ _ _
          u_op hK hF
          u_op hK hF
          refine Goes.stop fun w6 h6 => ?_
          replace hF := hK hF h6
          clear h6
          rcases d with _ | d
          · trivial
          refine ⟨rfl, rfl, fun w' es s' hn => ?_, fun _ _ e => by (cases e), fun _ e => by (cases e), fun _ e => by (cases e)⟩
          cases hn with
          | vs c _ hc =>
            have hs1 := set4 hc p.fin
            refine ⟨_, stepG_storeE (ty := 9) (by simp [one]) rfl rfl (by k_ne) rfl rfl rfl R.fin (cs4 hc) (csz hc 4) q47, rfl, ?_⟩
            replace hF := hK hF (RT.own R.ok hbB hs1)
            clear hs1 hc
            refine crew.Goes.after (S₁ := fun g w => Goes Try.prog false (RT p [bi, ba]) (DT p [bi, ba]) (AtD p bi ix d (.cs ba)) 200 g w) (RT.refl (p := p) (ps := [bi, ba])) (fun g w h => h) (m := 60) (n := 200) (dmono (D := DC0) (fun w w' es h => dt_of w w' es h) ?_) |>.mono (by omega)
            walk_nrm
            show Goes Try.prog false (RT p [bi, ba]) DC0 _ _ _ _
            u_c stepG_region_end hK hF
            u_c stepG_end hK hF
            u_in hK hF
            rw [stepG_unwind_clo rfl Try.func82 x82 rfl]
            simp only [goes_go]
            refine ⟨by u_nil, ?_⟩
            walk_nrmf Try.f82
            refine Goes.stop fun w₃ h₃ => ?_
            exact catchS (mT := 280) rfl hK hC R.ok hbB (fun h => h.cell) (fun d w hw => back47 hK hC R.ok hbB (hT _ hbB) hm _ d w hw) (by omega) d _ (hK hF h₃)
    · u_in hK hF
      have hcell := hF.cell
      rw [stepG_loadE (ty := 50) (by simp [one]) rfl rfl (by k_ne) rfl rfl hcell q47]
      simp only [goes_go]
      refine ⟨dt_read (.inr (.inl (by simp))), ?_⟩
      walk_nrm
      clear hcell
      refine crew.Goes.after (S₁ := fun g w => Goes Try.prog false (RT p [bi, ba]) (DT p [bi, ba]) (AtD p bi ix d (.rl ba)) 239 g w) (RT.refl (p := p) (ps := [bi, ba])) (fun g w h => h) (m := 10) (n := 239) (dmono (D := DC0) (fun w w' es h => dt_of w w' es h) ?_) |>.mono (by omega)
      show Goes Try.prog false (RT p [bi, ba]) DC0 _ _ _ _
      u_op hK hF
      u_op hK hF
      refine Goes.stop fun w₃ h₃ => ?_
      replace hF := hK hF h₃
      clear h₃
      u_in hK hF
      have hcell := hF.cell
      rw [stepG_loadE (ty := 50) (by simp [one]) rfl rfl (by k_ne) rfl rfl hcell q47]
      simp only [goes_go]
      refine ⟨dt_read (.inr (.inl (by simp))), ?_⟩
      walk_nrm
      clear hcell
      u_in hK hF
      have hcell := (CLive.f (hC hF)).trans (congrArg some R.fC)
      rw [stepG_loadE (ty := 52) (by simp [one]) rfl rfl (by k_ne) rfl rfl hcell q47]
      simp only [goes_go]
      refine ⟨dt_read (.inr (.inr rfl)), ?_⟩
      walk_nrm
      clear hcell
      refine dmono (D := DC0) (fun w w' es h => dt_of w w' es h) ?_
      show Goes Try.prog false (RT p [bi, ba]) DC0 _ _ _ _
      u_in hK hF
      refine goes_callv rfl rfl (by k_ne) rfl rfl Try.func21 x21 rfl ⟨by u_nil, ?_⟩
      walk_nrmf Try.f21
      u_c stepG_seq hK hF
      u_reg hK hF
      u_op hK hF
      u_c stepG_region_end hK hF
      u_c stepG_seq hK hF
      u_reg hK hF
      refine Goes.stop fun w4 h4 => ?_
      replace hF := hK hF h4
      clear h4
      rcases d with _ | d
      · trivial
      refine ⟨rfl, rfl, fun w' es s' hn => ?_, fun _ _ e => by (cases e), fun _ e => by (cases e), fun _ e => by (cases e)⟩
      cases hn with
      | rl _ x hx =>
        refine ⟨_, stepG_loadE (ty := 3) (by simp [one]) rfl rfl (by k_ne) rfl rfl hx q21, rfl, ?_⟩
        clear hx
        refine dmono (D := DC0) (fun w w' es h => dt_of w w' es h) ?_
        walk_nrm
        show Goes Try.prog false (RT p [bi, ba]) DC0 _ _ _ _
        u_op hK hF
        refine Goes.stop fun w5 h5 => ?_
        replace hF := hK hF h5
        clear h5
        rcases d with _ | d
        · trivial
        refine ⟨rfl, rfl, fun w' es s' hn => ?_, fun _ _ e => by (cases e), fun _ e => by (cases e), fun _ e => by (cases e)⟩
        cases hn with
        | rs _ x' y hx hz =>
          refine ⟨_, stepG_storeE (ty := 3) (v := .int .i64 (IntKind.i64.wrap (x + 1))) (by simp [one]) rfl rfl (by k_ne) rfl rfl rfl (.inl ⟨_, _, rfl⟩) hx hz q21, rfl, ?_⟩
          replace hF := hK hF (RT.rn _ (.int .i64 (IntKind.i64.wrap (x + 1))) hrn R.rn.2.1 R.rn.2.2)
          clear hx hz
          refine crew.Goes.after (S₁ := fun g w => Goes Try.prog false (RT p [bi, ba]) (DT p [bi, ba]) (AtD p bi ix d (.vs ba)) 250 g w) (RT.refl (p := p) (ps := [bi, ba])) (fun g w h => h) (m := 30) (n := 250) (dmono (D := DC0) (fun w w' es h => dt_of w w' es h) ?_) |>.mono (by omega)
          walk_nrm
          show Goes Try.prog false (RT p [bi, ba]) DC0 _ _ _ _
          u_c stepG_region_end hK hF
          u_c stepG_seq hK hF
          u_reg hK hF
          refine Goes.stop fun w₃ h₃ => ?_
          replace hF := hK hF h₃
          clear h₃
          u_in hK hF
          have hcell := R.val hF.1
          rw [stepG_loadE (ty := 9) (by simp [one]) rfl rfl (by k_ne) rfl rfl hcell q21]
          simp only [goes_go]
          refine ⟨dt_read (.inl R.roV), ?_⟩
          walk_nrm
          clear hcell
          refine crew.Goes.after (S₁ := fun g w => Goes Try.prog false (RT p [bi, ba]) (DT p [bi, ba]) (AtD p bi ix d (.vs ba)) 200 g w) (RT.refl (p := p) (ps := [bi, ba])) (fun g w h => h) (m := 30) (n := 200) (dmono (D := DC0) (fun w w' es h => dt_of w w' es h) ?_) |>.mono (by omega)
          show Goes Try.prog false (RT p [bi, ba]) DC0 _ _ _ _
          u_op hK hF
          u_c stepG_region_end hK hF
          u_c stepG_ret' hK hF
          u_leave1 Try.func21 hK hF
          refine Goes.stop fun w₃ h₃ => ?_
          replace hF := hK hF h₃
          clear h₃
          refine dmono (D := DC0) (fun w w' es h => dt_of w w' es h) ?_
          show Goes Try.prog false (RT p [bi, ba]) DC0 _ _ _ _
          u_op hK hF
          u_op hK hF
          refine Goes.stop fun w6 h6 => ?_
          replace hF := hK hF h6
          clear h6
          rcases d with _ | d
          · trivial
          refine ⟨rfl, rfl, fun w' es s' hn => ?_, fun _ _ e => by (cases e), fun _ e => by (cases e), fun _ e => by (cases e)⟩
          cases hn with
          | vs c _ hc =>
            have hs1 := set4 hc p.fin
            refine ⟨_, stepG_storeE (ty := 9) (by simp [one]) rfl rfl (by k_ne) rfl rfl rfl R.fin (cs4 hc) (csz hc 4) q47, rfl, ?_⟩
            replace hF := hK hF (RT.own R.ok hbB hs1)
            clear hs1 hc
            refine crew.Goes.after (S₁ := fun g w => Goes Try.prog false (RT p [bi, ba]) (DT p [bi, ba]) (AtD p bi ix d (.cs ba)) 200 g w) (RT.refl (p := p) (ps := [bi, ba])) (fun g w h => h) (m := 60) (n := 200) (dmono (D := DC0) (fun w w' es h => dt_of w w' es h) ?_) |>.mono (by omega)
            walk_nrm
            show Goes Try.prog false (RT p [bi, ba]) DC0 _ _ _ _
            u_c stepG_region_end hK hF
            u_c stepG_end hK hF
            u_in hK hF
            rw [stepG_unwind_clo rfl Try.func82 x82 rfl]
            simp only [goes_go]
            refine ⟨by u_nil, ?_⟩
            walk_nrmf Try.f82
            refine Goes.stop fun w₃ h₃ => ?_
            exact catchS (mT := 280) rfl hK hC R.ok hbB (fun h => h.cell) (fun d w hw => back47 hK hC R.ok hbB (hT _ hbB) hm _ d w hw) (by omega) d _ (hK hF h₃)
    · u_in hK hF
      have hcell := hF.cell
      rw [stepG_loadE (ty := 50) (by simp [one]) rfl rfl (by k_ne) rfl rfl hcell q47]
      simp only [goes_go]
      refine ⟨dt_read (.inr (.inl (by simp))), ?_⟩
      walk_nrm
      clear hcell
      refine crew.Goes.after (S₁ := fun g w => Goes Try.prog false (RT p [bi, ba]) (DT p [bi, ba]) (AtD p bi ix d (.rl ba)) 239 g w) (RT.refl (p := p) (ps := [bi, ba])) (fun g w h => h) (m := 10) (n := 239) (dmono (D := DC0) (fun w w' es h => dt_of w w' es h) ?_) |>.mono (by omega)
      show Goes Try.prog false (RT p [bi, ba]) DC0 _ _ _ _
      u_op hK hF
      u_op hK hF
      refine Goes.stop fun w₃ h₃ => ?_
      replace hF := hK hF h₃
      clear h₃
      u_in hK hF
      have hcell := (CLive.f (hC hF)).trans (congrArg some R.fC)
      rw [stepG_loadE (ty := 52) (by simp [one]) rfl rfl (by k_ne) rfl rfl hcell q47]
      simp only [goes_go]
      refine ⟨dt_read (.inr (.inr rfl)), ?_⟩
      walk_nrm
      clear hcell
      u_in hK hF
      have hcell := hF.cell
      rw [stepG_loadE (ty := 50) (by simp [one]) rfl rfl (by k_ne) rfl rfl hcell q47]
      simp only [goes_go]
      refine ⟨dt_read (.inr (.inl (by simp))), ?_⟩
      walk_nrm
      clear hcell
      refine dmono (D := DC0) (fun w w' es h => dt_of w w' es h) ?_
      show Goes Try.prog false (RT p [bi, ba]) DC0 _ _ _ _
      u_in hK hF
      refine goes_callv rfl rfl (by k_ne) rfl rfl Try.func21 x21 rfl ⟨by u_nil, ?_⟩
      walk_nrmf Try.f21
      u_c stepG_seq hK hF
      u_reg hK hF
      u_op hK hF
      u_c stepG_region_end hK hF
      u_c stepG_seq hK hF
      u_reg hK hF
      refine Goes.stop fun w4 h4 => ?_
      replace hF := hK hF h4
      clear h4
      rcases d with _ | d
      · trivial
      refine ⟨rfl, rfl, fun w' es s' hn => ?_, fun _ _ e => by (cases e), fun _ e => by (cases e), fun _ e => by (cases e)⟩
      cases hn with
      | rl _ x hx =>
        refine ⟨_, stepG_loadE (ty := 3) (by simp [one]) rfl rfl (by k_ne) rfl rfl hx q21, rfl, ?_⟩
        clear hx
        refine dmono (D := DC0) (fun w w' es h => dt_of w w' es h) ?_
        walk_nrm
        show Goes Try.prog false (RT p [bi, ba]) DC0 _ _ _ _
        u_op hK hF
        refine Goes.stop fun w5 h5 => ?_
        replace hF := hK hF h5
        clear h5
        rcases d with _ | d
        · trivial
        refine ⟨rfl, rfl, fun w' es s' hn => ?_, fun _ _ e => by (cases e), fun _ e => by (cases e), fun _ e => by (cases e)⟩
        cases hn with
        | rs _ x' y hx hz =>
          refine ⟨_, stepG_storeE (ty := 3) (v := .int .i64 (IntKind.i64.wrap (x + 1))) (by simp [one]) rfl rfl (by k_ne) rfl rfl rfl (.inl ⟨_, _, rfl⟩) hx hz q21, rfl, ?_⟩
          replace hF := hK hF (RT.rn _ (.int .i64 (IntKind.i64.wrap (x + 1))) hrn R.rn.2.1 R.rn.2.2)
          clear hx hz
          refine crew.Goes.after (S₁ := fun g w => Goes Try.prog false (RT p [bi, ba]) (DT p [bi, ba]) (AtD p bi ix d (.vs ba)) 250 g w) (RT.refl (p := p) (ps := [bi, ba])) (fun g w h => h) (m := 30) (n := 250) (dmono (D := DC0) (fun w w' es h => dt_of w w' es h) ?_) |>.mono (by omega)
          walk_nrm
          show Goes Try.prog false (RT p [bi, ba]) DC0 _ _ _ _
          u_c stepG_region_end hK hF
          u_c stepG_seq hK hF
          u_reg hK hF
          refine Goes.stop fun w₃ h₃ => ?_
          replace hF := hK hF h₃
          clear h₃
          u_in hK hF
          have hcell := R.val hF.1
          rw [stepG_loadE (ty := 9) (by simp [one]) rfl rfl (by k_ne) rfl rfl hcell q21]
          simp only [goes_go]
          refine ⟨dt_read (.inl R.roV), ?_⟩
          walk_nrm
          clear hcell
          refine crew.Goes.after (S₁ := fun g w => Goes Try.prog false (RT p [bi, ba]) (DT p [bi, ba]) (AtD p bi ix d (.vs ba)) 200 g w) (RT.refl (p := p) (ps := [bi, ba])) (fun g w h => h) (m := 30) (n := 200) (dmono (D := DC0) (fun w w' es h => dt_of w w' es h) ?_) |>.mono (by omega)
          show Goes Try.prog false (RT p [bi, ba]) DC0 _ _ _ _
          u_op hK hF
          u_c stepG_region_end hK hF
          u_c stepG_ret' hK hF
          u_leave1 Try.func21 hK hF
          refine Goes.stop fun w₃ h₃ => ?_
          replace hF := hK hF h₃
          clear h₃
          refine dmono (D := DC0) (fun w w' es h => dt_of w w' es h) ?_
          show Goes Try.prog false (RT p [bi, ba]) DC0 _ _ _ _
          u_op hK hF
          u_op hK hF
          refine Goes.stop fun w6 h6 => ?_
          replace hF := hK hF h6
          clear h6
          rcases d with _ | d
          · trivial
          refine ⟨rfl, rfl, fun w' es s' hn => ?_, fun _ _ e => by (cases e), fun _ e => by (cases e), fun _ e => by (cases e)⟩
          cases hn with
          | vs c _ hc =>
            have hs1 := set4 hc p.fin
            refine ⟨_, stepG_storeE (ty := 9) (by simp [one]) rfl rfl (by k_ne) rfl rfl rfl R.fin (cs4 hc) (csz hc 4) q47, rfl, ?_⟩
            replace hF := hK hF (RT.own R.ok hbB hs1)
            clear hs1 hc
            refine crew.Goes.after (S₁ := fun g w => Goes Try.prog false (RT p [bi, ba]) (DT p [bi, ba]) (AtD p bi ix d (.cs ba)) 200 g w) (RT.refl (p := p) (ps := [bi, ba])) (fun g w h => h) (m := 60) (n := 200) (dmono (D := DC0) (fun w w' es h => dt_of w w' es h) ?_) |>.mono (by omega)
            walk_nrm
            show Goes Try.prog false (RT p [bi, ba]) DC0 _ _ _ _
            u_c stepG_region_end hK hF
            u_c stepG_end hK hF
            u_in hK hF
            rw [stepG_unwind_clo rfl Try.func82 x82 rfl]
            simp only [goes_go]
            refine ⟨by u_nil, ?_⟩
            walk_nrmf Try.f82
            refine Goes.stop fun w₃ h₃ => ?_
            exact catchS (mT := 280) rfl hK hC R.ok hbB (fun h => h.cell) (fun d w hw => back47 hK hC R.ok hbB (hT _ hbB) hm _ d w hw) (by omega) d _ (hK hF h₃)
    · u_in hK hF
      have hcell := hF.cell
      rw [stepG_loadE (ty := 50) (by simp [one]) rfl rfl (by k_ne) rfl rfl hcell q47]
      simp only [goes_go]
      refine ⟨dt_read (.inr (.inl (by simp))), ?_⟩
      walk_nrm
      clear hcell
      refine crew.Goes.after (S₁ := fun g w => Goes Try.prog false (RT p [bi, ba]) (DT p [bi, ba]) (AtD p bi ix d (.rl ba)) 239 g w) (RT.refl (p := p) (ps := [bi, ba])) (fun g w h => h) (m := 10) (n := 239) (dmono (D := DC0) (fun w w' es h => dt_of w w' es h) ?_) |>.mono (by omega)
      show Goes Try.prog false (RT p [bi, ba]) DC0 _ _ _ _
      u_op hK hF
      u_op hK hF
      refine Goes.stop fun w₃ h₃ => ?_
      replace hF := hK hF h₃
      clear h₃
      u_in hK hF
      have hcell := (CLive.f (hC hF)).trans (congrArg some R.fC)
      rw [stepG_loadE (ty := 52) (by simp [one]) rfl rfl (by k_ne) rfl rfl hcell q47]
      simp only [goes_go]
      refine ⟨dt_read (.inr (.inr rfl)), ?_⟩
      walk_nrm
      clear hcell
      refine dmono (D := DC0) (fun w w' es h => dt_of w w' es h) ?_
      show Goes Try.prog false (RT p [bi, ba]) DC0 _ _ _ _
      u_in hK hF
      refine goes_callv rfl rfl (by k_ne) rfl rfl Try.func21 x21 rfl ⟨by u_nil, ?_⟩
      walk_nrmf Try.f21
      u_c stepG_seq hK hF
      u_reg hK hF
      u_op hK hF
      u_c stepG_region_end hK hF
      u_c stepG_seq hK hF
      u_reg hK hF
      refine Goes.stop fun w4 h4 => ?_
      replace hF := hK hF h4
      clear h4
      rcases d with _ | d
      · trivial
      refine ⟨rfl, rfl, fun w' es s' hn => ?_, fun _ _ e => by (cases e), fun _ e => by (cases e), fun _ e => by (cases e)⟩
      cases hn with
      | rl _ x hx =>
        refine ⟨_, stepG_loadE (ty := 3) (by simp [one]) rfl rfl (by k_ne) rfl rfl hx q21, rfl, ?_⟩
        clear hx
        refine dmono (D := DC0) (fun w w' es h => dt_of w w' es h) ?_
        walk_nrm
        show Goes Try.prog false (RT p [bi, ba]) DC0 _ _ _ _
        u_op hK hF
        refine Goes.stop fun w5 h5 => ?_
        replace hF := hK hF h5
        clear h5
        rcases d with _ | d
        · trivial
        refine ⟨rfl, rfl, fun w' es s' hn => ?_, fun _ _ e => by (cases e), fun _ e => by (cases e), fun _ e => by (cases e)⟩
        cases hn with
        | rs _ x' y hx hz =>
          refine ⟨_, stepG_storeE (ty := 3) (v := .int .i64 (IntKind.i64.wrap (x + 1))) (by simp [one]) rfl rfl (by k_ne) rfl rfl rfl (.inl ⟨_, _, rfl⟩) hx hz q21, rfl, ?_⟩
          replace hF := hK hF (RT.rn _ (.int .i64 (IntKind.i64.wrap (x + 1))) hrn R.rn.2.1 R.rn.2.2)
          clear hx hz
          refine crew.Goes.after (S₁ := fun g w => Goes Try.prog false (RT p [bi, ba]) (DT p [bi, ba]) (AtD p bi ix d (.vs ba)) 250 g w) (RT.refl (p := p) (ps := [bi, ba])) (fun g w h => h) (m := 30) (n := 250) (dmono (D := DC0) (fun w w' es h => dt_of w w' es h) ?_) |>.mono (by omega)
          walk_nrm
          show Goes Try.prog false (RT p [bi, ba]) DC0 _ _ _ _
          u_c stepG_region_end hK hF
          u_c stepG_seq hK hF
          u_reg hK hF
          refine Goes.stop fun w₃ h₃ => ?_
          replace hF := hK hF h₃
          clear h₃
          u_in hK hF
          have hcell := R.val hF.1
          rw [stepG_loadE (ty := 9) (by simp [one]) rfl rfl (by k_ne) rfl rfl hcell q21]
          simp only [goes_go]
          refine ⟨dt_read (.inl R.roV), ?_⟩
          walk_nrm
          clear hcell
          refine crew.Goes.after (S₁ := fun g w => Goes Try.prog false (RT p [bi, ba]) (DT p [bi, ba]) (AtD p bi ix d (.vs ba)) 200 g w) (RT.refl (p := p) (ps := [bi, ba])) (fun g w h => h) (m := 30) (n := 200) (dmono (D := DC0) (fun w w' es h => dt_of w w' es h) ?_) |>.mono (by omega)
          show Goes Try.prog false (RT p [bi, ba]) DC0 _ _ _ _
          u_op hK hF
          u_c stepG_region_end hK hF
          u_c stepG_ret' hK hF
          u_leave1 Try.func21 hK hF
          refine Goes.stop fun w₃ h₃ => ?_
          replace hF := hK hF h₃
          clear h₃
          u_in hK hF
          have hcell := hF.cell
          rw [stepG_loadE (ty := 50) (by simp [one]) rfl rfl (by k_ne) rfl rfl hcell q47]
          simp only [goes_go]
          refine ⟨dt_read (.inr (.inl (by simp))), ?_⟩
          walk_nrm
          clear hcell
          refine dmono (D := DC0) (fun w w' es h => dt_of w w' es h) ?_
          show Goes Try.prog false (RT p [bi, ba]) DC0 _ _ _ _
          u_op hK hF
          u_op hK hF
          refine Goes.stop fun w6 h6 => ?_
          replace hF := hK hF h6
          clear h6
          rcases d with _ | d
          · trivial
          refine ⟨rfl, rfl, fun w' es s' hn => ?_, fun _ _ e => by (cases e), fun _ e => by (cases e), fun _ e => by (cases e)⟩
          cases hn with
          | vs c _ hc =>
            have hs1 := set4 hc p.fin
            refine ⟨_, stepG_storeE (ty := 9) (by simp [one]) rfl rfl (by k_ne) rfl rfl rfl R.fin (cs4 hc) (csz hc 4) q47, rfl, ?_⟩
            replace hF := hK hF (RT.own R.ok hbB hs1)
            clear hs1 hc
            refine crew.Goes.after (S₁ := fun g w => Goes Try.prog false (RT p [bi, ba]) (DT p [bi, ba]) (AtD p bi ix d (.cs ba)) 200 g w) (RT.refl (p := p) (ps := [bi, ba])) (fun g w h => h) (m := 60) (n := 200) (dmono (D := DC0) (fun w w' es h => dt_of w w' es h) ?_) |>.mono (by omega)
            walk_nrm
            show Goes Try.prog false (RT p [bi, ba]) DC0 _ _ _ _
            u_c stepG_region_end hK hF
            u_c stepG_end hK hF
            u_in hK hF
            rw [stepG_unwind_clo rfl Try.func82 x82 rfl]
            simp only [goes_go]
            refine ⟨by u_nil, ?_⟩
            walk_nrmf Try.f82
            refine Goes.stop fun w₃ h₃ => ?_
            exact catchS (mT := 280) rfl hK hC R.ok hbB (fun h => h.cell) (fun d w hw => back47 hK hC R.ok hbB (hT _ hbB) hm _ d w hw) (by omega) d _ (hK hF h₃)
end
end Go.Proofs.Ytdkbkocklnnmdaa.tog
