/-
  memo.Cell[int].run over a function that counts its runs and tells a captured number, or panics: from its entry to its return, for one of many. Conditions: what is held of the world outlives the others' doing.
-/
import Derived.Test.YtdkbkocklnnmdaaTogRun
import Derived.Test.YtdkbkocklnnmdaaPanic
set_option linter.unusedSimpArgs false
set_option linter.unusedVariables false
namespace Go.Proofs.Ytdkbkocklnnmdaa.itog
open Go.Proofs.Ytdkbkocklnnmdaa.tog Go Go.Conc Go.RowKit Go.ConcR.Gen Go.ConcN.Gen Go.Proofs.Ytdkbkocklnnmdaa.wg Go.Proofs.Ytdkbkocklnnmdaa.kid Go.Proofs.Ytdkbkocklnnmdaa.lock Go.Proofs.Ytdkbkocklnnmdaa.free
open Go.ConcR (KK WgAt stA smA rd wr mk DC0)
open Go.ConcN (WgLive RW AtR0)
open Go.Conc.Lib


/-- The types whose values lie in one cell, on. -/
def two (ty : TypeId) : Prop := ty = 22 ∨ ty = 4
theorem stepG_loadE2 {main : Bool} {b : Frame} {a : Act} {kk : List Item} {cs : List Frame} {w : World} {ops : Array Oper} {i : Nat} {rest : List Nat} {o : Oper} {ty : TypeId} {x : Operand} (ht : two ty) (ho : ops[i]? = some o) (hw : Region.wanted o (yielded ops a.tmps) = true) (hk : b.kind ≠ .early) (hop : o.op = .load ty x)
    {ad : Addr} {v : Value} (hx : a.eval x = .pointer (some ad)) (hc : w.cell? ad = some v) (hq : (Try.prog.funcs[b.fn]?).any (·.norace) = false) :
    stepG Try.prog main (G (b.at a (.inRegion ops (i :: rest) :: kk)) cs) w = .go (G (b.at (a.put o.dst v) (.inRegion ops rest :: kk)) cs) w #[⟨.cell ad, false, false⟩] := by
  have hr : (execOp a.eval o).run Try.prog w = .ok (.value v) w := by
    unfold execOp
    simp only [hop, hx]
    rcases ht with rfl | rfl <;> simp [go_sem, hc]
  have he : (execOp a.eval o).events Try.prog w #[] = #[⟨.cell ad, false, false⟩] := by
    unfold execOp
    simp only [hop, hx]
    rcases ht with rfl | rfl <;> simp [go_sem, hc]
  rw [stepG_value ho hw hk hr]
  unfold listed
  rw [he, seen_one hq]
theorem x34 : (Try.f34.name == "runtime.NumGoroutine") = false := by kernel_rfl
theorem x17 : (Try.f17.name == "runtime.NumGoroutine") = false := by kernel_rfl
theorem q34 : (Try.prog.funcs[(base 34).fn]?).any (·.norace) = false := by kernel_rfl
theorem q17 : (Try.prog.funcs[(base 17).fn]?).any (·.norace) = false := by kernel_rfl
noncomputable def body34 : Code := Try.f34.body.getD .skip
noncomputable def ops34 : Array Oper := opsOf (cR (cR (cR (cR body34))))
noncomputable def body17 : Code := Try.f17.body.getD .skip
theorem ord34 : orders ops34 9 (Array.replicate 9 false) = [[0, 1, 2, 3, 4, 5, 6, 7, 8], [1, 0, 2, 3, 4, 5, 6, 7, 8], [1, 2, 0, 3, 4, 5, 6, 7, 8], [1, 2, 3, 0, 4, 5, 6, 7, 8], [1, 2, 3, 4, 0, 5, 6, 7, 8], [1, 2, 3, 4, 5, 0, 6, 7, 8]] := by kernel_rfl
theorem feq26 (fn : Fn) (first cap : Array Value) (w : World) : (binOp .eql 26 (.func fn first cap) .nilFunc).run Try.prog w = .ok (.bool false) w := by
  unfold binOp Op.equal Op.maxDepth
  unfold Op.equalIn
  simp [go_sem, run_underlying Try.underlying26]
theorem fev26 (fn : Fn) (first cap : Array Value) (w : World) (es : Array Event) : (binOp .eql 26 (.func fn first cap) .nilFunc).events Try.prog w es = es := by
  unfold binOp Op.equal Op.maxDepth
  unfold Op.equalIn
  simp [go_sem, run_underlying Try.underlying26, Result.evThen]
def noVal : ByteArray := { data := #[110, 111, 32, 118, 97, 108, 117, 101] }
theorem run_neq_some (u : TypeId) (pv : Value) (w : World) : (binOp .neq 20 (.iface u pv) .nilIface).run Try.prog w = .ok (.bool true) w := by
  unfold binOp Op.equal Op.maxDepth
  unfold Op.equalIn
  simp [go_sem, run_underlying Try.underlying20]
theorem ev_neq_some (u : TypeId) (pv : Value) (w : World) (es : Array Event) : (binOp .neq 20 (.iface u pv) .nilIface).events Try.prog w es = es := by
  unfold binOp Op.equal Op.maxDepth
  unfold Op.equalIn
  simp [go_sem, run_underlying Try.underlying20, Result.evThen]

/-- What the law's function holds: the blocks of 'fails' and of the value, and what they hold. -/
structure Fb where
  bf : Nat
  bv : Nat
  fl : Bool
  v : Int
/-- What run asks of the world and of the call of Together's. -/
structure RunOk (p : Tp) (bi : Nat) (Bv : Fb) (K : World → Prop) : Prop where
  st : ∀ {w w₁ : World}, K w → RT p [bi] w w₁ → K w₁
  live : ∀ {w : World}, K w → CLive p w
  ok : p.Ok
  bc : bi ≠ p.C
  br : bi ≠ p.Rn
  old : ∀ {w : World}, K w → ∀ b, p.Ro b ∨ b = bi ∨ b = p.Rn ∨ b = p.Wg → b < w.heap.size
  fC : p.fC = .func (.func 17) #[] #[.pointer (some ⟨p.Rn, 0, none⟩), .pointer (some ⟨Bv.bf, 0, none⟩), .pointer (some ⟨Bv.bv, 0, none⟩)]
  flg : ∀ {w : World}, K w → w.cell? ⟨Bv.bf, 0, none⟩ = some (.bool Bv.fl)
  val : ∀ {w : World}, K w → w.cell? ⟨Bv.bv, 0, none⟩ = some (.int .i64 Bv.v)
  roF : p.Ro Bv.bf
  roV : p.Ro Bv.bv
  fin : p.fin = .int .i64 (if Bv.fl then 0 else Bv.v)
  rn : ¬ p.Ro p.Rn ∧ p.Rn ≠ p.C ∧ p.Rn ≠ p.Wg
  tb : p.tb = 24
  eb : p.eb = fun _ => #[]
/-- .. with one's own box. -/
def KB (p : Tp) (K : World → Prop) (ba : Nat) (w : World) : Prop := K w ∧ w.heap[ba]? = some (.cells #[.pointer (some ⟨p.C, 0, none⟩)] 24)
theorem KB.st {p : Tp} {bi ba : Nat} {K : World → Prop} (hK : ∀ {w w₁ : World}, K w → RT p [bi] w w₁ → K w₁) {w w₁ : World} (h : KB p K ba w) (r : RT p [bi, ba] w w₁) : KB p K ba w₁ :=
  ⟨hK h.1 (r.weaken (by simp)), (r.ro ba (.inr (by simp))).trans h.2⟩
theorem KB.cell {p : Tp} {ba : Nat} {K : World → Prop} {w : World} (h : KB p K ba w) : w.cell? ⟨ba, 0, none⟩ = some (.pointer (some ⟨p.C, 0, none⟩)) := cell_of_one h.2
theorem stepG_box24 {main : Bool} {b : Frame} {a : Act} {kk : List Item} {cs : List Frame} {w : World} {ops : Array Oper} {i : Nat} {rest : List Nat} {o : Oper} {x : Operand} {v : Value} (ho : ops[i]? = some o) (hw : Region.wanted o (yielded ops a.tmps) = true) (hk : b.kind ≠ .early) (hop : o.op = .box 24 x) (hx : a.eval x = v) (hv : Atom v) :
    stepG Try.prog main (G (b.at a (.inRegion ops (i :: rest) :: kk)) cs) w = .go (G (b.at (a.put o.dst (.pointer (some ⟨w.heap.size, 0, none⟩))) (.inRegion ops rest :: kk)) cs) (w.alloc (.cells #[v] 24)) #[] := by
  have hr : (execOp a.eval o).run Try.prog w = .ok (.value (.pointer (some ⟨w.heap.size, 0, none⟩))) (w.alloc (.cells #[v] 24)) := by
    unfold execOp
    simp only [hop, hx]
    clear hx
    rcases hv with ⟨k, n, rfl⟩ | ⟨s, rfl⟩ | ⟨p, rfl⟩ <;> simp [go_sem]
  have he : (execOp a.eval o).events Try.prog w #[] = #[] := by
    unfold execOp
    simp only [hop, hx]
    clear hx hr
    rcases hv with ⟨k, n, rfl⟩ | ⟨s, rfl⟩ | ⟨p, rfl⟩ <;> simp [go_sem, storedEv]
  rw [stepG_value ho hw hk hr]
  unfold listed
  rw [he]
  simp [seen]

section
variable {p : Tp} {bi ba ix : Nat} {K K' : World → Prop} {b₀ c₀ : Frame} {a₀ : Act} {ops₀ : Array Oper} {i₀ : Nat} {rest₀ : List Nat} {k₀ : List Item} {cs : List Frame} {mT : Nat}

noncomputable def body56 : Code := Try.f56.body.getD .skip
noncomputable def ops56 : Array Oper := opsOf (cR body56)
theorem x56 : (Try.f56.name == "runtime.NumGoroutine") = false := by kernel_rfl
theorem q56 : (Try.prog.funcs[(baseD 56).fn]?).any (·.norace) = false := by kernel_rfl
set_option maxRecDepth 100000 in
set_option maxHeartbeats 64000000 in
theorem backCatch (hcm : c₀.mode = .returning) (hK : ∀ {w w₁ : World}, K w → RT p [bi, ba] w w₁ → K w₁) (hC : ∀ {w : World}, K w → CLive p w) (hO : p.Ok) (hb : ∀ b ∈ [bi, ba], b ≠ p.C) (hT : ∀ d w, K w → Goes Try.prog false (RT p [bi, ba]) (DT p [bi, ba]) (AtD p bi ix d (.os ba)) mT (G c₀ cs) w) (hm : mT ≤ 280) :
    ∀ (T : Array Value) d w, K w → Goes Try.prog false (RT p [bi, ba]) (DT p [bi, ba]) (AtD p bi ix d (.os ba)) 300
      (G ((baseD 56).at ⟨T, []⟩ [.inRegion ops56 []]) (c₀ :: cs)) w := by
  intro T d w hF
  refine crew.Goes.after (S₁ := fun g w => Goes Try.prog false (RT p [bi, ba]) (DT p [bi, ba]) (AtD p bi ix d (.os ba)) mT g w) (RT.refl (p := p) (ps := [bi, ba])) (fun g w h => h) (m := 20) (n := mT) (dmono (D := DC0) (fun w w' es h => dt_of w w' es h) ?_) |>.mono (by omega)
  show Goes Try.prog false (RT p [bi, ba]) DC0 _ _ _ _
  simp only [ops56, body56, opsOf, cT, cL, cR, Try.f56, Option.getD_some]
  u_c stepG_region_end hK hF
  u_c stepG_end hK hF
  u_in hK hF
  rw [stepG_leave_deferred rfl rfl Try.func56 (results_none rfl _ _ _) (events_results_none rfl _ _) hcm]
  simp only [goes_go]
  refine ⟨by u_nil, ?_⟩
  refine Goes.stop fun w₃ h₃ => ?_
  exact hT d _ (hK hF h₃)
set_option maxRecDepth 100000 in
set_option maxHeartbeats 64000000 in
theorem catchS (hcm : c₀.mode = .returning) (hK : ∀ {w w₁ : World}, K w → RT p [bi, ba] w w₁ → K w₁) (hC : ∀ {w : World}, K w → CLive p w) (hO : p.Ok) (hb : ∀ b ∈ [bi, ba], b ≠ p.C) (hx : ∀ {w : World}, K w → w.cell? ⟨ba, 0, none⟩ = some (.pointer (some ⟨p.C, 0, none⟩)))
    (hT : ∀ d w, K w → Goes Try.prog false (RT p [bi, ba]) (DT p [bi, ba]) (AtD p bi ix d (.os ba)) mT (G c₀ cs) w) (hm : mT ≤ 280) :
    ∀ d w, K w → Goes Try.prog false (RT p [bi, ba]) (DT p [bi, ba]) (AtD p bi ix d (.cs ba)) 200
      (G ((baseD 56).at ⟨#[.pointer (some ⟨ba, 0, none⟩), undef, undef, undef, undef, undef, undef, undef, undef, undef, undef, undef, undef, undef], []⟩ [.code body56]) (c₀ :: cs)) w := by
  intro d w hF
  simp only [body56, Try.f56, Option.getD_some]
  have hnn := run_neq_nil
  have hne := ev_neq_nil
  refine crew.Goes.after (S₁ := fun g w => Goes Try.prog false (RT p [bi, ba]) (DT p [bi, ba]) (AtD p bi ix d (.cs ba)) 100 g w) (RT.refl (p := p) (ps := [bi, ba])) (fun g w h => h) (m := 60) (n := 100) (dmono (D := DC0) (fun w w' es h => dt_of w w' es h) ?_) |>.mono (by omega)
  show Goes Try.prog false (RT p [bi, ba]) DC0 _ _ _ _
  u_c stepG_seq hK hF
  u_c stepG_seq hK hF
  u_reg hK hF
  u_in hK hF
  rw [stepG_recover_idle rfl rfl rfl rfl rfl hcm]
  simp only [goes_go]
  refine ⟨by u_nil, ?_⟩
  walk_nrm
  u_op hK hF
  u_c stepG_region_end hK hF
  u_c stepG_seq hK hF
  u_reg hK hF
  u_op hK hF
  u_op hK hF
  u_c stepG_region_end hK hF
  u_cond false hK hF
  u_c stepG_skip hK hF
  u_reg hK hF
  refine Goes.stop fun w₃ h₃ => ?_
  replace hF := hK hF h₃
  clear h₃
  u_in hK hF
  have hcell := hx hF
  rw [stepG_loadE (ty := 24) (by simp [tog.one]) rfl rfl (by k_ne) rfl rfl hcell q56]
  simp only [goes_go]
  refine ⟨dt_read (.inr (.inl (by simp))), ?_⟩
  walk_nrm
  clear hcell
  refine crew.Goes.after (S₁ := fun g w => Goes Try.prog false (RT p [bi, ba]) (DT p [bi, ba]) (AtD p bi ix d (.cs ba)) 60 g w) (RT.refl (p := p) (ps := [bi, ba])) (fun g w h => h) (m := 20) (n := 60) (dmono (D := DC0) (fun w w' es h => dt_of w w' es h) ?_) |>.mono (by omega)
  show Goes Try.prog false (RT p [bi, ba]) DC0 _ _ _ _
  u_op hK hF
  u_op hK hF
  u_call Try.func57 x57 Try.f57 hK hF
  have e13 : (ops56[3]?).bind (·.dst) = some 13 := by kernel_rfl
  have hS := fun T : Array Value => storeCs (ix := ix) (a₀ := ⟨T, []⟩) (b₀ := baseD 56) (ops₀ := ops56) (i₀ := 3) (rest₀ := []) (k₀ := []) (cs := c₀ :: cs) (mT := 300) hK hC hO hb (fun d w hw => by rw [e13]; exact backCatch hcm hK hC hO hb hT (by omega) _ d w hw) (by omega) d
  refine Goes.stop fun w₃ h₃ => ?_
  exact hS _ _ (hK hF h₃)

set_option maxRecDepth 100000 in
set_option maxHeartbeats 64000000 in
theorem backCatchP {pe : Value} (hcm : c₀.mode = .panicking [{ v := pe, recovered := true }]) (hK : ∀ {w w₁ : World}, K w → RT p [bi, ba] w w₁ → K w₁) (hC : ∀ {w : World}, K w → CLive p w) (hO : p.Ok) (hb : ∀ b ∈ [bi, ba], b ≠ p.C) (hT : ∀ d w, K w → Goes Try.prog false (RT p [bi, ba]) (DT p [bi, ba]) (AtD p bi ix d (.os ba)) mT (G { c₀ with mode := .returning } cs) w) (hm : mT ≤ 280) :
    ∀ (T : Array Value) d w, K w → Goes Try.prog false (RT p [bi, ba]) (DT p [bi, ba]) (AtD p bi ix d (.os ba)) 300
      (G ((baseD 56).at ⟨T, []⟩ [.inRegion ops56 []]) (c₀ :: cs)) w := by
  intro T d w hF
  refine crew.Goes.after (S₁ := fun g w => Goes Try.prog false (RT p [bi, ba]) (DT p [bi, ba]) (AtD p bi ix d (.os ba)) mT g w) (RT.refl (p := p) (ps := [bi, ba])) (fun g w h => h) (m := 20) (n := mT) (dmono (D := DC0) (fun w w' es h => dt_of w w' es h) ?_) |>.mono (by omega)
  show Goes Try.prog false (RT p [bi, ba]) DC0 _ _ _ _
  simp only [ops56, body56, opsOf, cT, cL, cR, Try.f56, Option.getD_some]
  u_c stepG_region_end hK hF
  u_c stepG_end hK hF
  u_in hK hF
  rw [pan.stepG_leave_recovered rfl rfl Try.func56 (results_none rfl _ _ _) (events_results_none rfl _ _) hcm]
  simp only [goes_go]
  refine ⟨by u_nil, ?_⟩
  refine Goes.stop fun w₃ h₃ => ?_
  exact hT d _ (hK hF h₃)
set_option maxRecDepth 100000 in
set_option maxHeartbeats 64000000 in
theorem catchP {ut : TypeId} {pv : Value} (hcm : c₀.mode = .panicking [{ v := .iface ut pv, recovered := false }]) (hfin : p.fin = .int .i64 0) (hK : ∀ {w w₁ : World}, K w → RT p [bi, ba] w w₁ → K w₁) (hC : ∀ {w : World}, K w → CLive p w) (hO : p.Ok) (hb : ∀ b ∈ [bi, ba], b ≠ p.C) (hx : ∀ {w : World}, K w → w.cell? ⟨ba, 0, none⟩ = some (.pointer (some ⟨p.C, 0, none⟩)))
    (hT : ∀ d w, K w → Goes Try.prog false (RT p [bi, ba]) (DT p [bi, ba]) (AtD p bi ix d (.os ba)) mT (G { c₀ with mode := .returning } cs) w) (hm : mT ≤ 280) :
    ∀ d w, K w → Goes Try.prog false (RT p [bi, ba]) (DT p [bi, ba]) (AtD p bi ix d (.vs ba)) 200
      (G ((baseD 56).at ⟨#[.pointer (some ⟨ba, 0, none⟩), undef, undef, undef, undef, undef, undef, undef, undef, undef, undef, undef, undef, undef], []⟩ [.code body56]) (c₀ :: cs)) w := by
  intro d w hF
  simp only [body56, Try.f56, Option.getD_some]
  have hnn := run_neq_some ut pv
  have hne := ev_neq_some ut pv
  refine crew.Goes.after (S₁ := fun g w => Goes Try.prog false (RT p [bi, ba]) (DT p [bi, ba]) (AtD p bi ix d (.vs ba)) 100 g w) (RT.refl (p := p) (ps := [bi, ba])) (fun g w h => h) (m := 60) (n := 100) (dmono (D := DC0) (fun w w' es h => dt_of w w' es h) ?_) |>.mono (by omega)
  show Goes Try.prog false (RT p [bi, ba]) DC0 _ _ _ _
  u_c stepG_seq hK hF
  u_c stepG_seq hK hF
  u_reg hK hF
  u_in hK hF
  rw [pan.stepG_recover_live rfl rfl rfl rfl rfl hcm]
  simp only [goes_go]
  refine ⟨by u_nil, ?_⟩
  walk_nrm
  u_op hK hF
  u_c stepG_region_end hK hF
  u_c stepG_seq hK hF
  u_reg hK hF
  u_op hK hF
  u_op hK hF
  u_c stepG_region_end hK hF
  u_cond true hK hF
  u_c stepG_seq hK hF
  u_reg hK hF
  u_op hK hF
  u_c stepG_region_end hK hF
  u_reg hK hF
  refine Goes.stop fun w₃ h₃ => ?_
  replace hF := hK hF h₃
  clear h₃
  u_in hK hF
  have hcell := hx hF
  rw [stepG_loadE (ty := 24) (by simp [tog.one]) rfl rfl (by k_ne) rfl rfl hcell q56]
  simp only [goes_go]
  refine ⟨dt_read (.inr (.inl (by simp))), ?_⟩
  walk_nrm
  clear hcell
  refine dmono (D := DC0) (fun w w' es h => dt_of w w' es h) ?_
  show Goes Try.prog false (RT p [bi, ba]) DC0 _ _ _ _
  u_op hK hF
  u_op hK hF
  u_op hK hF
  refine Goes.stop fun w1 h1 => ?_
  replace hF := hK hF h1
  clear h1
  rcases d with _ | d
  · trivial
  refine ⟨rfl, rfl, fun w' es s' hn => ?_, fun _ _ e => by (cases e), fun _ e => by (cases e), fun _ e => by (cases e)⟩
  cases hn with
  | vs c _ hc =>
    rw [hfin]
    have hs1 := set4 hc (.int .i64 0)
    refine ⟨_, stepG_storeE (ty := 3) (v := .int .i64 0) (by simp [tog.one]) rfl rfl (by k_ne) rfl rfl rfl (.inl ⟨_, _, rfl⟩) (cs4 hc) (csz hc 4) q56, rfl, ?_⟩
    replace hF := hK hF (RT.own hO hb hs1)
    clear hs1 hc
    refine crew.Goes.after (S₁ := fun g w => Goes Try.prog false (RT p [bi, ba]) (DT p [bi, ba]) (AtD p bi ix d (.cs ba)) 200 g w) (RT.refl (p := p) (ps := [bi, ba])) (fun g w h => h) (m := 60) (n := 200) (dmono (D := DC0) (fun w w' es h => dt_of w w' es h) ?_) |>.mono (by omega)
    walk_nrm
    show Goes Try.prog false (RT p [bi, ba]) DC0 _ _ _ _
    u_c stepG_region_end hK hF
    u_reg hK hF
    refine Goes.stop fun w₃ h₃ => ?_
    replace hF := hK hF h₃
    clear h₃
    u_in hK hF
    have hcell := hx hF
    rw [stepG_loadE (ty := 24) (by simp [tog.one]) rfl rfl (by k_ne) rfl rfl hcell q56]
    simp only [goes_go]
    refine ⟨dt_read (.inr (.inl (by simp))), ?_⟩
    walk_nrm
    clear hcell
    refine crew.Goes.after (S₁ := fun g w => Goes Try.prog false (RT p [bi, ba]) (DT p [bi, ba]) (AtD p bi ix d (.cs ba)) 60 g w) (RT.refl (p := p) (ps := [bi, ba])) (fun g w h => h) (m := 20) (n := 60) (dmono (D := DC0) (fun w w' es h => dt_of w w' es h) ?_) |>.mono (by omega)
    show Goes Try.prog false (RT p [bi, ba]) DC0 _ _ _ _
    u_op hK hF
    u_op hK hF
    u_call Try.func57 x57 Try.f57 hK hF
    have e13 : (ops56[3]?).bind (·.dst) = some 13 := by kernel_rfl
    have hS := fun T : Array Value => storeCs (ix := ix) (a₀ := ⟨T, []⟩) (b₀ := baseD 56) (ops₀ := ops56) (i₀ := 3) (rest₀ := []) (k₀ := []) (cs := { c₀ with mode := .panicking [{ v := .iface ut pv, recovered := true }] } :: cs) (mT := 300) hK hC hO hb (fun d w hw => by rw [e13]; exact backCatchP (c₀ := { c₀ with mode := .panicking [{ v := .iface ut pv, recovered := true }] }) rfl hK hC hO hb hT (by omega) _ d w hw) (by omega) d
    refine Goes.stop fun w₃ h₃ => ?_
    exact hS _ _ (hK hF h₃)
end

section
variable {p : Tp} {bi ba ix : Nat} {Bv : Fb} {K : World → Prop} {b₀ : Frame} {a₀ : Act} {ops₀ : Array Oper} {i₀ : Nat} {rest₀ : List Nat} {k₀ : List Item} {cs : List Frame} {mT : Nat}

set_option maxRecDepth 100000 in
set_option maxHeartbeats 64000000 in
theorem back34 (hK : ∀ {w w₁ : World}, K w → RT p [bi, ba] w w₁ → K w₁) (hC : ∀ {w : World}, K w → CLive p w) (hO : p.Ok) (hb : ∀ b ∈ [bi, ba], b ≠ p.C) (hT : ∀ d w, K w → Goes Try.prog false (RT p [bi, ba]) (DT p [bi, ba]) (AtD p bi ix d (.os ba)) mT (G (b₀.at (a₀.put ((ops₀[i₀]?).bind (·.dst)) (.tuple #[])) (.inRegion ops₀ rest₀ :: k₀)) cs) w) (hm : mT ≤ 260) :
    ∀ (T : Array Value) (k : List Item) d w, K w → Goes Try.prog false (RT p [bi, ba]) (DT p [bi, ba]) (AtD p bi ix d (.os ba)) 280
      (G { (base 34).at ⟨T, []⟩ k with mode := .returning } (b₀.at a₀ (.inRegion ops₀ (i₀ :: rest₀) :: k₀) :: cs)) w := by
  intro T k d w hF
  refine crew.Goes.after (S₁ := fun g w => Goes Try.prog false (RT p [bi, ba]) (DT p [bi, ba]) (AtD p bi ix d (.os ba)) mT g w) (RT.refl (p := p) (ps := [bi, ba])) (fun g w h => h) (m := 20) (n := mT) (dmono (D := DC0) (fun w w' es h => dt_of w w' es h) ?_) |>.mono (by omega)
  show Goes Try.prog false (RT p [bi, ba]) DC0 _ _ _ _
  u_leave0 Try.func34 hK hF
  refine Goes.stop fun w₃ h₃ => ?_
  exact hT d _ (hK hF h₃)

set_option maxRecDepth 100000 in
set_option maxHeartbeats 64000000 in
/-- run, its function panicking. -/
theorem panG {v : Value} (hfin : p.fin = .int .i64 0) (hK : ∀ {w w₁ : World}, K w → RT p [bi, ba] w w₁ → K w₁) (hC : ∀ {w : World}, K w → CLive p w) (hO : p.Ok) (hb : ∀ b ∈ [bi, ba], b ≠ p.C) (hx : ∀ {w : World}, K w → w.cell? ⟨ba, 0, none⟩ = some (.pointer (some ⟨p.C, 0, none⟩))) (hT : ∀ d w, K w → Goes Try.prog false (RT p [bi, ba]) (DT p [bi, ba]) (AtD p bi ix d (.os ba)) mT (G (b₀.at (a₀.put ((ops₀[i₀]?).bind (·.dst)) (.tuple #[])) (.inRegion ops₀ rest₀ :: k₀)) cs) w) (hm : mT ≤ 260) :
    ∀ (T : Array Value) (k : List Item) d w, K w → Goes Try.prog false (RT p [bi, ba]) (DT p [bi, ba]) (AtD p bi ix d (.vs ba)) 220
      (G { (base 34).at ⟨T, [{ target := .fn (.func 56) #[.pointer (some ⟨ba, 0, none⟩)], args := #[] }]⟩ k with mode := .panicking [{ v := .iface 9 v, recovered := false }] } (b₀.at a₀ (.inRegion ops₀ (i₀ :: rest₀) :: k₀) :: cs)) w := by
  intro T k d w hF
  refine crew.Goes.after (S₁ := fun g w => Goes Try.prog false (RT p [bi, ba]) (DT p [bi, ba]) (AtD p bi ix d (.vs ba)) 200 g w) (RT.refl (p := p) (ps := [bi, ba])) (fun g w h => h) (m := 5) (n := 200) (dmono (D := DC0) (fun w w' es h => dt_of w w' es h) ?_) |>.mono (by omega)
  show Goes Try.prog false (RT p [bi, ba]) DC0 _ _ _ _
  u_in hK hF
  rw [pan.stepG_unwind_cloP rfl Try.func56 x56 rfl]
  simp only [goes_go]
  refine ⟨by u_nil, ?_⟩
  walk_nrmf Try.f56
  refine Goes.stop fun w₃ h₃ => ?_
  exact catchP (c₀ := { (base 34).at ⟨T, []⟩ k with mode := .panicking [{ v := .iface 9 v, recovered := false }] }) (mT := 280) rfl hfin hK hC hO hb hx (fun d w hw => back34 hK hC hO hb hT hm _ _ d w hw) (by omega) d _ (hK hF h₃)

set_option maxRecDepth 100000 in
set_option maxHeartbeats 64000000 in
/-- The cell's function, from its entry: it counts itself; then it returns, or it panics. -/
theorem fG (R : RunOk p bi Bv K) (hbB : ∀ b ∈ [bi, ba], b ≠ p.C) (hrn : ∀ b, p.Ro b ∨ b ∈ [bi, ba] → b ≠ p.Rn)
    (hT1 : Bv.fl = false → ∀ d w, KB p K ba w → Goes Try.prog false (RT p [bi, ba]) (DT p [bi, ba]) (AtD p bi ix d (.vs ba)) 200 (G (b₀.at (a₀.put ((ops₀[i₀]?).bind (·.dst)) (.int .i64 Bv.v)) (.inRegion ops₀ rest₀ :: k₀)) cs) w)
    (hT2 : Bv.fl = true → ∀ d w, KB p K ba w → Goes Try.prog false (RT p [bi, ba]) (DT p [bi, ba]) (AtD p bi ix d (.vs ba)) 220 (G { b₀.at a₀ (.inRegion ops₀ (i₀ :: rest₀) :: k₀) with mode := .panicking [{ v := .iface 9 (.string noVal), recovered := false }] } cs) w) :
    ∀ d w, KB p K ba w → Goes Try.prog false (RT p [bi, ba]) (DT p [bi, ba]) (AtD p bi ix d (.rl ba)) 60
      (G ((base 17).at ⟨#[.pointer (some ⟨p.Rn, 0, none⟩), .pointer (some ⟨Bv.bf, 0, none⟩), .pointer (some ⟨Bv.bv, 0, none⟩), undef, undef, undef, undef, undef, undef], []⟩ [.code body17]) (b₀.at a₀ (.inRegion ops₀ (i₀ :: rest₀) :: k₀) :: cs)) w := by
  intro d w hF
  have hK : ∀ {w w₁ : World}, KB p K ba w → RT p [bi, ba] w w₁ → KB p K ba w₁ := KB.st @R.st
  simp only [body17, Try.f17, Option.getD_some]
  refine dmono (D := DC0) (fun w w' es h => dt_of w w' es h) ?_
  show Goes Try.prog false (RT p [bi, ba]) DC0 _ _ _ _
  u_c stepG_seq hK hF
  u_reg hK hF
  u_op hK hF
  u_c stepG_region_end hK hF
  u_c stepG_seq hK hF
  u_reg hK hF
  refine Goes.stop fun w4 h4 => ?_
  replace hF := hK hF h4
  clear h4
  rcases d with _ | d
  · trivial
  refine ⟨rfl, rfl, fun w' es s' hn => ?_, fun _ _ e => by (cases e), fun _ e => by (cases e), fun _ e => by (cases e)⟩
  cases hn with
  | rl _ x hx =>
    refine ⟨_, stepG_loadE (ty := 3) (by simp [tog.one]) rfl rfl (by k_ne) rfl rfl hx q17, rfl, ?_⟩
    clear hx
    refine dmono (D := DC0) (fun w w' es h => dt_of w w' es h) ?_
    walk_nrm
    show Goes Try.prog false (RT p [bi, ba]) DC0 _ _ _ _
    u_op hK hF
    refine Goes.stop fun w5 h5 => ?_
    replace hF := hK hF h5
    clear h5
    rcases d with _ | d
    · trivial
    refine ⟨rfl, rfl, fun w' es s' hn => ?_, fun _ _ e => by (cases e), fun _ e => by (cases e), fun _ e => by (cases e)⟩
    cases hn with
    | rs _ x' y hx hz =>
      refine ⟨_, stepG_storeE (ty := 3) (v := .int .i64 (IntKind.i64.wrap (x + 1))) (by simp [tog.one]) rfl rfl (by k_ne) rfl rfl rfl (.inl ⟨_, _, rfl⟩) hx hz q17, rfl, ?_⟩
      replace hF := hK hF (RT.rn _ (.int .i64 (IntKind.i64.wrap (x + 1))) hrn R.rn.2.1 R.rn.2.2)
      clear hx hz
      refine crew.Goes.after (S₁ := fun g w => Goes Try.prog false (RT p [bi, ba]) (DT p [bi, ba]) (AtD p bi ix d (.vs ba)) 290 g w) (RT.refl (p := p) (ps := [bi, ba])) (fun g w h => h) (m := 10) (n := 290) (dmono (D := DC0) (fun w w' es h => dt_of w w' es h) ?_) |>.mono (by omega)
      walk_nrm
      show Goes Try.prog false (RT p [bi, ba]) DC0 _ _ _ _
      u_c stepG_region_end hK hF
      u_c stepG_seq hK hF
      u_c stepG_seq hK hF
      u_reg hK hF
      refine Goes.stop fun w₃ h₃ => ?_
      replace hF := hK hF h₃
      clear h₃
      u_in hK hF
      have hcell := R.flg hF.1
      rw [stepG_loadE2 (ty := 4) (by simp [two]) rfl rfl (by k_ne) rfl rfl hcell q17]
      simp only [goes_go]
      refine ⟨dt_read (.inl R.roF), ?_⟩
      walk_nrm
      clear hcell
      cases hfl : Bv.fl
      · skip
        refine crew.Goes.after (S₁ := fun g w => Goes Try.prog false (RT p [bi, ba]) (DT p [bi, ba]) (AtD p bi ix d (.vs ba)) 250 g w) (RT.refl (p := p) (ps := [bi, ba])) (fun g w h => h) (m := 30) (n := 250) (dmono (D := DC0) (fun w w' es h => dt_of w w' es h) ?_) |>.mono (by omega)
        show Goes Try.prog false (RT p [bi, ba]) DC0 _ _ _ _
        u_c stepG_region_end hK hF
        u_cond false hK hF
        u_c stepG_skip hK hF
        u_c stepG_seq hK hF
        u_reg hK hF
        refine Goes.stop fun w₃ h₃ => ?_
        replace hF := hK hF h₃
        clear h₃
        u_in hK hF
        have hcell := R.val hF.1
        rw [stepG_loadE (ty := 3) (by simp [tog.one]) rfl rfl (by k_ne) rfl rfl hcell q17]
        simp only [goes_go]
        refine ⟨dt_read (.inl R.roV), ?_⟩
        walk_nrm
        clear hcell
        refine crew.Goes.after (S₁ := fun g w => Goes Try.prog false (RT p [bi, ba]) (DT p [bi, ba]) (AtD p bi ix d (.vs ba)) 200 g w) (RT.refl (p := p) (ps := [bi, ba])) (fun g w h => h) (m := 30) (n := 200) (dmono (D := DC0) (fun w w' es h => dt_of w w' es h) ?_) |>.mono (by omega)
        show Goes Try.prog false (RT p [bi, ba]) DC0 _ _ _ _
        u_op hK hF
        u_c stepG_region_end hK hF
        u_c stepG_ret' hK hF
        u_leave1 Try.func17 hK hF
        refine Goes.stop fun w₃ h₃ => ?_
        exact hT1 hfl d _ (hK hF h₃)
      · refine crew.Goes.after (S₁ := fun g w => Goes Try.prog false (RT p [bi, ba]) (DT p [bi, ba]) (AtD p bi ix d (.vs ba)) 220 g w) (RT.refl (p := p) (ps := [bi, ba])) (fun g w h => h) (m := 30) (n := 220) (dmono (D := DC0) (fun w w' es h => dt_of w w' es h) ?_) |>.mono (by omega)
        show Goes Try.prog false (RT p [bi, ba]) DC0 _ _ _ _
        u_c stepG_region_end hK hF
        u_cond true hK hF
        u_reg hK hF
        u_in hK hF
        rw [pan.stepG_val0 (v := .iface 9 (.string noVal)) rfl rfl (by k_ne) (by kernel_rfl) (by kernel_rfl)]
        simp only [goes_go]
        refine ⟨by u_nil, ?_⟩
        walk_nrm
        u_in hK hF
        rw [pan.stepG_raise (v := .iface 9 (.string noVal)) rfl rfl (by k_ne) (by kernel_rfl) (by kernel_rfl)]
        simp only [goes_go]
        refine ⟨by u_nil, ?_⟩
        u_in hK hF
        rw [pan.stepG_panic_up rfl Try.func17 rfl]
        simp only [goes_go]
        refine ⟨by u_nil, ?_⟩
        refine Goes.stop fun w₃ h₃ => ?_
        exact hT2 hfl d _ (hK hF h₃)

set_option maxRecDepth 100000 in
set_option maxHeartbeats 64000000 in
/-- run. -/
theorem runG (R : RunOk p bi Bv K) (hT : ∀ ba, (∀ b ∈ [bi, ba], b ≠ p.C) → ∀ d w, KB p K ba w → Goes Try.prog false (RT p [bi, ba]) (DT p [bi, ba]) (AtD p bi ix d (.os ba)) mT (G (b₀.at (a₀.put ((ops₀[i₀]?).bind (·.dst)) (.tuple #[])) (.inRegion ops₀ rest₀ :: k₀)) cs) w) (hm : mT ≤ 260) :
    ∀ d w, K w → Goes Try.prog false (RT p [bi]) (DT p [bi]) (AtD p bi ix d .bx) 60
      (G ((base 34).at ⟨#[.pointer (some ⟨p.C, 0, none⟩), undef, undef, undef, undef, undef, undef, undef, undef, undef, undef, undef, undef, undef, undef, undef, undef, undef, undef, undef], []⟩ [.code body34]) (b₀.at a₀ (.inRegion ops₀ (i₀ :: rest₀) :: k₀) :: cs)) w := by
  intro d w hF
  have hmf := hmf2
  have hme := hmf3
  have hfr := feq26
  have hfe := fev26
  have ho := fun t => schedule_orders ops34 t
  simp only [show ops34.size = 9 from by kernel_rfl, ord34] at ho
  simp only [ops34, body34, opsOf, cR, Try.f34, Option.getD_some] at ho ⊢
  have HO := Lib.hid ho
  clear ho
  have hK : ∀ {w w₁ : World}, K w → RT p [bi] w w₁ → K w₁ := @R.st
  refine dmono (D := DC0) (fun w w' es h => dt_of w w' es h) ?_
  u_c stepG_seq hK hF
  u_reg hK hF
  refine Goes.stop fun w1 h1 => ?_
  replace hF := hK hF h1
  clear h1
  rcases d with _ | d
  · trivial
  refine ⟨rfl, rfl, fun w' es s' hn => ?_, fun _ _ e => by (cases e), fun _ e => by (cases e), fun _ e => by (cases e)⟩
  cases hn
  simp only [R.tb, R.eb]
  refine ⟨_, stepG_box24 (v := .pointer (some ⟨p.C, 0, none⟩)) rfl rfl (by k_ne) rfl rfl (.inr (.inr ⟨_, rfl⟩)), rfl, ?_⟩
  have hbB : ∀ b ∈ [bi, w1.heap.size], b ≠ p.C := fun b hb => by
    obtain ⟨c, hc⟩ := R.live hF
    have := (Array.getElem?_eq_some_iff.1 hc).1
    simp at hb
    rcases hb with rfl | rfl
    · exact R.bc
    · omega
  have hrn : ∀ b, p.Ro b ∨ b ∈ [bi, w1.heap.size] → b ≠ p.Rn := fun b hb => by
    have := R.old hF p.Rn (.inr (.inr (.inl rfl)))
    rcases hb with hb | hb
    · exact fun e => R.rn.1 (e ▸ hb)
    · simp at hb
      rcases hb with rfl | rfl
      · exact R.br
      · omega
  have hKB : KB p K w1.heap.size (w1.alloc (.cells #[.pointer (some ⟨p.C, 0, none⟩)] 24)) := ⟨hK hF (RT.alloc (fun b hb => R.old hF b (hb.imp id (fun h => .inl (by simpa using h)))) _), box_new _ _⟩
  clear hF
  show Goes Try.prog false (RT p [bi, w1.heap.size]) (DT p [bi, w1.heap.size]) _ _ _ _
  generalize (w1.alloc (.cells #[.pointer (some ⟨p.C, 0, none⟩)] 24)) = w2 at hKB ⊢
  generalize w1.heap.size = ba at *
  have hF := hKB
  clear hKB hK
  have hK : ∀ {w w₁ : World}, KB p K ba w → RT p [bi, ba] w w₁ → KB p K ba w₁ := KB.st @R.st
  have hC : ∀ {w : World}, KB p K ba w → CLive p w := fun h => R.live h.1
  refine crew.Goes.after (S₁ := fun g w => Goes Try.prog false (RT p [bi, ba]) (DT p [bi, ba]) (AtD p bi ix d (.ra ba)) 300 g w) (RT.refl (p := p) (ps := [bi, ba])) (fun g w h => h) (m := 40) (n := 300) (dmono (D := DC0) (fun w w' es h => dt_of w w' es h) ?_) |>.mono (by omega)
  walk_nrm
  show Goes Try.prog false (RT p [bi, ba]) DC0 _ _ _ _
  u_c stepG_region_end hK hF
  u_c stepG_seq hK hF
  u_reg hK hF
  u_op hK hF
  u_in hK hF
  rw [stepG_defer_clo rfl rfl (by k_ne) rfl rfl]
  simp only [goes_go]
  refine ⟨by u_nil, ?_⟩
  walk_nrm
  u_c stepG_region_end hK hF
  u_c stepG_seq hK hF
  u_c stepG_seq hK hF
  u_reg hK hF
  refine Goes.stop fun w₃ h₃ => ?_
  replace hF := hK hF h₃
  clear h₃
  u_in hK hF
  have hcell := hF.cell
  rw [stepG_loadE (ty := 24) (by simp [tog.one]) rfl rfl (by k_ne) rfl rfl hcell q34]
  simp only [goes_go]
  refine ⟨dt_read (.inr (.inl (by simp))), ?_⟩
  walk_nrm
  clear hcell
  refine crew.Goes.after (S₁ := fun g w => Goes Try.prog false (RT p [bi, ba]) (DT p [bi, ba]) (AtD p bi ix d (.ra ba)) 250 g w) (RT.refl (p := p) (ps := [bi, ba])) (fun g w h => h) (m := 20) (n := 250) (dmono (D := DC0) (fun w w' es h => dt_of w w' es h) ?_) |>.mono (by omega)
  show Goes Try.prog false (RT p [bi, ba]) DC0 _ _ _ _
  u_op hK hF
  u_op hK hF
  refine Goes.stop fun w₃ h₃ => ?_
  replace hF := hK hF h₃
  clear h₃
  u_in hK hF
  have hcell := (CLive.f (hC hF)).trans (congrArg some R.fC)
  rw [stepG_loadE (ty := 26) (by simp [tog.one]) rfl rfl (by k_ne) rfl rfl hcell q34]
  simp only [goes_go]
  refine ⟨dt_read (.inr (.inr rfl)), ?_⟩
  walk_nrm
  clear hcell
  refine crew.Goes.after (S₁ := fun g w => Goes Try.prog false (RT p [bi, ba]) (DT p [bi, ba]) (AtD p bi ix d (.ra ba)) 200 g w) (RT.refl (p := p) (ps := [bi, ba])) (fun g w h => h) (m := 40) (n := 200) (dmono (D := DC0) (fun w w' es h => dt_of w w' es h) ?_) |>.mono (by omega)
  show Goes Try.prog false (RT p [bi, ba]) DC0 _ _ _ _
  u_op hK hF
  u_c stepG_region_end hK hF
  u_cond false hK hF
  u_c stepG_skip hK hF
  u_c stepG_seq hK hF
  u_reg hK hF
  refine Goes.stop fun w₃ h₃ => ?_
  replace hF := hK hF h₃
  clear h₃
  u_in hK hF
  have hcell := hF.cell
  rw [stepG_loadE (ty := 24) (by simp [tog.one]) rfl rfl (by k_ne) rfl rfl hcell q34]
  simp only [goes_go]
  refine ⟨dt_read (.inr (.inl (by simp))), ?_⟩
  walk_nrm
  clear hcell
  refine dmono (D := DC0) (fun w w' es h => dt_of w w' es h) ?_
  show Goes Try.prog false (RT p [bi, ba]) DC0 _ _ _ _
  u_op hK hF
  u_op hK hF
  u_call Try.func58 x58 Try.f58 hK hF
  u_c stepG_seq hK hF
  u_reg hK hF
  u_op hK hF
  u_c stepG_region_end hK hF
  u_c stepG_seq hK hF
  u_reg hK hF
  u_op hK hF
  u_op hK hF
  u_op hK hF
  u_op hK hF
  refine Goes.stop fun w3 h3 => ?_
  replace hF := hK hF h3
  clear h3
  rcases d with _ | d
  · trivial
  refine ⟨rfl, rfl, fun w' es s' hn => ?_, fun _ _ e => by (cases e), fun _ e => by (cases e), fun _ e => by (cases e)⟩
  cases hn with
  | ra c _ hc hr =>
    have hs1 := set6 hc 1
    have h6 := cs6 hc
    rw [hr] at h6
    have hst : IntKind.i64.wrap (0 + 1) = 1 := by decide
    refine ⟨_, (stepG_add_atomic (v := 0) (d := 1) rfl rfl (by k_ne) rfl Try.func88 x88.1 x88.2.1 x88.2.2 .i64 e88 rfl rfl h6 (csz hc 6)), rfl, ?_⟩
    simp only [hst]
    replace hF := hK hF (RT.own R.ok hbB hs1)
    clear hs1 hc h6 hr hst
    refine crew.Goes.after (S₁ := fun g w => Goes Try.prog false (RT p [bi, ba]) (DT p [bi, ba]) (AtD p bi ix d (.rl ba)) 300 g w) (RT.refl (p := p) (ps := [bi, ba])) (fun g w h => h) (m := 40) (n := 300) (dmono (D := DC0) (fun w w' es h => dt_of w w' es h) ?_) |>.mono (by omega)
    walk_nrm
    show Goes Try.prog false (RT p [bi, ba]) DC0 _ _ _ _
    u_op hK hF
    u_c stepG_region_end hK hF
    u_c stepG_ret' hK hF
    u_leave1 Try.func58 hK hF
    u_c stepG_region_end hK hF
    refine Goes.stop fun w₃ h₃ => ?_
    replace hF := hK hF h₃
    clear h₃
    u_in hK hF
    rw [stepG_region_draw]
    simp only [goes_go]
    refine ⟨dt_draw _, ?_⟩
    replace hF := hK hF (RT.drawn _)
    generalize hs : Region.schedule _ _ _ = sched
    obtain ⟨t, ht⟩ := Exists.intro (p := fun t => Region.schedule _ _ t = sched) _ hs
    have ho := HO.out t
    rw [ht] at ho
    clear ht hs HO
    simp only [List.mem_cons, List.not_mem_nil, or_false] at ho
    rcases ho with rfl | rfl | rfl | rfl | rfl | rfl
    · u_in hK hF
      have hcell := hF.cell
      rw [stepG_loadE (ty := 24) (by simp [tog.one]) rfl rfl (by k_ne) rfl rfl hcell q34]
      simp only [goes_go]
      refine ⟨dt_read (.inr (.inl (by simp))), ?_⟩
      walk_nrm
      clear hcell
      u_in hK hF
      have hcell := hF.cell
      rw [stepG_loadE (ty := 24) (by simp [tog.one]) rfl rfl (by k_ne) rfl rfl hcell q34]
      simp only [goes_go]
      refine ⟨dt_read (.inr (.inl (by simp))), ?_⟩
      walk_nrm
      clear hcell
      refine crew.Goes.after (S₁ := fun g w => Goes Try.prog false (RT p [bi, ba]) (DT p [bi, ba]) (AtD p bi ix d (.rl ba)) 238 g w) (RT.refl (p := p) (ps := [bi, ba])) (fun g w h => h) (m := 10) (n := 238) (dmono (D := DC0) (fun w w' es h => dt_of w w' es h) ?_) |>.mono (by omega)
      show Goes Try.prog false (RT p [bi, ba]) DC0 _ _ _ _
      u_op hK hF
      u_op hK hF
      refine Goes.stop fun w₃ h₃ => ?_
      replace hF := hK hF h₃
      clear h₃
      u_in hK hF
      have hcell := (CLive.f (hC hF)).trans (congrArg some R.fC)
      rw [stepG_loadE (ty := 26) (by simp [tog.one]) rfl rfl (by k_ne) rfl rfl hcell q34]
      simp only [goes_go]
      refine ⟨dt_read (.inr (.inr rfl)), ?_⟩
      walk_nrm
      clear hcell
      refine crew.Goes.after (S₁ := fun g w => Goes Try.prog false (RT p [bi, ba]) (DT p [bi, ba]) (AtD p bi ix d (.rl ba)) 60 g w) (RT.refl (p := p) (ps := [bi, ba])) (fun g w h => h) (m := 10) (n := 60) (dmono (D := DC0) (fun w w' es h => dt_of w w' es h) ?_) |>.mono (by omega)
      show Goes Try.prog false (RT p [bi, ba]) DC0 _ _ _ _
      u_in hK hF
      refine goes_callv rfl rfl (by k_ne) rfl rfl Try.func17 x17 rfl ⟨by u_nil, ?_⟩
      walk_nrmf Try.f17
      refine Goes.stop fun w₃ h₃ => ?_
      refine fG R hbB hrn (fun hfl d w hF => ?_) (fun hfl d w hF => ?_) d _ (hK hF h₃)
      · have hfv : p.fin = .int .i64 Bv.v := by have := R.fin; rw [hfl] at this; exact this
        clear h₃
        walk_nrm
        refine dmono (D := DC0) (fun w w' es h => dt_of w w' es h) ?_
        show Goes Try.prog false (RT p [bi, ba]) DC0 _ _ _ _
        u_op hK hF
        u_op hK hF
        refine Goes.stop fun w6 h6 => ?_
        replace hF := hK hF h6
        clear h6
        rcases d with _ | d
        · trivial
        refine ⟨rfl, rfl, fun w' es s' hn => ?_, fun _ _ e => by (cases e), fun _ e => by (cases e), fun _ e => by (cases e)⟩
        cases hn with
        | vs c _ hc =>
          rw [hfv]
          have hs1 := set4 hc (.int .i64 Bv.v)
          refine ⟨_, stepG_storeE (ty := 3) (v := .int .i64 Bv.v) (by simp [tog.one]) rfl rfl (by k_ne) rfl rfl rfl (.inl ⟨_, _, rfl⟩) (cs4 hc) (csz hc 4) q34, rfl, ?_⟩
          replace hF := hK hF (RT.own R.ok hbB hs1)
          clear hs1 hc
          refine crew.Goes.after (S₁ := fun g w => Goes Try.prog false (RT p [bi, ba]) (DT p [bi, ba]) (AtD p bi ix d (.cs ba)) 200 g w) (RT.refl (p := p) (ps := [bi, ba])) (fun g w h => h) (m := 60) (n := 200) (dmono (D := DC0) (fun w w' es h => dt_of w w' es h) ?_) |>.mono (by omega)
          walk_nrm
          show Goes Try.prog false (RT p [bi, ba]) DC0 _ _ _ _
          u_c stepG_region_end hK hF
          u_c stepG_end hK hF
          u_in hK hF
          rw [stepG_unwind_clo rfl Try.func56 x56 rfl]
          simp only [goes_go]
          refine ⟨by u_nil, ?_⟩
          walk_nrmf Try.f56
          refine Goes.stop fun w₃ h₃ => ?_
          exact catchS (mT := 280) rfl hK hC R.ok hbB (fun h => h.cell) (fun d w hw => back34 hK hC R.ok hbB (hT _ hbB) hm _ _ d w hw) (by omega) d _ (hK hF h₃)
      · have hfv : p.fin = .int .i64 0 := by have := R.fin; rw [hfl] at this; exact this
        exact panG hfv hK hC R.ok hbB (fun h => h.cell) (hT _ hbB) hm _ _ d w hF
    · u_in hK hF
      have hcell := hF.cell
      rw [stepG_loadE (ty := 24) (by simp [tog.one]) rfl rfl (by k_ne) rfl rfl hcell q34]
      simp only [goes_go]
      refine ⟨dt_read (.inr (.inl (by simp))), ?_⟩
      walk_nrm
      clear hcell
      u_in hK hF
      have hcell := hF.cell
      rw [stepG_loadE (ty := 24) (by simp [tog.one]) rfl rfl (by k_ne) rfl rfl hcell q34]
      simp only [goes_go]
      refine ⟨dt_read (.inr (.inl (by simp))), ?_⟩
      walk_nrm
      clear hcell
      refine crew.Goes.after (S₁ := fun g w => Goes Try.prog false (RT p [bi, ba]) (DT p [bi, ba]) (AtD p bi ix d (.rl ba)) 238 g w) (RT.refl (p := p) (ps := [bi, ba])) (fun g w h => h) (m := 10) (n := 238) (dmono (D := DC0) (fun w w' es h => dt_of w w' es h) ?_) |>.mono (by omega)
      show Goes Try.prog false (RT p [bi, ba]) DC0 _ _ _ _
      u_op hK hF
      u_op hK hF
      refine Goes.stop fun w₃ h₃ => ?_
      replace hF := hK hF h₃
      clear h₃
      u_in hK hF
      have hcell := (CLive.f (hC hF)).trans (congrArg some R.fC)
      rw [stepG_loadE (ty := 26) (by simp [tog.one]) rfl rfl (by k_ne) rfl rfl hcell q34]
      simp only [goes_go]
      refine ⟨dt_read (.inr (.inr rfl)), ?_⟩
      walk_nrm
      clear hcell
      refine crew.Goes.after (S₁ := fun g w => Goes Try.prog false (RT p [bi, ba]) (DT p [bi, ba]) (AtD p bi ix d (.rl ba)) 60 g w) (RT.refl (p := p) (ps := [bi, ba])) (fun g w h => h) (m := 10) (n := 60) (dmono (D := DC0) (fun w w' es h => dt_of w w' es h) ?_) |>.mono (by omega)
      show Goes Try.prog false (RT p [bi, ba]) DC0 _ _ _ _
      u_in hK hF
      refine goes_callv rfl rfl (by k_ne) rfl rfl Try.func17 x17 rfl ⟨by u_nil, ?_⟩
      walk_nrmf Try.f17
      refine Goes.stop fun w₃ h₃ => ?_
      refine fG R hbB hrn (fun hfl d w hF => ?_) (fun hfl d w hF => ?_) d _ (hK hF h₃)
      · have hfv : p.fin = .int .i64 Bv.v := by have := R.fin; rw [hfl] at this; exact this
        clear h₃
        walk_nrm
        refine dmono (D := DC0) (fun w w' es h => dt_of w w' es h) ?_
        show Goes Try.prog false (RT p [bi, ba]) DC0 _ _ _ _
        u_op hK hF
        u_op hK hF
        refine Goes.stop fun w6 h6 => ?_
        replace hF := hK hF h6
        clear h6
        rcases d with _ | d
        · trivial
        refine ⟨rfl, rfl, fun w' es s' hn => ?_, fun _ _ e => by (cases e), fun _ e => by (cases e), fun _ e => by (cases e)⟩
        cases hn with
        | vs c _ hc =>
          rw [hfv]
          have hs1 := set4 hc (.int .i64 Bv.v)
          refine ⟨_, stepG_storeE (ty := 3) (v := .int .i64 Bv.v) (by simp [tog.one]) rfl rfl (by k_ne) rfl rfl rfl (.inl ⟨_, _, rfl⟩) (cs4 hc) (csz hc 4) q34, rfl, ?_⟩
          replace hF := hK hF (RT.own R.ok hbB hs1)
          clear hs1 hc
          refine crew.Goes.after (S₁ := fun g w => Goes Try.prog false (RT p [bi, ba]) (DT p [bi, ba]) (AtD p bi ix d (.cs ba)) 200 g w) (RT.refl (p := p) (ps := [bi, ba])) (fun g w h => h) (m := 60) (n := 200) (dmono (D := DC0) (fun w w' es h => dt_of w w' es h) ?_) |>.mono (by omega)
          walk_nrm
          show Goes Try.prog false (RT p [bi, ba]) DC0 _ _ _ _
          u_c stepG_region_end hK hF
          u_c stepG_end hK hF
          u_in hK hF
          rw [stepG_unwind_clo rfl Try.func56 x56 rfl]
          simp only [goes_go]
          refine ⟨by u_nil, ?_⟩
          walk_nrmf Try.f56
          refine Goes.stop fun w₃ h₃ => ?_
          exact catchS (mT := 280) rfl hK hC R.ok hbB (fun h => h.cell) (fun d w hw => back34 hK hC R.ok hbB (hT _ hbB) hm _ _ d w hw) (by omega) d _ (hK hF h₃)
      · have hfv : p.fin = .int .i64 0 := by have := R.fin; rw [hfl] at this; exact this
        exact panG hfv hK hC R.ok hbB (fun h => h.cell) (hT _ hbB) hm _ _ d w hF
    · u_in hK hF
      have hcell := hF.cell
      rw [stepG_loadE (ty := 24) (by simp [tog.one]) rfl rfl (by k_ne) rfl rfl hcell q34]
      simp only [goes_go]
      refine ⟨dt_read (.inr (.inl (by simp))), ?_⟩
      walk_nrm
      clear hcell
      refine crew.Goes.after (S₁ := fun g w => Goes Try.prog false (RT p [bi, ba]) (DT p [bi, ba]) (AtD p bi ix d (.rl ba)) 239 g w) (RT.refl (p := p) (ps := [bi, ba])) (fun g w h => h) (m := 10) (n := 239) (dmono (D := DC0) (fun w w' es h => dt_of w w' es h) ?_) |>.mono (by omega)
      show Goes Try.prog false (RT p [bi, ba]) DC0 _ _ _ _
      u_op hK hF
      refine Goes.stop fun w₃ h₃ => ?_
      replace hF := hK hF h₃
      clear h₃
      u_in hK hF
      have hcell := hF.cell
      rw [stepG_loadE (ty := 24) (by simp [tog.one]) rfl rfl (by k_ne) rfl rfl hcell q34]
      simp only [goes_go]
      refine ⟨dt_read (.inr (.inl (by simp))), ?_⟩
      walk_nrm
      clear hcell
      refine crew.Goes.after (S₁ := fun g w => Goes Try.prog false (RT p [bi, ba]) (DT p [bi, ba]) (AtD p bi ix d (.rl ba)) 228 g w) (RT.refl (p := p) (ps := [bi, ba])) (fun g w h => h) (m := 10) (n := 228) (dmono (D := DC0) (fun w w' es h => dt_of w w' es h) ?_) |>.mono (by omega)
      show Goes Try.prog false (RT p [bi, ba]) DC0 _ _ _ _
      u_op hK hF
      refine Goes.stop fun w₃ h₃ => ?_
      replace hF := hK hF h₃
      clear h₃
      u_in hK hF
      have hcell := (CLive.f (hC hF)).trans (congrArg some R.fC)
      rw [stepG_loadE (ty := 26) (by simp [tog.one]) rfl rfl (by k_ne) rfl rfl hcell q34]
      simp only [goes_go]
      refine ⟨dt_read (.inr (.inr rfl)), ?_⟩
      walk_nrm
      clear hcell
      refine crew.Goes.after (S₁ := fun g w => Goes Try.prog false (RT p [bi, ba]) (DT p [bi, ba]) (AtD p bi ix d (.rl ba)) 60 g w) (RT.refl (p := p) (ps := [bi, ba])) (fun g w h => h) (m := 10) (n := 60) (dmono (D := DC0) (fun w w' es h => dt_of w w' es h) ?_) |>.mono (by omega)
      show Goes Try.prog false (RT p [bi, ba]) DC0 _ _ _ _
      u_in hK hF
      refine goes_callv rfl rfl (by k_ne) rfl rfl Try.func17 x17 rfl ⟨by u_nil, ?_⟩
      walk_nrmf Try.f17
      refine Goes.stop fun w₃ h₃ => ?_
      refine fG R hbB hrn (fun hfl d w hF => ?_) (fun hfl d w hF => ?_) d _ (hK hF h₃)
      · have hfv : p.fin = .int .i64 Bv.v := by have := R.fin; rw [hfl] at this; exact this
        clear h₃
        walk_nrm
        refine dmono (D := DC0) (fun w w' es h => dt_of w w' es h) ?_
        show Goes Try.prog false (RT p [bi, ba]) DC0 _ _ _ _
        u_op hK hF
        u_op hK hF
        refine Goes.stop fun w6 h6 => ?_
        replace hF := hK hF h6
        clear h6
        rcases d with _ | d
        · trivial
        refine ⟨rfl, rfl, fun w' es s' hn => ?_, fun _ _ e => by (cases e), fun _ e => by (cases e), fun _ e => by (cases e)⟩
        cases hn with
        | vs c _ hc =>
          rw [hfv]
          have hs1 := set4 hc (.int .i64 Bv.v)
          refine ⟨_, stepG_storeE (ty := 3) (v := .int .i64 Bv.v) (by simp [tog.one]) rfl rfl (by k_ne) rfl rfl rfl (.inl ⟨_, _, rfl⟩) (cs4 hc) (csz hc 4) q34, rfl, ?_⟩
          replace hF := hK hF (RT.own R.ok hbB hs1)
          clear hs1 hc
          refine crew.Goes.after (S₁ := fun g w => Goes Try.prog false (RT p [bi, ba]) (DT p [bi, ba]) (AtD p bi ix d (.cs ba)) 200 g w) (RT.refl (p := p) (ps := [bi, ba])) (fun g w h => h) (m := 60) (n := 200) (dmono (D := DC0) (fun w w' es h => dt_of w w' es h) ?_) |>.mono (by omega)
          walk_nrm
          show Goes Try.prog false (RT p [bi, ba]) DC0 _ _ _ _
          u_c stepG_region_end hK hF
          u_c stepG_end hK hF
          u_in hK hF
          rw [stepG_unwind_clo rfl Try.func56 x56 rfl]
          simp only [goes_go]
          refine ⟨by u_nil, ?_⟩
          walk_nrmf Try.f56
          refine Goes.stop fun w₃ h₃ => ?_
          exact catchS (mT := 280) rfl hK hC R.ok hbB (fun h => h.cell) (fun d w hw => back34 hK hC R.ok hbB (hT _ hbB) hm _ _ d w hw) (by omega) d _ (hK hF h₃)
      · have hfv : p.fin = .int .i64 0 := by have := R.fin; rw [hfl] at this; exact this
        exact panG hfv hK hC R.ok hbB (fun h => h.cell) (hT _ hbB) hm _ _ d w hF
    · u_in hK hF
      have hcell := hF.cell
      rw [stepG_loadE (ty := 24) (by simp [tog.one]) rfl rfl (by k_ne) rfl rfl hcell q34]
      simp only [goes_go]
      refine ⟨dt_read (.inr (.inl (by simp))), ?_⟩
      walk_nrm
      clear hcell
      refine crew.Goes.after (S₁ := fun g w => Goes Try.prog false (RT p [bi, ba]) (DT p [bi, ba]) (AtD p bi ix d (.rl ba)) 239 g w) (RT.refl (p := p) (ps := [bi, ba])) (fun g w h => h) (m := 10) (n := 239) (dmono (D := DC0) (fun w w' es h => dt_of w w' es h) ?_) |>.mono (by omega)
      show Goes Try.prog false (RT p [bi, ba]) DC0 _ _ _ _
      u_op hK hF
      u_op hK hF
      refine Goes.stop fun w₃ h₃ => ?_
      replace hF := hK hF h₃
      clear h₃
      u_in hK hF
      have hcell := hF.cell
      rw [stepG_loadE (ty := 24) (by simp [tog.one]) rfl rfl (by k_ne) rfl rfl hcell q34]
      simp only [goes_go]
      refine ⟨dt_read (.inr (.inl (by simp))), ?_⟩
      walk_nrm
      clear hcell
      u_in hK hF
      have hcell := (CLive.f (hC hF)).trans (congrArg some R.fC)
      rw [stepG_loadE (ty := 26) (by simp [tog.one]) rfl rfl (by k_ne) rfl rfl hcell q34]
      simp only [goes_go]
      refine ⟨dt_read (.inr (.inr rfl)), ?_⟩
      walk_nrm
      clear hcell
      refine crew.Goes.after (S₁ := fun g w => Goes Try.prog false (RT p [bi, ba]) (DT p [bi, ba]) (AtD p bi ix d (.rl ba)) 60 g w) (RT.refl (p := p) (ps := [bi, ba])) (fun g w h => h) (m := 10) (n := 60) (dmono (D := DC0) (fun w w' es h => dt_of w w' es h) ?_) |>.mono (by omega)
      show Goes Try.prog false (RT p [bi, ba]) DC0 _ _ _ _
      u_in hK hF
      refine goes_callv rfl rfl (by k_ne) rfl rfl Try.func17 x17 rfl ⟨by u_nil, ?_⟩
      walk_nrmf Try.f17
      refine Goes.stop fun w₃ h₃ => ?_
      refine fG R hbB hrn (fun hfl d w hF => ?_) (fun hfl d w hF => ?_) d _ (hK hF h₃)
      · have hfv : p.fin = .int .i64 Bv.v := by have := R.fin; rw [hfl] at this; exact this
        clear h₃
        walk_nrm
        refine dmono (D := DC0) (fun w w' es h => dt_of w w' es h) ?_
        show Goes Try.prog false (RT p [bi, ba]) DC0 _ _ _ _
        u_op hK hF
        u_op hK hF
        refine Goes.stop fun w6 h6 => ?_
        replace hF := hK hF h6
        clear h6
        rcases d with _ | d
        · trivial
        refine ⟨rfl, rfl, fun w' es s' hn => ?_, fun _ _ e => by (cases e), fun _ e => by (cases e), fun _ e => by (cases e)⟩
        cases hn with
        | vs c _ hc =>
          rw [hfv]
          have hs1 := set4 hc (.int .i64 Bv.v)
          refine ⟨_, stepG_storeE (ty := 3) (v := .int .i64 Bv.v) (by simp [tog.one]) rfl rfl (by k_ne) rfl rfl rfl (.inl ⟨_, _, rfl⟩) (cs4 hc) (csz hc 4) q34, rfl, ?_⟩
          replace hF := hK hF (RT.own R.ok hbB hs1)
          clear hs1 hc
          refine crew.Goes.after (S₁ := fun g w => Goes Try.prog false (RT p [bi, ba]) (DT p [bi, ba]) (AtD p bi ix d (.cs ba)) 200 g w) (RT.refl (p := p) (ps := [bi, ba])) (fun g w h => h) (m := 60) (n := 200) (dmono (D := DC0) (fun w w' es h => dt_of w w' es h) ?_) |>.mono (by omega)
          walk_nrm
          show Goes Try.prog false (RT p [bi, ba]) DC0 _ _ _ _
          u_c stepG_region_end hK hF
          u_c stepG_end hK hF
          u_in hK hF
          rw [stepG_unwind_clo rfl Try.func56 x56 rfl]
          simp only [goes_go]
          refine ⟨by u_nil, ?_⟩
          walk_nrmf Try.f56
          refine Goes.stop fun w₃ h₃ => ?_
          exact catchS (mT := 280) rfl hK hC R.ok hbB (fun h => h.cell) (fun d w hw => back34 hK hC R.ok hbB (hT _ hbB) hm _ _ d w hw) (by omega) d _ (hK hF h₃)
      · have hfv : p.fin = .int .i64 0 := by have := R.fin; rw [hfl] at this; exact this
        exact panG hfv hK hC R.ok hbB (fun h => h.cell) (hT _ hbB) hm _ _ d w hF
    · u_in hK hF
      have hcell := hF.cell
      rw [stepG_loadE (ty := 24) (by simp [tog.one]) rfl rfl (by k_ne) rfl rfl hcell q34]
      simp only [goes_go]
      refine ⟨dt_read (.inr (.inl (by simp))), ?_⟩
      walk_nrm
      clear hcell
      refine crew.Goes.after (S₁ := fun g w => Goes Try.prog false (RT p [bi, ba]) (DT p [bi, ba]) (AtD p bi ix d (.rl ba)) 239 g w) (RT.refl (p := p) (ps := [bi, ba])) (fun g w h => h) (m := 10) (n := 239) (dmono (D := DC0) (fun w w' es h => dt_of w w' es h) ?_) |>.mono (by omega)
      show Goes Try.prog false (RT p [bi, ba]) DC0 _ _ _ _
      u_op hK hF
      u_op hK hF
      refine Goes.stop fun w₃ h₃ => ?_
      replace hF := hK hF h₃
      clear h₃
      u_in hK hF
      have hcell := (CLive.f (hC hF)).trans (congrArg some R.fC)
      rw [stepG_loadE (ty := 26) (by simp [tog.one]) rfl rfl (by k_ne) rfl rfl hcell q34]
      simp only [goes_go]
      refine ⟨dt_read (.inr (.inr rfl)), ?_⟩
      walk_nrm
      clear hcell
      u_in hK hF
      have hcell := hF.cell
      rw [stepG_loadE (ty := 24) (by simp [tog.one]) rfl rfl (by k_ne) rfl rfl hcell q34]
      simp only [goes_go]
      refine ⟨dt_read (.inr (.inl (by simp))), ?_⟩
      walk_nrm
      clear hcell
      refine crew.Goes.after (S₁ := fun g w => Goes Try.prog false (RT p [bi, ba]) (DT p [bi, ba]) (AtD p bi ix d (.rl ba)) 60 g w) (RT.refl (p := p) (ps := [bi, ba])) (fun g w h => h) (m := 10) (n := 60) (dmono (D := DC0) (fun w w' es h => dt_of w w' es h) ?_) |>.mono (by omega)
      show Goes Try.prog false (RT p [bi, ba]) DC0 _ _ _ _
      u_in hK hF
      refine goes_callv rfl rfl (by k_ne) rfl rfl Try.func17 x17 rfl ⟨by u_nil, ?_⟩
      walk_nrmf Try.f17
      refine Goes.stop fun w₃ h₃ => ?_
      refine fG R hbB hrn (fun hfl d w hF => ?_) (fun hfl d w hF => ?_) d _ (hK hF h₃)
      · have hfv : p.fin = .int .i64 Bv.v := by have := R.fin; rw [hfl] at this; exact this
        clear h₃
        walk_nrm
        refine dmono (D := DC0) (fun w w' es h => dt_of w w' es h) ?_
        show Goes Try.prog false (RT p [bi, ba]) DC0 _ _ _ _
        u_op hK hF
        u_op hK hF
        refine Goes.stop fun w6 h6 => ?_
        replace hF := hK hF h6
        clear h6
        rcases d with _ | d
        · trivial
        refine ⟨rfl, rfl, fun w' es s' hn => ?_, fun _ _ e => by (cases e), fun _ e => by (cases e), fun _ e => by (cases e)⟩
        cases hn with
        | vs c _ hc =>
          rw [hfv]
          have hs1 := set4 hc (.int .i64 Bv.v)
          refine ⟨_, stepG_storeE (ty := 3) (v := .int .i64 Bv.v) (by simp [tog.one]) rfl rfl (by k_ne) rfl rfl rfl (.inl ⟨_, _, rfl⟩) (cs4 hc) (csz hc 4) q34, rfl, ?_⟩
          replace hF := hK hF (RT.own R.ok hbB hs1)
          clear hs1 hc
          refine crew.Goes.after (S₁ := fun g w => Goes Try.prog false (RT p [bi, ba]) (DT p [bi, ba]) (AtD p bi ix d (.cs ba)) 200 g w) (RT.refl (p := p) (ps := [bi, ba])) (fun g w h => h) (m := 60) (n := 200) (dmono (D := DC0) (fun w w' es h => dt_of w w' es h) ?_) |>.mono (by omega)
          walk_nrm
          show Goes Try.prog false (RT p [bi, ba]) DC0 _ _ _ _
          u_c stepG_region_end hK hF
          u_c stepG_end hK hF
          u_in hK hF
          rw [stepG_unwind_clo rfl Try.func56 x56 rfl]
          simp only [goes_go]
          refine ⟨by u_nil, ?_⟩
          walk_nrmf Try.f56
          refine Goes.stop fun w₃ h₃ => ?_
          exact catchS (mT := 280) rfl hK hC R.ok hbB (fun h => h.cell) (fun d w hw => back34 hK hC R.ok hbB (hT _ hbB) hm _ _ d w hw) (by omega) d _ (hK hF h₃)
      · have hfv : p.fin = .int .i64 0 := by have := R.fin; rw [hfl] at this; exact this
        exact panG hfv hK hC R.ok hbB (fun h => h.cell) (hT _ hbB) hm _ _ d w hF
    · u_in hK hF
      have hcell := hF.cell
      rw [stepG_loadE (ty := 24) (by simp [tog.one]) rfl rfl (by k_ne) rfl rfl hcell q34]
      simp only [goes_go]
      refine ⟨dt_read (.inr (.inl (by simp))), ?_⟩
      walk_nrm
      clear hcell
      refine crew.Goes.after (S₁ := fun g w => Goes Try.prog false (RT p [bi, ba]) (DT p [bi, ba]) (AtD p bi ix d (.rl ba)) 239 g w) (RT.refl (p := p) (ps := [bi, ba])) (fun g w h => h) (m := 10) (n := 239) (dmono (D := DC0) (fun w w' es h => dt_of w w' es h) ?_) |>.mono (by omega)
      show Goes Try.prog false (RT p [bi, ba]) DC0 _ _ _ _
      u_op hK hF
      u_op hK hF
      refine Goes.stop fun w₃ h₃ => ?_
      replace hF := hK hF h₃
      clear h₃
      u_in hK hF
      have hcell := (CLive.f (hC hF)).trans (congrArg some R.fC)
      rw [stepG_loadE (ty := 26) (by simp [tog.one]) rfl rfl (by k_ne) rfl rfl hcell q34]
      simp only [goes_go]
      refine ⟨dt_read (.inr (.inr rfl)), ?_⟩
      walk_nrm
      clear hcell
      refine crew.Goes.after (S₁ := fun g w => Goes Try.prog false (RT p [bi, ba]) (DT p [bi, ba]) (AtD p bi ix d (.rl ba)) 60 g w) (RT.refl (p := p) (ps := [bi, ba])) (fun g w h => h) (m := 10) (n := 60) (dmono (D := DC0) (fun w w' es h => dt_of w w' es h) ?_) |>.mono (by omega)
      show Goes Try.prog false (RT p [bi, ba]) DC0 _ _ _ _
      u_in hK hF
      refine goes_callv rfl rfl (by k_ne) rfl rfl Try.func17 x17 rfl ⟨by u_nil, ?_⟩
      walk_nrmf Try.f17
      refine Goes.stop fun w₃ h₃ => ?_
      refine fG R hbB hrn (fun hfl d w hF => ?_) (fun hfl d w hF => ?_) d _ (hK hF h₃)
      · have hfv : p.fin = .int .i64 Bv.v := by have := R.fin; rw [hfl] at this; exact this
        clear h₃
        walk_nrm
        u_in hK hF
        have hcell := hF.cell
        rw [stepG_loadE (ty := 24) (by simp [tog.one]) rfl rfl (by k_ne) rfl rfl hcell q34]
        simp only [goes_go]
        refine ⟨dt_read (.inr (.inl (by simp))), ?_⟩
        walk_nrm
        clear hcell
        refine dmono (D := DC0) (fun w w' es h => dt_of w w' es h) ?_
        show Goes Try.prog false (RT p [bi, ba]) DC0 _ _ _ _
        u_op hK hF
        u_op hK hF
        refine Goes.stop fun w6 h6 => ?_
        replace hF := hK hF h6
        clear h6
        rcases d with _ | d
        · trivial
        refine ⟨rfl, rfl, fun w' es s' hn => ?_, fun _ _ e => by (cases e), fun _ e => by (cases e), fun _ e => by (cases e)⟩
        cases hn with
        | vs c _ hc =>
          rw [hfv]
          have hs1 := set4 hc (.int .i64 Bv.v)
          refine ⟨_, stepG_storeE (ty := 3) (v := .int .i64 Bv.v) (by simp [tog.one]) rfl rfl (by k_ne) rfl rfl rfl (.inl ⟨_, _, rfl⟩) (cs4 hc) (csz hc 4) q34, rfl, ?_⟩
          replace hF := hK hF (RT.own R.ok hbB hs1)
          clear hs1 hc
          refine crew.Goes.after (S₁ := fun g w => Goes Try.prog false (RT p [bi, ba]) (DT p [bi, ba]) (AtD p bi ix d (.cs ba)) 200 g w) (RT.refl (p := p) (ps := [bi, ba])) (fun g w h => h) (m := 60) (n := 200) (dmono (D := DC0) (fun w w' es h => dt_of w w' es h) ?_) |>.mono (by omega)
          walk_nrm
          show Goes Try.prog false (RT p [bi, ba]) DC0 _ _ _ _
          u_c stepG_region_end hK hF
          u_c stepG_end hK hF
          u_in hK hF
          rw [stepG_unwind_clo rfl Try.func56 x56 rfl]
          simp only [goes_go]
          refine ⟨by u_nil, ?_⟩
          walk_nrmf Try.f56
          refine Goes.stop fun w₃ h₃ => ?_
          exact catchS (mT := 280) rfl hK hC R.ok hbB (fun h => h.cell) (fun d w hw => back34 hK hC R.ok hbB (hT _ hbB) hm _ _ d w hw) (by omega) d _ (hK hF h₃)
      · have hfv : p.fin = .int .i64 0 := by have := R.fin; rw [hfl] at this; exact this
        exact panG hfv hK hC R.ok hbB (fun h => h.cell) (hT _ hbB) hm _ _ d w hF
end
end Go.Proofs.Ytdkbkocklnnmdaa.itog
