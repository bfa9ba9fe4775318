/-
  One of many at sync.Mutex's lockSlow: behind the loop to its having the lock; waiting for the semaphore; the loop. Conditions: what is held of the world outlives the others' doing.
-/
import Derived.Test.YtdkbkocklnnmdaaTogStops
import Derived.Test.YtdkbkocklnnmdaaBits
import Derived.Test.YtdkbkocklnnmdaaCrowd
import Derived.Test.YtdkbkocklnnmdaaFreeSync
import Derived.Conc.MuWords
set_option linter.unusedSimpArgs false
set_option linter.unusedVariables false
namespace Go.Proofs.Ytdkbkocklnnmdaa.tog
open Go Go.Conc Go.RowKit Go.ConcR.Gen Go.ConcN.Gen Go.Proofs.Ytdkbkocklnnmdaa.wg Go.Proofs.Ytdkbkocklnnmdaa.kid Go.Proofs.Ytdkbkocklnnmdaa.lock Go.Proofs.Ytdkbkocklnnmdaa.free
open Go.ConcR (KK WgAt stA smA rd wr mk DC0)
open Go.ConcN (WgLive RW AtR0)
open Go.Conc.Lib

theorem x97 : (Try.f97.name == "runtime.NumGoroutine") = false := by kernel_rfl
theorem x103 : (Try.f103.name == "runtime.NumGoroutine") = false ∧ Try.f103.body.isNone = true ∧ Extern.findNext Try.f103 = none := ⟨by kernel_rfl, by kernel_rfl, by kernel_rfl⟩
theorem e103 : Extern.find Try.f103 = some Extern.OsHooks.nano := by kernel_rfl
theorem q103 : Try.f103.norace = true := by kernel_rfl
theorem x104 : (Try.f104.name == "runtime.NumGoroutine") = false ∧ Try.f104.body.isNone = true ∧ Extern.findNext Try.f104 = none := ⟨by kernel_rfl, by kernel_rfl, by kernel_rfl⟩
theorem e104 : Extern.find Try.f104 = some Extern.Sync.semacquire := by kernel_rfl
theorem x100 : (Try.f100.name == "runtime.NumGoroutine") = false ∧ Try.f100.body.isNone = true ∧ Extern.findNext Try.f100 = none := ⟨by kernel_rfl, by kernel_rfl, by kernel_rfl⟩
theorem e100 : Extern.find Try.f100 = some Extern.Sync.canSpin := by kernel_rfl
section
variable {main : Bool} {b : Frame} {a : Act} {kk : List Item} {cs : List Frame} {w : World} {ops : Array Oper} {i : Nat} {rest : List Nat} {o : Oper}
theorem stepG_loadQ {x : Operand} (ho : ops[i]? = some o) (hw : Region.wanted o (yielded ops a.tmps) = true) (hk : b.kind ≠ .early) (hop : o.op = .load 21 x)
    {ad : Addr} {v : Int} (hx : a.eval x = .pointer (some ad)) (hc : w.cell? ad = some (.int .i32 v)) (hq : (Try.prog.funcs[b.fn]?).any (·.norace) = true) :
    stepG Try.prog main (G (b.at a (.inRegion ops (i :: rest) :: kk)) cs) w = .go (G (b.at (a.put o.dst (.int .i32 v)) (.inRegion ops rest :: kk)) cs) w #[] := by
  have hr : (execOp a.eval o).run Try.prog w = .ok (.value (.int .i32 v)) w := by
    unfold execOp
    simp only [hop, hx]
    simp [go_sem, hc]
  have he : (execOp a.eval o).events Try.prog w #[] = #[⟨.cell ad, false, false⟩] := by
    unfold execOp
    simp only [hop, hx]
    simp [go_sem, hc]
  rw [stepG_value ho hw hk hr]
  unfold listed
  rw [he, seen_def, hq]
  simp [seenStep]
end
theorem q97 : (Try.prog.funcs[(base 97).fn]?).any (·.norace) = true := by kernel_rfl

/-- lockSlow's slots. -/
def S97 (C : Nat) (o : Mst) (it : Int) (aw sv : Bool) (ws : Int) (J : Nat → Value) : Array Value := #[.pointer (some ⟨C, 1, none⟩), J 1, .int .i64 ws, .bool sv, .bool aw, .int .i64 it, .int .i32 o.enc, J 7, J 8, J 9, J 10, J 11, J 12, J 13, J 14, J 15, J 16, J 17, J 18, J 19, J 20, J 21, J 22, J 23, J 24, J 25, J 26, J 27, J 28, J 29, J 30, J 31, J 32, J 33, J 34, J 35, J 36, J 37, J 38, J 39, J 40, J 41, J 42, J 43, J 44, J 45, J 46, J 47, J 48, J 49, J 50, J 51, J 52, J 53, J 54, J 55, J 56, J 57, J 58, J 59, J 60, J 61, J 62, J 63, J 64, J 65, J 66, J 67, J 68, J 69, J 70, J 71, J 72, J 73, J 74, J 75, J 76, J 77, J 78, J 79, J 80, J 81, J 82, J 83, J 84, J 85, J 86, J 87, J 88, J 89, J 90, J 91, J 92, J 93, J 94, J 95, J 96, J 97, J 98, J 99, J 100, J 101, J 102, J 103, J 104, J 105, J 106, J 107, J 108, J 109, J 110, J 111, J 112, J 113, J 114, J 115, J 116, J 117, J 118, J 119, J 120, J 121, J 122, J 123, J 124, J 125, J 126, J 127, J 128, J 129, J 130, J 131, J 132, J 133, J 134, J 135, J 136, J 137, J 138]
def cT : Code → Code
  | .cond _ x _ => x
  | c => c
noncomputable def body97 : Code := Try.f97.body.getD .skip
noncomputable def c97 : Code := cR (cR (cR (cR (cR body97))))
noncomputable def lp97 : Code := cB (cB (cL c97))
noncomputable def tail97 : Code := cR c97
noncomputable def in97 : Code := cB lp97
noncomputable def rest11 : Code := cR in97

theorem dt_of {p : Tp} {ps : List Nat} (w w' : World) (es : Array Event) (h : DC0 w w' es) : DT p ps w w' es := ⟨⟨w.drawn, by rw [h.1]; rfl⟩, by rw [h.2]; simp⟩
theorem cs0 {p : Tp} {c : Cs} {w : World} (h : AtCs p c w) : w.cell? (cA p 0) = some (.int .u32 c.d) := by unfold AtCs cblk at h; simp [World.cell?, cA, h]
theorem cs1 {p : Tp} {c : Cs} {w : World} (h : AtCs p c w) : w.cell? (cA p 1) = some (.int .i32 c.m.enc) := by unfold AtCs cblk at h; simp [World.cell?, cA, h]
theorem cs2 {p : Tp} {c : Cs} {w : World} (h : AtCs p c w) : w.cell? (cA p 2) = some (.int .u32 c.s) := by unfold AtCs cblk at h; simp [World.cell?, cA, h]
theorem csz {p : Tp} {c : Cs} {w : World} (h : AtCs p c w) (i : Nat) : w.frozen? (cA p i) = false := by unfold AtCs cblk at h; simp [World.frozen?, cA, h]

structure Tp.Ok (p : Tp) : Prop where
  cro : ¬ p.Ro p.C
  cw : p.Wg ≠ p.C
theorem set1 {p : Tp} {c : Cs} {w : World} (h : AtCs p c w) (m : Mst) : AtCs p { c with m := m } (w.setCell (cA p 1) (.int .i32 m.enc)) := by
  unfold AtCs cblk at h ⊢
  simp [World.setCell, cA, Array.getElem?_modify, h]
theorem set2 {p : Tp} {c : Cs} {w : World} (h : AtCs p c w) (s : Nat) : AtCs p { c with s := s } (w.setCell (cA p 2) (.int .u32 s)) := by
  unfold AtCs cblk at h ⊢
  simp [World.setCell, cA, Array.getElem?_modify, h]
theorem RT.own {p : Tp} {ps : List Nat} {c : Cs} {w : World} {i : Nat} {v : Value} (hO : p.Ok) (hb : ∀ b ∈ ps, b ≠ p.C) (h : AtCs p c (w.setCell (cA p i) v)) : RT p ps w (w.setCell (cA p i) v) :=
  have A := aside_setCell w (cA p i) v
  ⟨fun b h => A.block b (by rcases h with h | h; · exact fun e => hO.cro (by rw [show b = p.C from e] at h; exact h)
                            · exact hb b h), fun ⟨st, sm, x⟩ => ⟨st, sm, x.of_block (A.block _ hO.cw)⟩, fun _ => ⟨c, h⟩⟩
theorem RT.later {p : Tp} {ps : List Nat} (w : World) : RT p ps w w.later := ⟨fun _ _ => rfl, id, id⟩
theorem RT.asked {p : Tp} {ps : List Nat} (w : World) : RT p ps w w.asked := ⟨fun _ _ => rfl, id, id⟩

section
variable {p : Tp} {bi ix : Nat} {K : World → Prop} {b₁ : Frame} {a₁ : Act} {ops₁ : Array Oper} {i₁ : Nat} {rest₁ : List Nat} {k₁ : List Item} {cs₁ : List Frame} {mT : Nat}

set_option maxRecDepth 100000 in
set_option maxHeartbeats 16000000 in
/-- Behind the loop: it has the lock. -/
theorem tailL (hK : ∀ {w w₁ : World}, K w → RT p [bi] w w₁ → K w₁) (hC : ∀ {w : World}, K w → CLive p w)
    (hO : p.Ok) (hb : bi ≠ p.C) (hT : ∀ d w, K w → Goes Try.prog false (RT p [bi]) (DT p [bi]) (AtD p bi ix d .o2) mT (G (b₁.at (a₁.put ((ops₁[i₁]?).bind (·.dst)) (.tuple #[])) (.inRegion ops₁ rest₁ :: k₁)) cs₁) w) (hm : mT ≤ 300) :
    ∀ d (o : Mst) (it : Int) (aw sv : Bool) (ws : Int) (J : Nat → Value) w, K w → Goes Try.prog false (RT p [bi]) (DT p [bi]) (AtD p bi ix d (.lk .le)) 60
      (G ((base 97).at ⟨S97 p.C o it aw sv ws J, []⟩ [.inRegion (opsOf (cL (cT tail97))) [0], .code (cR (cT tail97))]) (b₁.at a₁ (.inRegion ops₁ (i₁ :: rest₁) :: k₁) :: cs₁)) w := by
  intro d o it aw sv ws J w hF
  refine dmono (D := DC0) (fun w w' es h => dt_of w w' es h) ?_
  simp only [S97, tail97, c97, body97, cT, opsOf, cL, cR, cB, Try.f97, Option.getD_some]
  refine Goes.stop fun w₁ h₁ => ?_
  replace hF := hK hF h₁
  clear h₁
  rcases d with _ | d
  · trivial
  refine ⟨rfl, rfl, fun w' es s' hn => ?_, fun _ _ e => by (cases e), fun _ e => by (cases e), fun _ e => by (cases e)⟩
  cases hn
  refine ⟨_, stepG_mark0 .enable (by simp) rfl rfl (by k_ne) rfl Try.func66 (x_enable_n link) (x_enable_b link) (x_enable_x link) (x_enable_f link), rfl, ?_⟩
  refine dmono (D := DC0) (fun w w' es h => dt_of w w' es h) ?_
  walk_nrm
  show Goes Try.prog false (RT p [bi]) DC0 _ _ _ _
  u_c stepG_region_end hK hF
  u_reg hK hF
  u_op hK hF
  u_in hK hF
  refine goes_oper_k rfl rfl (by k_ne) (fun Kx hKx => ?_)
  obtain ⟨c0, hc0⟩ := hC hF
  have hcv := run_convert_to_unsafe (P := Try.prog) u148 u35 r80 (cs1 hc0)
  have hce := fun es => events_convert_to_unsafe (P := Try.prog) u148 u35 r80 (cs1 hc0) es
  simp only [cA] at hcv hce
  go_simp
  refine hKx _ _ ⟨⟨rfl, Array.eq_empty_iff_forall_not_mem.2 fun ex hex => ?_⟩, ?_⟩
  · have hmx := mem_listed hex
    simp [go_sem, hce] at hmx
  clear hKx Kx hcv hce hc0 c0
  refine Goes.stop fun w₂ h₂ => ?_
  replace hF := hK hF h₂
  clear h₂
  rcases d with _ | d
  · trivial
  refine ⟨rfl, rfl, fun w' es s' hn => ?_, fun _ _ e => by (cases e), fun _ e => by (cases e), fun _ e => by (cases e)⟩
  cases hn
  refine ⟨_, stepG_markAt .acquire (by simp) rfl rfl (by k_ne) rfl Try.func77 (x_acquire_n link) (x_acquire_b link) (x_acquire_x link) (x_acquire_f link) (by simp [Act.eval, cA]), rfl, ?_⟩
  refine crew.Goes.after (S₁ := fun g w => Goes Try.prog false (RT p [bi]) (DT p [bi]) (AtD p bi ix d .o2) mT g w) (RT.refl (p := p) (ps := [bi])) (fun g w h => h) (m := 40) (n := mT) (dmono (D := DC0) (fun w w' es h => dt_of w w' es h) ?_) |>.mono (by omega)
  walk_nrm
  show Goes Try.prog false (RT p [bi]) DC0 _ _ _ _
  u_c stepG_region_end hK hF
  u_c stepG_end hK hF
  u_leave0 Try.func97 hK hF
  refine Goes.stop fun w₃ h₃ => ?_
  exact hT d _ (hK hF h₃)

/-- The tail, by what the slots are. -/
theorem tailLit (hK : ∀ {w w₁ : World}, K w → RT p [bi] w w₁ → K w₁) (hC : ∀ {w : World}, K w → CLive p w)
    (hO : p.Ok) (hb : bi ≠ p.C) (hT : ∀ d w, K w → Goes Try.prog false (RT p [bi]) (DT p [bi]) (AtD p bi ix d .o2) mT (G (b₁.at (a₁.put ((ops₁[i₁]?).bind (·.dst)) (.tuple #[])) (.inRegion ops₁ rest₁ :: k₁)) cs₁) w) (hm : mT ≤ 300) (d : Nat) (g : Goroutine) (o : Mst) (it : Int) (aw sv : Bool) (ws : Int) (hg : g = G ((base 97).at ⟨S97 p.C o it aw sv ws (fun k => g.frame.tmps.getD k undef), []⟩ [.inRegion (opsOf (cL (cT tail97))) [0], .code (cR (cT tail97))]) (b₁.at a₁ (.inRegion ops₁ (i₁ :: rest₁) :: k₁) :: cs₁)) (w : World) (hw : K w) :
    Goes Try.prog false (RT p [bi]) (DT p [bi]) (AtD p bi ix d (.lk .le)) 60 g w := by
  obtain ⟨J, rfl⟩ : ∃ J, g = G ((base 97).at ⟨S97 p.C o it aw sv ws J, []⟩ [.inRegion (opsOf (cL (cT tail97))) [0], .code (cR (cT tail97))]) (b₁.at a₁ (.inRegion ops₁ (i₁ :: rest₁) :: k₁) :: cs₁) := ⟨_, hg⟩
  exact tailL hK hC hO hb hT hm d o it aw sv ws J w hw

noncomputable def restQ : Code := cR (cT (cR (cR (cR (cR (cR (cR rest11)))))))
noncomputable def restS : Code := cR (cR restQ)
noncomputable def restV : Code := cR restS
noncomputable def restR : Code := cR restV
/-- lockSlow's loop head, at depth d. -/
def Head (p : Tp) (bi ix : Nat) (K : World → Prop) (b₁ : Frame) (a₁ : Act) (ops₁ : Array Oper) (i₁ : Nat) (rest₁ : List Nat) (k₁ : List Item) (cs₁ : List Frame) (d : Nat) : Prop :=
  ∀ (o : Mst) (it : Nat) (aw sv : Bool) (ws : Int), Snap (hd o it aw sv ws) → ∀ (J : Nat → Value) (w : World), K w → Goes Try.prog false (RT p [bi]) (DT p [bi]) (AtD p bi ix d (.lk (hd o it aw sv ws))) 200
    (G ((base 97).at ⟨S97 p.C o it aw sv ws J, []⟩ [.code lp97, .inLoop lp97, .inBlock 0, .code tail97]) (b₁.at a₁ (.inRegion ops₁ (i₁ :: rest₁) :: k₁) :: cs₁)) w
theorem headLit {d : Nat} (h : Head p bi ix K b₁ a₁ ops₁ i₁ rest₁ k₁ cs₁ d) (g : Goroutine) (o : Mst) (it : Nat) (aw sv : Bool) (ws : Int) (hs : Snap (hd o it aw sv ws)) (hg : g = G ((base 97).at ⟨S97 p.C o it aw sv ws (fun k => g.frame.tmps.getD k undef), []⟩ [.code lp97, .inLoop lp97, .inBlock 0, .code tail97]) (b₁.at a₁ (.inRegion ops₁ (i₁ :: rest₁) :: k₁) :: cs₁)) (w : World) (hw : K w) :
    Goes Try.prog false (RT p [bi]) (DT p [bi]) (AtD p bi ix d (.lk (hd o it aw sv ws))) 200 g w := by
  obtain ⟨J, rfl⟩ : ∃ J, g = G ((base 97).at ⟨S97 p.C o it aw sv ws J, []⟩ [.code lp97, .inLoop lp97, .inBlock 0, .code tail97]) (b₁.at a₁ (.inRegion ops₁ (i₁ :: rest₁) :: k₁) :: cs₁) := ⟨_, hg⟩
  exact h o it aw sv ws hs J w hw

set_option maxRecDepth 100000 in
set_option maxHeartbeats 64000000 in
/-- Woken, and what the word says. -/
theorem headR (hK : ∀ {w w₁ : World}, K w → RT p [bi] w w₁ → K w₁) (hC : ∀ {w : World}, K w → CLive p w)
    (hO : p.Ok) (hb : bi ≠ p.C) (hT : ∀ d w, K w → Goes Try.prog false (RT p [bi]) (DT p [bi]) (AtD p bi ix d .o2) mT (G (b₁.at (a₁.put ((ops₁[i₁]?).bind (·.dst)) (.tuple #[])) (.inRegion ops₁ rest₁ :: k₁)) cs₁) w) (hm : mT ≤ 300) :
    ∀ d, (∀ d' < d, Head p bi ix K b₁ a₁ ops₁ i₁ rest₁ k₁ cs₁ d') → ∀ (o : Mst) (it : Int) (aw sv : Bool) (ws : Int) (J : Nat → Value) w, K w → Goes Try.prog false (RT p [bi]) (DT p [bi]) (AtD p bi ix d (.lk (.r2 sv ws))) 60
      (G ((base 97).at ⟨S97 p.C o it aw sv ws J, []⟩ [.code restR, .inBlock 1, .inLoop lp97, .inBlock 0, .code tail97]) (b₁.at a₁ (.inRegion ops₁ (i₁ :: rest₁) :: k₁) :: cs₁)) w := by
  intro d IH o it aw sv ws J w hF
  refine dmono (D := DC0) (fun w w' es h => dt_of w w' es h) ?_
  simp only [S97, restR, restV, restS, restQ, cT, opsOf, rest11, in97, lp97, tail97, c97, body97, cL, cR, cB, Try.f97, Option.getD_some]
  u_c stepG_seq hK hF
  u_reg hK hF
  u_op hK hF
  u_op hK hF
  u_op hK hF
  refine Goes.stop fun w1 h1 => ?_
  replace hF := hK hF h1
  clear h1
  rcases d with _ | d
  · trivial
  refine ⟨rfl, rfl, fun w' es s' hn => ?_, fun _ _ e => by (cases e), fun _ e => by (cases e), fun _ e => by (cases e)⟩
  cases hn with
  | r2s c _ _ hc hs =>
    have hl := cs1 hc
    rcases c with ⟨d0, ⟨ml, mw, ms, n⟩, s0, v0, cd0, r0⟩
    simp only [Snap, Mst.Ok] at hs
    simp only at hl
    obtain ⟨⟨_, _, _, hn⟩, rfl, rfl, rfl, hn0⟩ := hs
    refine ⟨_, stepG_loadQ rfl rfl (by k_ne) rfl rfl hl q97, rfl, ?_⟩
    clear hl hc
    have f4 : bits .and .i32 (Mst.enc ⟨0, 0, 1, n⟩) 4 = 4 := enc_and4 (by omega) (by omega) (by omega) (by omega)
    have f3 : bits .and .i32 (Mst.enc ⟨0, 0, 1, n⟩) 3 = 0 := enc_and3 (by omega) (by omega) (by omega) (by omega)
    have fd : Mst.enc ⟨0, 0, 1, n⟩ / 8 = (n : Int) := enc_div8 (by omega) (by omega) (by omega) (by omega)
    have dz : decide ((n : Int) = 0) = false := decide_eq_false (by omega)
    have dzn : decide (n = 0) = false := decide_eq_false (by omega)
    cases sv with
    | false =>
      refine dmono (D := DC0) (fun w w' es h => dt_of w w' es h) ?_
      walk_nrm
      show Goes Try.prog false (RT p [bi]) DC0 _ _ _ _
      u_op hK hF
      u_c stepG_region_end hK hF
      u_c stepG_seq hK hF
      u_c stepG_seq hK hF
      u_reg hK hF
      u_op hK hF
      u_op hK hF
      u_op hK hF
      u_c stepG_region_end hK hF
      u_cond true hK hF
      u_c stepG_seq hK hF
      u_c stepG_seq hK hF
      u_reg hK hF
      u_op hK hF
      u_op hK hF
      u_op hK hF
      u_op hK hF
      u_op hK hF
      u_op hK hF
      u_op hK hF
      u_op hK hF
      u_c stepG_region_end hK hF
      u_cnd false hK hF
      u_c stepG_skip hK hF
      u_c stepG_seq hK hF
      u_reg hK hF
      u_op hK hF
      u_c stepG_region_end hK hF
      u_c stepG_seq hK hF
      u_c stepG_seq hK hF
      u_reg hK hF
      u_op hK hF
      u_op hK hF
      u_op hK hF
      u_skip hK hF
      u_skip hK hF
      u_skip hK hF
      u_op hK hF
      u_c stepG_region_end hK hF
      u_cond true hK hF
      u_reg hK hF
      u_op hK hF
      u_op hK hF
      u_op hK hF
      u_c stepG_region_end hK hF
      u_c stepG_seq hK hF
      u_reg hK hF
      u_op hK hF
      u_op hK hF
      u_op hK hF
      u_op hK hF
      refine Goes.stop fun w2 h2 => ?_
      replace hF := hK hF h2
      clear h2
      rcases d with _ | d
      · trivial
      refine ⟨rfl, rfl, fun w' es s' hn => ?_, fun _ _ e => by (cases e), fun _ e => by (cases e), fun _ e => by (cases e)⟩
      cases hn with
      | a1 c _ _ hc ho hs hl hp hsn =>
        rcases c with ⟨d0, ⟨ml, mw, ms, k⟩, s0, v0, cd0, r0⟩
        simp only [Mst.Ok] at ho hs hl hp
        subst hs hl
        have e : (ad ⟨0, mw, 1, k⟩ ⟨0, 0, 1, n⟩ false).enc = IntKind.i32.wrap (Mst.enc ⟨0, mw, 1, k⟩ + -11) := by
          rw [enc_m11 (by omega) (by omega) (by omega)]
          simp [ad]
        have hs1 := set1 hc (ad ⟨0, mw, 1, k⟩ ⟨0, 0, 1, n⟩ false)
        simp only at hs1 hc ⊢
        rw [e] at hs1 ⊢
        refine ⟨_, stepG_add_atomic rfl rfl (by k_ne) rfl Try.func98 x98.1 x98.2.1 x98.2.2 .i32 e98 rfl rfl (cs1 hc) (csz hc 1), rfl, ?_⟩
        replace hF := hK hF (RT.own hO (by simpa using hb) hs1)
        clear hs1 hc e
        refine crew.Goes.after (S₁ := fun g w => Goes Try.prog false (RT p [bi]) (DT p [bi]) (AtD p bi ix d (.lk .le)) 60 g w) (RT.refl (p := p) (ps := [bi])) (fun g w h => h) (m := 40) (n := 60) (dmono (D := DC0) (fun w w' es h => dt_of w w' es h) ?_) |>.mono (by omega)
        walk_nrm
        show Goes Try.prog false (RT p [bi]) DC0 _ _ _ _
        u_c stepG_region_end hK hF
        u_exit hK hF
        u_cond true hK hF
        u_c stepG_seq hK hF
        u_reg hK hF
        refine Goes.stop fun w₃ h₃ => ?_
        refine tailLit hK hC hO hb hT hm d _ ⟨0, 0, 1, n⟩ it aw false ws ?_ _ (hK hF h₃)
        simp only [S97, restR, restV, restS, restQ, cT, opsOf, rest11, in97, lp97, tail97, c97, body97, cL, cR, cB, Try.f97, Option.getD_some]
        rfl
    | true =>
      by_cases h1 : n = 1
      · subst h1
        refine dmono (D := DC0) (fun w w' es h => dt_of w w' es h) ?_
        walk_nrm
        show Goes Try.prog false (RT p [bi]) DC0 _ _ _ _
        u_op hK hF
        u_c stepG_region_end hK hF
        u_c stepG_seq hK hF
        u_c stepG_seq hK hF
        u_reg hK hF
        u_op hK hF
        u_op hK hF
        u_op hK hF
        u_c stepG_region_end hK hF
        u_cond true hK hF
        u_c stepG_seq hK hF
        u_c stepG_seq hK hF
        u_reg hK hF
        u_op hK hF
        u_op hK hF
        u_op hK hF
        u_op hK hF
        u_op hK hF
        u_op hK hF
        u_op hK hF
        u_op hK hF
        u_c stepG_region_end hK hF
        u_cond false hK hF
        u_c stepG_skip hK hF
        u_c stepG_seq hK hF
        u_reg hK hF
        u_op hK hF
        u_c stepG_region_end hK hF
        u_c stepG_seq hK hF
        u_c stepG_seq hK hF
        u_reg hK hF
        u_op hK hF
        u_op hK hF
        u_op hK hF
        u_op hK hF
        u_op hK hF
        u_op hK hF
        u_op hK hF
        u_c stepG_region_end hK hF
        u_cond true hK hF
        u_reg hK hF
        u_op hK hF
        u_op hK hF
        u_op hK hF
        u_c stepG_region_end hK hF
        u_c stepG_seq hK hF
        u_reg hK hF
        u_op hK hF
        u_op hK hF
        u_op hK hF
        u_op hK hF
        refine Goes.stop fun w2 h2 => ?_
        replace hF := hK hF h2
        clear h2
        rcases d with _ | d
        · trivial
        refine ⟨rfl, rfl, fun w' es s' hn => ?_, fun _ _ e => by (cases e), fun _ e => by (cases e), fun _ e => by (cases e)⟩
        cases hn with
        | a1 c _ _ hc ho hs hl hp hsn =>
          rcases c with ⟨d0, ⟨ml, mw, ms, k⟩, s0, v0, cd0, r0⟩
          simp only [Mst.Ok] at ho hs hl hp
          subst hs hl
          have e : (ad ⟨0, mw, 1, k⟩ ⟨0, 0, 1, 1⟩ true).enc = IntKind.i32.wrap (Mst.enc ⟨0, mw, 1, k⟩ + -11) := by
            rw [enc_m11 (by omega) (by omega) (by omega)]
            simp [ad]
          have hs1 := set1 hc (ad ⟨0, mw, 1, k⟩ ⟨0, 0, 1, 1⟩ true)
          simp only at hs1 hc ⊢
          rw [e] at hs1 ⊢
          refine ⟨_, stepG_add_atomic rfl rfl (by k_ne) rfl Try.func98 x98.1 x98.2.1 x98.2.2 .i32 e98 rfl rfl (cs1 hc) (csz hc 1), rfl, ?_⟩
          replace hF := hK hF (RT.own hO (by simpa using hb) hs1)
          clear hs1 hc e
          refine crew.Goes.after (S₁ := fun g w => Goes Try.prog false (RT p [bi]) (DT p [bi]) (AtD p bi ix d (.lk .le)) 60 g w) (RT.refl (p := p) (ps := [bi])) (fun g w h => h) (m := 40) (n := 60) (dmono (D := DC0) (fun w w' es h => dt_of w w' es h) ?_) |>.mono (by omega)
          walk_nrm
          show Goes Try.prog false (RT p [bi]) DC0 _ _ _ _
          u_c stepG_region_end hK hF
          u_exit hK hF
          u_cond true hK hF
          u_c stepG_seq hK hF
          u_reg hK hF
          refine Goes.stop fun w₃ h₃ => ?_
          refine tailLit hK hC hO hb hT hm d _ ⟨0, 0, 1, 1⟩ it aw true ws ?_ _ (hK hF h₃)
          simp only [S97, restR, restV, restS, restQ, cT, opsOf, rest11, in97, lp97, tail97, c97, body97, cL, cR, cB, Try.f97, Option.getD_some]
          rfl
      · have d1 : decide ((n : Int) = 1) = false := decide_eq_false (by omega)
        have d1n : decide (n = 1) = false := decide_eq_false (by omega)
        refine dmono (D := DC0) (fun w w' es h => dt_of w w' es h) ?_
        walk_nrm
        show Goes Try.prog false (RT p [bi]) DC0 _ _ _ _
        u_op hK hF
        u_c stepG_region_end hK hF
        u_c stepG_seq hK hF
        u_c stepG_seq hK hF
        u_reg hK hF
        u_op hK hF
        u_op hK hF
        u_op hK hF
        u_c stepG_region_end hK hF
        u_cond true hK hF
        u_c stepG_seq hK hF
        u_c stepG_seq hK hF
        u_reg hK hF
        u_op hK hF
        u_op hK hF
        u_op hK hF
        u_op hK hF
        u_op hK hF
        u_op hK hF
        u_op hK hF
        u_op hK hF
        u_c stepG_region_end hK hF
        u_cnd false hK hF
        u_c stepG_skip hK hF
        u_c stepG_seq hK hF
        u_reg hK hF
        u_op hK hF
        u_c stepG_region_end hK hF
        u_c stepG_seq hK hF
        u_c stepG_seq hK hF
        u_reg hK hF
        u_op hK hF
        u_op hK hF
        u_op hK hF
        u_op hK hF
        u_op hK hF
        u_op hK hF
        u_op hK hF
        u_c stepG_region_end hK hF
        u_cnd false hK hF
        u_c stepG_skip hK hF
        u_c stepG_seq hK hF
        u_reg hK hF
        u_op hK hF
        u_op hK hF
        u_op hK hF
        u_op hK hF
        refine Goes.stop fun w2 h2 => ?_
        replace hF := hK hF h2
        clear h2
        rcases d with _ | d
        · trivial
        refine ⟨rfl, rfl, fun w' es s' hn => ?_, fun _ _ e => by (cases e), fun _ e => by (cases e), fun _ e => by (cases e)⟩
        cases hn with
        | a1 c _ _ hc ho hs hl hp hsn =>
          rcases c with ⟨d0, ⟨ml, mw, ms, k⟩, s0, v0, cd0, r0⟩
          simp only [Mst.Ok] at ho hs hl hp
          subst hs hl
          have e : (ad ⟨0, mw, 1, k⟩ ⟨0, 0, 1, n⟩ true).enc = IntKind.i32.wrap (Mst.enc ⟨0, mw, 1, k⟩ + -7) := by
            rw [enc_m7 (by omega) (by omega) (by omega)]
            simp [ad, h1]
          have hs1 := set1 hc (ad ⟨0, mw, 1, k⟩ ⟨0, 0, 1, n⟩ true)
          simp only at hs1 hc ⊢
          rw [e] at hs1 ⊢
          refine ⟨_, stepG_add_atomic rfl rfl (by k_ne) rfl Try.func98 x98.1 x98.2.1 x98.2.2 .i32 e98 rfl rfl (cs1 hc) (csz hc 1), rfl, ?_⟩
          replace hF := hK hF (RT.own hO (by simpa using hb) hs1)
          clear hs1 hc e
          refine crew.Goes.after (S₁ := fun g w => Goes Try.prog false (RT p [bi]) (DT p [bi]) (AtD p bi ix d (.lk .le)) 60 g w) (RT.refl (p := p) (ps := [bi])) (fun g w h => h) (m := 40) (n := 60) (dmono (D := DC0) (fun w w' es h => dt_of w w' es h) ?_) |>.mono (by omega)
          walk_nrm
          show Goes Try.prog false (RT p [bi]) DC0 _ _ _ _
          u_c stepG_region_end hK hF
          u_exit hK hF
          u_cond true hK hF
          u_c stepG_seq hK hF
          u_reg hK hF
          refine Goes.stop fun w₃ h₃ => ?_
          refine tailLit hK hC hO hb hT hm d _ ⟨0, 0, 1, n⟩ it aw true ws ?_ _ (hK hF h₃)
          simp only [S97, restR, restV, restS, restQ, cT, opsOf, rest11, in97, lp97, tail97, c97, body97, cL, cR, cB, Try.f97, Option.getD_some]
          rfl
  | r2n c _ _ hc ho hs0 hs =>
    have hl := cs1 hc
    rcases c with ⟨d0, ⟨ml, mw, ms, n⟩, s0, v0, cd0, r0⟩
    simp only [Mst.Ok] at ho
    simp only at hl hs0
    subst hs0
    refine ⟨_, stepG_loadQ rfl rfl (by k_ne) rfl rfl hl q97, rfl, ?_⟩
    clear hl hc
    have f4 : bits .and .i32 (Mst.enc ⟨ml, mw, 0, n⟩) 4 = 0 := enc_and4 (by omega) (by omega) (by omega) (by omega)
    have hH := headLit (IH d (by omega))
    refine crew.Goes.after (S₁ := fun g w => Goes Try.prog false (RT p [bi]) (DT p [bi]) (AtD p bi ix d (.lk (hd ⟨ml, mw, 0, n⟩ 0 true sv ws))) 200 g w) (RT.refl (p := p) (ps := [bi])) (fun g w h => h) (m := 60) (n := 200) (dmono (D := DC0) (fun w w' es h => dt_of w w' es h) ?_) |>.mono (by omega)
    walk_nrm
    show Goes Try.prog false (RT p [bi]) DC0 _ _ _ _
    u_op hK hF
    u_c stepG_region_end hK hF
    u_c stepG_seq hK hF
    u_c stepG_seq hK hF
    u_reg hK hF
    u_op hK hF
    u_op hK hF
    u_op hK hF
    u_c stepG_region_end hK hF
    u_cond false hK hF
    u_c stepG_skip hK hF
    u_c stepG_seq hK hF
    u_reg hK hF
    u_op hK hF
    u_c stepG_region_end hK hF
    u_reg hK hF
    u_op hK hF
    u_c stepG_region_end hK hF
    u_c stepG_inBlock hK hF
    u_c stepG_inLoop hK hF
    refine Goes.stop fun w₃ h₃ => ?_
    refine hH _ ⟨ml, mw, 0, n⟩ 0 true sv ws hs ?_ _ (hK hF h₃)
    simp only [S97, restR, restV, restS, restQ, cT, opsOf, rest11, in97, lp97, tail97, c97, body97, cL, cR, cB, Try.f97, Option.getD_some]
    rfl
end
end Go.Proofs.Ytdkbkocklnnmdaa.tog
