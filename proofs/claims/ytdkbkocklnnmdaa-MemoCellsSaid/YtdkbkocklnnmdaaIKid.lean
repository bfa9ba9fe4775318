/-
  One of many: a goroutine of Together's, from its birth to its Done. Conditions: what is held of the world outlives the others' doing.
-/
import Derived.Test.YtdkbkocklnnmdaaIGet
set_option linter.unusedSimpArgs false
set_option linter.unusedVariables false
namespace Go.Proofs.Ytdkbkocklnnmdaa.itog
open Go.Proofs.Ytdkbkocklnnmdaa.tog Go Go.Conc Go.RowKit Go.ConcR.Gen Go.ConcN.Gen Go.Proofs.Ytdkbkocklnnmdaa.wg Go.Proofs.Ytdkbkocklnnmdaa.kid Go.Proofs.Ytdkbkocklnnmdaa.lock Go.Proofs.Ytdkbkocklnnmdaa.free
open Go.ConcR (KK WgAt stA smA rd wr mk DC0)
open Go.ConcN (WgLive RW AtR0 PayAt Has)
open Go.Conc.Lib


def b43 : Frame := baseD 43
noncomputable def body43 : Code := Try.f43.body.getD .skip
noncomputable def ops43 : Array Oper := opsOf (cR body43)
theorem ord43 : orders ops43 6 (Array.replicate 6 false) = [[0, 1, 2, 3, 4, 5], [0, 2, 1, 3, 4, 5], [0, 2, 3, 1, 4, 5], [1, 0, 2, 3, 4, 5], [1, 2, 0, 3, 4, 5], [1, 2, 3, 0, 4, 5], [2, 0, 1, 3, 4, 5], [2, 0, 3, 1, 4, 5], [2, 1, 0, 3, 4, 5], [2, 1, 3, 0, 4, 5], [2, 3, 0, 1, 4, 5], [2, 3, 1, 0, 4, 5]] := by kernel_rfl
theorem q43 : (Try.prog.funcs[b43.fn]?).any (·.norace) = false := by kernel_rfl
/-- The call that the go statement holds: the group, &c, &out, &i. -/
def call43 (Wg Bc Bo bi : Nat) : Deferred := { target := .fn (.func 43) #[.pointer (some ⟨Wg, 0, none⟩), .pointer (some ⟨Bc, 0, none⟩), .pointer (some ⟨Bo, 0, none⟩), .pointer (some ⟨bi, 0, none⟩)], args := #[] }
theorem quits43 (T : Array Value) : QuitsD Try.prog 2 0 (G { b43.at ⟨T, []⟩ [] with mode := .returning } [bot]) := by
  refine QuitsD.ctl (g' := G bot []) rfl (fun w => ?_) ?_
  · simp [G, stepG, unwind, doReturn, results, Frame.at, b43, baseD, bot, Try.func43, Try.f43, seen, GStep.after, goexitEntry]
  refine QuitsD.ctl (g' := { G bot [] with status := .finished }) rfl (fun w => ?_) ⟨rfl, rfl⟩
  simp [G, stepG, unwind, bot, goexitEntry, Frame.catches]
  rfl
theorem born43 (Wg Bc Bo bi : Nat) (w : World) : stepG Try.prog false (born Try.prog (call43 Wg Bc Bo bi)) w =
    .go (G (b43.at ⟨#[.pointer (some ⟨Wg, 0, none⟩), .pointer (some ⟨Bc, 0, none⟩), .pointer (some ⟨Bo, 0, none⟩), .pointer (some ⟨bi, 0, none⟩), undef, undef, undef, undef, undef], []⟩ [.code body43]) [bot]) w #[] := by
  simp [born, call43, stepG, unwind, callDeferred, invoke, callFunc, Try.func43, Try.f43, seen, GStep.after, G, Frame.enter, Frame.at, b43, baseD, bot, body43]

/-- What a goroutine of Together's asks. -/
structure KidOk (p : Tp) (bi ix : Nat) (Bv : Fb) (Bc Bo n : Nat) (K : World → Prop) : Prop where
  R : RunOk p bi Bv K
  wl : ∀ {w : World}, K w → WgLive 96 p.Wg w
  bd : ∀ {w : World}, K w → w.cell? ⟨p.Bd, 0, none⟩ = some p.vd
  roD : p.Ro p.Bd
  out : ∀ {w : World}, K w → w.cell? ⟨Bo, 0, none⟩ = some (.slice (some ⟨p.Ot, 0, none⟩) n n)
  roO : p.Ro Bo
  cel : ∀ {w : World}, K w → w.cell? ⟨Bc, 0, none⟩ = some (.pointer (some ⟨p.C, 0, none⟩))
  roC : p.Ro Bc
  num : ∀ {w : World}, K w → w.cell? ⟨bi, 0, none⟩ = some (.int .i64 ix)
  lt : ix < n
  ot : ¬ p.Ro p.Ot ∧ p.Ot ≠ p.C ∧ p.Ot ≠ p.Wg ∧ p.Ot ≠ bi
theorem RT.ot {p : Tp} {ps : List Nat} (w : World) (ix : Nat) (v : Value) (h : ∀ b, p.Ro b ∨ b ∈ ps → b ≠ p.Ot) (hc : p.Ot ≠ p.C) (hw : p.Ot ≠ p.Wg) : RT p ps w (w.setCell (oA p ix) v) :=
  have A := aside_setCell w (oA p ix) v
  ⟨fun b hb => A.block b (h b hb), fun ⟨st, sm, x⟩ => ⟨st, sm, x.of_block (A.block _ hw.symm)⟩, fun ⟨c, x⟩ => ⟨c, (A.block _ hc.symm).trans x⟩⟩
theorem rw_of_rt {p : Tp} {bi : Nat} (hb : p.Ro p.Bd) (w w₁ : World) (h : RT p [bi] w w₁) : RW 96 p.Wg p.Bd 1 0 0 w w₁ :=
  ⟨fun b hb' => by omega, h.live, fun ⟨cs, a, b⟩ => ⟨cs, (h.ro _ (.inl hb)).trans a, b⟩, by simp only [World.cell?, h.ro _ (.inl hb)]⟩

section
variable {p : Tp} {bi ix Bc Bo n : Nat} {Bv : Fb} {K : World → Prop}
set_option maxRecDepth 100000 in
set_option maxHeartbeats 64000000 in
/-- A goroutine of Together's. -/
theorem kidG (H : KidOk p bi ix Bv Bc Bo n K) : ∀ d w, K w → Goes Try.prog false (RT p [bi]) (DT p [bi]) (AtD p bi ix d (.od)) 250 (born Try.prog (call43 p.Wg Bc Bo bi)) w := by
  intro d w hF
  have hK := @H.R.st
  have ho := fun t => schedule_orders ops43 t
  simp only [show ops43.size = 6 from by kernel_rfl, ord43] at ho
  simp only [ops43, body43, opsOf, cR, Try.f43, Option.getD_some] at ho
  have HO := Lib.hid ho
  clear ho
  refine crew.Goes.after (S₁ := fun g w => Goes Try.prog false (RT p [bi]) (DT p [bi]) (AtD p bi ix d (.od)) 200 g w) (RT.refl (p := p) (ps := [bi])) (fun g w h => h) (m := 20) (n := 200) (dmono (D := DC0) (fun w w' es h => dt_of w w' es h) ?_) |>.mono (by omega)
  show Goes Try.prog false (RT p [bi]) DC0 _ _ _ _
  refine Goes.step rfl fun w₁ h₁ => ?_
  replace hF := hK hF h₁
  clear h₁
  rw [born43]
  refine ⟨by u_nil, ?_⟩
  simp only [body43, Try.f43, Option.getD_some]
  u_c stepG_seq hK hF
  u_reg hK hF
  u_defer hK hF
  u_c stepG_region_end hK hF
  refine Goes.stop fun w₃ h₃ => ?_
  replace hF := hK hF h₃
  clear h₃
  u_in hK hF
  rw [stepG_region_draw]
  simp only [goes_go]
  refine ⟨dt_draw _, ?_⟩
  replace hF := hK hF (RT.drawn _)
  generalize hs : Region.schedule _ _ _ = sched
  obtain ⟨t, ht⟩ := Exists.intro (p := fun t => Region.schedule _ _ t = sched) _ hs
  have ho := HO.out t
  rw [ht] at ho
  clear ht hs HO
  simp only [List.mem_cons, List.not_mem_nil, or_false] at ho
  rcases ho with rfl | rfl | rfl | rfl | rfl | rfl | rfl | rfl | rfl | rfl | rfl | rfl
  · u_in hK hF
    have hcell := H.out hF
    rw [stepG_loadE2 (ty := 22) (by simp [two]) rfl rfl (by k_ne) rfl rfl hcell q43]
    simp only [goes_go]
    refine ⟨dt_read (.inl H.roO), ?_⟩
    walk_nrm
    clear hcell
    u_in hK hF
    have hcell := H.num hF
    rw [stepG_loadE (ty := 3) (by simp [tog.one]) rfl rfl (by k_ne) rfl rfl hcell q43]
    simp only [goes_go]
    refine ⟨dt_read (.inr (.inl (by simp))), ?_⟩
    walk_nrm
    clear hcell
    u_in hK hF
    have hcell := H.cel hF
    rw [stepG_loadE (ty := 24) (by simp [tog.one]) rfl rfl (by k_ne) rfl rfl hcell q43]
    simp only [goes_go]
    refine ⟨dt_read (.inl H.roC), ?_⟩
    walk_nrm
    clear hcell
    refine crew.Goes.after (S₁ := fun g w => Goes Try.prog false (RT p [bi]) (DT p [bi]) (AtD p bi ix d (.od)) 100 g w) (RT.refl (p := p) (ps := [bi])) (fun g w h => h) (m := 20) (n := 100) (dmono (D := DC0) (fun w w' es h => dt_of w w' es h) ?_) |>.mono (by omega)
    show Goes Try.prog false (RT p [bi]) DC0 _ _ _ _
    u_call Try.func11 x11 Try.f11 hK hF
    refine Goes.stop fun w₃ h₃ => ?_
    refine getG (mT := 40) H.R (fun d v w hF => ?_) (by omega) d _ (hK hF h₃)
    walk_nrm
    refine dmono (D := DC0) (fun w w' es h => dt_of w w' es h) ?_
    show Goes Try.prog false (RT p [bi]) DC0 _ _ _ _
    have hlt : (ix : Int) < n := by have := H.lt; omega
    have hlt2 := H.lt
    have h0 : (0 : Int) ≤ ix := by omega
    u_op hK hF
    refine Goes.stop fun w1 h1 => ?_
    replace hF := hK hF h1
    clear h1
    rcases d with _ | d
    · trivial
    refine ⟨rfl, rfl, fun w' es s' hn => by (cases hn), fun _ _ e => by (cases e), fun _ e => by (cases e), fun v' e hv hcell hz => ?_⟩
    cases e
    obtain ⟨x, hx⟩ := hcell
    refine ⟨_, stepG_storeE (ty := 3) (ad := oA p ix) (by simp [tog.one]) rfl rfl (by k_ne) rfl (by simp [Act.eval, oA]) rfl hv hx hz q43, rfl, ?_⟩
    replace hF := hK hF (RT.ot _ ix v (fun b hb => ?_) H.ot.2.1 H.ot.2.2.1)
    · refine dmono (D := DC0) (fun w w' es h => dt_of w w' es h) ?_
      walk_nrm
      u_c stepG_region_end hK hF
      u_c stepG_end hK hF
      u_unwB hK hF Try.func44 (nm_done link) Try.f44
      have hA := fun T : Array Value => doneStop (R := RT p [bi]) (D := DC0) (Wg := p.Wg) (C := p.Bd) (val := p.vd) (c := { b43.at ⟨T, []⟩ [] with mode := .returning }) (cs := [bot]) (qt := 2) (rw_of_rt H.roD) (fun w => ⟨rfl, rfl⟩) rfl (quits43 T) _ ⟨H.wl hF, H.bd hF⟩
      simp only [Try.f44, Option.getD_some] at hA
      exact Goes.mono (hA _) (by omega)
    · rcases hb with hb | hb
      · exact fun e => H.ot.1 (e ▸ hb)
      · simp at hb
        rw [hb]
        exact fun e => H.ot.2.2.2 e.symm
  · u_in hK hF
    have hcell := H.out hF
    rw [stepG_loadE2 (ty := 22) (by simp [two]) rfl rfl (by k_ne) rfl rfl hcell q43]
    simp only [goes_go]
    refine ⟨dt_read (.inl H.roO), ?_⟩
    walk_nrm
    clear hcell
    u_in hK hF
    have hcell := H.cel hF
    rw [stepG_loadE (ty := 24) (by simp [tog.one]) rfl rfl (by k_ne) rfl rfl hcell q43]
    simp only [goes_go]
    refine ⟨dt_read (.inl H.roC), ?_⟩
    walk_nrm
    clear hcell
    u_in hK hF
    have hcell := H.num hF
    rw [stepG_loadE (ty := 3) (by simp [tog.one]) rfl rfl (by k_ne) rfl rfl hcell q43]
    simp only [goes_go]
    refine ⟨dt_read (.inr (.inl (by simp))), ?_⟩
    walk_nrm
    clear hcell
    refine crew.Goes.after (S₁ := fun g w => Goes Try.prog false (RT p [bi]) (DT p [bi]) (AtD p bi ix d (.od)) 100 g w) (RT.refl (p := p) (ps := [bi])) (fun g w h => h) (m := 20) (n := 100) (dmono (D := DC0) (fun w w' es h => dt_of w w' es h) ?_) |>.mono (by omega)
    show Goes Try.prog false (RT p [bi]) DC0 _ _ _ _
    u_call Try.func11 x11 Try.f11 hK hF
    refine Goes.stop fun w₃ h₃ => ?_
    refine getG (mT := 40) H.R (fun d v w hF => ?_) (by omega) d _ (hK hF h₃)
    walk_nrm
    refine dmono (D := DC0) (fun w w' es h => dt_of w w' es h) ?_
    show Goes Try.prog false (RT p [bi]) DC0 _ _ _ _
    have hlt : (ix : Int) < n := by have := H.lt; omega
    have hlt2 := H.lt
    have h0 : (0 : Int) ≤ ix := by omega
    u_op hK hF
    refine Goes.stop fun w1 h1 => ?_
    replace hF := hK hF h1
    clear h1
    rcases d with _ | d
    · trivial
    refine ⟨rfl, rfl, fun w' es s' hn => by (cases hn), fun _ _ e => by (cases e), fun _ e => by (cases e), fun v' e hv hcell hz => ?_⟩
    cases e
    obtain ⟨x, hx⟩ := hcell
    refine ⟨_, stepG_storeE (ty := 3) (ad := oA p ix) (by simp [tog.one]) rfl rfl (by k_ne) rfl (by simp [Act.eval, oA]) rfl hv hx hz q43, rfl, ?_⟩
    replace hF := hK hF (RT.ot _ ix v (fun b hb => ?_) H.ot.2.1 H.ot.2.2.1)
    · refine dmono (D := DC0) (fun w w' es h => dt_of w w' es h) ?_
      walk_nrm
      u_c stepG_region_end hK hF
      u_c stepG_end hK hF
      u_unwB hK hF Try.func44 (nm_done link) Try.f44
      have hA := fun T : Array Value => doneStop (R := RT p [bi]) (D := DC0) (Wg := p.Wg) (C := p.Bd) (val := p.vd) (c := { b43.at ⟨T, []⟩ [] with mode := .returning }) (cs := [bot]) (qt := 2) (rw_of_rt H.roD) (fun w => ⟨rfl, rfl⟩) rfl (quits43 T) _ ⟨H.wl hF, H.bd hF⟩
      simp only [Try.f44, Option.getD_some] at hA
      exact Goes.mono (hA _) (by omega)
    · rcases hb with hb | hb
      · exact fun e => H.ot.1 (e ▸ hb)
      · simp at hb
        rw [hb]
        exact fun e => H.ot.2.2.2 e.symm
  · u_in hK hF
    have hcell := H.out hF
    rw [stepG_loadE2 (ty := 22) (by simp [two]) rfl rfl (by k_ne) rfl rfl hcell q43]
    simp only [goes_go]
    refine ⟨dt_read (.inl H.roO), ?_⟩
    walk_nrm
    clear hcell
    u_in hK hF
    have hcell := H.cel hF
    rw [stepG_loadE (ty := 24) (by simp [tog.one]) rfl rfl (by k_ne) rfl rfl hcell q43]
    simp only [goes_go]
    refine ⟨dt_read (.inl H.roC), ?_⟩
    walk_nrm
    clear hcell
    refine crew.Goes.after (S₁ := fun g w => Goes Try.prog false (RT p [bi]) (DT p [bi]) (AtD p bi ix d (.od)) 100 g w) (RT.refl (p := p) (ps := [bi])) (fun g w h => h) (m := 20) (n := 100) (dmono (D := DC0) (fun w w' es h => dt_of w w' es h) ?_) |>.mono (by omega)
    show Goes Try.prog false (RT p [bi]) DC0 _ _ _ _
    u_call Try.func11 x11 Try.f11 hK hF
    refine Goes.stop fun w₃ h₃ => ?_
    refine getG (mT := 40) H.R (fun d v w hF => ?_) (by omega) d _ (hK hF h₃)
    walk_nrm
    u_in hK hF
    have hcell := H.num hF
    rw [stepG_loadE (ty := 3) (by simp [tog.one]) rfl rfl (by k_ne) rfl rfl hcell q43]
    simp only [goes_go]
    refine ⟨dt_read (.inr (.inl (by simp))), ?_⟩
    walk_nrm
    clear hcell
    refine dmono (D := DC0) (fun w w' es h => dt_of w w' es h) ?_
    show Goes Try.prog false (RT p [bi]) DC0 _ _ _ _
    have hlt : (ix : Int) < n := by have := H.lt; omega
    have hlt2 := H.lt
    have h0 : (0 : Int) ≤ ix := by omega
    u_op hK hF
    refine Goes.stop fun w1 h1 => ?_
    replace hF := hK hF h1
    clear h1
    rcases d with _ | d
    · trivial
    refine ⟨rfl, rfl, fun w' es s' hn => by (cases hn), fun _ _ e => by (cases e), fun _ e => by (cases e), fun v' e hv hcell hz => ?_⟩
    cases e
    obtain ⟨x, hx⟩ := hcell
    refine ⟨_, stepG_storeE (ty := 3) (ad := oA p ix) (by simp [tog.one]) rfl rfl (by k_ne) rfl (by simp [Act.eval, oA]) rfl hv hx hz q43, rfl, ?_⟩
    replace hF := hK hF (RT.ot _ ix v (fun b hb => ?_) H.ot.2.1 H.ot.2.2.1)
    · refine dmono (D := DC0) (fun w w' es h => dt_of w w' es h) ?_
      walk_nrm
      u_c stepG_region_end hK hF
      u_c stepG_end hK hF
      u_unwB hK hF Try.func44 (nm_done link) Try.f44
      have hA := fun T : Array Value => doneStop (R := RT p [bi]) (D := DC0) (Wg := p.Wg) (C := p.Bd) (val := p.vd) (c := { b43.at ⟨T, []⟩ [] with mode := .returning }) (cs := [bot]) (qt := 2) (rw_of_rt H.roD) (fun w => ⟨rfl, rfl⟩) rfl (quits43 T) _ ⟨H.wl hF, H.bd hF⟩
      simp only [Try.f44, Option.getD_some] at hA
      exact Goes.mono (hA _) (by omega)
    · rcases hb with hb | hb
      · exact fun e => H.ot.1 (e ▸ hb)
      · simp at hb
        rw [hb]
        exact fun e => H.ot.2.2.2 e.symm
  · u_in hK hF
    have hcell := H.num hF
    rw [stepG_loadE (ty := 3) (by simp [tog.one]) rfl rfl (by k_ne) rfl rfl hcell q43]
    simp only [goes_go]
    refine ⟨dt_read (.inr (.inl (by simp))), ?_⟩
    walk_nrm
    clear hcell
    u_in hK hF
    have hcell := H.out hF
    rw [stepG_loadE2 (ty := 22) (by simp [two]) rfl rfl (by k_ne) rfl rfl hcell q43]
    simp only [goes_go]
    refine ⟨dt_read (.inl H.roO), ?_⟩
    walk_nrm
    clear hcell
    u_in hK hF
    have hcell := H.cel hF
    rw [stepG_loadE (ty := 24) (by simp [tog.one]) rfl rfl (by k_ne) rfl rfl hcell q43]
    simp only [goes_go]
    refine ⟨dt_read (.inl H.roC), ?_⟩
    walk_nrm
    clear hcell
    refine crew.Goes.after (S₁ := fun g w => Goes Try.prog false (RT p [bi]) (DT p [bi]) (AtD p bi ix d (.od)) 100 g w) (RT.refl (p := p) (ps := [bi])) (fun g w h => h) (m := 20) (n := 100) (dmono (D := DC0) (fun w w' es h => dt_of w w' es h) ?_) |>.mono (by omega)
    show Goes Try.prog false (RT p [bi]) DC0 _ _ _ _
    u_call Try.func11 x11 Try.f11 hK hF
    refine Goes.stop fun w₃ h₃ => ?_
    refine getG (mT := 40) H.R (fun d v w hF => ?_) (by omega) d _ (hK hF h₃)
    walk_nrm
    refine dmono (D := DC0) (fun w w' es h => dt_of w w' es h) ?_
    show Goes Try.prog false (RT p [bi]) DC0 _ _ _ _
    have hlt : (ix : Int) < n := by have := H.lt; omega
    have hlt2 := H.lt
    have h0 : (0 : Int) ≤ ix := by omega
    u_op hK hF
    refine Goes.stop fun w1 h1 => ?_
    replace hF := hK hF h1
    clear h1
    rcases d with _ | d
    · trivial
    refine ⟨rfl, rfl, fun w' es s' hn => by (cases hn), fun _ _ e => by (cases e), fun _ e => by (cases e), fun v' e hv hcell hz => ?_⟩
    cases e
    obtain ⟨x, hx⟩ := hcell
    refine ⟨_, stepG_storeE (ty := 3) (ad := oA p ix) (by simp [tog.one]) rfl rfl (by k_ne) rfl (by simp [Act.eval, oA]) rfl hv hx hz q43, rfl, ?_⟩
    replace hF := hK hF (RT.ot _ ix v (fun b hb => ?_) H.ot.2.1 H.ot.2.2.1)
    · refine dmono (D := DC0) (fun w w' es h => dt_of w w' es h) ?_
      walk_nrm
      u_c stepG_region_end hK hF
      u_c stepG_end hK hF
      u_unwB hK hF Try.func44 (nm_done link) Try.f44
      have hA := fun T : Array Value => doneStop (R := RT p [bi]) (D := DC0) (Wg := p.Wg) (C := p.Bd) (val := p.vd) (c := { b43.at ⟨T, []⟩ [] with mode := .returning }) (cs := [bot]) (qt := 2) (rw_of_rt H.roD) (fun w => ⟨rfl, rfl⟩) rfl (quits43 T) _ ⟨H.wl hF, H.bd hF⟩
      simp only [Try.f44, Option.getD_some] at hA
      exact Goes.mono (hA _) (by omega)
    · rcases hb with hb | hb
      · exact fun e => H.ot.1 (e ▸ hb)
      · simp at hb
        rw [hb]
        exact fun e => H.ot.2.2.2 e.symm
  · u_in hK hF
    have hcell := H.num hF
    rw [stepG_loadE (ty := 3) (by simp [tog.one]) rfl rfl (by k_ne) rfl rfl hcell q43]
    simp only [goes_go]
    refine ⟨dt_read (.inr (.inl (by simp))), ?_⟩
    walk_nrm
    clear hcell
    u_in hK hF
    have hcell := H.cel hF
    rw [stepG_loadE (ty := 24) (by simp [tog.one]) rfl rfl (by k_ne) rfl rfl hcell q43]
    simp only [goes_go]
    refine ⟨dt_read (.inl H.roC), ?_⟩
    walk_nrm
    clear hcell
    u_in hK hF
    have hcell := H.out hF
    rw [stepG_loadE2 (ty := 22) (by simp [two]) rfl rfl (by k_ne) rfl rfl hcell q43]
    simp only [goes_go]
    refine ⟨dt_read (.inl H.roO), ?_⟩
    walk_nrm
    clear hcell
    refine crew.Goes.after (S₁ := fun g w => Goes Try.prog false (RT p [bi]) (DT p [bi]) (AtD p bi ix d (.od)) 100 g w) (RT.refl (p := p) (ps := [bi])) (fun g w h => h) (m := 20) (n := 100) (dmono (D := DC0) (fun w w' es h => dt_of w w' es h) ?_) |>.mono (by omega)
    show Goes Try.prog false (RT p [bi]) DC0 _ _ _ _
    u_call Try.func11 x11 Try.f11 hK hF
    refine Goes.stop fun w₃ h₃ => ?_
    refine getG (mT := 40) H.R (fun d v w hF => ?_) (by omega) d _ (hK hF h₃)
    walk_nrm
    refine dmono (D := DC0) (fun w w' es h => dt_of w w' es h) ?_
    show Goes Try.prog false (RT p [bi]) DC0 _ _ _ _
    have hlt : (ix : Int) < n := by have := H.lt; omega
    have hlt2 := H.lt
    have h0 : (0 : Int) ≤ ix := by omega
    u_op hK hF
    refine Goes.stop fun w1 h1 => ?_
    replace hF := hK hF h1
    clear h1
    rcases d with _ | d
    · trivial
    refine ⟨rfl, rfl, fun w' es s' hn => by (cases hn), fun _ _ e => by (cases e), fun _ e => by (cases e), fun v' e hv hcell hz => ?_⟩
    cases e
    obtain ⟨x, hx⟩ := hcell
    refine ⟨_, stepG_storeE (ty := 3) (ad := oA p ix) (by simp [tog.one]) rfl rfl (by k_ne) rfl (by simp [Act.eval, oA]) rfl hv hx hz q43, rfl, ?_⟩
    replace hF := hK hF (RT.ot _ ix v (fun b hb => ?_) H.ot.2.1 H.ot.2.2.1)
    · refine dmono (D := DC0) (fun w w' es h => dt_of w w' es h) ?_
      walk_nrm
      u_c stepG_region_end hK hF
      u_c stepG_end hK hF
      u_unwB hK hF Try.func44 (nm_done link) Try.f44
      have hA := fun T : Array Value => doneStop (R := RT p [bi]) (D := DC0) (Wg := p.Wg) (C := p.Bd) (val := p.vd) (c := { b43.at ⟨T, []⟩ [] with mode := .returning }) (cs := [bot]) (qt := 2) (rw_of_rt H.roD) (fun w => ⟨rfl, rfl⟩) rfl (quits43 T) _ ⟨H.wl hF, H.bd hF⟩
      simp only [Try.f44, Option.getD_some] at hA
      exact Goes.mono (hA _) (by omega)
    · rcases hb with hb | hb
      · exact fun e => H.ot.1 (e ▸ hb)
      · simp at hb
        rw [hb]
        exact fun e => H.ot.2.2.2 e.symm
  · u_in hK hF
    have hcell := H.num hF
    rw [stepG_loadE (ty := 3) (by simp [tog.one]) rfl rfl (by k_ne) rfl rfl hcell q43]
    simp only [goes_go]
    refine ⟨dt_read (.inr (.inl (by simp))), ?_⟩
    walk_nrm
    clear hcell
    u_in hK hF
    have hcell := H.cel hF
    rw [stepG_loadE (ty := 24) (by simp [tog.one]) rfl rfl (by k_ne) rfl rfl hcell q43]
    simp only [goes_go]
    refine ⟨dt_read (.inl H.roC), ?_⟩
    walk_nrm
    clear hcell
    refine crew.Goes.after (S₁ := fun g w => Goes Try.prog false (RT p [bi]) (DT p [bi]) (AtD p bi ix d (.od)) 100 g w) (RT.refl (p := p) (ps := [bi])) (fun g w h => h) (m := 20) (n := 100) (dmono (D := DC0) (fun w w' es h => dt_of w w' es h) ?_) |>.mono (by omega)
    show Goes Try.prog false (RT p [bi]) DC0 _ _ _ _
    u_call Try.func11 x11 Try.f11 hK hF
    refine Goes.stop fun w₃ h₃ => ?_
    refine getG (mT := 40) H.R (fun d v w hF => ?_) (by omega) d _ (hK hF h₃)
    walk_nrm
    u_in hK hF
    have hcell := H.out hF
    rw [stepG_loadE2 (ty := 22) (by simp [two]) rfl rfl (by k_ne) rfl rfl hcell q43]
    simp only [goes_go]
    refine ⟨dt_read (.inl H.roO), ?_⟩
    walk_nrm
    clear hcell
    refine dmono (D := DC0) (fun w w' es h => dt_of w w' es h) ?_
    show Goes Try.prog false (RT p [bi]) DC0 _ _ _ _
    have hlt : (ix : Int) < n := by have := H.lt; omega
    have hlt2 := H.lt
    have h0 : (0 : Int) ≤ ix := by omega
    u_op hK hF
    refine Goes.stop fun w1 h1 => ?_
    replace hF := hK hF h1
    clear h1
    rcases d with _ | d
    · trivial
    refine ⟨rfl, rfl, fun w' es s' hn => by (cases hn), fun _ _ e => by (cases e), fun _ e => by (cases e), fun v' e hv hcell hz => ?_⟩
    cases e
    obtain ⟨x, hx⟩ := hcell
    refine ⟨_, stepG_storeE (ty := 3) (ad := oA p ix) (by simp [tog.one]) rfl rfl (by k_ne) rfl (by simp [Act.eval, oA]) rfl hv hx hz q43, rfl, ?_⟩
    replace hF := hK hF (RT.ot _ ix v (fun b hb => ?_) H.ot.2.1 H.ot.2.2.1)
    · refine dmono (D := DC0) (fun w w' es h => dt_of w w' es h) ?_
      walk_nrm
      u_c stepG_region_end hK hF
      u_c stepG_end hK hF
      u_unwB hK hF Try.func44 (nm_done link) Try.f44
      have hA := fun T : Array Value => doneStop (R := RT p [bi]) (D := DC0) (Wg := p.Wg) (C := p.Bd) (val := p.vd) (c := { b43.at ⟨T, []⟩ [] with mode := .returning }) (cs := [bot]) (qt := 2) (rw_of_rt H.roD) (fun w => ⟨rfl, rfl⟩) rfl (quits43 T) _ ⟨H.wl hF, H.bd hF⟩
      simp only [Try.f44, Option.getD_some] at hA
      exact Goes.mono (hA _) (by omega)
    · rcases hb with hb | hb
      · exact fun e => H.ot.1 (e ▸ hb)
      · simp at hb
        rw [hb]
        exact fun e => H.ot.2.2.2 e.symm
  · u_in hK hF
    have hcell := H.cel hF
    rw [stepG_loadE (ty := 24) (by simp [tog.one]) rfl rfl (by k_ne) rfl rfl hcell q43]
    simp only [goes_go]
    refine ⟨dt_read (.inl H.roC), ?_⟩
    walk_nrm
    clear hcell
    u_in hK hF
    have hcell := H.out hF
    rw [stepG_loadE2 (ty := 22) (by simp [two]) rfl rfl (by k_ne) rfl rfl hcell q43]
    simp only [goes_go]
    refine ⟨dt_read (.inl H.roO), ?_⟩
    walk_nrm
    clear hcell
    u_in hK hF
    have hcell := H.num hF
    rw [stepG_loadE (ty := 3) (by simp [tog.one]) rfl rfl (by k_ne) rfl rfl hcell q43]
    simp only [goes_go]
    refine ⟨dt_read (.inr (.inl (by simp))), ?_⟩
    walk_nrm
    clear hcell
    refine crew.Goes.after (S₁ := fun g w => Goes Try.prog false (RT p [bi]) (DT p [bi]) (AtD p bi ix d (.od)) 100 g w) (RT.refl (p := p) (ps := [bi])) (fun g w h => h) (m := 20) (n := 100) (dmono (D := DC0) (fun w w' es h => dt_of w w' es h) ?_) |>.mono (by omega)
    show Goes Try.prog false (RT p [bi]) DC0 _ _ _ _
    u_call Try.func11 x11 Try.f11 hK hF
    refine Goes.stop fun w₃ h₃ => ?_
    refine getG (mT := 40) H.R (fun d v w hF => ?_) (by omega) d _ (hK hF h₃)
    walk_nrm
    refine dmono (D := DC0) (fun w w' es h => dt_of w w' es h) ?_
    show Goes Try.prog false (RT p [bi]) DC0 _ _ _ _
    have hlt : (ix : Int) < n := by have := H.lt; omega
    have hlt2 := H.lt
    have h0 : (0 : Int) ≤ ix := by omega
    u_op hK hF
    refine Goes.stop fun w1 h1 => ?_
    replace hF := hK hF h1
    clear h1
    rcases d with _ | d
    · trivial
    refine ⟨rfl, rfl, fun w' es s' hn => by (cases hn), fun _ _ e => by (cases e), fun _ e => by (cases e), fun v' e hv hcell hz => ?_⟩
    cases e
    obtain ⟨x, hx⟩ := hcell
    refine ⟨_, stepG_storeE (ty := 3) (ad := oA p ix) (by simp [tog.one]) rfl rfl (by k_ne) rfl (by simp [Act.eval, oA]) rfl hv hx hz q43, rfl, ?_⟩
    replace hF := hK hF (RT.ot _ ix v (fun b hb => ?_) H.ot.2.1 H.ot.2.2.1)
    · refine dmono (D := DC0) (fun w w' es h => dt_of w w' es h) ?_
      walk_nrm
      u_c stepG_region_end hK hF
      u_c stepG_end hK hF
      u_unwB hK hF Try.func44 (nm_done link) Try.f44
      have hA := fun T : Array Value => doneStop (R := RT p [bi]) (D := DC0) (Wg := p.Wg) (C := p.Bd) (val := p.vd) (c := { b43.at ⟨T, []⟩ [] with mode := .returning }) (cs := [bot]) (qt := 2) (rw_of_rt H.roD) (fun w => ⟨rfl, rfl⟩) rfl (quits43 T) _ ⟨H.wl hF, H.bd hF⟩
      simp only [Try.f44, Option.getD_some] at hA
      exact Goes.mono (hA _) (by omega)
    · rcases hb with hb | hb
      · exact fun e => H.ot.1 (e ▸ hb)
      · simp at hb
        rw [hb]
        exact fun e => H.ot.2.2.2 e.symm
  · u_in hK hF
    have hcell := H.cel hF
    rw [stepG_loadE (ty := 24) (by simp [tog.one]) rfl rfl (by k_ne) rfl rfl hcell q43]
    simp only [goes_go]
    refine ⟨dt_read (.inl H.roC), ?_⟩
    walk_nrm
    clear hcell
    u_in hK hF
    have hcell := H.out hF
    rw [stepG_loadE2 (ty := 22) (by simp [two]) rfl rfl (by k_ne) rfl rfl hcell q43]
    simp only [goes_go]
    refine ⟨dt_read (.inl H.roO), ?_⟩
    walk_nrm
    clear hcell
    refine crew.Goes.after (S₁ := fun g w => Goes Try.prog false (RT p [bi]) (DT p [bi]) (AtD p bi ix d (.od)) 100 g w) (RT.refl (p := p) (ps := [bi])) (fun g w h => h) (m := 20) (n := 100) (dmono (D := DC0) (fun w w' es h => dt_of w w' es h) ?_) |>.mono (by omega)
    show Goes Try.prog false (RT p [bi]) DC0 _ _ _ _
    u_call Try.func11 x11 Try.f11 hK hF
    refine Goes.stop fun w₃ h₃ => ?_
    refine getG (mT := 40) H.R (fun d v w hF => ?_) (by omega) d _ (hK hF h₃)
    walk_nrm
    u_in hK hF
    have hcell := H.num hF
    rw [stepG_loadE (ty := 3) (by simp [tog.one]) rfl rfl (by k_ne) rfl rfl hcell q43]
    simp only [goes_go]
    refine ⟨dt_read (.inr (.inl (by simp))), ?_⟩
    walk_nrm
    clear hcell
    refine dmono (D := DC0) (fun w w' es h => dt_of w w' es h) ?_
    show Goes Try.prog false (RT p [bi]) DC0 _ _ _ _
    have hlt : (ix : Int) < n := by have := H.lt; omega
    have hlt2 := H.lt
    have h0 : (0 : Int) ≤ ix := by omega
    u_op hK hF
    refine Goes.stop fun w1 h1 => ?_
    replace hF := hK hF h1
    clear h1
    rcases d with _ | d
    · trivial
    refine ⟨rfl, rfl, fun w' es s' hn => by (cases hn), fun _ _ e => by (cases e), fun _ e => by (cases e), fun v' e hv hcell hz => ?_⟩
    cases e
    obtain ⟨x, hx⟩ := hcell
    refine ⟨_, stepG_storeE (ty := 3) (ad := oA p ix) (by simp [tog.one]) rfl rfl (by k_ne) rfl (by simp [Act.eval, oA]) rfl hv hx hz q43, rfl, ?_⟩
    replace hF := hK hF (RT.ot _ ix v (fun b hb => ?_) H.ot.2.1 H.ot.2.2.1)
    · refine dmono (D := DC0) (fun w w' es h => dt_of w w' es h) ?_
      walk_nrm
      u_c stepG_region_end hK hF
      u_c stepG_end hK hF
      u_unwB hK hF Try.func44 (nm_done link) Try.f44
      have hA := fun T : Array Value => doneStop (R := RT p [bi]) (D := DC0) (Wg := p.Wg) (C := p.Bd) (val := p.vd) (c := { b43.at ⟨T, []⟩ [] with mode := .returning }) (cs := [bot]) (qt := 2) (rw_of_rt H.roD) (fun w => ⟨rfl, rfl⟩) rfl (quits43 T) _ ⟨H.wl hF, H.bd hF⟩
      simp only [Try.f44, Option.getD_some] at hA
      exact Goes.mono (hA _) (by omega)
    · rcases hb with hb | hb
      · exact fun e => H.ot.1 (e ▸ hb)
      · simp at hb
        rw [hb]
        exact fun e => H.ot.2.2.2 e.symm
  · u_in hK hF
    have hcell := H.cel hF
    rw [stepG_loadE (ty := 24) (by simp [tog.one]) rfl rfl (by k_ne) rfl rfl hcell q43]
    simp only [goes_go]
    refine ⟨dt_read (.inl H.roC), ?_⟩
    walk_nrm
    clear hcell
    u_in hK hF
    have hcell := H.num hF
    rw [stepG_loadE (ty := 3) (by simp [tog.one]) rfl rfl (by k_ne) rfl rfl hcell q43]
    simp only [goes_go]
    refine ⟨dt_read (.inr (.inl (by simp))), ?_⟩
    walk_nrm
    clear hcell
    u_in hK hF
    have hcell := H.out hF
    rw [stepG_loadE2 (ty := 22) (by simp [two]) rfl rfl (by k_ne) rfl rfl hcell q43]
    simp only [goes_go]
    refine ⟨dt_read (.inl H.roO), ?_⟩
    walk_nrm
    clear hcell
    refine crew.Goes.after (S₁ := fun g w => Goes Try.prog false (RT p [bi]) (DT p [bi]) (AtD p bi ix d (.od)) 100 g w) (RT.refl (p := p) (ps := [bi])) (fun g w h => h) (m := 20) (n := 100) (dmono (D := DC0) (fun w w' es h => dt_of w w' es h) ?_) |>.mono (by omega)
    show Goes Try.prog false (RT p [bi]) DC0 _ _ _ _
    u_call Try.func11 x11 Try.f11 hK hF
    refine Goes.stop fun w₃ h₃ => ?_
    refine getG (mT := 40) H.R (fun d v w hF => ?_) (by omega) d _ (hK hF h₃)
    walk_nrm
    refine dmono (D := DC0) (fun w w' es h => dt_of w w' es h) ?_
    show Goes Try.prog false (RT p [bi]) DC0 _ _ _ _
    have hlt : (ix : Int) < n := by have := H.lt; omega
    have hlt2 := H.lt
    have h0 : (0 : Int) ≤ ix := by omega
    u_op hK hF
    refine Goes.stop fun w1 h1 => ?_
    replace hF := hK hF h1
    clear h1
    rcases d with _ | d
    · trivial
    refine ⟨rfl, rfl, fun w' es s' hn => by (cases hn), fun _ _ e => by (cases e), fun _ e => by (cases e), fun v' e hv hcell hz => ?_⟩
    cases e
    obtain ⟨x, hx⟩ := hcell
    refine ⟨_, stepG_storeE (ty := 3) (ad := oA p ix) (by simp [tog.one]) rfl rfl (by k_ne) rfl (by simp [Act.eval, oA]) rfl hv hx hz q43, rfl, ?_⟩
    replace hF := hK hF (RT.ot _ ix v (fun b hb => ?_) H.ot.2.1 H.ot.2.2.1)
    · refine dmono (D := DC0) (fun w w' es h => dt_of w w' es h) ?_
      walk_nrm
      u_c stepG_region_end hK hF
      u_c stepG_end hK hF
      u_unwB hK hF Try.func44 (nm_done link) Try.f44
      have hA := fun T : Array Value => doneStop (R := RT p [bi]) (D := DC0) (Wg := p.Wg) (C := p.Bd) (val := p.vd) (c := { b43.at ⟨T, []⟩ [] with mode := .returning }) (cs := [bot]) (qt := 2) (rw_of_rt H.roD) (fun w => ⟨rfl, rfl⟩) rfl (quits43 T) _ ⟨H.wl hF, H.bd hF⟩
      simp only [Try.f44, Option.getD_some] at hA
      exact Goes.mono (hA _) (by omega)
    · rcases hb with hb | hb
      · exact fun e => H.ot.1 (e ▸ hb)
      · simp at hb
        rw [hb]
        exact fun e => H.ot.2.2.2 e.symm
  · u_in hK hF
    have hcell := H.cel hF
    rw [stepG_loadE (ty := 24) (by simp [tog.one]) rfl rfl (by k_ne) rfl rfl hcell q43]
    simp only [goes_go]
    refine ⟨dt_read (.inl H.roC), ?_⟩
    walk_nrm
    clear hcell
    u_in hK hF
    have hcell := H.num hF
    rw [stepG_loadE (ty := 3) (by simp [tog.one]) rfl rfl (by k_ne) rfl rfl hcell q43]
    simp only [goes_go]
    refine ⟨dt_read (.inr (.inl (by simp))), ?_⟩
    walk_nrm
    clear hcell
    refine crew.Goes.after (S₁ := fun g w => Goes Try.prog false (RT p [bi]) (DT p [bi]) (AtD p bi ix d (.od)) 100 g w) (RT.refl (p := p) (ps := [bi])) (fun g w h => h) (m := 20) (n := 100) (dmono (D := DC0) (fun w w' es h => dt_of w w' es h) ?_) |>.mono (by omega)
    show Goes Try.prog false (RT p [bi]) DC0 _ _ _ _
    u_call Try.func11 x11 Try.f11 hK hF
    refine Goes.stop fun w₃ h₃ => ?_
    refine getG (mT := 40) H.R (fun d v w hF => ?_) (by omega) d _ (hK hF h₃)
    walk_nrm
    u_in hK hF
    have hcell := H.out hF
    rw [stepG_loadE2 (ty := 22) (by simp [two]) rfl rfl (by k_ne) rfl rfl hcell q43]
    simp only [goes_go]
    refine ⟨dt_read (.inl H.roO), ?_⟩
    walk_nrm
    clear hcell
    refine dmono (D := DC0) (fun w w' es h => dt_of w w' es h) ?_
    show Goes Try.prog false (RT p [bi]) DC0 _ _ _ _
    have hlt : (ix : Int) < n := by have := H.lt; omega
    have hlt2 := H.lt
    have h0 : (0 : Int) ≤ ix := by omega
    u_op hK hF
    refine Goes.stop fun w1 h1 => ?_
    replace hF := hK hF h1
    clear h1
    rcases d with _ | d
    · trivial
    refine ⟨rfl, rfl, fun w' es s' hn => by (cases hn), fun _ _ e => by (cases e), fun _ e => by (cases e), fun v' e hv hcell hz => ?_⟩
    cases e
    obtain ⟨x, hx⟩ := hcell
    refine ⟨_, stepG_storeE (ty := 3) (ad := oA p ix) (by simp [tog.one]) rfl rfl (by k_ne) rfl (by simp [Act.eval, oA]) rfl hv hx hz q43, rfl, ?_⟩
    replace hF := hK hF (RT.ot _ ix v (fun b hb => ?_) H.ot.2.1 H.ot.2.2.1)
    · refine dmono (D := DC0) (fun w w' es h => dt_of w w' es h) ?_
      walk_nrm
      u_c stepG_region_end hK hF
      u_c stepG_end hK hF
      u_unwB hK hF Try.func44 (nm_done link) Try.f44
      have hA := fun T : Array Value => doneStop (R := RT p [bi]) (D := DC0) (Wg := p.Wg) (C := p.Bd) (val := p.vd) (c := { b43.at ⟨T, []⟩ [] with mode := .returning }) (cs := [bot]) (qt := 2) (rw_of_rt H.roD) (fun w => ⟨rfl, rfl⟩) rfl (quits43 T) _ ⟨H.wl hF, H.bd hF⟩
      simp only [Try.f44, Option.getD_some] at hA
      exact Goes.mono (hA _) (by omega)
    · rcases hb with hb | hb
      · exact fun e => H.ot.1 (e ▸ hb)
      · simp at hb
        rw [hb]
        exact fun e => H.ot.2.2.2 e.symm
  · u_in hK hF
    have hcell := H.cel hF
    rw [stepG_loadE (ty := 24) (by simp [tog.one]) rfl rfl (by k_ne) rfl rfl hcell q43]
    simp only [goes_go]
    refine ⟨dt_read (.inl H.roC), ?_⟩
    walk_nrm
    clear hcell
    refine crew.Goes.after (S₁ := fun g w => Goes Try.prog false (RT p [bi]) (DT p [bi]) (AtD p bi ix d (.od)) 100 g w) (RT.refl (p := p) (ps := [bi])) (fun g w h => h) (m := 20) (n := 100) (dmono (D := DC0) (fun w w' es h => dt_of w w' es h) ?_) |>.mono (by omega)
    show Goes Try.prog false (RT p [bi]) DC0 _ _ _ _
    u_call Try.func11 x11 Try.f11 hK hF
    refine Goes.stop fun w₃ h₃ => ?_
    refine getG (mT := 40) H.R (fun d v w hF => ?_) (by omega) d _ (hK hF h₃)
    walk_nrm
    u_in hK hF
    have hcell := H.out hF
    rw [stepG_loadE2 (ty := 22) (by simp [two]) rfl rfl (by k_ne) rfl rfl hcell q43]
    simp only [goes_go]
    refine ⟨dt_read (.inl H.roO), ?_⟩
    walk_nrm
    clear hcell
    u_in hK hF
    have hcell := H.num hF
    rw [stepG_loadE (ty := 3) (by simp [tog.one]) rfl rfl (by k_ne) rfl rfl hcell q43]
    simp only [goes_go]
    refine ⟨dt_read (.inr (.inl (by simp))), ?_⟩
    walk_nrm
    clear hcell
    refine dmono (D := DC0) (fun w w' es h => dt_of w w' es h) ?_
    show Goes Try.prog false (RT p [bi]) DC0 _ _ _ _
    have hlt : (ix : Int) < n := by have := H.lt; omega
    have hlt2 := H.lt
    have h0 : (0 : Int) ≤ ix := by omega
    u_op hK hF
    refine Goes.stop fun w1 h1 => ?_
    replace hF := hK hF h1
    clear h1
    rcases d with _ | d
    · trivial
    refine ⟨rfl, rfl, fun w' es s' hn => by (cases hn), fun _ _ e => by (cases e), fun _ e => by (cases e), fun v' e hv hcell hz => ?_⟩
    cases e
    obtain ⟨x, hx⟩ := hcell
    refine ⟨_, stepG_storeE (ty := 3) (ad := oA p ix) (by simp [tog.one]) rfl rfl (by k_ne) rfl (by simp [Act.eval, oA]) rfl hv hx hz q43, rfl, ?_⟩
    replace hF := hK hF (RT.ot _ ix v (fun b hb => ?_) H.ot.2.1 H.ot.2.2.1)
    · refine dmono (D := DC0) (fun w w' es h => dt_of w w' es h) ?_
      walk_nrm
      u_c stepG_region_end hK hF
      u_c stepG_end hK hF
      u_unwB hK hF Try.func44 (nm_done link) Try.f44
      have hA := fun T : Array Value => doneStop (R := RT p [bi]) (D := DC0) (Wg := p.Wg) (C := p.Bd) (val := p.vd) (c := { b43.at ⟨T, []⟩ [] with mode := .returning }) (cs := [bot]) (qt := 2) (rw_of_rt H.roD) (fun w => ⟨rfl, rfl⟩) rfl (quits43 T) _ ⟨H.wl hF, H.bd hF⟩
      simp only [Try.f44, Option.getD_some] at hA
      exact Goes.mono (hA _) (by omega)
    · rcases hb with hb | hb
      · exact fun e => H.ot.1 (e ▸ hb)
      · simp at hb
        rw [hb]
        exact fun e => H.ot.2.2.2 e.symm
  · u_in hK hF
    have hcell := H.cel hF
    rw [stepG_loadE (ty := 24) (by simp [tog.one]) rfl rfl (by k_ne) rfl rfl hcell q43]
    simp only [goes_go]
    refine ⟨dt_read (.inl H.roC), ?_⟩
    walk_nrm
    clear hcell
    refine crew.Goes.after (S₁ := fun g w => Goes Try.prog false (RT p [bi]) (DT p [bi]) (AtD p bi ix d (.od)) 100 g w) (RT.refl (p := p) (ps := [bi])) (fun g w h => h) (m := 20) (n := 100) (dmono (D := DC0) (fun w w' es h => dt_of w w' es h) ?_) |>.mono (by omega)
    show Goes Try.prog false (RT p [bi]) DC0 _ _ _ _
    u_call Try.func11 x11 Try.f11 hK hF
    refine Goes.stop fun w₃ h₃ => ?_
    refine getG (mT := 40) H.R (fun d v w hF => ?_) (by omega) d _ (hK hF h₃)
    walk_nrm
    u_in hK hF
    have hcell := H.num hF
    rw [stepG_loadE (ty := 3) (by simp [tog.one]) rfl rfl (by k_ne) rfl rfl hcell q43]
    simp only [goes_go]
    refine ⟨dt_read (.inr (.inl (by simp))), ?_⟩
    walk_nrm
    clear hcell
    u_in hK hF
    have hcell := H.out hF
    rw [stepG_loadE2 (ty := 22) (by simp [two]) rfl rfl (by k_ne) rfl rfl hcell q43]
    simp only [goes_go]
    refine ⟨dt_read (.inl H.roO), ?_⟩
    walk_nrm
    clear hcell
    refine dmono (D := DC0) (fun w w' es h => dt_of w w' es h) ?_
    show Goes Try.prog false (RT p [bi]) DC0 _ _ _ _
    have hlt : (ix : Int) < n := by have := H.lt; omega
    have hlt2 := H.lt
    have h0 : (0 : Int) ≤ ix := by omega
    u_op hK hF
    refine Goes.stop fun w1 h1 => ?_
    replace hF := hK hF h1
    clear h1
    rcases d with _ | d
    · trivial
    refine ⟨rfl, rfl, fun w' es s' hn => by (cases hn), fun _ _ e => by (cases e), fun _ e => by (cases e), fun v' e hv hcell hz => ?_⟩
    cases e
    obtain ⟨x, hx⟩ := hcell
    refine ⟨_, stepG_storeE (ty := 3) (ad := oA p ix) (by simp [tog.one]) rfl rfl (by k_ne) rfl (by simp [Act.eval, oA]) rfl hv hx hz q43, rfl, ?_⟩
    replace hF := hK hF (RT.ot _ ix v (fun b hb => ?_) H.ot.2.1 H.ot.2.2.1)
    · refine dmono (D := DC0) (fun w w' es h => dt_of w w' es h) ?_
      walk_nrm
      u_c stepG_region_end hK hF
      u_c stepG_end hK hF
      u_unwB hK hF Try.func44 (nm_done link) Try.f44
      have hA := fun T : Array Value => doneStop (R := RT p [bi]) (D := DC0) (Wg := p.Wg) (C := p.Bd) (val := p.vd) (c := { b43.at ⟨T, []⟩ [] with mode := .returning }) (cs := [bot]) (qt := 2) (rw_of_rt H.roD) (fun w => ⟨rfl, rfl⟩) rfl (quits43 T) _ ⟨H.wl hF, H.bd hF⟩
      simp only [Try.f44, Option.getD_some] at hA
      exact Goes.mono (hA _) (by omega)
    · rcases hb with hb | hb
      · exact fun e => H.ot.1 (e ▸ hb)
      · simp at hb
        rw [hb]
        exact fun e => H.ot.2.2.2 e.symm
end
end Go.Proofs.Ytdkbkocklnnmdaa.itog
