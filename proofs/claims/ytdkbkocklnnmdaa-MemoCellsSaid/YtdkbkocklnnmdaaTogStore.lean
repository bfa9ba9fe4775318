/-
  One of many: Bool.Store(true) as a call and as a deferred call, each to its stop; run's deferred closure where nothing has panicked. Conditions: what is held of the world outlives the others' doing.
-/
import Derived.Test.YtdkbkocklnnmdaaTogOps
import Derived.Test.YtdkbkocklnnmdaaFreeCatch
import Derived.Test.YtdkbkocklnnmdaaFreeGet
set_option linter.unusedSimpArgs false
set_option linter.unusedVariables false
namespace Go.Proofs.Ytdkbkocklnnmdaa.tog
open Go Go.Conc Go.RowKit Go.ConcR.Gen Go.ConcN.Gen Go.Proofs.Ytdkbkocklnnmdaa.wg Go.Proofs.Ytdkbkocklnnmdaa.kid Go.Proofs.Ytdkbkocklnnmdaa.lock Go.Proofs.Ytdkbkocklnnmdaa.free
open Go.ConcR (KK WgAt stA smA rd wr mk DC0)
open Go.ConcN (WgLive RW AtR0)
open Go.Conc.Lib

theorem dt_read {p : Tp} {ps : List Nat} {w : World} {a : Addr} (h : p.Ro a.block ∨ a.block ∈ ps ∨ a = cA p 3) : DT p ps w w #[⟨.cell a, false, false⟩] := ⟨⟨w.drawn, rfl⟩, fun e he => by simp at he; subst he; exact ⟨a, rfl, h⟩⟩
theorem dt_draw {p : Tp} {ps : List Nat} (w : World) : DT p ps w { w with drawn := w.drawn + 1 } #[] := ⟨⟨w.drawn + 1, rfl⟩, by simp⟩
theorem RT.drawn {p : Tp} {ps : List Nat} (w : World) : RT p ps w { w with drawn := w.drawn + 1 } := ⟨fun _ _ => rfl, id, id⟩
theorem cs3 {p : Tp} {c : Cs} {w : World} (h : AtCs p c w) : w.cell? (cA p 3) = some p.fC := by unfold AtCs cblk at h; simp [World.cell?, cA, h]
theorem cs4 {p : Tp} {c : Cs} {w : World} (h : AtCs p c w) : w.cell? (cA p 4) = some c.v := by unfold AtCs cblk at h; simp [World.cell?, cA, h]
theorem cs5 {p : Tp} {c : Cs} {w : World} (h : AtCs p c w) : w.cell? (cA p 5) = some (.int .u32 c.cd) := by unfold AtCs cblk at h; simp [World.cell?, cA, h]
theorem cs6 {p : Tp} {c : Cs} {w : World} (h : AtCs p c w) : w.cell? (cA p 6) = some (.int .i64 c.r) := by unfold AtCs cblk at h; simp [World.cell?, cA, h]
theorem set0 {p : Tp} {c : Cs} {w : World} (h : AtCs p c w) (d : Int) : AtCs p { c with d := d } (w.setCell (cA p 0) (.int .u32 d)) := by
  unfold AtCs cblk at h ⊢
  simp [World.setCell, cA, Array.getElem?_modify, h]
theorem set4 {p : Tp} {c : Cs} {w : World} (h : AtCs p c w) (v : Value) : AtCs p { c with v := v } (w.setCell (cA p 4) v) := by
  unfold AtCs cblk at h ⊢
  simp [World.setCell, cA, Array.getElem?_modify, h]
theorem set5 {p : Tp} {c : Cs} {w : World} (h : AtCs p c w) (d : Int) : AtCs p { c with cd := d } (w.setCell (cA p 5) (.int .u32 d)) := by
  unfold AtCs cblk at h ⊢
  simp [World.setCell, cA, Array.getElem?_modify, h]
theorem set6 {p : Tp} {c : Cs} {w : World} (h : AtCs p c w) (d : Int) : AtCs p { c with r := d } (w.setCell (cA p 6) (.int .i64 d)) := by
  unfold AtCs cblk at h ⊢
  simp [World.setCell, cA, Array.getElem?_modify, h]
noncomputable def body57 : Code := Try.f57.body.getD .skip

section
variable {p : Tp} {bi ba ix : Nat} {K K' : World → Prop} {b₀ c₀ : Frame} {a₀ : Act} {ops₀ : Array Oper} {i₀ : Nat} {rest₀ : List Nat} {k₀ : List Item} {cs : List Frame} {mT : Nat}

set_option maxRecDepth 100000 in
set_option maxHeartbeats 64000000 in
theorem storeCs (hK : ∀ {w w₁ : World}, K w → RT p [bi, ba] w w₁ → K w₁) (hC : ∀ {w : World}, K w → CLive p w) (hO : p.Ok) (hb : ∀ b ∈ [bi, ba], b ≠ p.C) 
    (hT : ∀ d w, K w → Goes Try.prog false (RT p [bi, ba]) (DT p [bi, ba]) (AtD p bi ix d (.os ba)) mT (G (b₀.at (a₀.put ((ops₀[i₀]?).bind (·.dst)) (.tuple #[])) (.inRegion ops₀ rest₀ :: k₀)) cs) w) (hm : mT ≤ 300) :
    ∀ d w, K w → Goes Try.prog false (RT p [bi, ba]) (DT p [bi, ba]) (AtD p bi ix d (.cs ba)) 60
      (G ((base 57).at ⟨#[.pointer (some ⟨p.C, 5, none⟩), .bool true, undef, undef, undef, undef, undef, undef, undef, undef], []⟩ [.code body57]) (b₀.at a₀ (.inRegion ops₀ (i₀ :: rest₀) :: k₀) :: cs)) w := by
  intro d w hF
  have ho := fun t => schedule_orders ops57 t
  simp only [show ops57.size = 6 from by kernel_rfl, ord57] at ho
  simp only [ops57, body57, Try.f57, Option.getD_some] at ho ⊢
  have HO := Lib.hid ho
  clear ho
  u_in hK hF
  rw [stepG_region_draw]
  simp only [goes_go]
  refine ⟨dt_draw _, ?_⟩
  replace hF := hK hF (RT.drawn _)
  generalize hs : Region.schedule _ _ _ = sched
  obtain ⟨t, ht⟩ := Exists.intro (p := fun t => Region.schedule _ _ t = sched) _ hs
  have ho := HO.out t
  rw [ht] at ho
  clear ht hs HO
  simp only [List.mem_cons, List.not_mem_nil, or_false] at ho
  rcases ho with rfl | rfl | rfl | rfl | rfl | rfl | rfl | rfl | rfl | rfl
  · refine dmono (D := DC0) (fun w w' es h => dt_of w w' es h) ?_
    u_op hK hF
    u_op hK hF
    u_op hK hF
    u_op hK hF
    u_call Try.func87 x87 Try.f87 hK hF
    u_c stepG_seq hK hF
    u_reg hK hF
    u_op hK hF
    u_c stepG_region_end hK hF
    u_c stepG_seq hK hF
    u_c stepG_seq hK hF
    u_reg hK hF
    u_op hK hF
    u_c stepG_region_end hK hF
    u_cond true hK hF
    u_c stepG_seq hK hF
    u_reg hK hF
    u_op hK hF
    u_c stepG_region_end hK hF
    u_c stepG_ret' hK hF
    u_leave1 Try.func87 hK hF
    refine Goes.stop fun w1 h1 => ?_
    replace hF := hK hF h1
    clear h1
    rcases d with _ | d
    · trivial
    refine ⟨rfl, rfl, fun w' es s' hn => ?_, fun _ _ e => by (cases e), fun _ e => by (cases e), fun _ e => by (cases e)⟩
    cases hn with
    | cs c _ hc =>
      have hs1 := set5 hc 1
      refine ⟨_, stepG_store_atomic (k := .u32) (v := 1) rfl rfl (by k_ne) rfl Try.func86 x86.1 x86.2.1 x86.2.2 e86 rfl rfl (cs5 hc) (csz hc 5), rfl, ?_⟩
      replace hF := hK hF (RT.own hO hb hs1)
      clear hs1 hc
      refine crew.Goes.after (S₁ := fun g w => Goes Try.prog false (RT p [bi, ba]) (DT p [bi, ba]) (AtD p bi ix d (.os ba)) mT g w) (RT.refl (p := p) (ps := [bi, ba])) (fun g w h => h) (m := 40) (n := mT) (dmono (D := DC0) (fun w w' es h => dt_of w w' es h) ?_) |>.mono (by omega)
      walk_nrm
      show Goes Try.prog false (RT p [bi, ba]) DC0 _ _ _ _
      u_c stepG_region_end hK hF
      u_c stepG_end hK hF
      u_leave0 Try.func57 hK hF
      refine Goes.stop fun w₃ h₃ => ?_
      exact hT d _ (hK hF h₃)
  · refine dmono (D := DC0) (fun w w' es h => dt_of w w' es h) ?_
    u_op hK hF
    u_op hK hF
    u_op hK hF
    u_op hK hF
    u_call Try.func87 x87 Try.f87 hK hF
    u_c stepG_seq hK hF
    u_reg hK hF
    u_op hK hF
    u_c stepG_region_end hK hF
    u_c stepG_seq hK hF
    u_c stepG_seq hK hF
    u_reg hK hF
    u_op hK hF
    u_c stepG_region_end hK hF
    u_cond true hK hF
    u_c stepG_seq hK hF
    u_reg hK hF
    u_op hK hF
    u_c stepG_region_end hK hF
    u_c stepG_ret' hK hF
    u_leave1 Try.func87 hK hF
    refine Goes.stop fun w1 h1 => ?_
    replace hF := hK hF h1
    clear h1
    rcases d with _ | d
    · trivial
    refine ⟨rfl, rfl, fun w' es s' hn => ?_, fun _ _ e => by (cases e), fun _ e => by (cases e), fun _ e => by (cases e)⟩
    cases hn with
    | cs c _ hc =>
      have hs1 := set5 hc 1
      refine ⟨_, stepG_store_atomic (k := .u32) (v := 1) rfl rfl (by k_ne) rfl Try.func86 x86.1 x86.2.1 x86.2.2 e86 rfl rfl (cs5 hc) (csz hc 5), rfl, ?_⟩
      replace hF := hK hF (RT.own hO hb hs1)
      clear hs1 hc
      refine crew.Goes.after (S₁ := fun g w => Goes Try.prog false (RT p [bi, ba]) (DT p [bi, ba]) (AtD p bi ix d (.os ba)) mT g w) (RT.refl (p := p) (ps := [bi, ba])) (fun g w h => h) (m := 40) (n := mT) (dmono (D := DC0) (fun w w' es h => dt_of w w' es h) ?_) |>.mono (by omega)
      walk_nrm
      show Goes Try.prog false (RT p [bi, ba]) DC0 _ _ _ _
      u_c stepG_region_end hK hF
      u_c stepG_end hK hF
      u_leave0 Try.func57 hK hF
      refine Goes.stop fun w₃ h₃ => ?_
      exact hT d _ (hK hF h₃)
  · refine dmono (D := DC0) (fun w w' es h => dt_of w w' es h) ?_
    u_op hK hF
    u_op hK hF
    u_op hK hF
    u_call Try.func87 x87 Try.f87 hK hF
    u_c stepG_seq hK hF
    u_reg hK hF
    u_op hK hF
    u_c stepG_region_end hK hF
    u_c stepG_seq hK hF
    u_c stepG_seq hK hF
    u_reg hK hF
    u_op hK hF
    u_c stepG_region_end hK hF
    u_cond true hK hF
    u_c stepG_seq hK hF
    u_reg hK hF
    u_op hK hF
    u_c stepG_region_end hK hF
    u_c stepG_ret' hK hF
    u_leave1 Try.func87 hK hF
    u_op hK hF
    refine Goes.stop fun w1 h1 => ?_
    replace hF := hK hF h1
    clear h1
    rcases d with _ | d
    · trivial
    refine ⟨rfl, rfl, fun w' es s' hn => ?_, fun _ _ e => by (cases e), fun _ e => by (cases e), fun _ e => by (cases e)⟩
    cases hn with
    | cs c _ hc =>
      have hs1 := set5 hc 1
      refine ⟨_, stepG_store_atomic (k := .u32) (v := 1) rfl rfl (by k_ne) rfl Try.func86 x86.1 x86.2.1 x86.2.2 e86 rfl rfl (cs5 hc) (csz hc 5), rfl, ?_⟩
      replace hF := hK hF (RT.own hO hb hs1)
      clear hs1 hc
      refine crew.Goes.after (S₁ := fun g w => Goes Try.prog false (RT p [bi, ba]) (DT p [bi, ba]) (AtD p bi ix d (.os ba)) mT g w) (RT.refl (p := p) (ps := [bi, ba])) (fun g w h => h) (m := 40) (n := mT) (dmono (D := DC0) (fun w w' es h => dt_of w w' es h) ?_) |>.mono (by omega)
      walk_nrm
      show Goes Try.prog false (RT p [bi, ba]) DC0 _ _ _ _
      u_c stepG_region_end hK hF
      u_c stepG_end hK hF
      u_leave0 Try.func57 hK hF
      refine Goes.stop fun w₃ h₃ => ?_
      exact hT d _ (hK hF h₃)
  · refine dmono (D := DC0) (fun w w' es h => dt_of w w' es h) ?_
    u_op hK hF
    u_op hK hF
    u_op hK hF
    u_op hK hF
    u_call Try.func87 x87 Try.f87 hK hF
    u_c stepG_seq hK hF
    u_reg hK hF
    u_op hK hF
    u_c stepG_region_end hK hF
    u_c stepG_seq hK hF
    u_c stepG_seq hK hF
    u_reg hK hF
    u_op hK hF
    u_c stepG_region_end hK hF
    u_cond true hK hF
    u_c stepG_seq hK hF
    u_reg hK hF
    u_op hK hF
    u_c stepG_region_end hK hF
    u_c stepG_ret' hK hF
    u_leave1 Try.func87 hK hF
    refine Goes.stop fun w1 h1 => ?_
    replace hF := hK hF h1
    clear h1
    rcases d with _ | d
    · trivial
    refine ⟨rfl, rfl, fun w' es s' hn => ?_, fun _ _ e => by (cases e), fun _ e => by (cases e), fun _ e => by (cases e)⟩
    cases hn with
    | cs c _ hc =>
      have hs1 := set5 hc 1
      refine ⟨_, stepG_store_atomic (k := .u32) (v := 1) rfl rfl (by k_ne) rfl Try.func86 x86.1 x86.2.1 x86.2.2 e86 rfl rfl (cs5 hc) (csz hc 5), rfl, ?_⟩
      replace hF := hK hF (RT.own hO hb hs1)
      clear hs1 hc
      refine crew.Goes.after (S₁ := fun g w => Goes Try.prog false (RT p [bi, ba]) (DT p [bi, ba]) (AtD p bi ix d (.os ba)) mT g w) (RT.refl (p := p) (ps := [bi, ba])) (fun g w h => h) (m := 40) (n := mT) (dmono (D := DC0) (fun w w' es h => dt_of w w' es h) ?_) |>.mono (by omega)
      walk_nrm
      show Goes Try.prog false (RT p [bi, ba]) DC0 _ _ _ _
      u_c stepG_region_end hK hF
      u_c stepG_end hK hF
      u_leave0 Try.func57 hK hF
      refine Goes.stop fun w₃ h₃ => ?_
      exact hT d _ (hK hF h₃)
  · refine dmono (D := DC0) (fun w w' es h => dt_of w w' es h) ?_
    u_op hK hF
    u_op hK hF
    u_op hK hF
    u_call Try.func87 x87 Try.f87 hK hF
    u_c stepG_seq hK hF
    u_reg hK hF
    u_op hK hF
    u_c stepG_region_end hK hF
    u_c stepG_seq hK hF
    u_c stepG_seq hK hF
    u_reg hK hF
    u_op hK hF
    u_c stepG_region_end hK hF
    u_cond true hK hF
    u_c stepG_seq hK hF
    u_reg hK hF
    u_op hK hF
    u_c stepG_region_end hK hF
    u_c stepG_ret' hK hF
    u_leave1 Try.func87 hK hF
    u_op hK hF
    refine Goes.stop fun w1 h1 => ?_
    replace hF := hK hF h1
    clear h1
    rcases d with _ | d
    · trivial
    refine ⟨rfl, rfl, fun w' es s' hn => ?_, fun _ _ e => by (cases e), fun _ e => by (cases e), fun _ e => by (cases e)⟩
    cases hn with
    | cs c _ hc =>
      have hs1 := set5 hc 1
      refine ⟨_, stepG_store_atomic (k := .u32) (v := 1) rfl rfl (by k_ne) rfl Try.func86 x86.1 x86.2.1 x86.2.2 e86 rfl rfl (cs5 hc) (csz hc 5), rfl, ?_⟩
      replace hF := hK hF (RT.own hO hb hs1)
      clear hs1 hc
      refine crew.Goes.after (S₁ := fun g w => Goes Try.prog false (RT p [bi, ba]) (DT p [bi, ba]) (AtD p bi ix d (.os ba)) mT g w) (RT.refl (p := p) (ps := [bi, ba])) (fun g w h => h) (m := 40) (n := mT) (dmono (D := DC0) (fun w w' es h => dt_of w w' es h) ?_) |>.mono (by omega)
      walk_nrm
      show Goes Try.prog false (RT p [bi, ba]) DC0 _ _ _ _
      u_c stepG_region_end hK hF
      u_c stepG_end hK hF
      u_leave0 Try.func57 hK hF
      refine Goes.stop fun w₃ h₃ => ?_
      exact hT d _ (hK hF h₃)
  · refine dmono (D := DC0) (fun w w' es h => dt_of w w' es h) ?_
    u_op hK hF
    u_op hK hF
    u_call Try.func87 x87 Try.f87 hK hF
    u_c stepG_seq hK hF
    u_reg hK hF
    u_op hK hF
    u_c stepG_region_end hK hF
    u_c stepG_seq hK hF
    u_c stepG_seq hK hF
    u_reg hK hF
    u_op hK hF
    u_c stepG_region_end hK hF
    u_cond true hK hF
    u_c stepG_seq hK hF
    u_reg hK hF
    u_op hK hF
    u_c stepG_region_end hK hF
    u_c stepG_ret' hK hF
    u_leave1 Try.func87 hK hF
    u_op hK hF
    u_op hK hF
    refine Goes.stop fun w1 h1 => ?_
    replace hF := hK hF h1
    clear h1
    rcases d with _ | d
    · trivial
    refine ⟨rfl, rfl, fun w' es s' hn => ?_, fun _ _ e => by (cases e), fun _ e => by (cases e), fun _ e => by (cases e)⟩
    cases hn with
    | cs c _ hc =>
      have hs1 := set5 hc 1
      refine ⟨_, stepG_store_atomic (k := .u32) (v := 1) rfl rfl (by k_ne) rfl Try.func86 x86.1 x86.2.1 x86.2.2 e86 rfl rfl (cs5 hc) (csz hc 5), rfl, ?_⟩
      replace hF := hK hF (RT.own hO hb hs1)
      clear hs1 hc
      refine crew.Goes.after (S₁ := fun g w => Goes Try.prog false (RT p [bi, ba]) (DT p [bi, ba]) (AtD p bi ix d (.os ba)) mT g w) (RT.refl (p := p) (ps := [bi, ba])) (fun g w h => h) (m := 40) (n := mT) (dmono (D := DC0) (fun w w' es h => dt_of w w' es h) ?_) |>.mono (by omega)
      walk_nrm
      show Goes Try.prog false (RT p [bi, ba]) DC0 _ _ _ _
      u_c stepG_region_end hK hF
      u_c stepG_end hK hF
      u_leave0 Try.func57 hK hF
      refine Goes.stop fun w₃ h₃ => ?_
      exact hT d _ (hK hF h₃)
  · refine dmono (D := DC0) (fun w w' es h => dt_of w w' es h) ?_
    u_op hK hF
    u_op hK hF
    u_op hK hF
    u_op hK hF
    u_call Try.func87 x87 Try.f87 hK hF
    u_c stepG_seq hK hF
    u_reg hK hF
    u_op hK hF
    u_c stepG_region_end hK hF
    u_c stepG_seq hK hF
    u_c stepG_seq hK hF
    u_reg hK hF
    u_op hK hF
    u_c stepG_region_end hK hF
    u_cond true hK hF
    u_c stepG_seq hK hF
    u_reg hK hF
    u_op hK hF
    u_c stepG_region_end hK hF
    u_c stepG_ret' hK hF
    u_leave1 Try.func87 hK hF
    refine Goes.stop fun w1 h1 => ?_
    replace hF := hK hF h1
    clear h1
    rcases d with _ | d
    · trivial
    refine ⟨rfl, rfl, fun w' es s' hn => ?_, fun _ _ e => by (cases e), fun _ e => by (cases e), fun _ e => by (cases e)⟩
    cases hn with
    | cs c _ hc =>
      have hs1 := set5 hc 1
      refine ⟨_, stepG_store_atomic (k := .u32) (v := 1) rfl rfl (by k_ne) rfl Try.func86 x86.1 x86.2.1 x86.2.2 e86 rfl rfl (cs5 hc) (csz hc 5), rfl, ?_⟩
      replace hF := hK hF (RT.own hO hb hs1)
      clear hs1 hc
      refine crew.Goes.after (S₁ := fun g w => Goes Try.prog false (RT p [bi, ba]) (DT p [bi, ba]) (AtD p bi ix d (.os ba)) mT g w) (RT.refl (p := p) (ps := [bi, ba])) (fun g w h => h) (m := 40) (n := mT) (dmono (D := DC0) (fun w w' es h => dt_of w w' es h) ?_) |>.mono (by omega)
      walk_nrm
      show Goes Try.prog false (RT p [bi, ba]) DC0 _ _ _ _
      u_c stepG_region_end hK hF
      u_c stepG_end hK hF
      u_leave0 Try.func57 hK hF
      refine Goes.stop fun w₃ h₃ => ?_
      exact hT d _ (hK hF h₃)
  · refine dmono (D := DC0) (fun w w' es h => dt_of w w' es h) ?_
    u_op hK hF
    u_op hK hF
    u_op hK hF
    u_call Try.func87 x87 Try.f87 hK hF
    u_c stepG_seq hK hF
    u_reg hK hF
    u_op hK hF
    u_c stepG_region_end hK hF
    u_c stepG_seq hK hF
    u_c stepG_seq hK hF
    u_reg hK hF
    u_op hK hF
    u_c stepG_region_end hK hF
    u_cond true hK hF
    u_c stepG_seq hK hF
    u_reg hK hF
    u_op hK hF
    u_c stepG_region_end hK hF
    u_c stepG_ret' hK hF
    u_leave1 Try.func87 hK hF
    u_op hK hF
    refine Goes.stop fun w1 h1 => ?_
    replace hF := hK hF h1
    clear h1
    rcases d with _ | d
    · trivial
    refine ⟨rfl, rfl, fun w' es s' hn => ?_, fun _ _ e => by (cases e), fun _ e => by (cases e), fun _ e => by (cases e)⟩
    cases hn with
    | cs c _ hc =>
      have hs1 := set5 hc 1
      refine ⟨_, stepG_store_atomic (k := .u32) (v := 1) rfl rfl (by k_ne) rfl Try.func86 x86.1 x86.2.1 x86.2.2 e86 rfl rfl (cs5 hc) (csz hc 5), rfl, ?_⟩
      replace hF := hK hF (RT.own hO hb hs1)
      clear hs1 hc
      refine crew.Goes.after (S₁ := fun g w => Goes Try.prog false (RT p [bi, ba]) (DT p [bi, ba]) (AtD p bi ix d (.os ba)) mT g w) (RT.refl (p := p) (ps := [bi, ba])) (fun g w h => h) (m := 40) (n := mT) (dmono (D := DC0) (fun w w' es h => dt_of w w' es h) ?_) |>.mono (by omega)
      walk_nrm
      show Goes Try.prog false (RT p [bi, ba]) DC0 _ _ _ _
      u_c stepG_region_end hK hF
      u_c stepG_end hK hF
      u_leave0 Try.func57 hK hF
      refine Goes.stop fun w₃ h₃ => ?_
      exact hT d _ (hK hF h₃)
  · refine dmono (D := DC0) (fun w w' es h => dt_of w w' es h) ?_
    u_op hK hF
    u_op hK hF
    u_call Try.func87 x87 Try.f87 hK hF
    u_c stepG_seq hK hF
    u_reg hK hF
    u_op hK hF
    u_c stepG_region_end hK hF
    u_c stepG_seq hK hF
    u_c stepG_seq hK hF
    u_reg hK hF
    u_op hK hF
    u_c stepG_region_end hK hF
    u_cond true hK hF
    u_c stepG_seq hK hF
    u_reg hK hF
    u_op hK hF
    u_c stepG_region_end hK hF
    u_c stepG_ret' hK hF
    u_leave1 Try.func87 hK hF
    u_op hK hF
    u_op hK hF
    refine Goes.stop fun w1 h1 => ?_
    replace hF := hK hF h1
    clear h1
    rcases d with _ | d
    · trivial
    refine ⟨rfl, rfl, fun w' es s' hn => ?_, fun _ _ e => by (cases e), fun _ e => by (cases e), fun _ e => by (cases e)⟩
    cases hn with
    | cs c _ hc =>
      have hs1 := set5 hc 1
      refine ⟨_, stepG_store_atomic (k := .u32) (v := 1) rfl rfl (by k_ne) rfl Try.func86 x86.1 x86.2.1 x86.2.2 e86 rfl rfl (cs5 hc) (csz hc 5), rfl, ?_⟩
      replace hF := hK hF (RT.own hO hb hs1)
      clear hs1 hc
      refine crew.Goes.after (S₁ := fun g w => Goes Try.prog false (RT p [bi, ba]) (DT p [bi, ba]) (AtD p bi ix d (.os ba)) mT g w) (RT.refl (p := p) (ps := [bi, ba])) (fun g w h => h) (m := 40) (n := mT) (dmono (D := DC0) (fun w w' es h => dt_of w w' es h) ?_) |>.mono (by omega)
      walk_nrm
      show Goes Try.prog false (RT p [bi, ba]) DC0 _ _ _ _
      u_c stepG_region_end hK hF
      u_c stepG_end hK hF
      u_leave0 Try.func57 hK hF
      refine Goes.stop fun w₃ h₃ => ?_
      exact hT d _ (hK hF h₃)
  · refine dmono (D := DC0) (fun w w' es h => dt_of w w' es h) ?_
    u_op hK hF
    u_call Try.func87 x87 Try.f87 hK hF
    u_c stepG_seq hK hF
    u_reg hK hF
    u_op hK hF
    u_c stepG_region_end hK hF
    u_c stepG_seq hK hF
    u_c stepG_seq hK hF
    u_reg hK hF
    u_op hK hF
    u_c stepG_region_end hK hF
    u_cond true hK hF
    u_c stepG_seq hK hF
    u_reg hK hF
    u_op hK hF
    u_c stepG_region_end hK hF
    u_c stepG_ret' hK hF
    u_leave1 Try.func87 hK hF
    u_op hK hF
    u_op hK hF
    u_op hK hF
    refine Goes.stop fun w1 h1 => ?_
    replace hF := hK hF h1
    clear h1
    rcases d with _ | d
    · trivial
    refine ⟨rfl, rfl, fun w' es s' hn => ?_, fun _ _ e => by (cases e), fun _ e => by (cases e), fun _ e => by (cases e)⟩
    cases hn with
    | cs c _ hc =>
      have hs1 := set5 hc 1
      refine ⟨_, stepG_store_atomic (k := .u32) (v := 1) rfl rfl (by k_ne) rfl Try.func86 x86.1 x86.2.1 x86.2.2 e86 rfl rfl (cs5 hc) (csz hc 5), rfl, ?_⟩
      replace hF := hK hF (RT.own hO hb hs1)
      clear hs1 hc
      refine crew.Goes.after (S₁ := fun g w => Goes Try.prog false (RT p [bi, ba]) (DT p [bi, ba]) (AtD p bi ix d (.os ba)) mT g w) (RT.refl (p := p) (ps := [bi, ba])) (fun g w h => h) (m := 40) (n := mT) (dmono (D := DC0) (fun w w' es h => dt_of w w' es h) ?_) |>.mono (by omega)
      walk_nrm
      show Goes Try.prog false (RT p [bi, ba]) DC0 _ _ _ _
      u_c stepG_region_end hK hF
      u_c stepG_end hK hF
      u_leave0 Try.func57 hK hF
      refine Goes.stop fun w₃ h₃ => ?_
      exact hT d _ (hK hF h₃)

set_option maxRecDepth 100000 in
set_option maxHeartbeats 64000000 in
theorem storeOs (hcm : c₀.mode = .returning) (hK : ∀ {w w₁ : World}, K w → RT p [bi, ba] w w₁ → K w₁) (hC : ∀ {w : World}, K w → CLive p w) (hO : p.Ok) (hb : ∀ b ∈ [bi, ba], b ≠ p.C) (hto : ∀ {w : World}, K w → K' w) (hKw : ∀ {w w₁ : World}, K' w → RT p [bi] w w₁ → K' w₁) 
    (hT : ∀ d w, K' w → Goes Try.prog false (RT p [bi]) (DT p [bi]) (AtD p bi ix d (.lk .ur)) mT (G c₀ cs) w) (hm : mT ≤ 300) :
    ∀ d w, K w → Goes Try.prog false (RT p [bi, ba]) (DT p [bi, ba]) (AtD p bi ix d (.os ba)) 60
      (G ((baseD 57).at ⟨#[.pointer (some ⟨p.C, 0, none⟩), .bool true, undef, undef, undef, undef, undef, undef, undef, undef], []⟩ [.code body57]) (c₀ :: cs)) w := by
  intro d w hF
  have ho := fun t => schedule_orders ops57 t
  simp only [show ops57.size = 6 from by kernel_rfl, ord57] at ho
  simp only [ops57, body57, Try.f57, Option.getD_some] at ho ⊢
  have HO := Lib.hid ho
  clear ho
  u_in hK hF
  rw [stepG_region_draw]
  simp only [goes_go]
  refine ⟨dt_draw _, ?_⟩
  replace hF := hK hF (RT.drawn _)
  generalize hs : Region.schedule _ _ _ = sched
  obtain ⟨t, ht⟩ := Exists.intro (p := fun t => Region.schedule _ _ t = sched) _ hs
  have ho := HO.out t
  rw [ht] at ho
  clear ht hs HO
  simp only [List.mem_cons, List.not_mem_nil, or_false] at ho
  rcases ho with rfl | rfl | rfl | rfl | rfl | rfl | rfl | rfl | rfl | rfl
  · refine dmono (D := DC0) (fun w w' es h => dt_of w w' es h) ?_
    u_op hK hF
    u_op hK hF
    u_op hK hF
    u_op hK hF
    u_call Try.func87 x87 Try.f87 hK hF
    u_c stepG_seq hK hF
    u_reg hK hF
    u_op hK hF
    u_c stepG_region_end hK hF
    u_c stepG_seq hK hF
    u_c stepG_seq hK hF
    u_reg hK hF
    u_op hK hF
    u_c stepG_region_end hK hF
    u_cond true hK hF
    u_c stepG_seq hK hF
    u_reg hK hF
    u_op hK hF
    u_c stepG_region_end hK hF
    u_c stepG_ret' hK hF
    u_leave1 Try.func87 hK hF
    refine Goes.stop fun w1 h1 => ?_
    replace hF := hK hF h1
    clear h1
    rcases d with _ | d
    · trivial
    refine ⟨rfl, rfl, fun w' es s' hn => ?_, fun _ _ e => by (cases e), fun _ e => by (cases e), fun _ e => by (cases e)⟩
    cases hn with
    | os c _ hc =>
      have hs1 := set0 hc 1
      refine ⟨_, stepG_store_atomic (k := .u32) (v := 1) rfl rfl (by k_ne) rfl Try.func86 x86.1 x86.2.1 x86.2.2 e86 rfl rfl (cs0 hc) (csz hc 0), rfl, ?_⟩
      replace hF := hK hF (RT.own hO hb hs1)
      clear hs1 hc
      replace hF := hto hF
      refine crew.Goes.after (S₁ := fun g w => Goes Try.prog false (RT p [bi]) (DT p [bi]) (AtD p bi ix d (.lk .ur)) mT g w) (RT.refl (p := p) (ps := [bi])) (fun g w h => h) (m := 40) (n := mT) (dmono (D := DC0) (fun w w' es h => dt_of w w' es h) ?_) |>.mono (by omega)
      walk_nrm
      show Goes Try.prog false (RT p [bi]) DC0 _ _ _ _
      u_c stepG_region_end hKw hF
      u_c stepG_end hKw hF
      u_in hKw hF
      rw [stepG_leave_deferred rfl rfl Try.func57 (results_none rfl _ _ _) (events_results_none rfl _ _) hcm]
      simp only [goes_go]
      refine ⟨by u_nil, ?_⟩
      refine Goes.stop fun w₃ h₃ => ?_
      exact hT d _ (hKw hF h₃)
  · refine dmono (D := DC0) (fun w w' es h => dt_of w w' es h) ?_
    u_op hK hF
    u_op hK hF
    u_op hK hF
    u_op hK hF
    u_call Try.func87 x87 Try.f87 hK hF
    u_c stepG_seq hK hF
    u_reg hK hF
    u_op hK hF
    u_c stepG_region_end hK hF
    u_c stepG_seq hK hF
    u_c stepG_seq hK hF
    u_reg hK hF
    u_op hK hF
    u_c stepG_region_end hK hF
    u_cond true hK hF
    u_c stepG_seq hK hF
    u_reg hK hF
    u_op hK hF
    u_c stepG_region_end hK hF
    u_c stepG_ret' hK hF
    u_leave1 Try.func87 hK hF
    refine Goes.stop fun w1 h1 => ?_
    replace hF := hK hF h1
    clear h1
    rcases d with _ | d
    · trivial
    refine ⟨rfl, rfl, fun w' es s' hn => ?_, fun _ _ e => by (cases e), fun _ e => by (cases e), fun _ e => by (cases e)⟩
    cases hn with
    | os c _ hc =>
      have hs1 := set0 hc 1
      refine ⟨_, stepG_store_atomic (k := .u32) (v := 1) rfl rfl (by k_ne) rfl Try.func86 x86.1 x86.2.1 x86.2.2 e86 rfl rfl (cs0 hc) (csz hc 0), rfl, ?_⟩
      replace hF := hK hF (RT.own hO hb hs1)
      clear hs1 hc
      replace hF := hto hF
      refine crew.Goes.after (S₁ := fun g w => Goes Try.prog false (RT p [bi]) (DT p [bi]) (AtD p bi ix d (.lk .ur)) mT g w) (RT.refl (p := p) (ps := [bi])) (fun g w h => h) (m := 40) (n := mT) (dmono (D := DC0) (fun w w' es h => dt_of w w' es h) ?_) |>.mono (by omega)
      walk_nrm
      show Goes Try.prog false (RT p [bi]) DC0 _ _ _ _
      u_c stepG_region_end hKw hF
      u_c stepG_end hKw hF
      u_in hKw hF
      rw [stepG_leave_deferred rfl rfl Try.func57 (results_none rfl _ _ _) (events_results_none rfl _ _) hcm]
      simp only [goes_go]
      refine ⟨by u_nil, ?_⟩
      refine Goes.stop fun w₃ h₃ => ?_
      exact hT d _ (hKw hF h₃)
  · refine dmono (D := DC0) (fun w w' es h => dt_of w w' es h) ?_
    u_op hK hF
    u_op hK hF
    u_op hK hF
    u_call Try.func87 x87 Try.f87 hK hF
    u_c stepG_seq hK hF
    u_reg hK hF
    u_op hK hF
    u_c stepG_region_end hK hF
    u_c stepG_seq hK hF
    u_c stepG_seq hK hF
    u_reg hK hF
    u_op hK hF
    u_c stepG_region_end hK hF
    u_cond true hK hF
    u_c stepG_seq hK hF
    u_reg hK hF
    u_op hK hF
    u_c stepG_region_end hK hF
    u_c stepG_ret' hK hF
    u_leave1 Try.func87 hK hF
    u_op hK hF
    refine Goes.stop fun w1 h1 => ?_
    replace hF := hK hF h1
    clear h1
    rcases d with _ | d
    · trivial
    refine ⟨rfl, rfl, fun w' es s' hn => ?_, fun _ _ e => by (cases e), fun _ e => by (cases e), fun _ e => by (cases e)⟩
    cases hn with
    | os c _ hc =>
      have hs1 := set0 hc 1
      refine ⟨_, stepG_store_atomic (k := .u32) (v := 1) rfl rfl (by k_ne) rfl Try.func86 x86.1 x86.2.1 x86.2.2 e86 rfl rfl (cs0 hc) (csz hc 0), rfl, ?_⟩
      replace hF := hK hF (RT.own hO hb hs1)
      clear hs1 hc
      replace hF := hto hF
      refine crew.Goes.after (S₁ := fun g w => Goes Try.prog false (RT p [bi]) (DT p [bi]) (AtD p bi ix d (.lk .ur)) mT g w) (RT.refl (p := p) (ps := [bi])) (fun g w h => h) (m := 40) (n := mT) (dmono (D := DC0) (fun w w' es h => dt_of w w' es h) ?_) |>.mono (by omega)
      walk_nrm
      show Goes Try.prog false (RT p [bi]) DC0 _ _ _ _
      u_c stepG_region_end hKw hF
      u_c stepG_end hKw hF
      u_in hKw hF
      rw [stepG_leave_deferred rfl rfl Try.func57 (results_none rfl _ _ _) (events_results_none rfl _ _) hcm]
      simp only [goes_go]
      refine ⟨by u_nil, ?_⟩
      refine Goes.stop fun w₃ h₃ => ?_
      exact hT d _ (hKw hF h₃)
  · refine dmono (D := DC0) (fun w w' es h => dt_of w w' es h) ?_
    u_op hK hF
    u_op hK hF
    u_op hK hF
    u_op hK hF
    u_call Try.func87 x87 Try.f87 hK hF
    u_c stepG_seq hK hF
    u_reg hK hF
    u_op hK hF
    u_c stepG_region_end hK hF
    u_c stepG_seq hK hF
    u_c stepG_seq hK hF
    u_reg hK hF
    u_op hK hF
    u_c stepG_region_end hK hF
    u_cond true hK hF
    u_c stepG_seq hK hF
    u_reg hK hF
    u_op hK hF
    u_c stepG_region_end hK hF
    u_c stepG_ret' hK hF
    u_leave1 Try.func87 hK hF
    refine Goes.stop fun w1 h1 => ?_
    replace hF := hK hF h1
    clear h1
    rcases d with _ | d
    · trivial
    refine ⟨rfl, rfl, fun w' es s' hn => ?_, fun _ _ e => by (cases e), fun _ e => by (cases e), fun _ e => by (cases e)⟩
    cases hn with
    | os c _ hc =>
      have hs1 := set0 hc 1
      refine ⟨_, stepG_store_atomic (k := .u32) (v := 1) rfl rfl (by k_ne) rfl Try.func86 x86.1 x86.2.1 x86.2.2 e86 rfl rfl (cs0 hc) (csz hc 0), rfl, ?_⟩
      replace hF := hK hF (RT.own hO hb hs1)
      clear hs1 hc
      replace hF := hto hF
      refine crew.Goes.after (S₁ := fun g w => Goes Try.prog false (RT p [bi]) (DT p [bi]) (AtD p bi ix d (.lk .ur)) mT g w) (RT.refl (p := p) (ps := [bi])) (fun g w h => h) (m := 40) (n := mT) (dmono (D := DC0) (fun w w' es h => dt_of w w' es h) ?_) |>.mono (by omega)
      walk_nrm
      show Goes Try.prog false (RT p [bi]) DC0 _ _ _ _
      u_c stepG_region_end hKw hF
      u_c stepG_end hKw hF
      u_in hKw hF
      rw [stepG_leave_deferred rfl rfl Try.func57 (results_none rfl _ _ _) (events_results_none rfl _ _) hcm]
      simp only [goes_go]
      refine ⟨by u_nil, ?_⟩
      refine Goes.stop fun w₃ h₃ => ?_
      exact hT d _ (hKw hF h₃)
  · refine dmono (D := DC0) (fun w w' es h => dt_of w w' es h) ?_
    u_op hK hF
    u_op hK hF
    u_op hK hF
    u_call Try.func87 x87 Try.f87 hK hF
    u_c stepG_seq hK hF
    u_reg hK hF
    u_op hK hF
    u_c stepG_region_end hK hF
    u_c stepG_seq hK hF
    u_c stepG_seq hK hF
    u_reg hK hF
    u_op hK hF
    u_c stepG_region_end hK hF
    u_cond true hK hF
    u_c stepG_seq hK hF
    u_reg hK hF
    u_op hK hF
    u_c stepG_region_end hK hF
    u_c stepG_ret' hK hF
    u_leave1 Try.func87 hK hF
    u_op hK hF
    refine Goes.stop fun w1 h1 => ?_
    replace hF := hK hF h1
    clear h1
    rcases d with _ | d
    · trivial
    refine ⟨rfl, rfl, fun w' es s' hn => ?_, fun _ _ e => by (cases e), fun _ e => by (cases e), fun _ e => by (cases e)⟩
    cases hn with
    | os c _ hc =>
      have hs1 := set0 hc 1
      refine ⟨_, stepG_store_atomic (k := .u32) (v := 1) rfl rfl (by k_ne) rfl Try.func86 x86.1 x86.2.1 x86.2.2 e86 rfl rfl (cs0 hc) (csz hc 0), rfl, ?_⟩
      replace hF := hK hF (RT.own hO hb hs1)
      clear hs1 hc
      replace hF := hto hF
      refine crew.Goes.after (S₁ := fun g w => Goes Try.prog false (RT p [bi]) (DT p [bi]) (AtD p bi ix d (.lk .ur)) mT g w) (RT.refl (p := p) (ps := [bi])) (fun g w h => h) (m := 40) (n := mT) (dmono (D := DC0) (fun w w' es h => dt_of w w' es h) ?_) |>.mono (by omega)
      walk_nrm
      show Goes Try.prog false (RT p [bi]) DC0 _ _ _ _
      u_c stepG_region_end hKw hF
      u_c stepG_end hKw hF
      u_in hKw hF
      rw [stepG_leave_deferred rfl rfl Try.func57 (results_none rfl _ _ _) (events_results_none rfl _ _) hcm]
      simp only [goes_go]
      refine ⟨by u_nil, ?_⟩
      refine Goes.stop fun w₃ h₃ => ?_
      exact hT d _ (hKw hF h₃)
  · refine dmono (D := DC0) (fun w w' es h => dt_of w w' es h) ?_
    u_op hK hF
    u_op hK hF
    u_call Try.func87 x87 Try.f87 hK hF
    u_c stepG_seq hK hF
    u_reg hK hF
    u_op hK hF
    u_c stepG_region_end hK hF
    u_c stepG_seq hK hF
    u_c stepG_seq hK hF
    u_reg hK hF
    u_op hK hF
    u_c stepG_region_end hK hF
    u_cond true hK hF
    u_c stepG_seq hK hF
    u_reg hK hF
    u_op hK hF
    u_c stepG_region_end hK hF
    u_c stepG_ret' hK hF
    u_leave1 Try.func87 hK hF
    u_op hK hF
    u_op hK hF
    refine Goes.stop fun w1 h1 => ?_
    replace hF := hK hF h1
    clear h1
    rcases d with _ | d
    · trivial
    refine ⟨rfl, rfl, fun w' es s' hn => ?_, fun _ _ e => by (cases e), fun _ e => by (cases e), fun _ e => by (cases e)⟩
    cases hn with
    | os c _ hc =>
      have hs1 := set0 hc 1
      refine ⟨_, stepG_store_atomic (k := .u32) (v := 1) rfl rfl (by k_ne) rfl Try.func86 x86.1 x86.2.1 x86.2.2 e86 rfl rfl (cs0 hc) (csz hc 0), rfl, ?_⟩
      replace hF := hK hF (RT.own hO hb hs1)
      clear hs1 hc
      replace hF := hto hF
      refine crew.Goes.after (S₁ := fun g w => Goes Try.prog false (RT p [bi]) (DT p [bi]) (AtD p bi ix d (.lk .ur)) mT g w) (RT.refl (p := p) (ps := [bi])) (fun g w h => h) (m := 40) (n := mT) (dmono (D := DC0) (fun w w' es h => dt_of w w' es h) ?_) |>.mono (by omega)
      walk_nrm
      show Goes Try.prog false (RT p [bi]) DC0 _ _ _ _
      u_c stepG_region_end hKw hF
      u_c stepG_end hKw hF
      u_in hKw hF
      rw [stepG_leave_deferred rfl rfl Try.func57 (results_none rfl _ _ _) (events_results_none rfl _ _) hcm]
      simp only [goes_go]
      refine ⟨by u_nil, ?_⟩
      refine Goes.stop fun w₃ h₃ => ?_
      exact hT d _ (hKw hF h₃)
  · refine dmono (D := DC0) (fun w w' es h => dt_of w w' es h) ?_
    u_op hK hF
    u_op hK hF
    u_op hK hF
    u_op hK hF
    u_call Try.func87 x87 Try.f87 hK hF
    u_c stepG_seq hK hF
    u_reg hK hF
    u_op hK hF
    u_c stepG_region_end hK hF
    u_c stepG_seq hK hF
    u_c stepG_seq hK hF
    u_reg hK hF
    u_op hK hF
    u_c stepG_region_end hK hF
    u_cond true hK hF
    u_c stepG_seq hK hF
    u_reg hK hF
    u_op hK hF
    u_c stepG_region_end hK hF
    u_c stepG_ret' hK hF
    u_leave1 Try.func87 hK hF
    refine Goes.stop fun w1 h1 => ?_
    replace hF := hK hF h1
    clear h1
    rcases d with _ | d
    · trivial
    refine ⟨rfl, rfl, fun w' es s' hn => ?_, fun _ _ e => by (cases e), fun _ e => by (cases e), fun _ e => by (cases e)⟩
    cases hn with
    | os c _ hc =>
      have hs1 := set0 hc 1
      refine ⟨_, stepG_store_atomic (k := .u32) (v := 1) rfl rfl (by k_ne) rfl Try.func86 x86.1 x86.2.1 x86.2.2 e86 rfl rfl (cs0 hc) (csz hc 0), rfl, ?_⟩
      replace hF := hK hF (RT.own hO hb hs1)
      clear hs1 hc
      replace hF := hto hF
      refine crew.Goes.after (S₁ := fun g w => Goes Try.prog false (RT p [bi]) (DT p [bi]) (AtD p bi ix d (.lk .ur)) mT g w) (RT.refl (p := p) (ps := [bi])) (fun g w h => h) (m := 40) (n := mT) (dmono (D := DC0) (fun w w' es h => dt_of w w' es h) ?_) |>.mono (by omega)
      walk_nrm
      show Goes Try.prog false (RT p [bi]) DC0 _ _ _ _
      u_c stepG_region_end hKw hF
      u_c stepG_end hKw hF
      u_in hKw hF
      rw [stepG_leave_deferred rfl rfl Try.func57 (results_none rfl _ _ _) (events_results_none rfl _ _) hcm]
      simp only [goes_go]
      refine ⟨by u_nil, ?_⟩
      refine Goes.stop fun w₃ h₃ => ?_
      exact hT d _ (hKw hF h₃)
  · refine dmono (D := DC0) (fun w w' es h => dt_of w w' es h) ?_
    u_op hK hF
    u_op hK hF
    u_op hK hF
    u_call Try.func87 x87 Try.f87 hK hF
    u_c stepG_seq hK hF
    u_reg hK hF
    u_op hK hF
    u_c stepG_region_end hK hF
    u_c stepG_seq hK hF
    u_c stepG_seq hK hF
    u_reg hK hF
    u_op hK hF
    u_c stepG_region_end hK hF
    u_cond true hK hF
    u_c stepG_seq hK hF
    u_reg hK hF
    u_op hK hF
    u_c stepG_region_end hK hF
    u_c stepG_ret' hK hF
    u_leave1 Try.func87 hK hF
    u_op hK hF
    refine Goes.stop fun w1 h1 => ?_
    replace hF := hK hF h1
    clear h1
    rcases d with _ | d
    · trivial
    refine ⟨rfl, rfl, fun w' es s' hn => ?_, fun _ _ e => by (cases e), fun _ e => by (cases e), fun _ e => by (cases e)⟩
    cases hn with
    | os c _ hc =>
      have hs1 := set0 hc 1
      refine ⟨_, stepG_store_atomic (k := .u32) (v := 1) rfl rfl (by k_ne) rfl Try.func86 x86.1 x86.2.1 x86.2.2 e86 rfl rfl (cs0 hc) (csz hc 0), rfl, ?_⟩
      replace hF := hK hF (RT.own hO hb hs1)
      clear hs1 hc
      replace hF := hto hF
      refine crew.Goes.after (S₁ := fun g w => Goes Try.prog false (RT p [bi]) (DT p [bi]) (AtD p bi ix d (.lk .ur)) mT g w) (RT.refl (p := p) (ps := [bi])) (fun g w h => h) (m := 40) (n := mT) (dmono (D := DC0) (fun w w' es h => dt_of w w' es h) ?_) |>.mono (by omega)
      walk_nrm
      show Goes Try.prog false (RT p [bi]) DC0 _ _ _ _
      u_c stepG_region_end hKw hF
      u_c stepG_end hKw hF
      u_in hKw hF
      rw [stepG_leave_deferred rfl rfl Try.func57 (results_none rfl _ _ _) (events_results_none rfl _ _) hcm]
      simp only [goes_go]
      refine ⟨by u_nil, ?_⟩
      refine Goes.stop fun w₃ h₃ => ?_
      exact hT d _ (hKw hF h₃)
  · refine dmono (D := DC0) (fun w w' es h => dt_of w w' es h) ?_
    u_op hK hF
    u_op hK hF
    u_call Try.func87 x87 Try.f87 hK hF
    u_c stepG_seq hK hF
    u_reg hK hF
    u_op hK hF
    u_c stepG_region_end hK hF
    u_c stepG_seq hK hF
    u_c stepG_seq hK hF
    u_reg hK hF
    u_op hK hF
    u_c stepG_region_end hK hF
    u_cond true hK hF
    u_c stepG_seq hK hF
    u_reg hK hF
    u_op hK hF
    u_c stepG_region_end hK hF
    u_c stepG_ret' hK hF
    u_leave1 Try.func87 hK hF
    u_op hK hF
    u_op hK hF
    refine Goes.stop fun w1 h1 => ?_
    replace hF := hK hF h1
    clear h1
    rcases d with _ | d
    · trivial
    refine ⟨rfl, rfl, fun w' es s' hn => ?_, fun _ _ e => by (cases e), fun _ e => by (cases e), fun _ e => by (cases e)⟩
    cases hn with
    | os c _ hc =>
      have hs1 := set0 hc 1
      refine ⟨_, stepG_store_atomic (k := .u32) (v := 1) rfl rfl (by k_ne) rfl Try.func86 x86.1 x86.2.1 x86.2.2 e86 rfl rfl (cs0 hc) (csz hc 0), rfl, ?_⟩
      replace hF := hK hF (RT.own hO hb hs1)
      clear hs1 hc
      replace hF := hto hF
      refine crew.Goes.after (S₁ := fun g w => Goes Try.prog false (RT p [bi]) (DT p [bi]) (AtD p bi ix d (.lk .ur)) mT g w) (RT.refl (p := p) (ps := [bi])) (fun g w h => h) (m := 40) (n := mT) (dmono (D := DC0) (fun w w' es h => dt_of w w' es h) ?_) |>.mono (by omega)
      walk_nrm
      show Goes Try.prog false (RT p [bi]) DC0 _ _ _ _
      u_c stepG_region_end hKw hF
      u_c stepG_end hKw hF
      u_in hKw hF
      rw [stepG_leave_deferred rfl rfl Try.func57 (results_none rfl _ _ _) (events_results_none rfl _ _) hcm]
      simp only [goes_go]
      refine ⟨by u_nil, ?_⟩
      refine Goes.stop fun w₃ h₃ => ?_
      exact hT d _ (hKw hF h₃)
  · refine dmono (D := DC0) (fun w w' es h => dt_of w w' es h) ?_
    u_op hK hF
    u_call Try.func87 x87 Try.f87 hK hF
    u_c stepG_seq hK hF
    u_reg hK hF
    u_op hK hF
    u_c stepG_region_end hK hF
    u_c stepG_seq hK hF
    u_c stepG_seq hK hF
    u_reg hK hF
    u_op hK hF
    u_c stepG_region_end hK hF
    u_cond true hK hF
    u_c stepG_seq hK hF
    u_reg hK hF
    u_op hK hF
    u_c stepG_region_end hK hF
    u_c stepG_ret' hK hF
    u_leave1 Try.func87 hK hF
    u_op hK hF
    u_op hK hF
    u_op hK hF
    refine Goes.stop fun w1 h1 => ?_
    replace hF := hK hF h1
    clear h1
    rcases d with _ | d
    · trivial
    refine ⟨rfl, rfl, fun w' es s' hn => ?_, fun _ _ e => by (cases e), fun _ e => by (cases e), fun _ e => by (cases e)⟩
    cases hn with
    | os c _ hc =>
      have hs1 := set0 hc 1
      refine ⟨_, stepG_store_atomic (k := .u32) (v := 1) rfl rfl (by k_ne) rfl Try.func86 x86.1 x86.2.1 x86.2.2 e86 rfl rfl (cs0 hc) (csz hc 0), rfl, ?_⟩
      replace hF := hK hF (RT.own hO hb hs1)
      clear hs1 hc
      replace hF := hto hF
      refine crew.Goes.after (S₁ := fun g w => Goes Try.prog false (RT p [bi]) (DT p [bi]) (AtD p bi ix d (.lk .ur)) mT g w) (RT.refl (p := p) (ps := [bi])) (fun g w h => h) (m := 40) (n := mT) (dmono (D := DC0) (fun w w' es h => dt_of w w' es h) ?_) |>.mono (by omega)
      walk_nrm
      show Goes Try.prog false (RT p [bi]) DC0 _ _ _ _
      u_c stepG_region_end hKw hF
      u_c stepG_end hKw hF
      u_in hKw hF
      rw [stepG_leave_deferred rfl rfl Try.func57 (results_none rfl _ _ _) (events_results_none rfl _ _) hcm]
      simp only [goes_go]
      refine ⟨by u_nil, ?_⟩
      refine Goes.stop fun w₃ h₃ => ?_
      exact hT d _ (hKw hF h₃)

noncomputable def body82 : Code := Try.f82.body.getD .skip
noncomputable def ops82 : Array Oper := opsOf (cR body82)
theorem x82 : (Try.f82.name == "runtime.NumGoroutine") = false := by kernel_rfl
theorem q82 : (Try.prog.funcs[(baseD 82).fn]?).any (·.norace) = false := by kernel_rfl
set_option maxRecDepth 100000 in
set_option maxHeartbeats 64000000 in
theorem backCatch (hcm : c₀.mode = .returning) (hK : ∀ {w w₁ : World}, K w → RT p [bi, ba] w w₁ → K w₁) (hC : ∀ {w : World}, K w → CLive p w) (hO : p.Ok) (hb : ∀ b ∈ [bi, ba], b ≠ p.C) (hT : ∀ d w, K w → Goes Try.prog false (RT p [bi, ba]) (DT p [bi, ba]) (AtD p bi ix d (.os ba)) mT (G c₀ cs) w) (hm : mT ≤ 280) :
    ∀ (T : Array Value) d w, K w → Goes Try.prog false (RT p [bi, ba]) (DT p [bi, ba]) (AtD p bi ix d (.os ba)) 300
      (G ((baseD 82).at ⟨T, []⟩ [.inRegion ops82 []]) (c₀ :: cs)) w := by
  intro T d w hF
  refine crew.Goes.after (S₁ := fun g w => Goes Try.prog false (RT p [bi, ba]) (DT p [bi, ba]) (AtD p bi ix d (.os ba)) mT g w) (RT.refl (p := p) (ps := [bi, ba])) (fun g w h => h) (m := 20) (n := mT) (dmono (D := DC0) (fun w w' es h => dt_of w w' es h) ?_) |>.mono (by omega)
  show Goes Try.prog false (RT p [bi, ba]) DC0 _ _ _ _
  simp only [ops82, body82, opsOf, cT, cL, cR, Try.f82, Option.getD_some]
  u_c stepG_region_end hK hF
  u_c stepG_end hK hF
  u_in hK hF
  rw [stepG_leave_deferred rfl rfl Try.func82 (results_none rfl _ _ _) (events_results_none rfl _ _) hcm]
  simp only [goes_go]
  refine ⟨by u_nil, ?_⟩
  refine Goes.stop fun w₃ h₃ => ?_
  exact hT d _ (hK hF h₃)
set_option maxRecDepth 100000 in
set_option maxHeartbeats 64000000 in
theorem catchS (hcm : c₀.mode = .returning) (hK : ∀ {w w₁ : World}, K w → RT p [bi, ba] w w₁ → K w₁) (hC : ∀ {w : World}, K w → CLive p w) (hO : p.Ok) (hb : ∀ b ∈ [bi, ba], b ≠ p.C) (hx : ∀ {w : World}, K w → w.cell? ⟨ba, 0, none⟩ = some (.pointer (some ⟨p.C, 0, none⟩)))
    (hT : ∀ d w, K w → Goes Try.prog false (RT p [bi, ba]) (DT p [bi, ba]) (AtD p bi ix d (.os ba)) mT (G c₀ cs) w) (hm : mT ≤ 280) :
    ∀ d w, K w → Goes Try.prog false (RT p [bi, ba]) (DT p [bi, ba]) (AtD p bi ix d (.cs ba)) 200
      (G ((baseD 82).at ⟨#[.pointer (some ⟨ba, 0, none⟩), undef, undef, undef, undef, undef, undef, undef, undef, undef, undef, undef, undef, undef], []⟩ [.code body82]) (c₀ :: cs)) w := by
  intro d w hF
  simp only [body82, Try.f82, Option.getD_some]
  have hnn := run_neq_nil
  have hne := ev_neq_nil
  refine crew.Goes.after (S₁ := fun g w => Goes Try.prog false (RT p [bi, ba]) (DT p [bi, ba]) (AtD p bi ix d (.cs ba)) 100 g w) (RT.refl (p := p) (ps := [bi, ba])) (fun g w h => h) (m := 60) (n := 100) (dmono (D := DC0) (fun w w' es h => dt_of w w' es h) ?_) |>.mono (by omega)
  show Goes Try.prog false (RT p [bi, ba]) DC0 _ _ _ _
  u_c stepG_seq hK hF
  u_c stepG_seq hK hF
  u_reg hK hF
  u_in hK hF
  rw [stepG_recover_idle rfl rfl rfl rfl rfl hcm]
  simp only [goes_go]
  refine ⟨by u_nil, ?_⟩
  walk_nrm
  u_op hK hF
  u_c stepG_region_end hK hF
  u_c stepG_seq hK hF
  u_reg hK hF
  u_op hK hF
  u_op hK hF
  u_c stepG_region_end hK hF
  u_cond false hK hF
  u_c stepG_skip hK hF
  u_reg hK hF
  refine Goes.stop fun w₃ h₃ => ?_
  replace hF := hK hF h₃
  clear h₃
  u_in hK hF
  have hcell := hx hF
  rw [stepG_loadE (ty := 50) (by simp [one]) rfl rfl (by k_ne) rfl rfl hcell q82]
  simp only [goes_go]
  refine ⟨dt_read (.inr (.inl (by simp))), ?_⟩
  walk_nrm
  clear hcell
  refine crew.Goes.after (S₁ := fun g w => Goes Try.prog false (RT p [bi, ba]) (DT p [bi, ba]) (AtD p bi ix d (.cs ba)) 60 g w) (RT.refl (p := p) (ps := [bi, ba])) (fun g w h => h) (m := 20) (n := 60) (dmono (D := DC0) (fun w w' es h => dt_of w w' es h) ?_) |>.mono (by omega)
  show Goes Try.prog false (RT p [bi, ba]) DC0 _ _ _ _
  u_op hK hF
  u_op hK hF
  u_call Try.func57 x57 Try.f57 hK hF
  have e13 : (ops82[3]?).bind (·.dst) = some 13 := by kernel_rfl
  have hS := fun T : Array Value => storeCs (ix := ix) (a₀ := ⟨T, []⟩) (b₀ := baseD 82) (ops₀ := ops82) (i₀ := 3) (rest₀ := []) (k₀ := []) (cs := c₀ :: cs) (mT := 300) hK hC hO hb (fun d w hw => by rw [e13]; exact backCatch hcm hK hC hO hb hT (by omega) _ d w hw) (by omega) d
  refine Goes.stop fun w₃ h₃ => ?_
  exact hS _ _ (hK hF h₃)
end
end Go.Proofs.Ytdkbkocklnnmdaa.tog
