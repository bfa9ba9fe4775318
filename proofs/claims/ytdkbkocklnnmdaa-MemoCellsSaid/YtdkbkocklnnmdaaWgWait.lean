/-
  sync.WaitGroup's Wait in company, with a symbolic counter: what each of its operations on shared places does, and where it goes on. Condition: what is held of the world outlives the others' doing and the turn of the group's two cells.
-/
import Derived.Conc.Company
import Derived.Test.YtdkbkocklnnmdaaWgAdd
set_option linter.unusedSimpArgs false
set_option linter.unusedVariables false
namespace Go.Proofs.Ytdkbkocklnnmdaa.wg
open Go Go.Conc Go.RowKit Go.ConcR.Gen Go.ConcN.Gen Go.Conc.Lib
open Go.ConcR (DC0 KK WgAt stA smA rd wr mk)
open Go.ConcN (st_flag st_waiters WgLive)

section
variable (R : World → World → Prop) (Wg : Nat) (Anch St : Goroutine → World → Prop)
/-- Wait, from its end backwards. -/
def WAcq : Goroutine → World → Prop := AtMk true (.acquire (stA Wg)) (To true R St)
def WEna : Goroutine → World → Prop := AtMk true .enable (To true R (WAcq R Wg St))
def WLd2 (g : Goroutine) (w : World) : Prop :=
  g.status = .running ∧ (WgAt 96 Wg w 0 0 → ∃ g', stepG Try.prog true g w = .go g' w #[rd (stA Wg)] ∧ g'.status = .running ∧ To true R (WEna R Wg St) g' w)
def WSem (g : Goroutine) (w : World) : Prop :=
  g.status = .running ∧ g.offers = none ∧ ((∃ st, WgAt 96 Wg w st 0) → stepG Try.prog true g w = .go { g with status := .blocked } w #[]) ∧
    (WgAt 96 Wg w 0 1 → ∃ g', stepG Try.prog true g w = .go g' (w.setCell (smA Wg) (.int .u32 0)) (semEvents (smA Wg)) ∧ g'.status = .running ∧ To true R (WLd2 R Wg St) g' (w.setCell (smA Wg) (.int .u32 0)))
def WWr : Goroutine → World → Prop := AtMk true (.write (smA Wg)) (To true R (WSem R Wg St))
/-- The CompareAndSwap, the count vs having been seen. -/
def WCas (vs : Nat) (g : Goroutine) (w : World) : Prop :=
  g.status = .running ∧ ∀ v : Nat, v < 2147483648 → WgAt 96 Wg w (v * KK) 0 →
    (v = vs → ∃ g', stepG Try.prog true g w = .go g' (w.setCell (stA Wg) (.int .u64 (v * KK + 1))) #[rd (stA Wg), wr (stA Wg)] ∧ g'.status = .running ∧ To true R (WWr R Wg St) g' (w.setCell (stA Wg) (.int .u64 (v * KK + 1)))) ∧
    (v ≠ vs → ∃ g', stepG Try.prog true g w = .go g' w #[rd (stA Wg)] ∧ g'.status = .running ∧ To true R Anch g' w)
def WLoad (g : Goroutine) (w : World) : Prop :=
  g.status = .running ∧ ∀ v : Nat, v < 2147483648 → WgAt 96 Wg w (v * KK) 0 → ∃ g', stepG Try.prog true g w = .go g' w #[rd (stA Wg)] ∧ g'.status = .running ∧
    (v = 0 → To true R (WEna R Wg St) g' w) ∧ (v ≠ 0 → To true R (WCas R Wg Anch St v) g' w)
def WDis : Goroutine → World → Prop := AtMk true .disable (To true R Anch)
end

theorem x73 : (Try.f73.name == "runtime.NumGoroutine") = false := by kernel_rfl
theorem x79 : (Try.f79.name == "runtime.NumGoroutine") = false := by kernel_rfl
theorem x81 : (Try.f81.name == "runtime.NumGoroutine") = false ∧ Try.f81.body.isNone = true ∧ Extern.findNext Try.f81 = none := ⟨by kernel_rfl, by kernel_rfl, by kernel_rfl⟩
theorem x91 : (Try.f91.name == "runtime.NumGoroutine") = false ∧ Try.f91.body.isNone = true ∧ Extern.findNext Try.f91 = none := ⟨by kernel_rfl, by kernel_rfl, by kernel_rfl⟩
theorem x93 : (Try.f93.name == "runtime.NumGoroutine") = false ∧ Try.f93.body.isNone = true ∧ Extern.findNext Try.f93 = none := ⟨by kernel_rfl, by kernel_rfl, by kernel_rfl⟩
theorem e81 : Extern.find Try.f81 = some (Extern.Sync.semacquire) := by kernel_rfl
theorem e91 : Extern.find Try.f91 = some (Extern.Atomic.loadT (.int .u64)) := by kernel_rfl
theorem e93 : Extern.find Try.f93 = some (Extern.Atomic.casT (.int .u64)) := by kernel_rfl

section
variable {R : World → World → Prop} {F : World → Prop} {Wg : Nat} {St : Goroutine → World → Prop}
  {b₀ : Frame} {a₀ : Act} {ops₀ : Array Oper} {i₀ : Nat} {rest₀ : List Nat} {k₀ : List Item} {cs : List Frame} {mT : Nat}

set_option maxRecDepth 100000 in
set_option maxHeartbeats 8000000 in
theorem waitStart (hFr : ∀ {w w₁ : World}, F w → R w w₁ → F w₁) (hFw : ∀ w, F w → WgLive 96 Wg w) (c : Frame) (w : World) (hF : F w) :
    Goes Try.prog true R DC0 (WDis R (AnchWN link F Wg c cs)) 5 (G ((base 45).at { tmps := #[.pointer (some ⟨Wg, 0, none⟩)] ++ Array.replicate 83 undef, defers := [] } [.code (Try.f45.body.getD .skip)]) (c :: cs)) w := by
  simp only [Try.f45, Option.getD_some]
  walk_nrm
  u_c stepG_seq hFr hF
  u_cond true hFr hF
  u_reg hFr hF
  refine Goes.stop (fun w₁ h₁ => ?_)
  replace hF := hFr hF h₁
  clear h₁
  refine ⟨rfl, _, stepG_mark0 .disable (by simp) rfl rfl (by k_ne) rfl Try.func65 x65.1 x65.2.1 x65.2.2 e65, rfl, 3, ?_⟩
  walk_nrm
  u_c stepG_region_end hFr hF
  u_c stepG_block hFr hF
  u_c stepG_loop hFr hF
  exact Goes.stop (fun w₂ h₂ => ⟨_, rfl, by simp, by simp, hFr hF h₂, hFw _ (hFr hF h₂)⟩)

set_option maxRecDepth 100000 in
set_option maxHeartbeats 16000000 in
theorem waitRound (hFr : ∀ {w w₁ : World}, F w → R w w₁ → F w₁) (hFw : ∀ w, F w → WgLive 96 Wg w) (hFs : ∀ w x, F w → F (w.setCell (stA Wg) (.int .u64 x))) (hFm : ∀ w, F w → F (w.setCell (smA Wg) (.int .u32 0)))
    (hT : ∀ w, F w → Goes Try.prog true R DC0 St mT (G (b₀.at (a₀.put ((ops₀[i₀]?).bind (·.dst)) (.tuple #[])) (.inRegion ops₀ rest₀ :: k₀)) cs) w)
    (g : Goroutine) (w : World) (h : AnchWN link F Wg (b₀.at a₀ (.inRegion ops₀ (i₀ :: rest₀) :: k₀)) cs g w) :
    Goes Try.prog true R DC0 (WLoad R Wg (AnchWN link F Wg (b₀.at a₀ (.inRegion ops₀ (i₀ :: rest₀) :: k₀)) cs) St) 30 g w := by
  obtain ⟨T, rfl, hT84, t0, hF, hlive⟩ := h
  clear hlive
  obtain ⟨v0, v1, v2, v3, v4, v5, v6, v7, v8, v9, v10, v11, v12, v13, v14, v15, v16, v17, v18, v19, v20, v21, v22, v23, v24, v25, v26, v27, v28, v29, v30, v31, v32, v33, v34, v35, v36, v37, v38, v39, v40, v41, v42, v43, v44, v45, v46, v47, v48, v49, v50, v51, v52, v53, v54, v55, v56, v57, v58, v59, v60, v61, v62, v63, v64, v65, v66, v67, v68, v69, v70, v71, v72, v73, v74, v75, v76, v77, v78, v79, v80, v81, v82, v83, rfl⟩ := array84 T hT84
  simp only [List.getElem?_toArray, List.getElem?_cons_zero, Option.some.injEq] at t0
  subst t0
  clear hT84
  simp only [L7, body_wait, waitFn, Option.getD_some]
  u_c stepG_block hFr hF
  u_c stepG_seq hFr hF
  u_reg hFr hF
  u_op hFr hF
  u_op hFr hF
  u_op hFr hF
  u_call Try.func73 x73 Try.f73 hFr hF
  u_c stepG_seq hFr hF
  u_reg hFr hF
  u_op hFr hF
  u_c stepG_region_end hFr hF
  u_c stepG_seq hFr hF
  u_reg hFr hF
  u_op hFr hF
  u_op hFr hF
  u_op hFr hF
  refine Goes.stop (fun w₁ h₁ => ?_)
  replace hF := hFr hF h₁
  clear h₁
  refine ⟨rfl, fun v hv hw => ?_⟩
  rcases Nat.eq_zero_or_pos v with rfl | hvp
  · replace hw : WgAt 96 Wg w₁ 0 0 := by simpa using hw
    refine ⟨_, stepG_load_atomic (v := 0) rfl rfl (by k_ne) rfl Try.func91 x91.1 x91.2.1 x91.2.2 .u64 e91 rfl hw.cellSt, rfl, fun _ => ⟨60, ?_⟩, fun h => absurd rfl h⟩
    clear hw
    walk_nrm
    u_op hFr hF
    u_c stepG_region_end hFr hF
    u_c stepG_ret' hFr hF
    u_leave1 Try.func73 hFr hF
    u_op hFr hF
    u_c stepG_region_end hFr hF
    u_c stepG_seq hFr hF
    u_reg hFr hF
    u_op hFr hF
    u_op hFr hF
    u_op hFr hF
    u_op hFr hF
    u_c stepG_region_end hFr hF
    u_c stepG_seq hFr hF
    u_reg hFr hF
    u_op hFr hF
    u_op hFr hF
    u_op hFr hF
    u_op hFr hF
    u_c stepG_region_end hFr hF
    u_c stepG_seq hFr hF
    u_c stepG_seq hFr hF
    u_reg hFr hF
    u_op hFr hF
    u_op hFr hF
    u_c stepG_region_end hFr hF
    u_cond true hFr hF
    u_c stepG_seq hFr hF
    u_cond true hFr hF
    u_c stepG_seq hFr hF
    u_reg hFr hF
    refine Goes.stop (fun w5 h5 => ?_)
    replace hF := hFr hF h5
    clear h5
    refine ⟨rfl, _, stepG_mark0 .enable (by simp) rfl rfl (by k_ne) rfl Try.func66 x66.1 x66.2.1 x66.2.2 e66, rfl, 20, ?_⟩
    walk_nrm
    u_c stepG_region_end hFr hF
    u_reg hFr hF
    u_op hFr hF
    u_in hFr hF
    refine goes_oper_k rfl rfl (by k_ne) (fun Kx hKx => ?_)
    have hcv := run_convert_to_unsafe (P := Try.prog) wgLib.underlying_tWgP wgLib.underlying_tUP wgLib.room_tWg (WgLive.cell0 (hFw _ hF)).choose_spec
    have hce := fun es => events_convert_to_unsafe (P := Try.prog) wgLib.underlying_tWgP wgLib.underlying_tUP wgLib.room_tWg (WgLive.cell0 (hFw _ hF)).choose_spec es
    go_simp
    refine hKx _ _ ⟨?_, ?_⟩
    · u_none
      intro ex hex
      have hmx := mem_listed hex
      simp [go_sem, hce] at hmx
    clear hKx Kx hcv hce
    refine Goes.stop (fun w6 h6 => ?_)
    replace hF := hFr hF h6
    clear h6
    refine ⟨rfl, _, stepG_markAt .acquire (by simp) rfl rfl (by k_ne) rfl Try.func77 x77.1 x77.2.1 x77.2.2 e77 (by simp [Act.eval, stA]), rfl, mT + 30, ?_⟩
    walk_nrm
    u_c stepG_region_end hFr hF
    u_c stepG_seq hFr hF
    u_c stepG_seq hFr hF
    u_reg hFr hF
    u_op hFr hF
    u_op hFr hF
    u_op hFr hF
    u_op hFr hF
    u_op hFr hF
    u_op hFr hF
    u_op hFr hF
    u_op hFr hF
    u_skip hFr hF
    u_skip hFr hF
    u_op hFr hF
    u_c stepG_region_end hFr hF
    u_cond false hFr hF
    u_c stepG_skip hFr hF
    u_c stepG_ret' hFr hF
    u_leave0 Try.func45 hFr hF
    exact Goes.mono (hT _ hF) (Nat.le_add_right _ _)
  · obtain ⟨V, hV⟩ : ∃ V : Int, V = (v : Int) := ⟨_, rfl⟩
    obtain ⟨S, hS⟩ : ∃ S : Int, S = V * KK := ⟨_, rfl⟩
    rw [← hV, ← hS] at hw
    have a1 : S / 4294967296 = V := by rw [hS]; simp only [KK]; omega
    have b1 : bits .and .u64 S 2147483648 = 0 := by rw [hS, hV]; have := st_flag v 0 (by omega) (by omega); simpa [KK] using this
    have b2 : bits .and .u64 S 2147483647 = 0 := by rw [hS, hV]; have := st_waiters v 0 (by omega) (by omega); simpa [KK] using this
    have c1 : IntKind.i32.wrap V = V := by rw [IntKind.wrap_i32]; omega
    have hV1 : 0 < V := by omega
    have hV2 : V < 2147483648 := by omega
    have q1 : (V == 0) = false := by simp; omega
    have q2 : decide (V = 0) = false := decide_eq_false (by omega)
    have q3 : IntKind.u64.wrap (S + 1) = S + 1 := by rw [IntKind.wrap_u64, hS]; simp only [KK]; omega
    refine ⟨_, stepG_load_atomic (v := S) rfl rfl (by k_ne) rfl Try.func91 x91.1 x91.2.1 x91.2.2 .u64 e91 rfl hw.cellSt, rfl, fun h => absurd h (by omega), fun _ => ⟨60, ?_⟩⟩
    have hSv : ∃ x : Int, x = S ∧ x = (v : Int) * KK := ⟨S, rfl, by rw [hS, hV]⟩
    clear hw hV hS
    walk_nrm
    u_op hFr hF
    u_c stepG_region_end hFr hF
    u_c stepG_ret' hFr hF
    u_leave1 Try.func73 hFr hF
    u_op hFr hF
    u_c stepG_region_end hFr hF
    u_c stepG_seq hFr hF
    u_reg hFr hF
    u_op hFr hF
    u_op hFr hF
    u_op hFr hF
    u_op hFr hF
    u_c stepG_region_end hFr hF
    u_c stepG_seq hFr hF
    u_reg hFr hF
    u_op hFr hF
    u_op hFr hF
    u_op hFr hF
    u_op hFr hF
    u_c stepG_region_end hFr hF
    u_c stepG_seq hFr hF
    u_c stepG_seq hFr hF
    u_reg hFr hF
    u_op hFr hF
    u_op hFr hF
    u_c stepG_region_end hFr hF
    u_cond false hFr hF
    u_c stepG_skip hFr hF
    u_c stepG_seq hFr hF
    u_reg hFr hF
    u_op hFr hF
    u_op hFr hF
    u_op hFr hF
    u_op hFr hF
    u_op hFr hF
    u_op hFr hF
    u_call Try.func79 x79 Try.f79 hFr hF
    u_c stepG_seq hFr hF
    u_reg hFr hF
    u_op hFr hF
    u_c stepG_region_end hFr hF
    u_c stepG_seq hFr hF
    u_reg hFr hF
    u_op hFr hF
    u_op hFr hF
    u_op hFr hF
    u_op hFr hF
    u_op hFr hF
    refine Goes.stop (fun w2 h2 => ?_)
    replace hF := hFr hF h2
    clear h2
    replace hSv : S = (v : Int) * KK := by obtain ⟨x, e1, e2⟩ := hSv; rw [← e1, e2]
    refine ⟨rfl, fun v' hv' hw => ⟨fun e => ?_, fun e => ?_⟩⟩
    · subst e
      rw [← hSv] at hw ⊢
      refine ⟨_, (stepG_cas_hit (v := S) (n := S + 1) rfl rfl (by k_ne) rfl Try.func93 x93.1 x93.2.1 x93.2.2 .u64 e93 rfl rfl rfl hw.cellSt (hw.thaw 0)).trans (by rfl), rfl, 60, ?_⟩
      replace hF := hFs _ (S + 1) hF
      clear hw hSv hv'
      walk_nrm
      u_op hFr hF
      u_c stepG_region_end hFr hF
      u_c stepG_ret' hFr hF
      u_leave1 Try.func79 hFr hF
      u_c stepG_region_end hFr hF
      u_cond true hFr hF
      u_c stepG_seq hFr hF
      u_c stepG_seq hFr hF
      u_reg hFr hF
      u_op hFr hF
      u_op hFr hF
      u_op hFr hF
      u_op hFr hF
      u_c stepG_region_end hFr hF
      u_cond true hFr hF
      u_reg hFr hF
      u_op hFr hF
      u_op hFr hF
      u_op hFr hF
      u_in hFr hF
      refine goes_oper_k rfl rfl (by k_ne) (fun Kx hKx => ?_)
      have hcv := run_convert_to_unsafe (P := Try.prog) wgLib.underlying_tPU32 wgLib.underlying_tUP wgLib.room_tU32 (WgLive.cell1 (hFw _ hF)).choose_spec
      have hce := fun es => events_convert_to_unsafe (P := Try.prog) wgLib.underlying_tPU32 wgLib.underlying_tUP wgLib.room_tU32 (WgLive.cell1 (hFw _ hF)).choose_spec es
      go_simp
      refine hKx _ _ ⟨?_, ?_⟩
      · u_none
        intro ex hex
        have hmx := mem_listed hex
        simp [go_sem, hce] at hmx
      clear hKx Kx hcv hce
      refine Goes.stop (fun w3 h3 => ?_)
      replace hF := hFr hF h3
      clear h3
      refine ⟨rfl, _, stepG_markAt .write (by simp) rfl rfl (by k_ne) rfl Try.func80 x80.1 x80.2.1 x80.2.2 e80 (ad := ⟨Wg, 1, none⟩) (by simp [Act.eval]), rfl, 60, ?_⟩
      walk_nrm
      u_c stepG_region_end hFr hF
      u_c stepG_seq hFr hF
      u_reg hFr hF
      u_op hFr hF
      u_c stepG_region_end hFr hF
      u_c stepG_seq hFr hF
      u_c stepG_seq hFr hF
      u_reg hFr hF
      u_op hFr hF
      u_op hFr hF
      u_op hFr hF
      u_op hFr hF
      u_skip hFr hF
      u_op hFr hF
      u_c stepG_region_end hFr hF
      u_cond false hFr hF
      u_c stepG_skip hFr hF
      u_c stepG_seq hFr hF
      u_reg hFr hF
      u_op hFr hF
      u_op hFr hF
      u_op hFr hF
      u_op hFr hF
      refine Goes.stop (fun w4 h4 => ?_)
      replace hF := hFr hF h4
      clear h4
      refine ⟨rfl, rfl, fun ⟨st, hw⟩ => stepG_semacquire_wait rfl rfl rfl Try.func81 x81.1 x81.2.1 x81.2.2 e81 (by simp [Act.eval, smA]) hw.cellSm, fun hf => ?_⟩
      refine ⟨_, (stepG_semacquire (n := 1) rfl rfl (by k_ne) rfl Try.func81 x81.1 x81.2.1 x81.2.2 e81 (by simp [Act.eval, smA]) hf.cellSm (by k_ne) (hf.thaw 1)).trans (by rfl), rfl, 60, ?_⟩
      replace hF := hFm _ hF
      clear hf
      walk_nrm
      u_c stepG_region_end hFr hF
      u_c stepG_seq hFr hF
      u_reg hFr hF
      u_op hFr hF
      u_op hFr hF
      u_op hFr hF
      u_call Try.func73 x73 Try.f73 hFr hF
      u_c stepG_seq hFr hF
      u_reg hFr hF
      u_op hFr hF
      u_c stepG_region_end hFr hF
      u_c stepG_seq hFr hF
      u_reg hFr hF
      u_op hFr hF
      u_op hFr hF
      u_op hFr hF
      refine Goes.stop (fun w7 h7 => ?_)
      replace hF := hFr hF h7
      clear h7
      refine ⟨rfl, fun hw => ⟨_, stepG_load_atomic (v := 0) rfl rfl (by k_ne) rfl Try.func91 x91.1 x91.2.1 x91.2.2 .u64 e91 rfl hw.cellSt, rfl, 60, ?_⟩⟩
      walk_nrm
      u_op hFr hF
      u_c stepG_region_end hFr hF
      u_c stepG_ret' hFr hF
      u_leave1 Try.func73 hFr hF
      u_op hFr hF
      u_op hFr hF
      u_c stepG_region_end hFr hF
      u_c stepG_seq hFr hF
      u_cond true hFr hF
      u_c stepG_seq hFr hF
      u_reg hFr hF
      refine Goes.stop (fun w8 h8 => ?_)
      replace hF := hFr hF h8
      clear h8
      refine ⟨rfl, _, stepG_mark0 .enable (by simp) rfl rfl (by k_ne) rfl Try.func66 x66.1 x66.2.1 x66.2.2 e66, rfl, 20, ?_⟩
      walk_nrm
      u_c stepG_region_end hFr hF
      u_reg hFr hF
      u_op hFr hF
      u_in hFr hF
      refine goes_oper_k rfl rfl (by k_ne) (fun Kx hKx => ?_)
      have hcv := run_convert_to_unsafe (P := Try.prog) wgLib.underlying_tWgP wgLib.underlying_tUP wgLib.room_tWg (WgLive.cell0 (hFw _ hF)).choose_spec
      have hce := fun es => events_convert_to_unsafe (P := Try.prog) wgLib.underlying_tWgP wgLib.underlying_tUP wgLib.room_tWg (WgLive.cell0 (hFw _ hF)).choose_spec es
      go_simp
      refine hKx _ _ ⟨?_, ?_⟩
      · u_none
        intro ex hex
        have hmx := mem_listed hex
        simp [go_sem, hce] at hmx
      clear hKx Kx hcv hce
      refine Goes.stop (fun w9 h9 => ?_)
      replace hF := hFr hF h9
      clear h9
      refine ⟨rfl, _, stepG_markAt .acquire (by simp) rfl rfl (by k_ne) rfl Try.func77 x77.1 x77.2.1 x77.2.2 e77 (by simp [Act.eval, stA]), rfl, mT + 30, ?_⟩
      walk_nrm
      u_c stepG_region_end hFr hF
      u_c stepG_seq hFr hF
      u_c stepG_seq hFr hF
      u_reg hFr hF
      u_op hFr hF
      u_c stepG_region_end hFr hF
      u_cond false hFr hF
      u_c stepG_skip hFr hF
      u_c stepG_ret' hFr hF
      u_leave0 Try.func45 hFr hF
      exact Goes.mono (hT _ hF) (Nat.le_add_right _ _)
    · refine ⟨_, stepG_cas_miss (v := (v' : Int) * KK) (old := S) (n := S + 1) rfl rfl (by k_ne) rfl Try.func93 x93.1 x93.2.1 x93.2.2 .u64 e93 rfl rfl rfl hw.cellSt (hw.thaw 0) (by rw [hSv]; simp only [KK]; omega), rfl, 60, ?_⟩
      clear hw hSv
      walk_nrm
      u_op hFr hF
      u_c stepG_region_end hFr hF
      u_c stepG_ret' hFr hF
      u_leave1 Try.func79 hFr hF
      u_c stepG_region_end hFr hF
      u_cond false hFr hF
      u_c stepG_skip hFr hF
      u_c stepG_inBlock hFr hF
      u_c stepG_inLoop hFr hF
      exact Goes.stop (fun w₂ h₂ => ⟨_, rfl, by simp, by simp, hFr hF h₂, hFw _ (hFr hF h₂)⟩)
end
end Go.Proofs.Ytdkbkocklnnmdaa.wg
