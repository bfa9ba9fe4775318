/-
  MemoCounts beside goroutines that only leave: a round in which main adds alone. Conditions: the element is at hand; what is held of the world at the loop's head.
-/
import Derived.Test.YtdkbkocklnnmdaaCounts1
set_option linter.unusedSimpArgs false
set_option linter.unusedVariables false
namespace Go.Proofs.Ytdkbkocklnnmdaa.counts
open Go Go.Conc Go.RowKit Go.ConcR.Gen Go.ConcN.Gen Go.Proofs.Ytdkbkocklnnmdaa.crew Go.Proofs.Ytdkbkocklnnmdaa.kid Go.Proofs.Ytdkbkocklnnmdaa.wg Go.Proofs.Ytdkbkocklnnmdaa.free
open Go.ConcX.Gen (setCell_at alloc_at)
open Go.ConcR (WgAt)

theorem x24 : (Try.f24.name == "runtime.NumGoroutine") = false := by kernel_rfl
section
variable {W0 w : World} {b off len cap i : Nat} {v n bv : Int} {Shun Lw : Loc → Prop} {x7 x45 x46 : Value} {J : Nat → Value}
theorem H7.set (h : H7 W0 v w) {v' : Int} (hv : I64 v') : H7 W0 v' (w.setCell ⟨W0.heap.size, 0, none⟩ (.int .i64 v')) := by
  refine ⟨h.only.set _ _ (.inl (Nat.le_refl _)), ?_, ?_, by simpa using h.size, hv⟩
  · have hc := h.cnt
    unfold CntAt at hc ⊢
    simp [World.setCell, Array.getElem?_modify, hc]
  · exact set_old h.dnt (by simp)

theorem tail_lit {a0 : Option Addr} {g : Goroutine} (hi : i < 30) (hH : H7 W0 v w) (hL : ∀ a : Addr, a.block < w.heap.size → Lw (.cell a))
    (hg : g = G ((base 7).at ⟨T7 a0 len cap W0.heap.size v i (g.frame.tmps.getD 7 undef) (g.frame.tmps.getD 45 undef) (g.frame.tmps.getD 46 undef) (fun k => g.frame.tmps.getD k undef), []⟩ [.code code20, .inBlock 1, .code code6, .inLoop loop7, .inBlock 0, .code tail7]) []) :
    ∀ y, Conc.AtRel w y → Goes Try.prog true Conc.AtRel (DF Shun Lw) (NextHead W0 a0 len cap v (i + 1) w.heap.size) 400 g y := by
  obtain ⟨x7, x45, x46, J, rfl⟩ : ∃ x7 x45 x46 J, g = G ((base 7).at ⟨T7 a0 len cap W0.heap.size v i x7 x45 x46 J, []⟩ [.code code20, .inBlock 1, .code code6, .inLoop loop7, .inBlock 0, .code tail7]) [] := ⟨_, _, _, _, hg⟩
  exact roundTail hi hH hL

set_option maxRecDepth 100000 in
set_option maxHeartbeats 16000000 in
theorem roundAdd (hi : i < 30) (hl : i < len) (hmax : len ≤ maxLen) (hb : b < W0.heap.size) (cN : w.cell? ⟨b, off + i * 2, none⟩ = some (.int .i64 n)) (cY : w.cell? ⟨b, off + i * 2 + 1, none⟩ = some (.int .i64 bv)) (hbv : I64 bv) (hn : n < 1)
    (hH : H7 W0 v w) (hS : S7 W0 w Shun Lw) :
    ∀ y, Conc.AtRel w y → Goes Try.prog true Conc.AtRel (DF Shun (Low w.heap.size)) (NextHead W0 (some ⟨b, off, none⟩) len cap (sat v bv) (i + 1) w.heap.size) 2000
      (G ((base 7).at ⟨T7 (some ⟨b, off, none⟩) len cap W0.heap.size v i x7 x45 x46 J, []⟩ [.code loop7, .inLoop loop7, .inBlock 0, .code tail7]) []) y := by
  intro y hF
  have hsz := hH.size
  have hMb : May Shun (Low w.heap.size) b := hS.may (by omega) (.inl (by omega)) (fun a ha => ⟨a, rfl, by omega⟩)
  have d1 : decide ((i : Int) < (len : Int)) = true := decide_eq_true (by omega)
  have d1n : decide (i < len) = true := decide_eq_true (by omega)
  have d2 : decide ((i : Int) < 30) = true := decide_eq_true (by omega)
  have d3 : decide ((100 : Int) < n) = false := decide_eq_false (by omega)
  have d4 : decide (n < 1) = true := decide_eq_true (by omega)
  have hlt : (i : Int) < (len : Int) := by omega
  have hi0 : (0 : Int) ≤ (i : Int) := by omega
  have hm : msum v bv = sat v bv := msum_sat hH.i64 hbv
  have h2 := hH.set (v' := sat v bv) sat_i64
  have hLs : Low w.heap.size (.cell ⟨W0.heap.size, 0, none⟩) := ⟨_, rfl, by simp; omega⟩
  have HH := Lib.hid hH; have HM := Lib.hid hm; have H2 := Lib.hid h2; have HL := Lib.hid hLs; have HI := Lib.hid hi; have HV := Lib.hid hbv; have HA := Lib.hid hmax
  clear hH hS hm h2 hLs hi hn hsz hbv hmax hl hb
  simp only [T7, loop7, body7, cL, cR, cB, Try.f7, Option.getD_some]
  u_c stepG_seq at_rely hF
  u_c stepG_seq at_rely hF
  u_reg at_rely hF
  u_op at_rely hF
  u_op at_rely hF
  u_op at_rely hF
  u_op at_rely hF
  u_op at_rely hF
  u_op at_rely hF
  u_op at_rely hF
  u_op at_rely hF
  u_c stepG_region_end at_rely hF
  u_cond true at_rely hF
  u_c stepG_skip at_rely hF
  u_c stepG_seq at_rely hF
  u_c stepG_block at_rely hF
  u_c stepG_seq at_rely hF
  u_reg at_rely hF
  u_op at_rely hF
  u_op at_rely hF
  u_op at_rely hF
  u_op at_rely hF
  u_in at_rely hF
  refine goes_oper_k rfl rfl (by k_ne) (fun K hK => ?_)
  have hcl := free.at_cell hF
  have hfz := free.at_frozen hF
  have hsz := free.at_size hF
  go_simp
  refine hK _ _ ⟨fun e he => ?_, ?_⟩
  · (have hm := mem_listed he; simp [go_sem, storedEv, *] at hm; try (subst hm; refine free.evS_may ?_ (Eq.refl _); assumption))
  clear hK K hcl hfz hsz
  u_op at_rely hF
  u_c stepG_region_end at_rely hF
  u_c stepG_seq at_rely hF
  u_c stepG_seq at_rely hF
  u_reg at_rely hF
  u_op at_rely hF
  u_op at_rely hF
  u_c stepG_region_end at_rely hF
  u_cond false at_rely hF
  u_c stepG_skip at_rely hF
  u_c stepG_seq at_rely hF
  u_c stepG_seq at_rely hF
  u_reg at_rely hF
  u_op at_rely hF
  u_op at_rely hF
  u_c stepG_region_end at_rely hF
  u_cond true at_rely hF
  u_c stepG_seq at_rely hF
  u_reg at_rely hF
  u_op at_rely hF
  u_op at_rely hF
  u_op at_rely hF
  u_op at_rely hF
  u_op at_rely hF
  u_in at_rely hF
  refine goes_oper_k rfl rfl (by k_ne) (fun K hK => ?_)
  have hcl := free.at_cell hF
  have hfz := free.at_frozen hF
  have hsz := free.at_size hF
  go_simp
  refine hK _ _ ⟨fun e he => ?_, ?_⟩
  · (have hm := mem_listed he; simp [go_sem, storedEv, *] at hm; try (subst hm; refine free.evS_may ?_ (Eq.refl _); assumption))
  clear hK K hcl hfz hsz
  u_in at_rely hF
  refine goes_call rfl rfl (by k_ne) rfl Try.func24 x24 rfl ⟨by u_nil, ?_⟩
  have hS := @lawSil Conc.AtRel (Conc.AtRel w) true
  simp only [Try.f24, Option.getD_some, Array.replicate_succ, Array.replicate_zero, List.push_toArray, List.append_toArray, List.nil_append, List.cons_append] at hS
  walk_nrmf Try.f24
  refine Goes.mono (crew.Goes.after (n := 1500) atRel_refl (fun g9 w9 h => ?_) (dmono df_of (hS at_rely HH.out.i64 HV.out _ hF))) (by omega)
  clear hS hF
  obtain ⟨rfl, hF⟩ := h
  walk_nrm
  u_op at_rely hF
  u_c stepG_region_end at_rely hF
  u_c stepG_seq at_rely hF
  u_reg at_rely hF
  u_op at_rely hF
  u_op at_rely hF
  u_op at_rely hF
  u_op at_rely hF
  u_op at_rely hF
  u_in at_rely hF
  refine goes_oper_k rfl rfl (by k_ne) (fun K hK => ?_)
  have hcl := free.at_cell hF
  have hfz := free.at_frozen hF
  have hsz := free.at_size hF
  go_simp
  refine hK _ _ ⟨fun e he => ?_, ?_⟩
  · (have hm := mem_listed he; simp [go_sem, storedEv, *] at hm; try (subst hm; refine free.evS_may ?_ (Eq.refl _); assumption))
  clear hK K hcl hfz hsz
  u_in at_rely hF
  refine goes_call rfl rfl (by k_ne) rfl Try.func25 x25f rfl ⟨by u_nil, ?_⟩
  have hA := @addC Shun (Low w.heap.size)
  simp only [Try.f25, Option.getD_some, Array.replicate_succ, Array.replicate_zero, List.push_toArray, List.append_toArray, List.nil_append, List.cons_append] at hA
  walk_nrmf Try.f25
  refine Goes.mono (hA (mT := 600) HH.out.cnt HL.out (fun y hF => ?_) _ hF) (by omega)
  clear hA
  simp only [HM.out] at hF ⊢
  have hs2 : (w.setCell ⟨W0.heap.size, 0, none⟩ (.int .i64 (sat v bv))).heap.size = w.heap.size := by simp
  have h2 := H2.out
  generalize w.setCell ⟨W0.heap.size, 0, none⟩ (.int .i64 (sat v bv)) = w2 at hF hs2 h2
  have K2 := Lib.hid h2; have KS := Lib.hid hs2; clear h2 hs2 H2
  generalize sat v bv = v2 at K2 ⊢
  walk_nrm
  u_op at_rely hF
  u_op at_rely hF
  u_c stepG_region_end at_rely hF
  u_cond false at_rely hF
  u_c stepG_skip at_rely hF
  refine Goes.mono (?_ : Goes _ _ _ _ _ 400 _ _) (by omega)
  rw [← KS.out]
  refine tail_lit HI.out K2.out (fun a ha => ⟨a, rfl, ha⟩) ?_ _ hF
  simp only [T7, code20, code6, loop7, tail7, body7, cL, cR, cB, Try.f7, Option.getD_some]
  rfl
end
end Go.Proofs.Ytdkbkocklnnmdaa.counts
