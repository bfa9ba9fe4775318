/-
  MemoCounts beside goroutines that only leave: the law's inner loop, which adds N times; a round in which many add at once, from the loop's head to Crowd's loop. Conditions: the element is at hand; what is held of the world at the loop's head.
-/
import Derived.Test.YtdkbkocklnnmdaaCounts3
set_option linter.unusedSimpArgs false
set_option linter.unusedVariables false
namespace Go.Proofs.Ytdkbkocklnnmdaa.counts
open Go Go.Conc Go.RowKit Go.ConcR.Gen Go.ConcN.Gen Go.Proofs.Ytdkbkocklnnmdaa.crew Go.Proofs.Ytdkbkocklnnmdaa.kid Go.Proofs.Ytdkbkocklnnmdaa.wg Go.Proofs.Ytdkbkocklnnmdaa.free
open Go.ConcX.Gen (setCell_at alloc_at)
open Go.ConcR (WgAt)

section
variable {W0 w : World} {b off len cap i N s : Nat} {v n bv : Int} {Shun Lw : Loc → Prop} {St : Goroutine → World → Prop} {x7 x45 x46 : Value} {J : Nat → Value} {mT : Nat}

set_option maxRecDepth 100000 in
set_option maxHeartbeats 16000000 in
theorem innerLoop (hl : i < len) (hmax : len ≤ maxLen) (cY : w.cell? ⟨b, off + i * 2 + 1, none⟩ = some (.int .i64 bv)) (hbv : I64 bv) (hv : I64 v) (hN : N ≤ 100) (hMb : May Shun Lw b)
    (hT : ∀ x45 x46 J y, Conc.AtRel w y → Goes Try.prog true Conc.AtRel (DF Shun Lw) St mT (G ((base 7).at ⟨T7 (some ⟨b, off, none⟩) len cap s (satn v bv N) i (.int .i64 N) x45 x46 J, []⟩ [.code code18, .code code20, .inBlock 1, .code code6, .inLoop loop7, .inBlock 0, .code tail7]) []) y) :
    ∀ (r j : Nat), j + r = N → ∀ J y, Conc.AtRel w y → Goes Try.prog true Conc.AtRel (DF Shun Lw) St (mT + 30 + 150 * r)
      (G ((base 7).at ⟨T7 (some ⟨b, off, none⟩) len cap s (satn v bv j) i (.int .i64 N) (.int .i64 N) (.int .i64 j) J, []⟩ [.code loop2, .inLoop loop2, .inBlock 2, .code code18, .code code20, .inBlock 1, .code code6, .inLoop loop7, .inBlock 0, .code tail7]) []) y := by
  have hlt : (i : Int) < (len : Int) := by omega
  have hi0 : (0 : Int) ≤ (i : Int) := by omega
  have HV := Lib.hid hbv; have HW := Lib.hid hv; have HN := Lib.hid hN; have HT := Lib.hid hT
  clear hl hmax hbv hv hN hT
  intro r
  induction r with
  | zero =>
    intro j hj J y hF
    obtain rfl : j = N := by omega
    have d1 : decide ((j : Int) < (j : Int)) = false := decide_eq_false (by omega)
    have hA := HT.out (.int .i64 j) (.int .i64 j)
    have hlit : ∀ (g : Goroutine), g = G ((base 7).at ⟨T7 (some ⟨b, off, none⟩) len cap s (satn v bv j) i (.int .i64 j) (.int .i64 j) (.int .i64 j) (fun k => g.frame.tmps.getD k undef), []⟩ [.code code18, .code code20, .inBlock 1, .code code6, .inLoop loop7, .inBlock 0, .code tail7]) [] →
        ∀ y, Conc.AtRel w y → Goes Try.prog true Conc.AtRel (DF Shun Lw) St mT g y := fun g hg => by
      obtain ⟨J, rfl⟩ : ∃ J, g = G ((base 7).at ⟨T7 (some ⟨b, off, none⟩) len cap s (satn v bv j) i (.int .i64 j) (.int .i64 j) (.int .i64 j) J, []⟩ [.code code18, .code code20, .inBlock 1, .code code6, .inLoop loop7, .inBlock 0, .code tail7]) [] := ⟨_, hg⟩
      exact hA J
    have HL := Lib.hid hlit; clear hlit hA
    generalize satn v bv j = v2 at HL ⊢
    simp only [T7, loop2, codeE, cE, loop7, body7, cL, cR, cB, Try.f7, Option.getD_some]
    u_c stepG_seq at_rely hF
    u_reg at_rely hF
    u_op at_rely hF
    u_c stepG_region_end at_rely hF
    u_c stepG_seq at_rely hF
    first | u_cond false at_rely hF | u_cnd false at_rely hF
    u_exit at_rely hF
    refine Goes.mono (?_ : Goes _ _ _ _ _ mT _ _) (by omega)
    refine HL.out _ ?_ _ hF
    simp only [T7, code18, codeE, cE, code20, code6, loop7, tail7, body7, cL, cR, cB, Try.f7, Option.getD_some]
    rfl
  | succ r ih =>
    intro j hj J y hF
    have hN := HN.out
    have d1 : decide ((j : Int) < (N : Int)) = true := decide_eq_true (by omega)
    have d1n : decide (j < N) = true := decide_eq_true (by omega)
    have ew : IntKind.i64.wrap ((j : Int) + 1) = (j : Int) + 1 := by rw [IntKind.wrap_i64]; omega
    have ec : ((j + 1 : Nat) : Int) = (j : Int) + 1 := by omega
    have e5 : satn v bv (j + 1) = sat (satn v bv j) bv := rfl
    have hs5 := satn_i64 (bv := bv) HW.out j
    have hlit : ∀ (g : Goroutine), g = G ((base 7).at ⟨T7 (some ⟨b, off, none⟩) len cap s (sat (satn v bv j) bv) i (.int .i64 N) (.int .i64 N) (.int .i64 ((j : Int) + 1)) (fun k => g.frame.tmps.getD k undef), []⟩ [.code loop2, .inLoop loop2, .inBlock 2, .code code18, .code code20, .inBlock 1, .code code6, .inLoop loop7, .inBlock 0, .code tail7]) [] →
        ∀ y, Conc.AtRel w y → Goes Try.prog true Conc.AtRel (DF Shun Lw) St (mT + 30 + 150 * r) g y := fun g hg => by
      obtain ⟨J, rfl⟩ : ∃ J, g = G ((base 7).at ⟨T7 (some ⟨b, off, none⟩) len cap s (sat (satn v bv j) bv) i (.int .i64 N) (.int .i64 N) (.int .i64 ((j : Int) + 1)) J, []⟩ [.code loop2, .inLoop loop2, .inBlock 2, .code code18, .code code20, .inBlock 1, .code code6, .inLoop loop7, .inBlock 0, .code tail7]) [] := ⟨_, hg⟩
      have := ih (j + 1) (by omega) J
      rw [e5, ec] at this
      exact this
    have HL := Lib.hid hlit; clear hlit ih hN e5 ec
    generalize satn v bv j = v2 at HL hs5 ⊢
    have HS5 := Lib.hid hs5; clear hs5
    simp only [T7, loop2, codeE, cE, loop7, body7, cL, cR, cB, Try.f7, Option.getD_some]
    refine Goes.mono (?_ : Goes _ _ _ _ _ (mT + 30 + 150 * r + 150) _ _) (by omega)
    u_c stepG_seq at_rely hF
    u_reg at_rely hF
    u_op at_rely hF
    u_c stepG_region_end at_rely hF
    u_c stepG_seq at_rely hF
    u_cond true at_rely hF
    u_c stepG_skip at_rely hF
    u_c stepG_seq at_rely hF
    u_c stepG_block at_rely hF
    u_reg at_rely hF
    u_op at_rely hF
    u_op at_rely hF
    u_op at_rely hF
    u_op at_rely hF
    u_op at_rely hF
    u_in at_rely hF
    refine goes_oper_k rfl rfl (by k_ne) (fun K hK => ?_)
    have hcl := free.at_cell hF
    have hfz := free.at_frozen hF
    have hsz := free.at_size hF
    go_simp
    refine hK _ _ ⟨fun e he => ?_, ?_⟩
    · (have hm := mem_listed he; simp [go_sem, storedEv, *] at hm; try (subst hm; refine free.evS_may ?_ (Eq.refl _); assumption))
    clear hK K hcl hfz hsz
    u_in at_rely hF
    refine goes_call rfl rfl (by k_ne) rfl Try.func24 x24 rfl ⟨by u_nil, ?_⟩
    have hS := @lawSil Conc.AtRel (Conc.AtRel w) true
    simp only [Try.f24, Option.getD_some, Array.replicate_succ, Array.replicate_zero, List.push_toArray, List.append_toArray, List.nil_append, List.cons_append] at hS
    walk_nrmf Try.f24
    refine Goes.mono (crew.Goes.after (n := mT + 30 + 150 * r + 40) atRel_refl (fun g9 w9 h => ?_) (dmono df_of (hS at_rely HS5.out HV.out _ hF))) (by omega)
    clear hS hF
    obtain ⟨rfl, hF⟩ := h
    generalize sat v2 bv = v3 at HL ⊢
    walk_nrm
    u_op at_rely hF
    u_c stepG_region_end at_rely hF
    u_c stepG_inBlock at_rely hF
    u_reg at_rely hF
    u_op at_rely hF
    u_op at_rely hF
    u_c stepG_region_end at_rely hF
    u_c stepG_inLoop at_rely hF
    refine Goes.mono (?_ : Goes _ _ _ _ _ (mT + 30 + 150 * r) _ _) (by omega)
    refine HL.out _ ?_ _ hF
    simp only [T7, loop2, code18, codeE, cE, code20, code6, loop7, tail7, body7, cL, cR, cB, Try.f7, Option.getD_some]
    rfl
end
end Go.Proofs.Ytdkbkocklnnmdaa.counts
