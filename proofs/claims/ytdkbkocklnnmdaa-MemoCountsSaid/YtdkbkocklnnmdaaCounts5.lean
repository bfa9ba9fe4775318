/-
  MemoCounts beside goroutines that only leave: a round in which many add at once, from the loop's head to Crowd's loop. Conditions: the element is at hand; what is held of the world at the loop's head.
-/
import Derived.Test.YtdkbkocklnnmdaaCounts4
set_option linter.unusedSimpArgs false
set_option linter.unusedVariables false
namespace Go.Proofs.Ytdkbkocklnnmdaa.counts
open Go Go.Conc Go.RowKit Go.ConcR.Gen Go.ConcN.Gen Go.Proofs.Ytdkbkocklnnmdaa.crew Go.Proofs.Ytdkbkocklnnmdaa.kid Go.Proofs.Ytdkbkocklnnmdaa.wg Go.Proofs.Ytdkbkocklnnmdaa.free
open Go.ConcX.Gen (setCell_at alloc_at)
open Go.ConcR (WgAt)

section
variable {W0 w : World} {b off len cap i N s : Nat} {v n bv : Int} {Shun Lw : Loc → Prop} {St : Goroutine → World → Prop} {x7 x45 x46 : Value} {J : Nat → Value} {mT : Nat}

set_option maxRecDepth 100000 in
set_option maxHeartbeats 16000000 in
theorem roundCrowd (hi : i < 30) (hl : i < len) (hmax : len ≤ maxLen) (hb : b < W0.heap.size) (cN : w.cell? ⟨b, off + i * 2, none⟩ = some (.int .i64 n)) (cY : w.cell? ⟨b, off + i * 2 + 1, none⟩ = some (.int .i64 bv)) (hbv : I64 bv) (hn : 1 ≤ n)
    (hN : (N : Int) = if 100 < n then 100 else n) (hH : H7 W0 v w) (hS : S7 W0 w Shun Lw) :
    ∀ y, Conc.AtRel w y → Goes Try.prog true Conc.AtRel (DF Shun (Low (w.heap.size + 2))) (Fz Shun (Low (w.heap.size + 2)) (StopC W0 w b off len cap v bv i N Shun) 0) 20000
      (G ((base 7).at ⟨T7 (some ⟨b, off, none⟩) len cap W0.heap.size v i x7 x45 x46 J, []⟩ [.code loop7, .inLoop loop7, .inBlock 0, .code tail7]) []) y := by
  intro y hF
  have hsz := hH.size
  have hMb : May Shun (Low (w.heap.size + 2)) b := hS.may (by omega) (.inl (by omega)) (fun a ha => ⟨a, rfl, by omega⟩)
  have hN1 : 1 ≤ N ∧ N ≤ 100 := by split at hN <;> omega
  have hI := innerLoop (s := W0.heap.size) (cap := cap) hl hmax cY hbv hH.i64 hN1.2 hMb (fun x45 x46 J => crowdPart (x45 := x45) (x46 := x46) (J := J) (cap := cap) hi hl hmax hb cY hbv hN1.1 hN1.2 hH hS) N 0 (by omega)
  have hlit : ∀ (g : Goroutine), g = G ((base 7).at ⟨T7 (some ⟨b, off, none⟩) len cap W0.heap.size v i (.int .i64 N) (.int .i64 N) (.int .i64 0) (fun k => g.frame.tmps.getD k undef), []⟩ [.code loop2, .inLoop loop2, .inBlock 2, .code code18, .code code20, .inBlock 1, .code code6, .inLoop loop7, .inBlock 0, .code tail7]) [] →
      ∀ y, Conc.AtRel w y → Goes Try.prog true Conc.AtRel (DF Shun (Low (w.heap.size + 2))) (Fz Shun (Low (w.heap.size + 2)) (StopC W0 w b off len cap v bv i N Shun) 0) (600 + 30 + 150 * N) g y := fun g hg => by
    obtain ⟨J, rfl⟩ : ∃ J, g = G ((base 7).at ⟨T7 (some ⟨b, off, none⟩) len cap W0.heap.size v i (.int .i64 N) (.int .i64 N) (.int .i64 0) J, []⟩ [.code loop2, .inLoop loop2, .inBlock 2, .code code18, .code code20, .inBlock 1, .code code6, .inLoop loop7, .inBlock 0, .code tail7]) [] := ⟨_, hg⟩
    exact hI J
  have d1 : decide ((i : Int) < (len : Int)) = true := decide_eq_true (by omega)
  have d1n : decide (i < len) = true := decide_eq_true (by omega)
  have d2 : decide ((i : Int) < 30) = true := decide_eq_true (by omega)
  have hlt : (i : Int) < (len : Int) := by omega
  have hi0 : (0 : Int) ≤ (i : Int) := by omega
  have HL := Lib.hid hlit; have HN1 := Lib.hid hN1
  clear hlit hI hH hS hi hsz hbv hmax hl hb hN1
  rcases Int.lt_or_le 100 n with hc | hc
  · have d3 : decide ((100 : Int) < n) = true := decide_eq_true hc
    have hN' : N = 100 := by rw [if_pos hc] at hN; omega
    subst hN'
    clear hc hN hn
    simp only [T7, loop7, body7, cL, cR, cB, Try.f7, Option.getD_some]
    u_c stepG_seq at_rely hF
    u_c stepG_seq at_rely hF
    u_reg at_rely hF
    u_op at_rely hF
    u_op at_rely hF
    u_op at_rely hF
    u_op at_rely hF
    u_op at_rely hF
    u_op at_rely hF
    u_op at_rely hF
    u_op at_rely hF
    u_c stepG_region_end at_rely hF
    u_cond true at_rely hF
    u_c stepG_skip at_rely hF
    u_c stepG_seq at_rely hF
    u_c stepG_block at_rely hF
    u_c stepG_seq at_rely hF
    u_reg at_rely hF
    u_op at_rely hF
    u_op at_rely hF
    u_op at_rely hF
    u_op at_rely hF
    u_in at_rely hF
    refine goes_oper_k rfl rfl (by k_ne) (fun K hK => ?_)
    have hcl := free.at_cell hF
    have hfz := free.at_frozen hF
    have hsz := free.at_size hF
    go_simp
    refine hK _ _ ⟨fun e he => ?_, ?_⟩
    · (have hm := mem_listed he; simp [go_sem, storedEv, *] at hm; try (subst hm; refine free.evS_may ?_ (Eq.refl _); assumption))
    clear hK K hcl hfz hsz
    u_op at_rely hF
    u_c stepG_region_end at_rely hF
    u_c stepG_seq at_rely hF
    u_c stepG_seq at_rely hF
    u_reg at_rely hF
    u_op at_rely hF
    u_op at_rely hF
    u_c stepG_region_end at_rely hF
    u_cond true at_rely hF
    u_reg at_rely hF
    u_op at_rely hF
    u_c stepG_region_end at_rely hF
    u_c stepG_seq at_rely hF
    u_c stepG_seq at_rely hF
    u_reg at_rely hF
    u_op at_rely hF
    u_op at_rely hF
    u_c stepG_region_end at_rely hF
    u_cond false at_rely hF
    u_c stepG_seq at_rely hF
    u_c stepG_seq at_rely hF
    u_reg at_rely hF
    u_op at_rely hF
    u_op at_rely hF
    u_c stepG_region_end at_rely hF
    u_c stepG_block at_rely hF
    u_c stepG_loop at_rely hF
    refine Goes.mono (?_ : Goes _ _ _ _ _ (600 + 30 + 150 * 100) _ _) (by omega)
    refine HL.out _ ?_ _ hF
    simp only [T7, loop2, code18, codeE, cE, code20, code6, loop7, tail7, body7, cL, cR, cB, Try.f7, Option.getD_some]
    rfl
  · have hN' : n = (N : Int) := by rw [if_neg (by omega)] at hN; omega
    subst hN'
    have d3 : decide ((100 : Int) < (N : Int)) = false := decide_eq_false (by omega)
    have d3n : decide (100 < N) = false := decide_eq_false (by omega)
    have d4 : decide ((N : Int) < 1) = false := decide_eq_false (by omega)
    have d4n : decide (N < 1) = false := decide_eq_false (by omega)
    clear hc hN hn
    simp only [T7, loop7, body7, cL, cR, cB, Try.f7, Option.getD_some]
    u_c stepG_seq at_rely hF
    u_c stepG_seq at_rely hF
    u_reg at_rely hF
    u_op at_rely hF
    u_op at_rely hF
    u_op at_rely hF
    u_op at_rely hF
    u_op at_rely hF
    u_op at_rely hF
    u_op at_rely hF
    u_op at_rely hF
    u_c stepG_region_end at_rely hF
    u_cond true at_rely hF
    u_c stepG_skip at_rely hF
    u_c stepG_seq at_rely hF
    u_c stepG_block at_rely hF
    u_c stepG_seq at_rely hF
    u_reg at_rely hF
    u_op at_rely hF
    u_op at_rely hF
    u_op at_rely hF
    u_op at_rely hF
    u_in at_rely hF
    refine goes_oper_k rfl rfl (by k_ne) (fun K hK => ?_)
    have hcl := free.at_cell hF
    have hfz := free.at_frozen hF
    have hsz := free.at_size hF
    go_simp
    refine hK _ _ ⟨fun e he => ?_, ?_⟩
    · (have hm := mem_listed he; simp [go_sem, storedEv, *] at hm; try (subst hm; refine free.evS_may ?_ (Eq.refl _); assumption))
    clear hK K hcl hfz hsz
    u_op at_rely hF
    u_c stepG_region_end at_rely hF
    u_c stepG_seq at_rely hF
    u_c stepG_seq at_rely hF
    u_reg at_rely hF
    u_op at_rely hF
    u_op at_rely hF
    u_c stepG_region_end at_rely hF
    u_cond false at_rely hF
    u_c stepG_skip at_rely hF
    u_c stepG_seq at_rely hF
    u_c stepG_seq at_rely hF
    u_reg at_rely hF
    u_op at_rely hF
    u_op at_rely hF
    u_c stepG_region_end at_rely hF
    u_cond false at_rely hF
    u_c stepG_seq at_rely hF
    u_c stepG_seq at_rely hF
    u_reg at_rely hF
    u_op at_rely hF
    u_op at_rely hF
    u_c stepG_region_end at_rely hF
    u_c stepG_block at_rely hF
    u_c stepG_loop at_rely hF
    have hN2 := HN1.out.2
    refine Goes.mono (?_ : Goes _ _ _ _ _ (600 + 30 + 150 * N) _ _) (by omega)
    refine HL.out _ ?_ _ hF
    simp only [T7, loop2, code18, codeE, cE, code20, code6, loop7, tail7, body7, cL, cR, cB, Try.f7, Option.getD_some]
    rfl
end
end Go.Proofs.Ytdkbkocklnnmdaa.counts
