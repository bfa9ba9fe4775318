/-
  memo.sum and the law's own sum: silent walks, for whichever goroutine, in whatever company; both come to the sum that stays at the ends. Conditions: what is held of the world outlives the others' doing; the operands are int64s.
-/
import Derived.Test.YtdkbkocklnnmdaaEv
import Derived.Test.YtdkbkocklnnmdaaWgLink
import Derived.Conc.BesideWords
set_option linter.unusedSimpArgs false
set_option linter.unusedVariables false
namespace Go.Proofs.Ytdkbkocklnnmdaa.kid
open Go Go.Conc Go.RowKit Go.ConcR.Gen Go.ConcN.Gen Go.Proofs.Ytdkbkocklnnmdaa.wg
open Go.ConcR (DC0)

def I64 (x : Int) : Prop := -9223372036854775808 ≤ x ∧ x ≤ 9223372036854775807
/-- A sum that stays at the ends. -/
def sat (a b : Int) : Int := if a + b < -9223372036854775808 then -9223372036854775808 else if 9223372036854775807 < a + b then 9223372036854775807 else a + b
/-- What memo.sum's text says. -/
def msum (a b : Int) : Int := if (decide (a < 0) != decide (b < 0)) || (decide (IntKind.i64.wrap (a + b) < 0) == decide (a < 0)) then IntKind.i64.wrap (a + b) else if decide (a < 0) then -9223372036854775808 else 9223372036854775807
theorem msum_sat {a b : Int} (ha : I64 a) (hb : I64 b) : msum a b = sat a b := by
  have hw := IntKind.wrap_i64 (a + b)
  unfold msum sat I64 at *
  generalize IntKind.i64.wrap (a + b) = s at *
  rcases hp : decide (a < 0) with _ | _ <;> rcases hq : decide (b < 0) with _ | _ <;> rcases hr : decide (s < 0) with _ | _ <;> simp only [decide_eq_true_eq, decide_eq_false_iff_not] at hp hq hr <;> simp <;> (split <;> (try split) <;> omega)
theorem sat_i64 {a b : Int} : I64 (sat a b) := by unfold sat I64; split <;> (try split) <;> omega

theorem ev_eql_bool (a b : Bool) (w : World) (es : Array Event) : (binOp .eql 4 (.bool a) (.bool b)).events Try.prog w es = es := by
  unfold binOp Op.equal Op.maxDepth Op.equalIn; simp [go_sem, run_underlying Try.underlying4, Result.evThen]
theorem ev_neq_bool (a b : Bool) (w : World) (es : Array Event) : (binOp .neq 4 (.bool a) (.bool b)).events Try.prog w es = es := by
  unfold binOp Op.equal Op.maxDepth Op.equalIn; simp [go_sem, run_underlying Try.underlying4, Result.evThen]
theorem run_neq_bool (a b : Bool) (w : World) : (binOp .neq 4 (.bool a) (.bool b)).run Try.prog w = .ok (.bool (a != b)) w := by
  unfold binOp Op.equal Op.maxDepth Op.equalIn; simp [go_sem, run_underlying Try.underlying4]; cases a <;> cases b <;> rfl

section
variable {R : World → World → Prop} {F : World → Prop} {main : Bool} {b₀ : Frame} {a₀ : Act} {ops₀ : Array Oper} {i₀ : Nat} {rest₀ : List Nat} {k₀ : List Item} {cs : List Frame}
set_option maxRecDepth 100000 in
set_option maxHeartbeats 16000000 in
theorem sumSil (hFr : ∀ {w w₁ : World}, F w → R w w₁ → F w₁) {a b : Int} (w : World) (hF : F w) :
    Goes Try.prog main R DC0 (fun g w' => g = G (b₀.at (a₀.put ((ops₀[i₀]?).bind (·.dst)) (.int .i64 (msum a b))) (.inRegion ops₀ rest₀ :: k₀)) cs ∧ F w') 60
      (G ((base 48).at { tmps := #[.int .i64 a, .int .i64 b] ++ Array.replicate 22 undef, defers := [] } [.code (Try.f48.body.getD .skip)]) (b₀.at a₀ (.inRegion ops₀ (i₀ :: rest₀) :: k₀) :: cs)) w := by
  have hb1 := ev_eql_bool
  have hb2 := ev_neq_bool
  have hb3 := run_neq_bool
  simp only [Try.f48, Option.getD_some]
  walk_nrm
  obtain ⟨s, hs⟩ : ∃ s : Int, IntKind.i64.wrap (a + b) = s := ⟨_, rfl⟩
  rcases hp : decide (a < 0) with _ | _ <;> rcases hq : decide (b < 0) with _ | _ <;> rcases hr : decide (s < 0) with _ | _ <;> simp only [decide_eq_true_eq, decide_eq_false_iff_not] at hp hq hr
  · have dp : decide (a < 0) = false := decide_eq_false (show ¬ a < 0 by omega)
    have dq : decide (b < 0) = false := decide_eq_false (show ¬ b < 0 by omega)
    have dr : decide (s < 0) = false := decide_eq_false (show ¬ s < 0 by omega)
    have hres : msum a b = s := by unfold msum; rw [hs, dp, dq, dr]; rfl
    rw [hres]
    clear hres hp hq hr
    u_c stepG_seq hFr hF
    u_reg hFr hF
    u_op hFr hF
    u_c stepG_region_end hFr hF
    u_c stepG_seq hFr hF
    u_c stepG_seq hFr hF
    u_reg hFr hF
    u_op hFr hF
    u_op hFr hF
    u_op hFr hF
    u_op hFr hF
    u_c stepG_region_end hFr hF
    u_c stepG_seq hFr hF
    u_reg hFr hF
    u_op hFr hF
    u_op hFr hF
    u_op hFr hF
    u_op hFr hF
    u_op hFr hF
    u_op hFr hF
    u_op hFr hF
    u_op hFr hF
    u_op hFr hF
    u_op hFr hF
    u_op hFr hF
    u_op hFr hF
    u_c stepG_region_end hFr hF
    u_cond true hFr hF
    u_c stepG_seq hFr hF
    u_reg hFr hF
    u_op hFr hF
    u_op hFr hF
    u_c stepG_region_end hFr hF
    u_c stepG_ret' hFr hF
    u_leave1 Try.func48 hFr hF
    exact Goes.stop fun w₁ h₁ => ⟨rfl, hFr hF h₁⟩
  · have dp : decide (a < 0) = false := decide_eq_false (show ¬ a < 0 by omega)
    have dq : decide (b < 0) = false := decide_eq_false (show ¬ b < 0 by omega)
    have dr : decide (s < 0) = true := decide_eq_true (show s < 0 by omega)
    have hres : msum a b = 9223372036854775807 := by unfold msum; rw [hs, dp, dq, dr]; rfl
    rw [hres]
    clear hres hp hq hr
    u_c stepG_seq hFr hF
    u_reg hFr hF
    u_op hFr hF
    u_c stepG_region_end hFr hF
    u_c stepG_seq hFr hF
    u_c stepG_seq hFr hF
    u_reg hFr hF
    u_op hFr hF
    u_op hFr hF
    u_op hFr hF
    u_op hFr hF
    u_c stepG_region_end hFr hF
    u_c stepG_seq hFr hF
    u_reg hFr hF
    u_op hFr hF
    u_op hFr hF
    u_op hFr hF
    u_op hFr hF
    u_op hFr hF
    u_op hFr hF
    u_op hFr hF
    u_op hFr hF
    u_op hFr hF
    u_op hFr hF
    u_op hFr hF
    u_op hFr hF
    u_c stepG_region_end hFr hF
    u_cond false hFr hF
    u_c stepG_skip hFr hF
    u_c stepG_seq hFr hF
    u_c stepG_seq hFr hF
    u_reg hFr hF
    u_op hFr hF
    u_op hFr hF
    u_c stepG_region_end hFr hF
    u_cond false hFr hF
    u_c stepG_skip hFr hF
    u_c stepG_seq hFr hF
    u_reg hFr hF
    u_op hFr hF
    u_c stepG_region_end hFr hF
    u_c stepG_ret' hFr hF
    u_leave1 Try.func48 hFr hF
    exact Goes.stop fun w₁ h₁ => ⟨rfl, hFr hF h₁⟩
  · have dp : decide (a < 0) = false := decide_eq_false (show ¬ a < 0 by omega)
    have dq : decide (b < 0) = true := decide_eq_true (show b < 0 by omega)
    have dr : decide (s < 0) = false := decide_eq_false (show ¬ s < 0 by omega)
    have hres : msum a b = s := by unfold msum; rw [hs, dp, dq, dr]; rfl
    rw [hres]
    clear hres hp hq hr
    u_c stepG_seq hFr hF
    u_reg hFr hF
    u_op hFr hF
    u_c stepG_region_end hFr hF
    u_c stepG_seq hFr hF
    u_c stepG_seq hFr hF
    u_reg hFr hF
    u_op hFr hF
    u_op hFr hF
    u_op hFr hF
    u_op hFr hF
    u_c stepG_region_end hFr hF
    u_c stepG_seq hFr hF
    u_reg hFr hF
    u_op hFr hF
    u_op hFr hF
    u_op hFr hF
    u_op hFr hF
    u_op hFr hF
    u_op hFr hF
    u_skip hFr hF
    u_skip hFr hF
    u_skip hFr hF
    u_skip hFr hF
    u_skip hFr hF
    u_op hFr hF
    u_c stepG_region_end hFr hF
    u_cond true hFr hF
    u_c stepG_seq hFr hF
    u_reg hFr hF
    u_op hFr hF
    u_op hFr hF
    u_c stepG_region_end hFr hF
    u_c stepG_ret' hFr hF
    u_leave1 Try.func48 hFr hF
    exact Goes.stop fun w₁ h₁ => ⟨rfl, hFr hF h₁⟩
  · have dp : decide (a < 0) = false := decide_eq_false (show ¬ a < 0 by omega)
    have dq : decide (b < 0) = true := decide_eq_true (show b < 0 by omega)
    have dr : decide (s < 0) = true := decide_eq_true (show s < 0 by omega)
    have hres : msum a b = s := by unfold msum; rw [hs, dp, dq, dr]; rfl
    rw [hres]
    clear hres hp hq hr
    u_c stepG_seq hFr hF
    u_reg hFr hF
    u_op hFr hF
    u_c stepG_region_end hFr hF
    u_c stepG_seq hFr hF
    u_c stepG_seq hFr hF
    u_reg hFr hF
    u_op hFr hF
    u_op hFr hF
    u_op hFr hF
    u_op hFr hF
    u_c stepG_region_end hFr hF
    u_c stepG_seq hFr hF
    u_reg hFr hF
    u_op hFr hF
    u_op hFr hF
    u_op hFr hF
    u_op hFr hF
    u_op hFr hF
    u_op hFr hF
    u_skip hFr hF
    u_skip hFr hF
    u_skip hFr hF
    u_skip hFr hF
    u_skip hFr hF
    u_op hFr hF
    u_c stepG_region_end hFr hF
    u_cond true hFr hF
    u_c stepG_seq hFr hF
    u_reg hFr hF
    u_op hFr hF
    u_op hFr hF
    u_c stepG_region_end hFr hF
    u_c stepG_ret' hFr hF
    u_leave1 Try.func48 hFr hF
    exact Goes.stop fun w₁ h₁ => ⟨rfl, hFr hF h₁⟩
  · have dp : decide (a < 0) = true := decide_eq_true (show a < 0 by omega)
    have dq : decide (b < 0) = false := decide_eq_false (show ¬ b < 0 by omega)
    have dr : decide (s < 0) = false := decide_eq_false (show ¬ s < 0 by omega)
    have hres : msum a b = s := by unfold msum; rw [hs, dp, dq, dr]; rfl
    rw [hres]
    clear hres hp hq hr
    u_c stepG_seq hFr hF
    u_reg hFr hF
    u_op hFr hF
    u_c stepG_region_end hFr hF
    u_c stepG_seq hFr hF
    u_c stepG_seq hFr hF
    u_reg hFr hF
    u_op hFr hF
    u_op hFr hF
    u_op hFr hF
    u_op hFr hF
    u_c stepG_region_end hFr hF
    u_c stepG_seq hFr hF
    u_reg hFr hF
    u_op hFr hF
    u_op hFr hF
    u_op hFr hF
    u_op hFr hF
    u_op hFr hF
    u_op hFr hF
    u_skip hFr hF
    u_skip hFr hF
    u_skip hFr hF
    u_skip hFr hF
    u_skip hFr hF
    u_op hFr hF
    u_c stepG_region_end hFr hF
    u_cond true hFr hF
    u_c stepG_seq hFr hF
    u_reg hFr hF
    u_op hFr hF
    u_op hFr hF
    u_c stepG_region_end hFr hF
    u_c stepG_ret' hFr hF
    u_leave1 Try.func48 hFr hF
    exact Goes.stop fun w₁ h₁ => ⟨rfl, hFr hF h₁⟩
  · have dp : decide (a < 0) = true := decide_eq_true (show a < 0 by omega)
    have dq : decide (b < 0) = false := decide_eq_false (show ¬ b < 0 by omega)
    have dr : decide (s < 0) = true := decide_eq_true (show s < 0 by omega)
    have hres : msum a b = s := by unfold msum; rw [hs, dp, dq, dr]; rfl
    rw [hres]
    clear hres hp hq hr
    u_c stepG_seq hFr hF
    u_reg hFr hF
    u_op hFr hF
    u_c stepG_region_end hFr hF
    u_c stepG_seq hFr hF
    u_c stepG_seq hFr hF
    u_reg hFr hF
    u_op hFr hF
    u_op hFr hF
    u_op hFr hF
    u_op hFr hF
    u_c stepG_region_end hFr hF
    u_c stepG_seq hFr hF
    u_reg hFr hF
    u_op hFr hF
    u_op hFr hF
    u_op hFr hF
    u_op hFr hF
    u_op hFr hF
    u_op hFr hF
    u_skip hFr hF
    u_skip hFr hF
    u_skip hFr hF
    u_skip hFr hF
    u_skip hFr hF
    u_op hFr hF
    u_c stepG_region_end hFr hF
    u_cond true hFr hF
    u_c stepG_seq hFr hF
    u_reg hFr hF
    u_op hFr hF
    u_op hFr hF
    u_c stepG_region_end hFr hF
    u_c stepG_ret' hFr hF
    u_leave1 Try.func48 hFr hF
    exact Goes.stop fun w₁ h₁ => ⟨rfl, hFr hF h₁⟩
  · have dp : decide (a < 0) = true := decide_eq_true (show a < 0 by omega)
    have dq : decide (b < 0) = true := decide_eq_true (show b < 0 by omega)
    have dr : decide (s < 0) = false := decide_eq_false (show ¬ s < 0 by omega)
    have hres : msum a b = -9223372036854775808 := by unfold msum; rw [hs, dp, dq, dr]; rfl
    rw [hres]
    clear hres hp hq hr
    u_c stepG_seq hFr hF
    u_reg hFr hF
    u_op hFr hF
    u_c stepG_region_end hFr hF
    u_c stepG_seq hFr hF
    u_c stepG_seq hFr hF
    u_reg hFr hF
    u_op hFr hF
    u_op hFr hF
    u_op hFr hF
    u_op hFr hF
    u_c stepG_region_end hFr hF
    u_c stepG_seq hFr hF
    u_reg hFr hF
    u_op hFr hF
    u_op hFr hF
    u_op hFr hF
    u_op hFr hF
    u_op hFr hF
    u_op hFr hF
    u_op hFr hF
    u_op hFr hF
    u_op hFr hF
    u_op hFr hF
    u_op hFr hF
    u_op hFr hF
    u_c stepG_region_end hFr hF
    u_cond false hFr hF
    u_c stepG_skip hFr hF
    u_c stepG_seq hFr hF
    u_c stepG_seq hFr hF
    u_reg hFr hF
    u_op hFr hF
    u_op hFr hF
    u_c stepG_region_end hFr hF
    u_cond true hFr hF
    u_c stepG_seq hFr hF
    u_reg hFr hF
    u_op hFr hF
    u_c stepG_region_end hFr hF
    u_c stepG_ret' hFr hF
    u_leave1 Try.func48 hFr hF
    exact Goes.stop fun w₁ h₁ => ⟨rfl, hFr hF h₁⟩
  · have dp : decide (a < 0) = true := decide_eq_true (show a < 0 by omega)
    have dq : decide (b < 0) = true := decide_eq_true (show b < 0 by omega)
    have dr : decide (s < 0) = true := decide_eq_true (show s < 0 by omega)
    have hres : msum a b = s := by unfold msum; rw [hs, dp, dq, dr]; rfl
    rw [hres]
    clear hres hp hq hr
    u_c stepG_seq hFr hF
    u_reg hFr hF
    u_op hFr hF
    u_c stepG_region_end hFr hF
    u_c stepG_seq hFr hF
    u_c stepG_seq hFr hF
    u_reg hFr hF
    u_op hFr hF
    u_op hFr hF
    u_op hFr hF
    u_op hFr hF
    u_c stepG_region_end hFr hF
    u_c stepG_seq hFr hF
    u_reg hFr hF
    u_op hFr hF
    u_op hFr hF
    u_op hFr hF
    u_op hFr hF
    u_op hFr hF
    u_op hFr hF
    u_op hFr hF
    u_op hFr hF
    u_op hFr hF
    u_op hFr hF
    u_op hFr hF
    u_op hFr hF
    u_c stepG_region_end hFr hF
    u_cond true hFr hF
    u_c stepG_seq hFr hF
    u_reg hFr hF
    u_op hFr hF
    u_op hFr hF
    u_c stepG_region_end hFr hF
    u_c stepG_ret' hFr hF
    u_leave1 Try.func48 hFr hF
    exact Goes.stop fun w₁ h₁ => ⟨rfl, hFr hF h₁⟩

set_option maxRecDepth 100000 in
set_option maxHeartbeats 16000000 in
theorem lawSil (hFr : ∀ {w w₁ : World}, F w → R w w₁ → F w₁) {a b : Int} (ha : I64 a) (hb : I64 b) (w : World) (hF : F w) :
    Goes Try.prog main R DC0 (fun g w' => g = G (b₀.at (a₀.put ((ops₀[i₀]?).bind (·.dst)) (.int .i64 (sat a b))) (.inRegion ops₀ rest₀ :: k₀)) cs ∧ F w') 60
      (G ((base 24).at { tmps := #[.int .i64 a, .int .i64 b] ++ Array.replicate 22 undef, defers := [] } [.code (Try.f24.body.getD .skip)]) (b₀.at a₀ (.inRegion ops₀ (i₀ :: rest₀) :: k₀) :: cs)) w := by
  have hw := IntKind.wrap_i64 (a + b)
  have hx := IntKind.wrap_i64 (9223372036854775807 - b)
  have hy := IntKind.wrap_i64 (-9223372036854775808 - b)
  simp only [Try.f24, Option.getD_some]
  walk_nrm
  obtain ⟨s, hs⟩ : ∃ s : Int, IntKind.i64.wrap (a + b) = s := ⟨_, rfl⟩
  obtain ⟨x, hxs⟩ : ∃ s : Int, IntKind.i64.wrap (9223372036854775807 - b) = s := ⟨_, rfl⟩
  obtain ⟨y, hys⟩ : ∃ s : Int, IntKind.i64.wrap (-9223372036854775808 - b) = s := ⟨_, rfl⟩
  rw [hs] at hw
  rw [hxs] at hx
  rw [hys] at hy
  unfold I64 at ha hb
  rcases Int.lt_trichotomy b 0 with hb0 | hb0 | hb0
  · rcases Int.lt_or_le a y with hc | hc
    · have d1 : decide (0 < b) = false := decide_eq_false (by omega)
      have d2 : decide (b < 0) = true := decide_eq_true (by omega)
      have d3 : decide (a < y) = true := decide_eq_true (by omega)
      have hres : sat a b = -9223372036854775808 := by unfold sat; split <;> (try split) <;> omega
      rw [hres]
      clear hres hw hx hy ha hb hb0
      u_c stepG_seq hFr hF
      u_reg hFr hF
      u_op hFr hF
      u_c stepG_region_end hFr hF
      u_c stepG_seq hFr hF
      u_c stepG_seq hFr hF
      u_reg hFr hF
      u_op hFr hF
      u_op hFr hF
      u_op hFr hF
      u_skip hFr hF
      u_skip hFr hF
      u_skip hFr hF
      u_skip hFr hF
      u_op hFr hF
      u_c stepG_region_end hFr hF
      u_cond false hFr hF
      u_c stepG_skip hFr hF
      u_c stepG_seq hFr hF
      u_c stepG_seq hFr hF
      u_reg hFr hF
      u_op hFr hF
      u_op hFr hF
      u_op hFr hF
      u_op hFr hF
      u_op hFr hF
      u_op hFr hF
      u_op hFr hF
      u_op hFr hF
      u_c stepG_region_end hFr hF
      u_cond true hFr hF
      u_c stepG_seq hFr hF
      u_reg hFr hF
      u_op hFr hF
      u_c stepG_region_end hFr hF
      u_c stepG_ret' hFr hF
      u_leave1 Try.func24 hFr hF
      exact Goes.stop fun w₁ h₁ => ⟨rfl, hFr hF h₁⟩
    · have d1 : decide (0 < b) = false := decide_eq_false (by omega)
      have d2 : decide (b < 0) = true := decide_eq_true (by omega)
      have d3 : decide (a < y) = false := decide_eq_false (by omega)
      have hres : sat a b = s := by unfold sat; split <;> (try split) <;> omega
      rw [hres]
      clear hres hw hx hy ha hb hb0
      u_c stepG_seq hFr hF
      u_reg hFr hF
      u_op hFr hF
      u_c stepG_region_end hFr hF
      u_c stepG_seq hFr hF
      u_c stepG_seq hFr hF
      u_reg hFr hF
      u_op hFr hF
      u_op hFr hF
      u_op hFr hF
      u_skip hFr hF
      u_skip hFr hF
      u_skip hFr hF
      u_skip hFr hF
      u_op hFr hF
      u_c stepG_region_end hFr hF
      u_cond false hFr hF
      u_c stepG_skip hFr hF
      u_c stepG_seq hFr hF
      u_c stepG_seq hFr hF
      u_reg hFr hF
      u_op hFr hF
      u_op hFr hF
      u_op hFr hF
      u_op hFr hF
      u_op hFr hF
      u_op hFr hF
      u_op hFr hF
      u_op hFr hF
      u_c stepG_region_end hFr hF
      u_cond false hFr hF
      u_c stepG_skip hFr hF
      u_c stepG_seq hFr hF
      u_reg hFr hF
      u_op hFr hF
      u_op hFr hF
      u_op hFr hF
      u_op hFr hF
      u_c stepG_region_end hFr hF
      u_c stepG_ret' hFr hF
      u_leave1 Try.func24 hFr hF
      exact Goes.stop fun w₁ h₁ => ⟨rfl, hFr hF h₁⟩
  · have d1 : decide (0 < b) = false := decide_eq_false (by omega)
    have d2 : decide (b < 0) = false := decide_eq_false (by omega)
    have hres : sat a b = s := by unfold sat; split <;> (try split) <;> omega
    rw [hres]
    clear hres hw hx hy ha hb hb0
    u_c stepG_seq hFr hF
    u_reg hFr hF
    u_op hFr hF
    u_c stepG_region_end hFr hF
    u_c stepG_seq hFr hF
    u_c stepG_seq hFr hF
    u_reg hFr hF
    u_op hFr hF
    u_op hFr hF
    u_op hFr hF
    u_skip hFr hF
    u_skip hFr hF
    u_skip hFr hF
    u_skip hFr hF
    u_op hFr hF
    u_c stepG_region_end hFr hF
    u_cond false hFr hF
    u_c stepG_skip hFr hF
    u_c stepG_seq hFr hF
    u_c stepG_seq hFr hF
    u_reg hFr hF
    u_op hFr hF
    u_op hFr hF
    u_op hFr hF
    u_skip hFr hF
    u_skip hFr hF
    u_skip hFr hF
    u_skip hFr hF
    u_op hFr hF
    u_c stepG_region_end hFr hF
    u_cond false hFr hF
    u_c stepG_skip hFr hF
    u_c stepG_seq hFr hF
    u_reg hFr hF
    u_op hFr hF
    u_op hFr hF
    u_op hFr hF
    u_op hFr hF
    u_c stepG_region_end hFr hF
    u_c stepG_ret' hFr hF
    u_leave1 Try.func24 hFr hF
    exact Goes.stop fun w₁ h₁ => ⟨rfl, hFr hF h₁⟩
  · rcases Int.lt_or_le x a with hc | hc
    · have d1 : decide (0 < b) = true := decide_eq_true (by omega)
      have d3 : decide (x < a) = true := decide_eq_true (by omega)
      have hres : sat a b = 9223372036854775807 := by unfold sat; split <;> (try split) <;> omega
      rw [hres]
      clear hres hw hx hy ha hb hb0
      u_c stepG_seq hFr hF
      u_reg hFr hF
      u_op hFr hF
      u_c stepG_region_end hFr hF
      u_c stepG_seq hFr hF
      u_c stepG_seq hFr hF
      u_reg hFr hF
      u_op hFr hF
      u_op hFr hF
      u_op hFr hF
      u_op hFr hF
      u_op hFr hF
      u_op hFr hF
      u_op hFr hF
      u_op hFr hF
      u_c stepG_region_end hFr hF
      u_cond true hFr hF
      u_c stepG_seq hFr hF
      u_reg hFr hF
      u_op hFr hF
      u_c stepG_region_end hFr hF
      u_c stepG_ret' hFr hF
      u_leave1 Try.func24 hFr hF
      exact Goes.stop fun w₁ h₁ => ⟨rfl, hFr hF h₁⟩
    · have d1 : decide (0 < b) = true := decide_eq_true (by omega)
      have d2 : decide (b < 0) = false := decide_eq_false (by omega)
      have d3 : decide (x < a) = false := decide_eq_false (by omega)
      have hres : sat a b = s := by unfold sat; split <;> (try split) <;> omega
      rw [hres]
      clear hres hw hx hy ha hb hb0
      u_c stepG_seq hFr hF
      u_reg hFr hF
      u_op hFr hF
      u_c stepG_region_end hFr hF
      u_c stepG_seq hFr hF
      u_c stepG_seq hFr hF
      u_reg hFr hF
      u_op hFr hF
      u_op hFr hF
      u_op hFr hF
      u_op hFr hF
      u_op hFr hF
      u_op hFr hF
      u_op hFr hF
      u_op hFr hF
      u_c stepG_region_end hFr hF
      u_cond false hFr hF
      u_c stepG_skip hFr hF
      u_c stepG_seq hFr hF
      u_c stepG_seq hFr hF
      u_reg hFr hF
      u_op hFr hF
      u_op hFr hF
      u_op hFr hF
      u_skip hFr hF
      u_skip hFr hF
      u_skip hFr hF
      u_skip hFr hF
      u_op hFr hF
      u_c stepG_region_end hFr hF
      u_cond false hFr hF
      u_c stepG_skip hFr hF
      u_c stepG_seq hFr hF
      u_reg hFr hF
      u_op hFr hF
      u_op hFr hF
      u_op hFr hF
      u_op hFr hF
      u_c stepG_region_end hFr hF
      u_c stepG_ret' hFr hF
      u_leave1 Try.func24 hFr hF
      exact Goes.stop fun w₁ h₁ => ⟨rfl, hFr hF h₁⟩
end
end Go.Proofs.Ytdkbkocklnnmdaa.kid
