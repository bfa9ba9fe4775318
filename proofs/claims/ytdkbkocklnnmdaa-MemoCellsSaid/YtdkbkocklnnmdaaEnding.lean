/-
  From the frame in which main is about to return, on whatever tape, to the end of the run as the row asks for it. Conditions: those that the theorems name.
-/
import Derived.Test.YtdkbkocklnnmdaaFrame
set_option linter.unusedVariables false
namespace Go.Proofs.Ytdkbkocklnnmdaa.crew
open Go Go.Conc
open Go.ConcN (Deaf_absent)

theorem low_ex (x : MemAct) : ∃ B, x.low B := by
  cases x with
  | access e =>
    obtain ⟨l, wr, sy⟩ := e
    cases l with
    | cell a => exact ⟨a.block + 1, Nat.lt_succ_self _⟩
    | obj r => exact ⟨r + 1, Nat.lt_succ_self _⟩
    | output => exact ⟨0, trivial⟩
    | goroutines => exact ⟨0, trivial⟩
    | mark m => exact ⟨0, trivial⟩
  | mark m =>
    cases m with
    | acquire a => exact ⟨a.block + 1, Nat.lt_succ_self _⟩
    | release a => exact ⟨a.block + 1, Nat.lt_succ_self _⟩
    | releaseMerge a => exact ⟨a.block + 1, Nat.lt_succ_self _⟩
    | read a => exact ⟨a.block + 1, Nat.lt_succ_self _⟩
    | write a => exact ⟨a.block + 1, Nat.lt_succ_self _⟩
    | _ => exact ⟨0, trivial⟩
  | go _ => exact ⟨0, trivial⟩
  | start => exact ⟨0, trivial⟩
  | send c _ => exact ⟨c + 1, Nat.lt_succ_self _⟩
  | sendDone c _ => exact ⟨c + 1, Nat.lt_succ_self _⟩
  | recv c _ _ => exact ⟨c + 1, Nat.lt_succ_self _⟩
  | recvDone c _ => exact ⟨c + 1, Nat.lt_succ_self _⟩
  | close c => exact ⟨c + 1, Nat.lt_succ_self _⟩
  | recvClosed c => exact ⟨c + 1, Nat.lt_succ_self _⟩

theorem low_list : ∀ l : List MemOp, ∃ B, ∀ op ∈ l, op.act.low B
  | [] => ⟨0, by simp⟩
  | x :: l => by
    obtain ⟨B1, h1⟩ := low_ex x.act
    obtain ⟨B2, h2⟩ := low_list l
    refine ⟨max B1 B2, fun op hop => ?_⟩
    rcases List.mem_cons.1 hop with rfl | h
    · exact MemAct.low_mono (Nat.le_max_left _ _) h1
    · exact MemAct.low_mono (Nat.le_max_right _ _) (h2 op h)

theorem fr_past {Shun Lw : Loc → Prop} {N : Nat} {t : Trace} (h : Fr Shun Lw N t) (hd : Deaf t 0 = 0) : ∃ B, Past Shun B t := by
  obtain ⟨B, hB⟩ := low_list t.toList
  refine ⟨B, h.clean, fun i a ha hm => ?_, fun i g hg h0 hc => ?_, hd, fun op hop => hB op (by simpa using hop)⟩
  · by_cases hs : Shun a.loc
    · obtain ⟨op, hop, hox⟩ := touch_of ha
      obtain ⟨h1, h2⟩ := h.quiet i op a hop hox hs
      cases hk : a.kind with
      | plain => exact absurd hk h1
      | atomic => exact .inr ⟨hs, rfl⟩
      | said =>
        have := knows_own hop
        rw [h2 hk] at this
        exact .inl this
    · exact .inl (h.perm _ hs i a ha rfl)
  · obtain ⟨op, ho, hog⟩ := Option.map_eq_some_iff.1 hg
    exact h.over i g hg h0 (hog ▸ h.gs i op ho) hc

/-- Whatever the count of draws, the next step is the return. -/
def Returns (Shun : Loc → Prop) (Post : Value → World → Prop) (g : Goroutine) (w : World) : Prop := ∀ d, AtEnd Try.prog Shun 0 Post g (w.at d)

def DC1 (_ _ : World) (_ : Array Event) : Prop := False

theorem run_of_reaches {Shun Lw : Loc → Prop} {Post : Value → World → Prop} {g : Goroutine} {W : World}
    (h : Reaches #[g] W none #[] fun gs' w' _ t' => ∃ a', Stands Shun Lw gs' a' t' ∧ ∃ d, Returns Shun Post a' (w'.at d)) :
    ∃ M last o w' t', runNT Try.prog (M + 1) (solo g W) #[] = (.ended o w', t') ∧ runN Try.prog M (solo g W) = .next last ∧ step Try.prog last = .ended o w' ∧ Conc.Good Try.prog Post last o w' t' := by
  obtain ⟨K, gs, w, sl, t, hr, a, ⟨h0, ⟨q, hL⟩, hd, hF⟩, d, hA⟩ := h
  obtain ⟨B, hP⟩ := fr_past hF hd
  have hG : Goes Try.prog true Conc.AtRel (DF Shun Lw) (AtEnd Try.prog Shun B Post) 0 a w := by
    rintro w₁ ⟨d', rfl⟩
    obtain ⟨hr, v, es, hs, he, hp⟩ := hA d'
    exact ⟨hr, v, es, hs, fun e hee => ⟨(he e hee).1, (he e hee).2.1, (he e hee).2.2.1, MemAct.low_mono (Nat.zero_le _) (he e hee).2.2.2⟩, hp⟩
  have hG' : Goes Try.prog true Conc.AtRel DC1 (AtEnd Try.prog Shun B Post) 0 a w := hG
  obtain ⟨N, last, o, w', t', e1, e2, e3, e4⟩ := beside_ends (D := DC1) (sl := sl) (fun _ _ _ h => h.elim) h0 hL hP hG'
  refine ⟨K + N, last, o, w', t', ?_, ?_, e3, e4⟩
  · rw [solo_eq_crowd, Nat.add_assoc, runNT_add, hr]; exact e1
  · rw [solo_eq_crowd, runN_add, ← runNT_fst Try.prog _ _ #[], hr]; exact e2
end Go.Proofs.Ytdkbkocklnnmdaa.crew
