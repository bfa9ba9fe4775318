/-
  MemoCounts beside goroutines that only leave: a round in which many add at once, as far as Crowd's loop, and behind it. Conditions: the element is at hand; what is held of the world at the loop's head.
-/
import Derived.Test.YtdkbkocklnnmdaaCounts2
set_option linter.unusedSimpArgs false
set_option linter.unusedVariables false
namespace Go.Proofs.Ytdkbkocklnnmdaa.counts
open Go Go.Conc Go.RowKit Go.ConcR.Gen Go.ConcN.Gen Go.Proofs.Ytdkbkocklnnmdaa.crew Go.Proofs.Ytdkbkocklnnmdaa.kid Go.Proofs.Ytdkbkocklnnmdaa.wg Go.Proofs.Ytdkbkocklnnmdaa.free
open Go.ConcX.Gen (setCell_at alloc_at)
open Go.ConcR (WgAt)

theorem x26 : (Try.f26.name == "runtime.NumGoroutine") = false := by kernel_rfl
def cE : Code → Code
  | .cond _ _ y => y
  | c => c
noncomputable def codeE : Code := cE (cR (cL (cR (cR (cB (cL (cR loop7)))))))
noncomputable def loop2 : Code := cB (cB (cR (cL codeE)))
noncomputable def code18 : Code := cR codeE
/-- The shunned places once the group of this round is one of them. -/
def Sh2 (Shun : Loc → Prop) (w : World) : Loc → Prop := fun l => Shun l ∨ ∃ a : Addr, l = .cell a ∧ a.block = w.heap.size + 2
theorem rm_only {W X w' : World} {Wg Cn : Nat} (h : Only (fun _ => False) W X) (hr : Rm Wg Cn X w') (h1 : W.heap.size ≤ Wg) (h2 : W.heap.size ≤ Cn) : Only (fun _ => False) W w' :=
  ⟨hr.os.trans h.os, hr.tape.trans h.tape, hr.output.trans h.output, by rw [hr.size]; exact h.size, fun b hb hs => (hr.blocks b (by omega) (by omega)).trans (h.block b hb hs)⟩
theorem cell_blk {w w' : World} {b i : Nat} {v : Value} (h : w'.heap[b]? = w.heap[b]?) (hc : w.cell? ⟨b, i, none⟩ = some v) : w'.cell? ⟨b, i, none⟩ = some v := by simp only [World.cell?, h]; exact hc

section
variable {W0 w : World} {b off len cap i N : Nat} {v n bv : Int} {Shun Lw : Loc → Prop} {x7 x45 x46 : Value} {J : Nat → Value}
def StopC (W0 w : World) (b off len cap : Nat) (v bv : Int) (i N : Nat) (Shun : Loc → Prop) : Goroutine → World → Prop :=
  AtCrowdC Shun (Low (w.heap.size + 2)) (Sh2 Shun w) (Low (w.heap.size + 3)) N (NextHead W0 (some ⟨b, off, none⟩) len cap (satn v bv N) (i + 1) (w.heap.size + 3)) 0

set_option maxRecDepth 100000 in
set_option maxHeartbeats 16000000 in
theorem crowdPart (hi : i < 30) (hl : i < len) (hmax : len ≤ maxLen) (hb : b < W0.heap.size) (cY : w.cell? ⟨b, off + i * 2 + 1, none⟩ = some (.int .i64 bv)) (hbv : I64 bv) (hN1 : 1 ≤ N) (hN : N ≤ 100)
    (hH : H7 W0 v w) (hS : S7 W0 w Shun Lw) :
    ∀ y, Conc.AtRel w y → Goes Try.prog true Conc.AtRel (DF Shun (Low (w.heap.size + 2))) (Fz Shun (Low (w.heap.size + 2)) (StopC W0 w b off len cap v bv i N Shun) 0) 600
      (G ((base 7).at ⟨T7 (some ⟨b, off, none⟩) len cap W0.heap.size (satn v bv N) i (.int .i64 N) x45 x46 J, []⟩ [.code code18, .code code20, .inBlock 1, .code code6, .inLoop loop7, .inBlock 0, .code tail7]) []) y := by
  intro y hF
  have hsz := hH.size
  have hMb : May Shun (Low (w.heap.size + 2)) b := hS.may (by omega) (.inl (by omega)) (fun a ha => ⟨a, rfl, by omega⟩)
  have hlt : (i : Int) < (len : Int) := by omega
  have hi0 : (0 : Int) ≤ (i : Int) := by omega
  have HH := Lib.hid hH; have HS := Lib.hid hS; have HI := Lib.hid hi; have HV := Lib.hid hbv; have HN := Lib.hid hN; have HN1 := Lib.hid hN1; have HZ := Lib.hid hsz
  clear hH hS hi hsz hbv hmax hl hb hN hN1
  simp only [T7, code18, codeE, cE, loop7, code20, code6, tail7, body7, cL, cR, cB, Try.f7, Option.getD_some]
  u_c stepG_seq at_rely hF
  u_reg at_rely hF
  u_op at_rely hF
  u_op at_rely hF
  u_op at_rely hF
  u_op at_rely hF
  u_op at_rely hF
  u_op at_rely hF
  u_in at_rely hF
  refine goes_oper_k rfl rfl (by k_ne) (fun K hK => ?_)
  have hcl := free.at_cell hF
  have hfz := free.at_frozen hF
  have hsz := free.at_size hF
  go_simp
  refine hK _ _ ⟨fun e he => ?_, ?_⟩
  · (have hm := mem_listed he; simp [go_sem, storedEv, *] at hm; try (subst hm; refine free.evS_may ?_ (Eq.refl _); assumption))
  clear hK K hcl hfz hsz
  u_in at_rely hF
  refine goes_call rfl rfl (by k_ne) rfl Try.func26 x26 rfl ⟨by u_nil, ?_⟩
  have hA := @crowdEnterC Shun (Low (w.heap.size + 2)) (Sh2 Shun w) (Low (w.heap.size + 3)) N 0 W0.heap.size (NextHead W0 (some ⟨b, off, none⟩) len cap (satn v bv N) (i + 1) (w.heap.size + 3))
  simp only [Try.f26, Option.getD_some, Array.replicate_succ, Array.replicate_zero, List.push_toArray, List.append_toArray, List.nil_append, List.cons_append] at hA
  walk_nrmf Try.f26
  have h1 := HN1.out
  have h2 := HN.out
  have h3 := HZ.out
  refine Goes.mono (hA (W := w) (v := v) (x9 := (N : Int)) (by rw [if_neg (by omega)]) (by rw [if_pos (by omega)]) (by omega) HH.out.i64 HV.out HH.out.cnt (by omega) (fun l h => .inl h) ?_ ?_ ?_ ?_ ?_ (fun w' hr hw hc => ?_) _ hF) (by omega)
  · rintro l ⟨a, rfl, ha⟩; exact ⟨a, rfl, by omega⟩
  · rintro l (h | ⟨a, rfl, ha⟩)
    · obtain ⟨a, rfl, ha⟩ := HS.out.shun _ h; exact ⟨a, rfl, by omega⟩
    · exact ⟨a, rfl, by omega⟩
  · rintro a (ha | ha)
    · exact .inr ⟨a, rfl, ha⟩
    · exact .inl (HS.out.own a ha)
  · rintro l (h | ⟨a, rfl, ha⟩)
    · exact .inl h
    · exact .inr fun ⟨a', e, ha'⟩ => by cases e; omega
  · intro a ha
    refine ⟨fun h => ?_, a, rfl, by omega⟩
    rcases h with h | ⟨a', e, ha'⟩
    · obtain ⟨a', e, ha'⟩ := HS.out.shun _ h; cases e; omega
    · cases e; omega
  clear hA
  obtain ⟨f1, f2, f3, f4⟩ := crowdWorld_facts w (.pointer (some ⟨W0.heap.size, 0, none⟩)) bv
  have g1 := cell_blk (hr.blocks w.heap.size (by omega) (by omega)) f2
  have g3 : Only (fun _ => False) W0 w' := rm_only (((HH.out.only.alloc _).alloc _).alloc _ : Only (fun _ => False) W0 (crowdWorld w (.pointer (some ⟨W0.heap.size, 0, none⟩)) bv)) hr (by omega) (Nat.le_refl _)
  have g4 : w'.heap.size = w.heap.size + 3 := by rw [hr.size, f4]
  have g5 : CntAt (W0.heap.size + 1) w' 0 := (hr.blocks _ (by omega) (by omega)).trans (box_old (box_old (box_old HH.out.dnt)))
  have hH' : H7 W0 (satn v bv N) w' := ⟨g3, hc, g5, by omega, satn_i64 HH.out.i64 N⟩
  have hM2 : May (Sh2 Shun w) (Low (w.heap.size + 3)) w.heap.size := fun a ha => by
    refine ⟨fun h => ?_, a, rfl, by omega⟩
    rcases h with h | ⟨a', e, ha'⟩
    · obtain ⟨a', e, ha'⟩ := HS.out.shun _ h; cases e; omega
    · cases e; omega
  have hT2 : Tells (Low (w.heap.size + 3)) (.pointer (some ⟨W0.heap.size, 0, none⟩)) (satn v bv N) w' := .inr ⟨_, rfl, cnt_cell hc, _, rfl, by simp; omega⟩
  clear f1 f2 f3 f4 hr hw hF g3 g5 hc
  have K := Lib.hid hH'; have K4 := Lib.hid g4; clear hH' g4
  refine ⟨1000, ?_⟩
  refine Goes.mono (crowdTail (mT := 800) g1 hM2 hT2 (fun y hF => ?_) w' (atRel_refl w')) (by omega)
  clear g1 hM2 hT2
  generalize satn v bv N = v2 at K ⊢
  walk_nrm
  u_op at_rely hF
  u_op at_rely hF
  u_c stepG_region_end at_rely hF
  u_cond false at_rely hF
  u_c stepG_skip at_rely hF
  refine Goes.mono (?_ : Goes _ _ _ _ _ 400 _ _) (by omega)
  rw [← K4.out]
  refine tail_lit HI.out K.out (fun a ha => ⟨a, rfl, ha⟩) ?_ _ hF
  simp only [T7, code20, code6, loop7, tail7, body7, cL, cR, cB, Try.f7, Option.getD_some]
  rfl
end
end Go.Proofs.Ytdkbkocklnnmdaa.counts
