/-
  Beside goroutines that only leave: main's walk from Together's entry to its loop's head, and from behind its Wait to its return. Conditions: new blocks may be touched; what is behind it as it goes on.
-/
import Derived.Test.YtdkbkocklnnmdaaIMain
import Derived.Test.YtdkbkocklnnmdaaFreeAwake
import Derived.Conc.AppendWalk
import Derived.Laws.MakeOwn
set_option linter.unusedSimpArgs false
set_option linter.unusedVariables false
namespace Go.Proofs.Ytdkbkocklnnmdaa.itgm
open Go.Proofs.Ytdkbkocklnnmdaa.itog
open Go Go.Conc Go.RowKit Go.ConcR.Gen Go.ConcN.Gen Go.Proofs.Ytdkbkocklnnmdaa.crew Go.Proofs.Ytdkbkocklnnmdaa.wg Go.Proofs.Ytdkbkocklnnmdaa.free
open Go.Proofs.Ytdkbkocklnnmdaa.kid (opsOf cL cR cB)
open Go.ConcX.Gen (setCell_at alloc_at)
open Go.ConcR (WgAt)

theorem info3 : (Try.prog.info? 3).map (fun i => (i.zero, i.size, i.bytes)) = some (some (.int .i64 0), 1, 8) := by kernel_rfl
theorem made_rep (z : Value) (n : Nat) : madeCells #[z] (n * 1) = Array.replicate n z := by
  apply Array.ext
  · simp [madeCells]
  · intro i h1 h2
    simp [madeCells, Nat.mod_one]
theorem mkRun (n : Nat) (hn : n ≤ 2000) (w : World) : (Instr.makeSlice 22 (.int .i64 n) (.int .i64 n)).run Try.prog w = .ok (.slice (some ⟨w.heap.size, 0, none⟩) n n) (w.alloc (.cells (Array.replicate n (.int .i64 0)) 3)) := by
  obtain ⟨i, hi, h⟩ := Option.map_eq_some_iff.1 info3
  simp only [Prod.mk.injEq] at h
  have := run_makeSlice (P := Try.prog) (w := w) 22 3 i (.int .i64 0) Try.underlying22 hi h.1 .i64 .i64 n n (by omega) (by omega) (by rw [h.2.1]; omega) (by rw [h.2.2]; omega) (by omega)
  rw [this, h.2.1]
  simp only [Int.toNat_natCast, Value.cells]
  rw [made_rep]
theorem mkEv (n : Nat) (hn : n ≤ 2000) (w : World) (es : Array Event) : (Instr.makeSlice 22 (.int .i64 n) (.int .i64 n)).events Try.prog w es = es := by
  obtain ⟨i, hi, h⟩ := Option.map_eq_some_iff.1 info3
  simp only [Prod.mk.injEq] at h
  exact events_make w 22 3 i (.int .i64 0) Try.underlying22 hi h.1 .i64 .i64 n n (by omega) (by omega) (by rw [h.2.2]; omega) (by omega) (by rw [h.2.2]; simp; omega) es

section
variable {main : Bool} {b : Frame} {a : Act} {kk : List Item} {cs : List Frame} {w : World} {ops : Array Oper} {i : Nat} {rest : List Nat} {o : Oper}
theorem stepG_storeSl {x y : Operand} (ho : ops[i]? = some o) (hw : Region.wanted o (yielded ops a.tmps) = true) (hk : b.kind ≠ .early) (hop : o.op = .store 22 x y)
    {ad : Addr} {p : Option Addr} {l c : Nat} {u : Value} (hx : a.eval x = .pointer (some ad)) (hy : a.eval y = .slice p l c) (hc : w.cell? ad = some u) (hz : w.frozen? ad = false) (hq : (Try.prog.funcs[b.fn]?).any (·.norace) = false) :
    stepG Try.prog main (G (b.at a (.inRegion ops (i :: rest) :: kk)) cs) w = .go (G (b.at (a.put o.dst undef) (.inRegion ops rest :: kk)) cs) (w.setCell ad (.slice p l c)) #[⟨.cell ad, true, false⟩] := by
  have hev : ∀ (es : Array Event) (m : Mode), (store ad (.slice p l c) m).events Try.prog w es = storedEv Try.prog w es ad (.slice p l c) m := fun es m => events_store Try.prog w es ad _ m rfl
  have hr : (execOp a.eval o).run Try.prog w = .ok .skip (w.setCell ad (.slice p l c)) := by
    unfold execOp
    simp only [hop, hx, hy]
    simp [go_sem, hc, hz]
  have he : (execOp a.eval o).events Try.prog w #[] = #[⟨.cell ad, true, false⟩] := by
    unfold execOp
    simp only [hop, hx, hy]
    simp [go_sem, hc, hz, storedEv, hev]
  rw [stepG_none ho hw hk hr]
  unfold listed
  rw [he, tog.seen_one hq]
end
/-- The world at Together's loop. -/
def togWorld (W : World) (C N : Nat) : World := ((((W.alloc (.cells #[.pointer (some ⟨C, 0, none⟩)] 24)).alloc (.cells (Array.replicate N (.int .i64 0)) 3)).alloc (.cells #[.slice none 0 0] 22)).setCell ⟨W.heap.size + 2, 0, none⟩ (.slice (some ⟨W.heap.size + 1, 0, none⟩) N N)).alloc (.cells #[.int .u64 0, .int .u32 0] 96)
section
variable {Shun Lw : Loc → Prop} {St : Goroutine → World → Prop} {cs : List Frame}
set_option maxRecDepth 100000 in
set_option maxHeartbeats 16000000 in
theorem togEnter {C : Nat} {n : Int} {N : Nat} {W : World} (hn : 1 ≤ n) (eN : (if (1024 : Int) < n then (1024 : Int) else n) = (N : Int)) (hM : ∀ b, W.heap.size ≤ b → b < W.heap.size + 3 → May Shun Lw b)
    (hT : ∀ g d, (g = G ((base 19).at ⟨T19 C (W.heap.size + 3) W.heap.size (W.heap.size + 2) N 0 (fun k => g.frame.tmps.getD k undef), []⟩ [.code loop19, .inLoop loop19, .inBlock 0, .code tail19]) cs) → St g ((togWorld W C N).at d)) :
    ∀ y, Conc.AtRel W y → Goes Try.prog true Conc.AtRel (DF Shun Lw) St 200
      (G ((base 19).at { tmps := #[.pointer (some ⟨C, 0, none⟩), .int .i64 n] ++ Array.replicate 25 undef, defers := [] } [.code (Try.f19.body.getD .skip)]) cs) y := by
  intro y hF
  have hmi := ev_min
  have hep := ev_eql_nil free.p24
  have q1 : decide (n < 1) = false := decide_eq_false (by omega)
  have hM0 := hM W.heap.size (by omega) (by omega)
  have c1 : (W.alloc (.cells #[.pointer (some ⟨C, 0, none⟩)] 24)).cell? ⟨W.heap.size, 0, none⟩ = some (.pointer (some ⟨C, 0, none⟩)) := cell_of_one (box_new _ _)
  simp only [Try.f19, Option.getD_some]
  walk_nrm
  u_c stepG_seq at_rely hF
  u_reg at_rely hF
  u_in at_rely hF
  refine goes_oper_k rfl rfl (by k_ne) (fun K hK => ?_)
  have hcl := free.at_cell hF
  have hfz := free.at_frozen hF
  have hsz := free.at_size hF
  go_simp
  refine hK _ _ ⟨fun e he => ?_, ?_⟩
  · (have hm := mem_listed he; simp [go_sem, storedEv, *] at hm; try (subst hm; refine free.evS_may ?_ (Eq.refl _); assumption))
  clear hK K hcl hfz hsz
  refine free.next_alloc hF (fun _ hF => ?_)
  u_op at_rely hF
  u_c stepG_region_end at_rely hF
  u_c stepG_seq at_rely hF
  u_c stepG_seq at_rely hF
  u_reg at_rely hF
  u_in at_rely hF
  refine goes_oper_k rfl rfl (by k_ne) (fun K hK => ?_)
  have hcl := free.at_cell hF
  have hfz := free.at_frozen hF
  have hsz := free.at_size hF
  go_simp
  refine hK _ _ ⟨fun e he => ?_, ?_⟩
  · (have hm := mem_listed he; simp [go_sem, storedEv, *] at hm; try (subst hm; refine free.evS_may ?_ (Eq.refl _); assumption))
  clear hK K hcl hfz hsz
  u_op at_rely hF
  u_op at_rely hF
  u_op at_rely hF
  u_op at_rely hF
  u_op at_rely hF
  u_c stepG_region_end at_rely hF
  u_cond false at_rely hF
  u_c stepG_skip at_rely hF
  u_c stepG_seq at_rely hF
  u_reg at_rely hF
  u_op at_rely hF
  u_op at_rely hF
  have hN : N ≤ 2000 := by omega
  have hmr := mkRun N hN
  have hme := mkEv N hN
  u_in at_rely hF
  refine goes_oper_k rfl rfl (by k_ne) (fun K hK => ?_)
  have hsz := at_size hF
  go_simp
  refine hK _ _ ⟨fun e he => ?_, ?_⟩
  · have hm := mem_listed he
    simp [go_sem, hme] at hm
  clear hK K hsz
  refine next_alloc hF (fun _ hF => ?_)
  have s4 : ∀ (w : World) a v, (w.setCell a v).heap.size = w.heap.size := fun w a v => (aside_setCell w a v).size
  have s2 : ((W.alloc (.cells #[.pointer (some ⟨C, 0, none⟩)] 24)).alloc (.cells (Array.replicate N (.int .i64 0)) 3)).heap.size = W.heap.size + 2 := by simp
  have hW2 : togWorld W C N = ((((W.alloc (.cells #[.pointer (some ⟨C, 0, none⟩)] 24)).alloc (.cells (Array.replicate N (.int .i64 0)) 3)).alloc (.cells #[.slice none 0 0] 22)).setCell ⟨W.heap.size + 2, 0, none⟩ (.slice (some ⟨W.heap.size + 1, 0, none⟩) N N)).alloc (.cells #[.int .u64 0, .int .u32 0] 96) := rfl
  generalize (W.alloc (.cells #[.pointer (some ⟨C, 0, none⟩)] 24)).alloc (.cells (Array.replicate N (.int .i64 0)) 3) = W2 at hF s2 hW2
  u_in at_rely hF
  refine goes_oper_k rfl rfl (by k_ne) (fun K hK => ?_)
  have hcl := free.at_cell hF
  have hfz := free.at_frozen hF
  have hsz := free.at_size hF
  go_simp
  refine hK _ _ ⟨fun e he => ?_, ?_⟩
  · (have hm := mem_listed he; simp [go_sem, storedEv, *] at hm; try (subst hm; refine free.evS_may ?_ (Eq.refl _); assumption))
  clear hK K hcl hfz hsz
  refine free.next_alloc hF (fun _ hF => ?_)
  have s3 : (W2.alloc (.cells #[.slice none 0 0] 22)).heap.size = W.heap.size + 3 := by simp [s2]
  have n3 := box_new W2 (.cells #[.slice none 0 0] 22)
  rw [s2] at n3
  generalize W2.alloc (.cells #[.slice none 0 0] 22) = W3 at hF n3 hW2 s3
  u_in at_rely hF
  have hcl := (at_cell hF ⟨W.heap.size + 2, 0, none⟩).trans (cell_of_one n3)
  have hfz := (at_frozen hF ⟨W.heap.size + 2, 0, none⟩).trans (show W3.frozen? ⟨W.heap.size + 2, 0, none⟩ = false by simp [World.frozen?, n3])
  rw [stepG_storeSl rfl rfl (by k_ne) rfl rfl rfl hcl hfz q19]
  simp only [goes_go]
  refine ⟨fun e he => by simp at he; subst he; exact evS_may (hM (W.heap.size + 2) (by omega) (by omega)) rfl, ?_⟩
  walk_nrm
  clear hcl hfz
  refine next_set hF (fun _ hF => ?_)
  have n4 : (W3.setCell ⟨W.heap.size + 2, 0, none⟩ (.slice (some ⟨W.heap.size + 1, 0, none⟩) N N)).heap[W.heap.size + 2]? = some (.cells #[.slice (some ⟨W.heap.size + 1, 0, none⟩) N N] 22) := by simp [World.setCell, Array.getElem?_modify, n3]
  have s5 := (s4 W3 ⟨W.heap.size + 2, 0, none⟩ (.slice (some ⟨W.heap.size + 1, 0, none⟩) N N)).trans s3
  generalize W3.setCell ⟨W.heap.size + 2, 0, none⟩ (.slice (some ⟨W.heap.size + 1, 0, none⟩) N N) = W4 at hF n4 hW2 s5
  clear s4
  have c5 : (W4.alloc (.cells #[.int .u64 0, .int .u32 0] 96)).cell? ⟨W.heap.size + 2, 0, none⟩ = some (.slice (some ⟨W.heap.size + 1, 0, none⟩) N N) := cell_of_one (box_old n4)
  have hM2 := hM (W.heap.size + 2) (by omega) (by omega)
  u_c stepG_region_end at_rely hF
  u_c stepG_seq at_rely hF
  u_reg at_rely hF
  u_in at_rely hF
  refine goes_oper_k rfl rfl (by k_ne) (fun K hK => ?_)
  have hcl := free.at_cell hF
  have hfz := free.at_frozen hF
  have hsz := free.at_size hF
  go_simp
  refine hK _ _ ⟨fun e he => ?_, ?_⟩
  · (have hm := mem_listed he; simp [go_sem, storedEv, *] at hm; try (subst hm; refine free.evS_may ?_ (Eq.refl _); assumption))
  clear hK K hcl hfz hsz
  refine free.next_alloc hF (fun _ hF => ?_)
  u_c stepG_region_end at_rely hF
  u_c stepG_seq at_rely hF
  u_c stepG_seq at_rely hF
  u_reg at_rely hF
  u_in at_rely hF
  refine goes_oper_k rfl rfl (by k_ne) (fun K hK => ?_)
  have hcl := free.at_cell hF
  have hfz := free.at_frozen hF
  have hsz := free.at_size hF
  go_simp
  refine hK _ _ ⟨fun e he => ?_, ?_⟩
  · (have hm := mem_listed he; simp [go_sem, storedEv, *] at hm; try (subst hm; refine free.evS_may ?_ (Eq.refl _); assumption))
  clear hK K hcl hfz hsz
  u_op at_rely hF
  u_op at_rely hF
  u_c stepG_region_end at_rely hF
  u_c stepG_block at_rely hF
  u_c stepG_loop at_rely hF
  refine Goes.stop fun w₁ h₁ => ?_
  replace hF := at_rely hF h₁
  clear h₁
  rw [← hW2] at hF
  obtain ⟨d, rfl⟩ := hF
  refine hT _ d ?_
  simp only [T19, loop19, tail19, Z19, body19, cL, cR, cB, Try.f19, Option.getD_some]
  rfl
set_option maxRecDepth 100000 in
set_option maxHeartbeats 16000000 in
/-- Behind Wait: the answers are handed out. -/
theorem togTail {C Wg Bc Bo Ot N : Nat} {W : World} {J : Nat → Value} {b₀ : Frame} {a₀ : Act} {ops₀ : Array Oper} {i₀ : Nat} {rest₀ : List Nat} {k₀ : List Item} {mT : Nat} (hM : May Shun Lw Bo) (hbo : W.heap[Bo]? = some (.cells #[.slice (some ⟨Ot, 0, none⟩) N N] 22))
    (hT : ∀ y, Conc.AtRel W y → Goes Try.prog true Conc.AtRel (DF Shun Lw) St mT (G (b₀.at (a₀.put ((ops₀[i₀]?).bind (·.dst)) (.slice (some ⟨Ot, 0, none⟩) N N)) (.inRegion ops₀ rest₀ :: k₀)) cs) y) :
    ∀ y, Conc.AtRel W y → Goes Try.prog true Conc.AtRel (DF Shun Lw) St (mT + 20) (G ((base 19).at ⟨T19 C Wg Bc Bo N N J, []⟩ [.inRegion (opsOf (cL tail19)) [], .code (cR tail19)]) (b₀.at a₀ (.inRegion ops₀ (i₀ :: rest₀) :: k₀) :: cs)) y := by
  intro y hF
  have c5 := cell_of_one hbo
  simp only [T19, loop19, tail19, Z19, body19, opsOf, cL, cR, cB, Try.f19, Option.getD_some]
  u_c stepG_region_end at_rely hF
  u_c stepG_seq at_rely hF
  u_reg at_rely hF
  u_in at_rely hF
  refine goes_oper_k rfl rfl (by k_ne) (fun K hK => ?_)
  have hcl := free.at_cell hF
  have hfz := free.at_frozen hF
  have hsz := free.at_size hF
  go_simp
  refine hK _ _ ⟨fun e he => ?_, ?_⟩
  · (have hm := mem_listed he; simp [go_sem, storedEv, *] at hm; try (subst hm; refine free.evS_may ?_ (Eq.refl _); assumption))
  clear hK K hcl hfz hsz
  u_op at_rely hF
  u_c stepG_region_end at_rely hF
  u_c stepG_ret' at_rely hF
  u_leave1 Try.func19 at_rely hF
  exact Goes.mono (hT _ hF) (by omega)
end
end Go.Proofs.Ytdkbkocklnnmdaa.itgm
