/-
  sync.WaitGroup's Add(1) in company, with a symbolic counter: what each of its operations on shared places does, and where it goes on. Condition: what is held of the world outlives the others' doing and the turn of the group's state.
-/
import Derived.Test.YtdkbkocklnnmdaaProg
import Derived.Test.YtdkbkocklnnmdaaWgLink
import Derived.KernelRfl
set_option linter.unusedSimpArgs false
set_option linter.unusedVariables false
namespace Go.Proofs.Ytdkbkocklnnmdaa.wg
open Go Go.Conc Go.RowKit Go.ConcR.Gen Go.ConcN.Gen
open Go.ConcR (DC0 KK WgAt stA smA rd wr mk)
open Go.ConcN (st_flag st_waiters WgLive)
open Go.Conc.Lib

/-- At a mark. -/
def AtMk (main : Bool) (m : Mark) (K : Goroutine → World → Prop) (g : Goroutine) (w : World) : Prop :=
  g.status = .running ∧ ∃ g', stepG Try.prog main g w = .go g' w #[mk m] ∧ g'.status = .running ∧ K g' w
/-- On the way. -/
def To (main : Bool) (R : World → World → Prop) (St : Goroutine → World → Prop) (g : Goroutine) (w : World) : Prop := ∃ m, Goes Try.prog main R DC0 St m g w
/-- At the atomic add of 1: whatever the count. -/
def AtInc (Wg : Nat) (K : Nat → Goroutine → World → Prop) (g : Goroutine) (w : World) : Prop :=
  g.status = .running ∧ ∀ v : Nat, v < 2147483647 → WgAt 96 Wg w (v * KK) 0 →
    ∃ g', stepG Try.prog true g w = .go g' (w.setCell (stA Wg) (.int .u64 ((v + 1) * KK))) #[rd (stA Wg), wr (stA Wg)] ∧ g'.status = .running ∧ K v g' (w.setCell (stA Wg) (.int .u64 ((v + 1) * KK)))

/-- Add(1), from its end backwards: the deferred Enable; the read of the semaphore that the detector is told of, when the count is 1; the add; Disable. -/
def IncEna (R : World → World → Prop) (St : Goroutine → World → Prop) : Goroutine → World → Prop := AtMk true .enable (To true R St)
def IncRead (R : World → World → Prop) (Wg : Nat) (St : Goroutine → World → Prop) : Goroutine → World → Prop := AtMk true (.read (smA Wg)) (To true R (IncEna R St))
def IncAdd (R : World → World → Prop) (Wg : Nat) (St : Goroutine → World → Prop) : Goroutine → World → Prop :=
  AtInc Wg fun v g w => (v = 0 → To true R (IncRead R Wg St) g w) ∧ (v ≠ 0 → To true R (IncEna R St) g w)
def IncDis (R : World → World → Prop) (Wg : Nat) (St : Goroutine → World → Prop) : Goroutine → World → Prop := AtMk true .disable (To true R (IncAdd R Wg St))

theorem x64 : (Try.f64.name == "runtime.NumGoroutine") = false ∧ Try.f64.body.isNone = true ∧ Extern.findNext Try.f64 = none := ⟨by kernel_rfl, by kernel_rfl, by kernel_rfl⟩
theorem x65 : (Try.f65.name == "runtime.NumGoroutine") = false ∧ Try.f65.body.isNone = true ∧ Extern.findNext Try.f65 = none := ⟨by kernel_rfl, by kernel_rfl, by kernel_rfl⟩
theorem x66 : (Try.f66.name == "runtime.NumGoroutine") = false ∧ Try.f66.body.isNone = true ∧ Extern.findNext Try.f66 = none := ⟨by kernel_rfl, by kernel_rfl, by kernel_rfl⟩
theorem x67 : (Try.f67.name == "runtime.NumGoroutine") = false ∧ Try.f67.body.isNone = true ∧ Extern.findNext Try.f67 = none := ⟨by kernel_rfl, by kernel_rfl, by kernel_rfl⟩
theorem x72 : (Try.f72.name == "runtime.NumGoroutine") = false ∧ Try.f72.body.isNone = true ∧ Extern.findNext Try.f72 = none := ⟨by kernel_rfl, by kernel_rfl, by kernel_rfl⟩
theorem x77 : (Try.f77.name == "runtime.NumGoroutine") = false ∧ Try.f77.body.isNone = true ∧ Extern.findNext Try.f77 = none := ⟨by kernel_rfl, by kernel_rfl, by kernel_rfl⟩
theorem x80 : (Try.f80.name == "runtime.NumGoroutine") = false ∧ Try.f80.body.isNone = true ∧ Extern.findNext Try.f80 = none := ⟨by kernel_rfl, by kernel_rfl, by kernel_rfl⟩
theorem x90 : (Try.f90.name == "runtime.NumGoroutine") = false ∧ Try.f90.body.isNone = true ∧ Extern.findNext Try.f90 = none := ⟨by kernel_rfl, by kernel_rfl, by kernel_rfl⟩
theorem e64 : Extern.find Try.f64 = some (Extern.Race.marked .releaseMerge) := by kernel_rfl
theorem e65 : Extern.find Try.f65 = some (fun _ => do mark .disable; pure Extern.Race.none_) := by kernel_rfl
theorem e66 : Extern.find Try.f66 = some (fun _ => do mark .enable; pure Extern.Race.none_) := by kernel_rfl
theorem e67 : Extern.find Try.f67 = some (fun _ => pure (.bool false)) := by kernel_rfl
theorem e72 : Extern.find Try.f72 = some (Extern.Race.marked .read) := by kernel_rfl
theorem e77 : Extern.find Try.f77 = some (Extern.Race.marked .acquire) := by kernel_rfl
theorem e80 : Extern.find Try.f80 = some (Extern.Race.marked .write) := by kernel_rfl
theorem e90 : Extern.find Try.f90 = some (Extern.Atomic.update (Op.intArith .add) .u64 true) := by kernel_rfl
theorem n71 : (Try.f71.name == "runtime.NumGoroutine") = false := by kernel_rfl

set_option maxRecDepth 100000 in
set_option maxHeartbeats 8000000 in
theorem addPos {R : World → World → Prop} {F : World → Prop} {Wg : Nat} {St : Goroutine → World → Prop} (hFr : ∀ {w w₁ : World}, F w → R w w₁ → F w₁)
    (hFw : ∀ w, F w → WgLive 96 Wg w) (hFs : ∀ w x, F w → F (w.setCell (stA Wg) (.int .u64 x)))
    {b₀ : Frame} {a₀ : Act} {ops₀ : Array Oper} {i₀ : Nat} {rest₀ : List Nat} {k₀ : List Item} {cs : List Frame} {mT : Nat}
    (hT : ∀ w, F w → Goes Try.prog true R DC0 St mT (G (b₀.at (a₀.put ((ops₀[i₀]?).bind (·.dst)) (.tuple #[])) (.inRegion ops₀ rest₀ :: k₀)) cs) w) (w : World) (hF : F w) :
    Goes Try.prog true R DC0 (IncDis R Wg St) 20 (G ((base 42).at { tmps := #[.pointer (some ⟨Wg, 0, none⟩), .int .i64 1] ++ Array.replicate 115 undef, defers := [] } [.code (Try.f42.body.getD .skip)]) (b₀.at a₀ (.inRegion ops₀ (i₀ :: rest₀) :: k₀) :: cs)) w := by
  simp only [Try.f42, Option.getD_some]
  walk_nrm
  u_c stepG_seq hFr hF
  u_cond true hFr hF
  u_c stepG_seq hFr hF
  u_c stepG_seq hFr hF
  u_reg hFr hF
  u_op hFr hF
  u_op hFr hF
  u_c stepG_region_end hFr hF
  u_cond false hFr hF
  u_c stepG_skip hFr hF
  u_c stepG_seq hFr hF
  u_reg hFr hF
  refine Goes.stop (fun w₁ h₁ => ?_)
  replace hF := hFr hF h₁
  clear h₁
  refine ⟨rfl, _, stepG_mark0 .disable (by simp) rfl rfl (by k_ne) rfl Try.func65 x65.1 x65.2.1 x65.2.2 e65, rfl, 100, ?_⟩
  walk_nrm
  u_c stepG_region_end hFr hF
  u_reg hFr hF
  u_defer hFr hF
  u_c stepG_region_end hFr hF
  u_c stepG_seq hFr hF
  u_reg hFr hF
  u_op hFr hF
  u_c stepG_region_end hFr hF
  u_c stepG_seq hFr hF
  u_c stepG_seq hFr hF
  u_reg hFr hF
  (u_in hFr hF; rw [stepG_entry_pure (.bool false) rfl rfl (by k_ne) rfl Try.func67 x67.1 x67.2.1 x67.2.2 e67]; simp only [goes_go]; refine ⟨by u_nil, ?_⟩; walk_nrm)
  u_c stepG_region_end hFr hF
  u_cond false hFr hF
  u_c stepG_skip hFr hF
  u_c stepG_seq hFr hF
  u_reg hFr hF
  u_op hFr hF
  u_op hFr hF
  u_op hFr hF
  u_op hFr hF
  u_op hFr hF
  u_op hFr hF
  u_call Try.func71 n71 Try.f71 hFr hF
  u_c stepG_seq hFr hF
  u_reg hFr hF
  u_op hFr hF
  u_c stepG_region_end hFr hF
  u_c stepG_seq hFr hF
  u_reg hFr hF
  u_op hFr hF
  u_op hFr hF
  u_op hFr hF
  u_op hFr hF
  refine Goes.stop (fun w₂ h₂ => ?_)
  replace hF := hFr hF h₂
  clear h₂
  refine ⟨rfl, fun v hv hw => ?_⟩
  obtain ⟨V, hV⟩ : ∃ V : Int, V = (v : Int) + 1 := ⟨_, rfl⟩
  obtain ⟨S, hS⟩ : ∃ S : Int, S = V * KK := ⟨_, rfl⟩
  have eS : IntKind.u64.wrap ((v : Int) * KK + 4294967296) = S := by rw [IntKind.wrap_u64, hS, hV]; simp only [KK]; omega
  rw [← hV, ← hS]
  have a1 : S / 4294967296 = V := by rw [hS]; simp only [KK]; omega
  have b1 : bits .and .u64 S 2147483648 = 0 := by rw [hS, hV]; have := st_flag (v + 1) 0 (by omega) (by omega); simpa [KK] using this
  have b2 : bits .and .u64 S 2147483647 = 0 := by rw [hS, hV]; have := st_waiters (v + 1) 0 (by omega) (by omega); simpa [KK] using this
  have c1 : IntKind.i32.wrap V = V := by rw [IntKind.wrap_i32]; omega
  have hV0 : 0 < V := by omega
  have hV2 : V < 2147483648 := by omega
  refine ⟨_, (stepG_add_atomic rfl rfl (by k_ne) rfl Try.func90 x90.1 x90.2.1 x90.2.2 .u64 e90 rfl rfl hw.cellSt (hw.thaw 0)).trans (by rw [eS]; rfl), rfl, ?_⟩
  replace hF := hFs _ S hF
  have q3 : decide (V < 0) = false := decide_eq_false (by omega)
  have q4 : decide (0 < V) = true := decide_eq_true (by omega)
  have q5 : (V == 0) = false := by simp; omega
  have q6 : decide (V = 0) = false := decide_eq_false (by omega)
  clear hw eS
  constructor
  · intro hv0
    have q1 : (V == 1) = true := by simp; omega
    have q2 : decide (V = 1) = true := decide_eq_true (by omega)
    clear hS hv0 hV
    refine ⟨100, ?_⟩
    walk_nrm
    u_op hFr hF
    u_c stepG_region_end hFr hF
    u_c stepG_ret' hFr hF
    u_leave1 Try.func71 hFr hF
    u_op hFr hF
    u_c stepG_region_end hFr hF
    u_c stepG_seq hFr hF
    u_c stepG_seq hFr hF
    u_reg hFr hF
    u_op hFr hF
    u_op hFr hF
    u_op hFr hF
    u_op hFr hF
    u_skip hFr hF
    u_skip hFr hF
    u_op hFr hF
    u_c stepG_region_end hFr hF
    u_cond false hFr hF
    u_c stepG_skip hFr hF
    u_c stepG_seq hFr hF
    u_reg hFr hF
    u_op hFr hF
    u_op hFr hF
    u_op hFr hF
    u_op hFr hF
    u_c stepG_region_end hFr hF
    u_c stepG_seq hFr hF
    u_reg hFr hF
    u_op hFr hF
    u_op hFr hF
    u_op hFr hF
    u_op hFr hF
    u_c stepG_region_end hFr hF
    u_c stepG_seq hFr hF
    u_c stepG_seq hFr hF
    u_reg hFr hF
    u_op hFr hF
    u_op hFr hF
    u_op hFr hF
    u_op hFr hF
    u_op hFr hF
    u_op hFr hF
    u_op hFr hF
    u_op hFr hF
    u_op hFr hF
    u_op hFr hF
    u_c stepG_region_end hFr hF
    u_cond true hFr hF
    u_reg hFr hF
    u_op hFr hF
    u_op hFr hF
    u_op hFr hF
    u_in hFr hF
    refine goes_oper_k rfl rfl (by k_ne) (fun Kx hKx => ?_)
    have hcv := run_convert_to_unsafe (P := Try.prog) wgLib.underlying_tPU32 wgLib.underlying_tUP wgLib.room_tU32 (WgLive.cell1 (hFw _ hF)).choose_spec
    have hce := fun es => events_convert_to_unsafe (P := Try.prog) wgLib.underlying_tPU32 wgLib.underlying_tUP wgLib.room_tU32 (WgLive.cell1 (hFw _ hF)).choose_spec es
    go_simp
    refine hKx _ _ ⟨?_, ?_⟩
    · u_none
      intro ex hex
      have hmx := mem_listed hex
      simp [go_sem, hce] at hmx
    clear hKx Kx hcv hce
    refine Goes.stop (fun w₃ h₃ => ?_)
    replace hF := hFr hF h₃
    clear h₃
    refine ⟨rfl, _, stepG_markAt .read (by simp) rfl rfl (by k_ne) rfl Try.func72 x72.1 x72.2.1 x72.2.2 e72 (ad := ⟨Wg, 1, none⟩) (by simp [Act.eval]), rfl, 100, ?_⟩
    walk_nrm
    u_c stepG_region_end hFr hF
    u_c stepG_seq hFr hF
    u_c stepG_seq hFr hF
    u_reg hFr hF
    u_op hFr hF
    u_op hFr hF
    u_c stepG_region_end hFr hF
    u_cond false hFr hF
    u_c stepG_skip hFr hF
    u_c stepG_seq hFr hF
    u_c stepG_seq hFr hF
    u_reg hFr hF
    u_op hFr hF
    u_op hFr hF
    u_op hFr hF
    u_skip hFr hF
    u_skip hFr hF
    u_op hFr hF
    u_op hFr hF
    u_skip hFr hF
    u_skip hFr hF
    u_skip hFr hF
    u_skip hFr hF
    u_op hFr hF
    u_c stepG_region_end hFr hF
    u_cond false hFr hF
    u_c stepG_skip hFr hF
    u_c stepG_seq hFr hF
    u_c stepG_seq hFr hF
    u_reg hFr hF
    u_op hFr hF
    u_op hFr hF
    u_op hFr hF
    u_skip hFr hF
    u_skip hFr hF
    u_op hFr hF
    u_c stepG_region_end hFr hF
    u_cond true hFr hF
    u_c stepG_ret' hFr hF
    refine Goes.stop (fun w₄ h₄ => ?_)
    replace hF := hFr hF h₄
    clear h₄
    refine ⟨rfl, _, stepG_unwind_entry (v := .tuple #[]) (evs := #[mk .enable]) rfl Try.func66 x66.1 x66.2.1 x66.2.2 e66 (by simp [Extern.Race.none_]) (by simp [mk]) (by simp [mk]), rfl, mT + 1, ?_⟩
    u_leave0 Try.func42 hFr hF
    exact hT _ hF
  · intro hv0
    have q1 : (V == 1) = false := by simp; omega
    have q2 : decide (V = 1) = false := decide_eq_false (by omega)
    clear hS hV
    refine ⟨100, ?_⟩
    walk_nrm
    u_op hFr hF
    u_c stepG_region_end hFr hF
    u_c stepG_ret' hFr hF
    u_leave1 Try.func71 hFr hF
    u_op hFr hF
    u_c stepG_region_end hFr hF
    u_c stepG_seq hFr hF
    u_c stepG_seq hFr hF
    u_reg hFr hF
    u_op hFr hF
    u_op hFr hF
    u_op hFr hF
    u_op hFr hF
    u_skip hFr hF
    u_skip hFr hF
    u_op hFr hF
    u_c stepG_region_end hFr hF
    u_cond false hFr hF
    u_c stepG_skip hFr hF
    u_c stepG_seq hFr hF
    u_reg hFr hF
    u_op hFr hF
    u_op hFr hF
    u_op hFr hF
    u_op hFr hF
    u_c stepG_region_end hFr hF
    u_c stepG_seq hFr hF
    u_reg hFr hF
    u_op hFr hF
    u_op hFr hF
    u_op hFr hF
    u_op hFr hF
    u_c stepG_region_end hFr hF
    u_c stepG_seq hFr hF
    u_c stepG_seq hFr hF
    u_reg hFr hF
    u_op hFr hF
    u_op hFr hF
    u_op hFr hF
    u_op hFr hF
    u_op hFr hF
    u_op hFr hF
    u_op hFr hF
    u_op hFr hF
    u_op hFr hF
    u_op hFr hF
    u_c stepG_region_end hFr hF
    u_cond false hFr hF
    u_c stepG_skip hFr hF
    u_c stepG_seq hFr hF
    u_c stepG_seq hFr hF
    u_reg hFr hF
    u_op hFr hF
    u_op hFr hF
    u_c stepG_region_end hFr hF
    u_cond false hFr hF
    u_c stepG_skip hFr hF
    u_c stepG_seq hFr hF
    u_c stepG_seq hFr hF
    u_reg hFr hF
    u_op hFr hF
    u_op hFr hF
    u_op hFr hF
    u_skip hFr hF
    u_skip hFr hF
    u_op hFr hF
    u_op hFr hF
    u_skip hFr hF
    u_skip hFr hF
    u_skip hFr hF
    u_skip hFr hF
    u_op hFr hF
    u_c stepG_region_end hFr hF
    u_cond false hFr hF
    u_c stepG_skip hFr hF
    u_c stepG_seq hFr hF
    u_c stepG_seq hFr hF
    u_reg hFr hF
    u_op hFr hF
    u_op hFr hF
    u_op hFr hF
    u_skip hFr hF
    u_skip hFr hF
    u_op hFr hF
    u_c stepG_region_end hFr hF
    u_cond true hFr hF
    u_c stepG_ret' hFr hF
    refine Goes.stop (fun w₄ h₄ => ?_)
    replace hF := hFr hF h₄
    clear h₄
    refine ⟨rfl, _, stepG_unwind_entry (v := .tuple #[]) (evs := #[mk .enable]) rfl Try.func66 x66.1 x66.2.1 x66.2.2 e66 (by simp [Extern.Race.none_]) (by simp [mk]) (by simp [mk]), rfl, mT + 1, ?_⟩
    u_leave0 Try.func42 hFr hF
    exact hT _ hF
end Go.Proofs.Ytdkbkocklnnmdaa.wg
