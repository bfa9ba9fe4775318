/-
  jalousielaw25.DepsClosure returns true: the row and the card, the listed tables tied to the program's text. No condition beside the row's own.
-/
import Derived.Test.YthbmnacleneflaaGreatDoorJc
import Derived.Test.YthbmnacleneflaaGreatDoorAwOk
import Derived.Test.YthbmnacleneflaaGreatDoorT
import Derived.Test.YthbmnacleneflaaGreatDoorW1
import Derived.Test.YthbmnacleneflaaGreatDoorW3
import Derived.Test.YthbmnacleneflaaGreatDoorW4
import Derived.Test.YthbmnacleneflaaGreatDoorD7
import Derived.Test.YthbmnacleneflaaGreatDoorD9
import Derived.Test.YthbmnacleneflaaGreatDoorBj
import Derived.Carry
import Derived.ProofKit
import Derived.OpenShut
import Derived.Lib.LaidU8
import Derived.SevenTiedAt
set_option linter.unusedVariables false
namespace Go.Proofs.YthbmnacleneflaaGreatDoor
open Go Go.ChangeShapes Go.WideShapes Go.ChangeAt Go.RowKit Go.Proofs.YthbmnacleneflaaGreatDoor.ae
/-- The plain wrap with one more premise and the world's shape kept. -/
theorem handed_and_shaped {H : Type} {enc : TypeId × Value → H} {a : Assume} {C : Checked} {os : Os} {f : FuncId} {fn : Func} {s : ChangeSpec} {conds : List PathCond} {apart fresh handsOn again : Bool} {X : World → Array Value → Prop}
    (hX : ∀ (w w' : World) (args : Array Value), w.heap = w'.heap → X w args → X w' args)
    (own : ownKnob C.prog.godebug = none) (started : os.Started) (noInit : C.prog.inits.idxOf? f = none) (hfn : C.prog.funcs[f]? = some fn)
    (witness : ∃ (w : World) (tape : Tape) (i : Input), w.os = os ∧ (w.forCall tape i).Shaped C.prog ∧ i.vars = [] ∧ Input.okWide C.prog (w.forCall tape i) .any w.heap.size f i ∧
      ((s.pre enc C.prog fn conds apart (w.forCall tape i).memory i.args ∧ X (w.forCall tape i).memory i.args) ∧ sizedMet enc C.prog fn (OpenSpec.ofChange s) apart (w.forCall tape i).memory i.args) ∧ a.holds C.prog (lone (Frame.enter C.prog f i.args .normal) [] (w.forCall tape i)))
    (contract : ∀ (W : World) (base : Nat) (args : Array Value) (ds gs : List (DataW H)) (before : List MemPlace),
      (∀ (j : Nat) t v, fn.params[j]? = some t → args[j]? = some v → Value.okWide C.prog W .any base t v) →
      DataW.Whole enc C.prog fn.params.toList s.vars apart W args.toList ds gs before →
      (DataW.weightsEach C.prog (fn.params.toList ++ s.plain.varTypes C.prog) (ds ++ gs)).all (· ≤ reachBytes) = true → X W args → W.ShapedOpen C.prog →
      Calls C.prog f args W fun e W' => ∃ v, e = .returned v ∧ s.post enc C.prog fn apart fresh handsOn again W args v W') :
    ReturnsInHanded a C os f .any (fun w args => (s.pre enc C.prog fn conds apart w args ∧ X w args) ∧ sizedMet enc C.prog fn (OpenSpec.ofChange s) apart w args) (s.post enc C.prog fn apart fresh handsOn again) := by
  refine returnsInHanded_of_calls own started noInit witness ?_
  intro w tape i _ hsh _ hok hpre hholds
  obtain ⟨_, _, _, fn', hfn', _, _, _, _, hval⟩ := hok
  have e : fn' = fn := Option.some.inj (hfn'.symm.trans hfn)
  subst e
  obtain ⟨⟨⟨ds, gs, before, hw, hc⟩, hx⟩, hz⟩ := hpre
  have hw' := DataW.Whole.of_heap (w' := w.forCall tape i) (by rfl) hw
  refine (contract (w.forCall tape i) w.heap.size i.args ds gs before hval hw' (hz.weights hw) (hX _ _ _ (by rfl) hx) hsh).mono fun e W' ⟨v, he, hp⟩ => ?_
  subst he
  exact ChangeSpec.post_blind hp

def lit8 (v : Value) : DataW Unit := match v with | .int .u8 n => .lit (.int .u8 n) | _ => .nil
theorem ascii_lits : (Rows.laid_strings_asciiSpace : DataW Unit) = .agg (ascii.map lit8) := by kernel_rfl
theorem ascii_u8 : ascii.all (fun v => match v with | .int .u8 _ => true | _ => false) = true := by kernel_rfl
theorem cells5 : Tryz.prog.cellsOf 5 = 1 := by kernel_rfl
theorem typeAscii : (Tryz.prog.globals[0]?).map (·.type) = some 446 := by kernel_rfl
theorem size_ascii : ascii.length = 256 := by kernel_rfl
/-- The table stands as it was laid. -/
theorem of_laid {W : World} (hsh : W.ShapedOpen Tryz.prog) (h : laidMetH Tryz.prog laidL W) : ∃ c fz, W.heap[0]? = some (.cells c 446 fz) ∧ c.toList = ascii := by
  rw [MakeChecks.laidMetH_plain _ _ _ plainL] at h
  obtain ⟨g, t, cs, fuel, p, hg, ht, hv, hd⟩ := Lib.laidMet.reads h (n := "strings.asciiSpace") (d := Rows.laid_strings_asciiSpace) (by simp [laidL])
  obtain rfl := Option.some.inj (gAscii.symm.trans hg)
  obtain rfl := Option.some.inj (typeAscii.symm.trans ht)
  have hb : ∃ e fz, W.heap[0]? = some (.cells cs e fz) := by
    simp only [World.var?, gAscii, Option.bind_some] at hv
    split at hv
    · rename_i c e fz hc
      cases hv
      exact ⟨e, fz, hc⟩
    · cases hv
  obtain ⟨e, fz, hb⟩ := hb
  have he : e = 446 := by
    obtain ⟨⟨zero, t⟩, h1, h2⟩ := Option.map_eq_some_iff.1 rowAscii
    have h3 : t = 446 := h2
    subst h3
    obtain ⟨cs', h4, _⟩ := hsh.1 0 zero 446 (of_decide_eq_true (by kernel_rfl)) h1
    rw [hb] at h4
    cases h4
    rfl
  subst he
  refine ⟨cs, fz, hb, ?_⟩
  rw [ascii_lits] at hd
  obtain ⟨xs, m, rfl, hx, hlen, hxl, hel⟩ := DataW.trod_array Tryz.underlying446 hd
  rw [cells5] at hel
  simp only [Prod.mk.injEq, DataW.agg.injEq] at hx
  have hcl : cs.toList.length = 256 := by rw [hlen]; kernel_rfl
  apply List.ext_getElem?
  intro i
  by_cases hi : i < 256
  · have h1 := hel i hi
    have h2 : xs[i]? = some (xs[i]'(by omega)) := List.getElem?_eq_getElem (by omega)
    have h3 : (ascii.map lit8)[i]? = some (xs[i]'(by omega)).1 := by rw [hx.1, List.getElem?_map, h2]; rfl
    rw [h2] at h1
    simp only [Nat.mul_one] at h1
    obtain ⟨k, e1, e2, _⟩ := DataW.trod_int Tryz.underlying5 h1
    have h4 : cs.toList[i]? = some (.int .u8 k) := by
      have := congrArg (·[0]?) e1
      simpa [List.getElem?_take, List.getElem?_drop] using this
    rw [h4]
    have h5 : ascii[i]? = some (ascii[i]'(by rw [size_ascii]; omega)) := List.getElem?_eq_getElem _
    rw [List.getElem?_map, h5] at h3
    rw [h5]
    have h6 := List.all_eq_true.1 ascii_u8 _ (List.getElem_mem (by rw [size_ascii]; omega : i < ascii.length))
    generalize ascii[i]'(by rw [size_ascii]; omega) = v at h3 h6
    cases v <;> first | exact absurd (show false = true from h6) (by decide) | skip
    rename_i q n
    cases q <;> first | exact absurd (show false = true from h6) (by decide) | skip
    simp only [Option.map_some, lit8, Option.some.injEq] at h3
    rw [e2] at h3
    cases h3
    rfl
  · rw [List.getElem?_eq_none (by omega), List.getElem?_eq_none (by rw [size_ascii]; omega)]

set_option maxRecDepth 100000 in
theorem lifted (os : Os) (started : os.Started) (H : Type) (enc : TypeId × Value → H) :
    ReturnsInHanded {} Tryz.checked os 3 .any (fun w args => (Rows.depsClosureSpec.pre enc Tryz.checked.prog Tryz.f3 [] false w args ∧ laidMetH Tryz.checked.prog laidL w) ∧ sizedMet enc Tryz.checked.prog Tryz.f3 (OpenSpec.ofChange Rows.depsClosureSpec) false w args)
      (Rows.depsClosureSpec.post enc Tryz.checked.prog Tryz.f3 false true false false) := by
  refine handed_and_shaped (C := Tryz.checked) (X := fun w _ => laidMetH Tryz.checked.prog laidL w) (fun _ _ _ hh h => h.of_heap hh) own started noInit Tryz.func3
    (ChangeSpec.witness_shaped (enc := enc) (C := Tryz.checked) (os := os) (X := fun w _ => laidMetH Tryz.checked.prog laidL w) false (World.laidAll Tryz.prog os laidL) nilArgs 8 (World.laidAll_os _ _ _)
      (World.shaped_of_ZipB (wz1 os) (wz2 os)) (wok os) (wpre os H enc) (wsz os H enc)
      (by rw [MakeChecks.laidMetH_plain _ _ _ plainL]; exact laidMet_laidAll _ (wf1 os) (wf2 os))) ?_
  intro W base args ds gs before hval0 hW hsz hL hsh
  have hW' := hW
  obtain ⟨p, q, hA0, hV, rfl, hfz, hnd⟩ := hW
  have hA : DataW.TrodAll enc Tryz.prog W 0 (fun _ => true) true [22, 23] args.toList ds p := by
    have : Tryz.f3.params.toList = [22, 23] := by rw [Tryz.params3]
    rw [← this]
    exact hA0
  obtain ⟨v0, v1, d0, d1, p0, p1, rfl, rfl, rfl, h0, h1⟩ := trodAll_two hA
  obtain ⟨rfl, rfl⟩ := trodVars_none hV
  have hsz' : (DataW.weightsEach Tryz.prog ([22, 23] ++ []) ([d0, d1] ++ [])).all (· ≤ reachBytes) = true := by
    have e : Tryz.f3.params.toList ++ Rows.depsClosureSpec.plain.varTypes Tryz.prog = [22, 23] ++ [] := by
      rw [Tryz.params3]
      rfl
    rw [← e]
    exact hsz
  have b0 : Bd Tryz.prog 22 d0 := fun n hn => of_decide_eq_true (List.all_eq_true.1 hsz' n (DataW.weights_mem_each (j := 0) (t := 22) rfl rfl n hn))
  have b1 : Bd Tryz.prog 23 d1 := fun n hn => of_decide_eq_true (List.all_eq_true.1 hsz' n (DataW.weights_mem_each (j := 1) (t := 23) rfl rfl n hn))
  have hval : ∀ (j : Nat) t v, Tryz.f3.params[j]? = some t → (#[v0, v1] : Array Value)[j]? = some v → Value.okWide Tryz.prog W .any base t v := hval0
  clear hval0
  have w0 : Value.okWide Tryz.prog W .any base 22 v0 := hval 0 22 v0 (by rw [Tryz.params3]; rfl) rfl
  have w1 : Value.okWide Tryz.prog W .any base 23 v1 := hval 1 23 v1 (by rw [Tryz.params3]; rfl) rfl
  clear hval
  obtain ⟨a0, l0, c0, rfl⟩ := WideShapes.okWide_slice Tryz.underlying22 w0
  obtain ⟨a1, l1, c1, rfl⟩ := WideShapes.okWide_slice Tryz.underlying23 w1
  have hlt : ∀ x ∈ p0 ++ p1, x.block < W.heap.size := fun x hx => by
    have := hW'.lt x (by simpa using hx)
    exact this
  have h0k := h0
  have h1k := h1
  obtain ⟨n0, t0⟩ := h0
  obtain ⟨n1, t1⟩ := h1
  obtain ⟨y0, xs, e0, hx⟩ := read_els t0 b0
  obtain ⟨y1, ids, e1, hi, hik, hil⟩ := read_ints t1 b1
  have e0' : Value.slice a0 l0 c0 = y0 := by simpa [Value.cells] using e0
  have e1' : Value.slice a1 l1 c1 = y1 := by simpa [Value.cells] using e1
  subst e0' e1'
  obtain ⟨c, fz, hb, hc⟩ := of_laid hsh hL
  have aw : Awakes W := fun wx hwx => (awake_calls (w := wx) (by rw [hwx.block 0 (Array.getElem?_eq_some_iff.1 hb).1]; exact hb) hc).mono fun e W' ⟨he, hk⟩ => ⟨he, ⟨hk.os, hk.tape, hk.output, hk.size, hk.block⟩⟩
  refine (depsClosure_any W _ xs hx _ ids hi hik (by omega) aw).mono fun e W' ⟨he, bel⟩ => ?_
  subst he
  refine ⟨_, rfl, _, _, _, [], p0 ++ p1, [], hW', trodAll_mk1 (shut_bool Tryz.underlying4 _), ?_, rfl, bel.frame _, fun h => by cases h⟩
  have hT : DataW.TrodAll enc Tryz.prog W' 0 (fun b => decide (b < W.heap.size)) true [22, 23] [Value.slice a0 l0 c0, Value.slice a1 l1 c1] [d0, d1] (p0 ++ p1) :=
    trodAll_mk2 (Below.trod jj1 (by kernel_rfl) (of_decide_eq_true (by kernel_rfl)) h0k bel fun x hx => hlt x (List.mem_append.2 (Or.inl hx)))
      (Below.trod jj1 (by kernel_rfl) (of_decide_eq_true (by kernel_rfl)) h1k bel fun x hx => hlt x (List.mem_append.2 (Or.inr hx)))
  have e : Tryz.f3.params.toList = [22, 23] := by rw [Tryz.params3]
  rw [← e] at hT
  exact hT

theorem row : Rows.DepsClosureSaid :=
  OpenClaim.holds_of_wide 3 Tryz.f3 rfl rfl rfl rfl rfl rfl rfl ⟨rfl, rfl, rfl, rfl, rfl⟩ rfl rfl rfl rfl rfl (by kernel_rfl) Tryz.func3 closed
    (of_decide_eq_true (by kernel_rfl)) (by unfold Func.isWrapper; first | (rw [if_pos (by decide +kernel)]; kernel_rfl) | (rw [if_neg (by decide +kernel)]; exact ⟨rfl, rfl⟩))
    (fun os started H enc _ => lifted os started H enc)
end Go.Proofs.YthbmnacleneflaaGreatDoor
