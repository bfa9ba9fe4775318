/-
  A run of one goroutine over known values: reslicing, append, copy, clear. Condition: the store and the world belong together (WR).
-/
import Derived.Test.YthbmnacleneflaaGreatDoorAeA
import Derived.Laws.StructEq
set_option linter.unusedVariables false
set_option linter.unusedSimpArgs false
namespace Go.Proofs.YthbmnacleneflaaGreatDoor.ae
open Go

def bounds (len cap : Nat) (lo hi mx : Option Value) : Option (Nat × Nat × Nat) :=
  (match mx with | some v => asNat v | none => some cap).bind fun m =>
  (match hi with | some v => asNat v | none => some len).bind fun h =>
  (match lo with | some v => asNat v | none => some 0).bind fun l =>
  bif (mx.isNone || hi.isSome) && Nat.ble l h && Nat.ble h m && Nat.ble m cap then some (l, h, m) else none
def resliceA (P : Program) (t : TypeId) (x : Value) (lo hi mx : Option Value) (hp : H) : Option Value := match P.underlying t, x with
  | some (.slice e), .slice (some ⟨i, o, none⟩) len cap => (size P e).bind fun s => (bounds len cap lo hi mx).bind fun (l, hh, m) =>
      bif Nat.beq cap big then (bif mx.isSome then (match hp.get i with
          | some (.cells c e' _ true) => bif (e' == e) && Nat.ble (o + m * s) c.length && Nat.ble 1 s && Nat.blt m big then some (.slice (some ⟨i, bif Nat.beq m l then o else o + l * s, none⟩) (hh - l) (m - l)) else none
          | _ => none) else match hp.get i with
          | some (.cells c e' _ true) => bif (e' == e) && Nat.ble (o + hh * s) c.length && Nat.ble 1 s then some (bif Nat.beq hh l && Nat.blt 0 l then emp else .slice (some ⟨i, o + l * s, none⟩) (hh - l) big) else none
          | _ => none)
      else bif Nat.blt m big then some (.slice (some ⟨i, bif Nat.beq m l then o else o + l * s, none⟩) (hh - l) (m - l)) else none
  | some (.array k e), .pointer (some ⟨i, o, none⟩) => (size P e).bind fun s => (bounds k k lo hi mx).bind fun (l, hh, m) => bif Nat.blt k 1000000 then some (.slice (some ⟨i, bif Nat.beq m l then o else o + l * s, none⟩) (hh - l) (m - l)) else none
  | _, _ => none

def OR (θ : Th) (a b : Option Value) : Prop := match a, b with
  | none, none => True
  | some v, some v' => VR θ v v'
  | _, _ => False
section
variable {P : Program} {base : Nat} {θ : Th} {w : World} {h h' : H} {t : TypeId} {n : Nat}
theorem bound_run {k : IntKind} {i y : Nat} {code : BoundsCode} (hi : i ≤ y) : (Instr.sliceBound (.int k i) y code).run P w = .ok i w := by
  simp [Instr.sliceBound, asIntOf, hi]
theorem OR.get {a b : Option Value} {v : Value} (h : OR θ a b) (ha : a = some v) : ∃ v', b = some v' ∧ VR θ v v' := by
  subst ha
  cases b with
  | none => exact h.elim
  | some v' => exact ⟨v', rfl, h⟩
theorem OR.none {a b : Option Value} (h : OR θ a b) (ha : a = none) : b = none := by
  subst ha
  cases b with
  | none => rfl
  | some v' => exact h.elim
/-- The bounds of a reslicing; the room at hand may be another one than the store's. -/
theorem bounds_run {len cap cap' l hh m : Nat} {isS : Bool} {lo hi mx lo' hi' mx' : Option Value} (hb : bounds len cap lo hi mx = some (l, hh, m)) (h1 : OR θ lo lo') (h2 : OR θ hi hi') (h3 : OR θ mx mx')
    (hc : cap' = cap ∨ (mx = none ∧ hh ≤ cap') ∨ (mx.isSome = true ∧ m ≤ cap')) :
    (Instr.sliceBounds isS len cap' lo' hi' mx').run P w = .ok (l, hh, if mx = none then cap' else m) w ∧ l ≤ hh ∧ hh ≤ m ∧ m ≤ cap ∧ (mx = none → m = cap) := by
  unfold bounds at hb
  simp only [Option.bind_eq_some_iff] at hb
  obtain ⟨m0, hm, h0, hh0, l0, hl, hb⟩ := hb
  cases hcc : ((mx.isNone || hi.isSome) && Nat.ble l0 h0 && Nat.ble h0 m0 && Nat.ble m0 cap)
  · rw [hcc] at hb; cases hb
  rw [hcc] at hb
  cases hb
  simp only [Bool.and_eq_true] at hcc
  obtain ⟨⟨⟨c0, c1⟩, c2⟩, c3⟩ := hcc
  have c1 := Nat.le_of_ble_eq_true c1
  have c2 := Nat.le_of_ble_eq_true c2
  have c3 := Nat.le_of_ble_eq_true c3
  cases lo with
  | none =>
    rw [h1.none rfl]
    cases hl
    cases mx with
    | none =>
      rw [h3.none rfl]
      cases hm
      cases hi with
      | none =>
        rw [h2.none rfl]; cases hh0
        exact ⟨by simp [Instr.sliceBounds], c1, c2, c3, fun _ => rfl⟩
      | some v =>
        obtain ⟨v', rfl, hv⟩ := h2.get rfl
        obtain ⟨k, rfl⟩ := asNat_spec hh0 hv
        have hle : hh ≤ cap' := by rcases hc with rfl | ⟨_, h⟩ | ⟨h, _⟩ <;> first | omega | cases h
        exact ⟨by simp [Instr.sliceBounds, bound_run hle], c1, c2, c3, fun _ => rfl⟩
    | some u =>
      obtain ⟨u', rfl, hu⟩ := h3.get rfl
      obtain ⟨k, rfl⟩ := asNat_spec hm hu
      have c4 : m ≤ cap' := by
        rcases hc with h | ⟨h, _⟩ | ⟨_, h⟩
        · omega
        · cases h
        · exact h
      cases hi with
      | none => simp at c0
      | some v =>
        obtain ⟨v', rfl, hv⟩ := h2.get rfl
        obtain ⟨k2, rfl⟩ := asNat_spec hh0 hv
        exact ⟨by simp [Instr.sliceBounds, bound_run c4, bound_run c2], c1, c2, c3, fun h => by cases h⟩
  | some x =>
    obtain ⟨x', rfl, hx⟩ := h1.get rfl
    obtain ⟨kx, rfl⟩ := asNat_spec hl hx
    cases mx with
    | none =>
      rw [h3.none rfl]
      cases hm
      cases hi with
      | none =>
        rw [h2.none rfl]; cases hh0
        exact ⟨by simp [Instr.sliceBounds, bound_run c1], c1, c2, c3, fun _ => rfl⟩
      | some v =>
        obtain ⟨v', rfl, hv⟩ := h2.get rfl
        obtain ⟨k, rfl⟩ := asNat_spec hh0 hv
        have hle : hh ≤ cap' := by rcases hc with rfl | ⟨_, h⟩ | ⟨h, _⟩ <;> first | omega | cases h
        exact ⟨by simp [Instr.sliceBounds, bound_run hle, bound_run c1], c1, c2, c3, fun _ => rfl⟩
    | some u =>
      obtain ⟨u', rfl, hu⟩ := h3.get rfl
      obtain ⟨k, rfl⟩ := asNat_spec hm hu
      have c4 : m ≤ cap' := by
        rcases hc with h | ⟨h, _⟩ | ⟨_, h⟩
        · omega
        · cases h
        · exact h
      cases hi with
      | none => simp at c0
      | some v =>
        obtain ⟨v', rfl, hv⟩ := h2.get rfl
        obtain ⟨k2, rfl⟩ := asNat_spec hh0 hv
        exact ⟨by simp [Instr.sliceBounds, bound_run c4, bound_run c2, bound_run c1], c1, c2, c3, fun h => by cases h⟩
/-- What a block with more room than is known has. -/
theorem grow_spec {i : Nat} {c : List Value} {e : TypeId} {ro : Bool} (r : WR P base θ h w) (hg : h.get i = some (.cells c e ro true)) :
    ∃ p c' fz pre rr, θ i = some p ∧ w.heap[p.b]? = some (.cells c' e fz) ∧ VL θ c pre ∧ c'.toList = pre ++ rr ∧ c'.size = p.k ∧ size P e = some p.s ∧ (ro = false → Wt base p.b c'.size fz) := by
  obtain ⟨p, hp, hb⟩ := r.at_ i _ hg
  cases hb with
  | grow g hv he hk hs hz => exact ⟨p, _, _, _, _, hp, g, hv, he, hk, hs, hz⟩
theorem resliceA_run {x x' v : Value} {lo hi mx lo' hi' mx' : Option Value} (r : WR P base θ h w) (hs : resliceA P t x lo hi mx h = some v) (hx : VR θ x x') (h1 : OR θ lo lo') (h2 : OR θ hi hi') (h3 : OR θ mx mx') :
    ∃ v', (Instr.sliceAt t x' lo' hi' mx').run P w = .ok v' w ∧ VR θ v v' := by
  unfold resliceA at hs
  split at hs
  · rename_i e i o len cap hu
    simp only [Option.bind_eq_some_iff] at hs
    obtain ⟨s, hsz, ⟨l, hh, m⟩, hb, hs⟩ := hs
    dsimp only at hs
    cases hx with
    | same hq _ => simp [atom] at hq
    | slice hp hc hnil =>
      rename_i p
      rw [beq_f hc, cond_false] at hs
      cases hmb : Nat.blt m big
      · rw [hmb] at hs; cases hs
      rw [hmb, cond_true] at hs
      have hmb : m < big := Nat.le_of_ble_eq_true hmb
      cases hs
      obtain ⟨g1, g2, g3, g4, g5⟩ := bounds_run (P := P) (w := w) (isS := true) hb h1 h2 h3 (.inl rfl)
      have em : (if mx = none then cap else m) = m := by split <;> simp_all
      rw [em] at g1
      have hcap : m - l ≠ big := by omega
      refine ⟨.slice (some ⟨p.b, bif Nat.beq m l then o else o + l * s, none⟩) (hh - l) (m - l), ?_, .slice hp hcap .nil⟩
      simp only [Instr.sliceAt, Sem.run_bind, run_underlying hu, Result.andThen_ok, Instr.slice, g1, run_size hsz, Sem.run_pure]
      by_cases e : m = l
      · subst e; simp
      · simp [e, beq_f e, add_eq]
    | slack hp hk hnil =>
      rename_i c' p
      rw [beq_t rfl, cond_true] at hs
      cases hmx : mx.isSome
      · rw [hmx, cond_false] at hs
        have hmn : mx = none := by simpa using hmx
        subst hmn
        split at hs
        · rename_i c e' ro hg
          cases hcc : ((e' == e) && Nat.ble (o + hh * s) c.length && Nat.ble 1 s)
          · rw [hcc] at hs; cases hs
          rw [hcc, cond_true] at hs
          simp only [Bool.and_eq_true, beq_iff_eq] at hcc
          obtain ⟨⟨rfl, a1⟩, a2⟩ := hcc
          have a1 := Nat.le_of_ble_eq_true a1
          have a2 := Nat.le_of_ble_eq_true a2
          obtain ⟨q, cc, fz, pre, rr, q1, q2, q3, q4, q5, q6, q7⟩ := grow_spec r hg
          rw [hp] at q1; cases q1
          rw [hsz] at q6; cases q6
          have hlen : c.length ≤ p.k := by
            rw [q3.len, ← q5]
            have : cc.size = (pre ++ rr).length := by rw [← q4]; simp
            rw [this]; simp
          have hhc : hh ≤ c' := by
            have : hh * p.s ≤ c' * p.s := by omega
            exact Nat.le_of_mul_le_mul_right this (by omega)
          obtain ⟨g1, g2, g3, g4, g5⟩ := bounds_run (P := P) (w := w) (isS := true) (cap' := c') hb h1 h2 h3 (.inr (.inl ⟨rfl, hhc⟩))
          simp only [if_true] at g1
          cases hs
          by_cases e0 : hh = l
          · subst e0
            by_cases e1 : 0 < hh
            · have eb : (Nat.beq hh hh && Nat.blt 0 hh) = true := by simp [beq_t rfl, Nat.blt, Nat.ble_eq_true_of_le e1]
              rw [eb, cond_true]
              refine ⟨.slice (some (if c' = hh then ⟨p.b, o, none⟩ else ⟨p.b, o + hh * p.s, none⟩)) 0 (c' - hh), ?_, .emp .nil⟩
              simp only [Instr.sliceAt, Sem.run_bind, run_underlying hu, Result.andThen_ok, Instr.slice, g1, run_size hsz, Sem.run_pure, Nat.sub_self]
              by_cases e : c' = hh
              · simp [e]
              · simp [e, add_eq]
            · obtain rfl : hh = 0 := by omega
              have eb : (Nat.beq 0 0 && Nat.blt 0 0) = false := rfl
              rw [eb, cond_false]
              refine ⟨.slice (some ⟨p.b, o + 0 * p.s, none⟩) (0 - 0) (c' - 0), ?_, .slack hp (by simpa using hk) .nil⟩
              simp only [Instr.sliceAt, Sem.run_bind, run_underlying hu, Result.andThen_ok, Instr.slice, g1, run_size hsz, Sem.run_pure]
              by_cases e : c' = 0
              · simp [e]
              · simp [e, add_eq]
          · rw [beq_f e0, Bool.false_and, cond_false]
            have hlt : l < c' := by omega
            refine ⟨.slice (some ⟨p.b, o + l * p.s, none⟩) (hh - l) (c' - l), ?_, .slack hp ?_ .nil⟩
            · simp only [Instr.sliceAt, Sem.run_bind, run_underlying hu, Result.andThen_ok, Instr.slice, g1, run_size hsz, Sem.run_pure]
              simp [show ¬ (c' = l) by omega, add_eq]
            · rw [Nat.sub_mul]
              have : l * p.s ≤ c' * p.s := Nat.mul_le_mul_right _ (by omega)
              omega
        · cases hs
      · rw [hmx, cond_true] at hs
        split at hs
        · rename_i c e' ro hg
          cases hcc : ((e' == e) && Nat.ble (o + m * s) c.length && Nat.ble 1 s && Nat.blt m big)
          · rw [hcc] at hs; cases hs
          rw [hcc, cond_true] at hs
          simp only [Bool.and_eq_true, beq_iff_eq] at hcc
          obtain ⟨⟨⟨rfl, a1⟩, a2⟩, a3⟩ := hcc
          have a1 := Nat.le_of_ble_eq_true a1
          have a2 := Nat.le_of_ble_eq_true a2
          have a3 : m < big := Nat.le_of_ble_eq_true a3
          obtain ⟨q, cc, fz, pre, rr, q1, q2, q3, q4, q5, q6, q7⟩ := grow_spec r hg
          rw [hp] at q1; cases q1
          rw [hsz] at q6; cases q6
          have hlen : c.length ≤ p.k := by
            rw [q3.len, ← q5]
            have : cc.size = (pre ++ rr).length := by rw [← q4]; simp
            rw [this]; simp
          have hmc : m ≤ c' := by
            have : m * p.s ≤ c' * p.s := by omega
            exact Nat.le_of_mul_le_mul_right this (by omega)
          obtain ⟨g1, g2, g3, g4, g5⟩ := bounds_run (P := P) (w := w) (isS := true) (cap' := c') hb h1 h2 h3 (.inr (.inr ⟨hmx, hmc⟩))
          have em : (if mx = none then c' else m) = m := by
            split
            · rename_i e; rw [e] at hmx; cases hmx
            · rfl
          rw [em] at g1
          cases hs
          have hcap : m - l ≠ big := by omega
          refine ⟨.slice (some ⟨p.b, bif Nat.beq m l then o else o + l * p.s, none⟩) (hh - l) (m - l), ?_, .slice hp hcap .nil⟩
          simp only [Instr.sliceAt, Sem.run_bind, run_underlying hu, Result.andThen_ok, Instr.slice, g1, run_size hsz, Sem.run_pure]
          by_cases e : m = l
          · subst e; simp
          · simp [e, beq_f e, add_eq]
        · cases hs
  · rename_i k e i o hu
    simp only [Option.bind_eq_some_iff] at hs
    obtain ⟨s, hsz, ⟨l, hh, m⟩, hb, hs⟩ := hs
    dsimp only at hs
    cases hk : Nat.blt k 1000000
    · rw [hk] at hs; cases hs
    rw [hk, cond_true] at hs
    have hk : k < 1000000 := Nat.le_of_ble_eq_true hk
    cases hs
    cases hx with
    | same hq _ => simp [atom] at hq
    | ptr hp hnil =>
      rename_i p
      obtain ⟨g1, g2, g3, g4, g5⟩ := bounds_run (P := P) (w := w) (isS := false) hb h1 h2 h3 (.inl rfl)
      have em : (if mx = none then k else m) = m := by split <;> simp_all
      rw [em] at g1
      refine ⟨.slice (some ⟨p.b, bif Nat.beq m l then o else o + l * s, none⟩) (hh - l) (m - l), ?_, .slice hp (by unfold big; omega) .nil⟩
      simp only [Instr.sliceAt, Sem.run_bind, run_underlying hu, Result.andThen_ok, Instr.sureAddr, g1, run_size hsz, Sem.run_pure]
      by_cases e : m = l
      · subst e; simp
      · simp [e, beq_f e, add_eq]
  · cases hs
end
end Go.Proofs.YthbmnacleneflaaGreatDoor.ae
/-
  A run of one goroutine over known values: append, copy, clear. Condition: the store and the world belong together (WR).
-/
set_option linter.unusedVariables false
set_option linter.unusedSimpArgs false
namespace Go.Proofs.YthbmnacleneflaaGreatDoor.ae
open Go

/-- The cells that are appended. -/
def appendedA (sz : Nat) (h : H) (x : Value) : Option (List Value × Nat) := match x with
  | .slice (some ⟨i, o, none⟩) k _ => (rd h i o (k * sz)).map fun l => (l, k)
  | .slice none 0 _ => some ([], 0)
  | .string s => some (((s.extract 0 s.size).data.map fun b => Value.int .u8 b.toNat).toList, s.size)
  | _ => none
def notInt (P : Program) (t : Option TypeId) : Bool := match t with
  | some t => (match P.underlying t with | some (.int _) => false | some _ => true | none => false)
  | none => false
def appendA (P : Program) (st : TypeId) (s x : Value) (h : H) (n : Nat) : R :=
  (elemOf P st).bind fun e => (P.info? e).bind fun inf => (inf.zero).bind fun z => (appendedA inf.size h x).bind fun (new, k) =>
    bif !(Nat.ble inf.bytes 10000 && ((lst z).length == inf.size) && (new.length == k * inf.size) && Nat.ble 1 inf.size) then none else match s with
  | .slice none 0 0 => bif Nat.beq k 0 then some (.slice none 0 0, h, n) else bif Nat.ble k 1000000 then (fresh h n (.cells new e false true)).map fun h => (.slice (some ⟨n, 0, none⟩) k big, h, n + 1) else none
  | .slice (some ⟨i, o, none⟩) len cap =>
    bif !Nat.ble (len + k) 1000000 then none else
    bif Nat.beq cap big then
      (match h.get i with
       | some (.cells c e' false true) =>
         bif Nat.ble (o + (len + k) * inf.size) c.length && (e' == e) then (wr h i (o + len * inf.size) new).map fun h => (.slice (some ⟨i, o, none⟩) (len + k) big, h, n) else
         bif (c.length == len * inf.size) && (e' == e) && Nat.beq o 0 && new.all oneC then
           (hput h i .dead).bind fun h1 => (fresh h1 n (.cells (c ++ new) e false true)).map fun h => (.slice (some ⟨n, 0, none⟩) (len + k) big, h, n + 1)
         else none
       | _ => none)
    else bif Nat.ble (len + k) cap then (wr h i (o + len * inf.size) new).map fun h => (.slice (some ⟨i, o, none⟩) (len + k) cap, h, n)
    else (rd h i o (len * inf.size)).bind fun old => (fresh h n (.cells (old ++ new) e false true)).map fun h => (.slice (some ⟨n, 0, none⟩) (len + k) big, h, n + 1)
  | _ => none

section
variable {P : Program} {base : Nat} {θ : Th} {w : World} {h h' : H} {t : TypeId} {n : Nat}
theorem appendedA_run {sz k : Nat} {x x' : Value} {l : List Value} (r : WR P base θ h w) (ha : appendedA sz h x = some (l, k)) (hx : VR θ x x') :
    (Builtin.lenOf x').run P w = .ok k w ∧ ∃ l', (Builtin.firstCells sz k x').run P w = .ok l'.toArray w ∧ VL θ l l' := by
  unfold appendedA at ha
  split at ha
  · rename_i i o k' c
    rw [Option.map_eq_some_iff] at ha
    obtain ⟨l0, hr, e⟩ := ha
    cases e
    obtain ⟨p, c', e, fz, l', g1, g2, g3, g4⟩ := rd_spec r hr
    cases hx with
    | same hq _ => simp [atom] at hq
    | slice hp _ _ =>
      rw [hp] at g1; cases g1
      exact ⟨by simp [Builtin.lenOf], l', by simp [Builtin.firstCells, run_loadN g2 g3], g4⟩
    | slack hp _ _ =>
      rw [hp] at g1; cases g1
      exact ⟨by simp [Builtin.lenOf], l', by simp [Builtin.firstCells, run_loadN g2 g3], g4⟩
  · cases ha
    cases hx with
    | same hq _ => exact ⟨by simp [Builtin.lenOf], [], by simp [Builtin.firstCells], .nil⟩
  · rename_i s
    cases ha
    cases hx with
    | same hq _ =>
      refine ⟨by simp [Builtin.lenOf], ((s.extract 0 s.size).data.map fun b => Value.int .u8 b.toNat).toList, by simp only [Builtin.firstCells, Sem.run_pure, Array.toArray_toList], ?_⟩
      refine atoms_vl ?_
      rw [List.all_eq_true]
      intro v hv
      simp only [Array.toList_map, List.mem_map] at hv
      obtain ⟨b, _, rfl⟩ := hv
      rfl
  · cases ha
theorem growBy_le (N : Nat) : ∀ (r c : Nat), Builtin.growBy N r c ≤ max c (2 * N + 200) := by
  intro r
  induction r with
  | zero => intro c; simp only [Builtin.growBy]; omega
  | succ r ih =>
    intro c
    simp only [Builtin.growBy]
    split
    · omega
    · have := ih (c + (c + 768) / 4)
      omega
theorem next_le {need cap : Nat} (h : cap < need) : Builtin.nextslicecap need cap ≤ 2 * need + 200 := by
  unfold Builtin.nextslicecap
  split
  · omega
  · split
    · omega
    · have := growBy_le need 4 cap; omega
theorem heap_eq {w : World} : ({ w with drawn := w.drawn + 1 } : World).heap = w.heap := rfl
/-- A new block in the place of a slice that is full, or of none. -/
theorem grown {e : TypeId} {inf : TypeInfo} {z : Value} {all all' : List Value} {need q : Nat} (r : WR P base θ h w) (hb : base ≤ w.heap.size) (hi : P.info? e = some inf) (hzl : (lst z).length = inf.size)
    (hall : VL θ all all') (hlen : all'.length = need * inf.size) (hqn : need ≤ q) (hf : fresh h n (.cells all e false true) = some h') :
    ∃ θ', Ext θ θ' ∧ VR θ' (.slice (some ⟨n, 0, none⟩) need big) (.slice (some ⟨w.heap.size, 0, none⟩) need q) ∧ WR P base θ' h' (w.drew.alloc (.cells (all'.toArray ++ Builtin.zeroCells z.cells (q - need)) e)) ∧
      Keep base w (w.drew.alloc (.cells (all'.toArray ++ Builtin.zeroCells z.cells (q - need)) e)) := by
  have r1 : WR P base θ h w.drew := r.heap rfl
  have hz2 : z.cells.size = inf.size := by simpa [lst] using hzl
  obtain ⟨θ', g1, g2, g3, g4⟩ := new_spec (o := .cells (all'.toArray ++ Builtin.zeroCells z.cells (q - need)) e) (p := ⟨w.heap.size, q * inf.size, inf.size⟩) r1 hb hf rfl (fun θ' w' hx hw => by
    refine .grow (r := (Builtin.zeroCells z.cells (q - need)).toList) hw (hall.mono hx) (by simp) ?_ (by simp [size, hi]) fun _ => ⟨hb, .inl rfl⟩
    simp only [Array.size_append, List.size_toArray, hlen, Builtin.zeroCells, Array.size_map, Array.size_range, hz2]
    rw [← Nat.add_mul]
    congr 1
    omega)
  exact ⟨θ', g2, .slack g1 (by simp) .nil, g3, ⟨g4.os, g4.tape, g4.output, g4.size, g4.block⟩⟩
section
variable {types : Array TypeId} {xt ty e : TypeId} {d : TypeDesc} {len cap k sz : Nat} {x' : Value} {new : Array Value} {w' : World}
set_option maxHeartbeats 8000000 in
theorem app_room (h0 : types[0]? = some t) (h1 : types[1]? = some xt) (hu : P.underlying t = some (.slice e)) (hd : P.underlying xt = some d) (hdi : ∀ k, d ≠ .int k) (hisz : (sizeOf e).run P w = .ok sz w) (hlen : (Builtin.lenOf x').run P w = .ok k w) (hroom : len + k ≤ cap) {a : Addr}
    (hnew : (Builtin.firstCells sz k x').run P w = .ok new w) (hst : (storeCells (a.add (len * sz)) new.toList).run P w = .ok () w') : (Builtin.append_ types ty #[.slice (some a) len cap, x']).run P w = .ok (.slice (some a) (len + k) cap) w' := by
  cases d <;> first | exact absurd rfl (hdi _) | simp [Builtin.append_, h0, h1, run_underlying hu, run_underlying hd, hisz, hlen, hroom, hnew, hst]
set_option maxHeartbeats 8000000 in
theorem app_room0 (h0 : types[0]? = some t) (h1 : types[1]? = some xt) (hu : P.underlying t = some (.slice e)) (hd : P.underlying xt = some d) (hdi : ∀ k, d ≠ .int k) (hisz : (sizeOf e).run P w = .ok sz w) (hlen : (Builtin.lenOf x').run P w = .ok 0 w)
    (hnew : (Builtin.firstCells sz 0 x').run P w = .ok new w) : (Builtin.append_ types ty #[.slice none 0 0, x']).run P w = .ok (.slice none 0 0) w := by
  cases d <;> first | exact absurd rfl (hdi _) | simp [Builtin.append_, h0, h1, run_underlying hu, run_underlying hd, hisz, hlen, hnew]
set_option maxHeartbeats 8000000 in
theorem app_grow {b : Option Addr} {old : Array Value} {inf : TypeInfo} {z : Value} {q : Nat} (h0 : types[0]? = some t) (h1 : types[1]? = some xt) (hu : P.underlying t = some (.slice e)) (hd : P.underlying xt = some d) (hdi : ∀ k, d ≠ .int k) (hi : P.info? e = some inf) (hz : inf.zero = some z) (hlen : (Builtin.lenOf x').run P w = .ok k w)
    (hroom : ¬ len + k ≤ cap) (hneed : len + k ≤ 1000000) (hby : inf.bytes ≤ 10000) (hq : q = (Question.appendCap (len + k) cap e).cut (w.tape w.drawn (.appendCap (len + k) cap e)))
    (hold : (Builtin.firstCells inf.size len (.slice b len cap)).run P w.drew = .ok old w.drew) (hnew : (Builtin.firstCells inf.size k x').run P w.drew = .ok new w.drew) :
    (Builtin.append_ types ty #[.slice b len cap, x']).run P w = .ok (.slice (some ⟨w.heap.size, 0, none⟩) (len + k) q) (w.drew.alloc (.cells (old ++ new ++ Builtin.zeroCells z.cells (q - (len + k))) e)) := by
  have h63 : ¬ (9223372036854775807 < ((len : Int) + (k : Int))) := by omega
  have h48 : ¬ (281474976710656 < Builtin.nextslicecap (len + k) cap * inf.bytes) := by
    have a1 := next_le (need := len + k) (cap := cap) (by omega)
    have a2 : Builtin.nextslicecap (len + k) cap * inf.bytes ≤ (2 * 1000000 + 200) * 10000 := Nat.mul_le_mul (by omega) hby
    omega
  cases d <;> first | exact absurd rfl (hdi _) | simp [Builtin.append_, h0, h1, run_underlying hu, run_underlying hd, sizeOf, typeInfo, zeroValue, hi, hz, hlen, hroom, h63, h48, Question.forced, hold, hnew, newRow, ← hq]
end
end
end Go.Proofs.YthbmnacleneflaaGreatDoor.ae
/-
  A run of one goroutine over known values: append; copy, clear. Condition: the store and the world belong together (WR).
-/
set_option linter.unusedVariables false
set_option linter.unusedSimpArgs false
namespace Go.Proofs.YthbmnacleneflaaGreatDoor.ae
open Go

theorem setN_ex {o : Nat} {vs l : List Value} (h : o + vs.length ≤ l.length) : setN o vs l = some (l.take o ++ vs ++ l.drop (o + vs.length)) := by
  induction l generalizing o vs with
  | nil =>
    cases vs with
    | nil => simp at h; subst h; rfl
    | cons v vs => simp at h
  | cons y l ih =>
    cases vs with
    | nil => rw [setN_nil]; simp
    | cons v vs =>
      cases o with
      | zero =>
        have := ih (o := 0) (vs := vs) (by simp at h ⊢; omega)
        simp only [setN, this, Option.map_some]
        simp
      | succ o =>
        have := ih (o := o) (vs := v :: vs) (by simp at h ⊢; omega)
        simp only [setN, this, Option.map_some]
        simp [Nat.add_right_comm o 1]
theorem oneC_vl {θ : Th} {vs vs' : List Value} (hv : VL θ vs vs') (ha : vs.all oneC = true) : vs'.all oneC = true := by
  induction vs generalizing vs' with
  | nil => rw [hv.inv_nil]; rfl
  | cons v vs ih =>
    obtain ⟨v', vs', rfl, h1, h2⟩ := hv.inv_cons
    simp only [List.all_cons, Bool.and_eq_true] at ha ⊢
    refine ⟨?_, ih h2 ha.2⟩
    have := ha.1
    cases h1 <;> first | assumption | rfl | (simp [oneC] at this)
section
variable {P : Program} {base : Nat} {θ : Th} {w : World} {h h' : H} {t : TypeId} {n : Nat}
theorem appendA_run {types : Array TypeId} {ty : TypeId} {s s' x x' v : Value} {n' : Nat} (r : WR P base θ h w) (hb : base ≤ w.heap.size) (h0 : types[0]? = some t) (hni : notInt P types[1]? = true) (ha : appendA P t s x h n = some (v, h', n')) (hs : VR θ s s') (hx : VR θ x x') :
    OpS P base θ w (Builtin.append_ types ty #[s', x']) v h' := by
  unfold appendA at ha
  simp only [Option.bind_eq_some_iff] at ha
  obtain ⟨e, he, inf, hinf, z, hz, ⟨new, k⟩, hap, ha⟩ := ha
  dsimp only at ha
  cases hcc : (Nat.ble inf.bytes 10000 && ((lst z).length == inf.size) && (new.length == k * inf.size) && Nat.ble 1 inf.size)
  · rw [hcc] at ha; cases ha
  rw [hcc, Bool.not_true, cond_false] at ha
  simp only [Bool.and_eq_true, beq_iff_eq] at hcc
  obtain ⟨⟨⟨c1, c2⟩, c3⟩, c4⟩ := hcc
  have c1 := Nat.le_of_ble_eq_true c1
  have c4 := Nat.le_of_ble_eq_true c4
  have hu := elemOf_spec he
  obtain ⟨xt, d, hx1, hd, hdi⟩ : ∃ xt d, types[1]? = some xt ∧ P.underlying xt = some d ∧ ∀ k, d ≠ .int k := by
    unfold notInt at hni
    cases e1 : types[1]? with
    | none => rw [e1] at hni; cases hni
    | some xt =>
      rw [e1] at hni
      cases e2 : P.underlying xt with
      | none => simp [e2] at hni
      | some d => exact ⟨xt, d, rfl, e2, fun k hk => by subst hk; simp [e2] at hni⟩
  obtain ⟨hlen, new', hnew, hvl⟩ := appendedA_run r hap hx
  have r1 : WR P base θ h w.drew := r.heap rfl
  obtain ⟨_, new2, hnew2, hvl2⟩ := appendedA_run r1 hap hx
  have hnl2 : new2.length = k * inf.size := by rw [← hvl2.len, c3]
  have hisz : ∀ w, (sizeOf e).run P w = .ok inf.size w := fun w => by simp [sizeOf, typeInfo, hinf]
  split at ha
  · cases hk : Nat.beq k 0
    · rw [hk, cond_false] at ha
      cases hkk : Nat.ble k 1000000
      · rw [hkk] at ha; cases ha
      rw [hkk, cond_true, Option.map_eq_some_iff] at ha
      obtain ⟨h1, hf, e1⟩ := ha
      cases e1
      have hkk := Nat.le_of_ble_eq_true hkk
      have hk0 : k ≠ 0 := fun e => by subst e; simp at hk
      cases hs with
      | same _ _ =>
        obtain ⟨q, hq⟩ : ∃ q, q = (Question.appendCap (0 + k) 0 e).cut (w.tape w.drawn (.appendCap (0 + k) 0 e)) := ⟨_, rfl⟩
        have hqn : 0 + k ≤ q := by rw [hq]; unfold Question.cut; simp
        have hold : (Builtin.firstCells inf.size 0 (.slice none 0 0)).run P w.drew = .ok #[] w.drew := by simp [Builtin.firstCells]
        have hr := app_grow (ty := ty) (b := none) (len := 0) (cap := 0) h0 hx1 hu hd hdi hinf hz hlen (by omega) (by omega) c1 hq hold hnew2
        obtain ⟨θ', g1, g2, g3, g4⟩ := grown (need := 0 + k) (z := z) r hb hinf c2 hvl2 (by rw [Nat.zero_add]; exact hnl2) hqn hf
        rw [Nat.zero_add] at *
        refine ⟨_, θ', _, hr, g1, g2, ?_, ?_⟩ <;> simpa using (by assumption)
    · rw [hk, cond_true] at ha
      cases ha
      have hk0 := Nat.eq_of_beq_eq_true hk
      subst hk0
      cases hs with
      | same _ _ => exact OpS.same r (app_room0 h0 hx1 hu hd hdi (hisz w) hlen hnew) (.same rfl .nil)
  · rename_i i o len cap
    cases hkk : Nat.ble (len + k) 1000000
    · rw [hkk] at ha; cases ha
    rw [hkk, Bool.not_true, cond_false] at ha
    have hkk := Nat.le_of_ble_eq_true hkk
    cases hs with
    | same hq _ => simp [atom] at hq
    | slice hp hc hnil =>
      rename_i p
      rw [beq_f hc, cond_false] at ha
      cases hr : Nat.ble (len + k) cap
      · rw [hr, cond_false, Option.bind_eq_some_iff] at ha
        obtain ⟨old, hrd, ha⟩ := ha
        rw [Option.map_eq_some_iff] at ha
        obtain ⟨h1, hf, e1⟩ := ha
        cases e1
        have hroom : ¬ len + k ≤ cap := fun hle => by rw [Nat.ble_eq_true_of_le hle] at hr; cases hr
        obtain ⟨q, hq⟩ : ∃ q, q = (Question.appendCap (len + k) cap e).cut (w.tape w.drawn (.appendCap (len + k) cap e)) := ⟨_, rfl⟩
        have hqn : len + k ≤ q := by rw [hq]; unfold Question.cut; simp
        obtain ⟨p2, c', e', fz, old', g1, g2, g3, g4⟩ := rd_spec r1 hrd
        rw [hp] at g1; cases g1
        have hold : (Builtin.firstCells inf.size len (.slice (some ⟨p.b, o, none⟩) len cap)).run P w.drew = .ok old'.toArray w.drew := by simp [Builtin.firstCells, run_loadN g2 g3]
        have hol := (takeN_spec _ _ _ _ g3).2.1
        have hr := app_grow (ty := ty) h0 hx1 hu hd hdi hinf hz hlen hroom hkk c1 hq hold hnew2
        obtain ⟨θ', g1, g2, g3, g4⟩ := grown (need := len + k) (z := z) r hb hinf c2 (g4.append hvl2) (by simp [hol, hnl2, Nat.add_mul]) hqn hf
        refine ⟨_, θ', _, hr, g1, g2, ?_, ?_⟩ <;> simpa using (by assumption)
      · rw [hr, cond_true, Option.map_eq_some_iff] at ha
        obtain ⟨h1, hw, e1⟩ := ha
        cases e1
        have hroom := Nat.le_of_ble_eq_true hr
        obtain ⟨p2, w', g1, g2, g3, g4⟩ := wr_spec (P := P) r hb hw hvl
        rw [hp] at g1; cases g1
        exact ⟨_, θ, w', app_room h0 hx1 hu hd hdi (hisz w) hlen hroom hnew (by rw [add_eq]; simpa using g2), Ext.refl θ, .slice hp hc .nil, g3, g4⟩
    | slack hp hk hnil =>
      rename_i c' p
      rw [beq_t rfl, cond_true] at ha
      split at ha
      · rename_i c e' hg
        obtain ⟨q, cc, fz, pre, rr, q1, q2, q3, q4, q5, q6, q7⟩ := grow_spec r hg
        rw [hp] at q1; cases q1
        obtain ⟨hbase, hfz0⟩ := q7 rfl
        have hfz := (q7 rfl).no
        have hlenc : c.length ≤ p.k := by
          rw [q3.len, ← q5]
          have : cc.size = (pre ++ rr).length := by rw [← q4]; simp
          rw [this]; simp
        cases ha1 : (Nat.ble (o + (len + k) * inf.size) c.length && (e' == e))
        · rw [ha1, cond_false] at ha
          cases ha2 : ((c.length == len * inf.size) && (e' == e) && Nat.beq o 0 && new.all oneC)
          · rw [ha2] at ha; cases ha
          rw [ha2, cond_true, Option.bind_eq_some_iff] at ha
          obtain ⟨h1, hd1, ha⟩ := ha
          rw [Option.map_eq_some_iff] at ha
          obtain ⟨h2, hf, e1⟩ := ha
          cases e1
          simp only [Bool.and_eq_true, beq_iff_eq] at ha2
          obtain ⟨⟨⟨a1, rfl⟩, a3⟩, a4⟩ := ha2
          have a3 := Nat.eq_of_beq_eq_true a3
          subst a3
          have hps : p.s = inf.size := by simp [size, hinf] at q6; exact q6.symm
          have rd1 : WR P base θ h1 w := r.set hd1 hg hp rfl .dead fun _ _ => rfl
          obtain ⟨hn1, hpt⟩ := fresh_spec hf
          have hpl : pre.length = len * inf.size := by rw [← q3.len, a1]
          have hccl : cc.toList.length = p.k := by rw [← q5]; simp
          by_cases hroom : len + k ≤ c'
          · have hle : (len + k) * inf.size ≤ p.k := by
              rw [← hk, hps]
              have := Nat.mul_le_mul_right inf.size hroom
              omega
            have hnl : new'.length = k * inf.size := by rw [← hvl.len, c3]
            have hex := setN_ex (o := len * inf.size) (vs := new') (l := cc.toList) (by rw [hnl, hccl, ← Nat.add_mul]; exact hle)
            have hy : cc.toList.take (len * inf.size) ++ new' ++ cc.toList.drop (len * inf.size + new'.length) = pre ++ new' ++ rr.drop new'.length := by
              rw [q4, ← hpl, List.take_left', List.drop_append]
              · simp
              · rfl
            rw [hy] at hex
            obtain ⟨y, hyd⟩ : ∃ y, y = pre ++ new' ++ rr.drop new'.length := ⟨_, rfl⟩
            rw [← hyd] at hex
            obtain ⟨w', s1, s2, s3, s4, s5, s6, s7⟩ := run_storeN (P := P) (b := p.b) (o := len * inf.size) new' 0 w cc _ q2 hfz (oneC_vl hvl a4) (by simpa using hex)
            have hysz : y.toArray.size = cc.size := by
              have := (setN_len hex).1
              simp only [List.size_toArray, this]; simp
            obtain ⟨g1, g2⟩ := rd1.new (θ' := fun j => if j = n then some p else θ j) (p := p) (w' := w') hpt hn1 (fun j => rfl) (.grow (r := rr.drop new'.length) s2 ((q3.append hvl).mono (fun j q hq => by
                show (if j = n then some p else θ j) = some q
                split
                · rename_i e; subst e; rw [rd1.dom _ hn1] at hq; cases hq
                · exact hq)) (by simp [hyd]) (by rw [hysz]; exact q5) (by simp [size, hinf, hps]) (fun _ => ⟨hbase, by rw [hysz]; exact hfz0⟩)) (fun j x q hj hl hq => by
              rw [hput_get hd1] at hj
              split at hj
              · cases hj; cases hl
              · rename_i hji
                have hne := r.inj j i q p x _ hji hj hg hl rfl hq hp
                exact ⟨s3 _ hne, hne⟩)
            refine ⟨.slice (some ⟨p.b, 0, none⟩) (len + k) c', _, w', app_room h0 hx1 hu hd hdi (hisz w) hlen hroom hnew (by rw [add_eq]; simpa using s1), g2, .slack (p := p) (by simp) hk .nil, g1, ⟨s5, s6, s7, by omega, fun k hk => s3 k (by omega)⟩⟩
          · obtain ⟨q, hq⟩ : ∃ q, q = (Question.appendCap (len + k) c' e').cut (w.tape w.drawn (.appendCap (len + k) c' e')) := ⟨_, rfl⟩
            have hqn : len + k ≤ q := by rw [hq]; unfold Question.cut; simp
            have htk : takeN 0 (len * inf.size) cc.toList = some pre := by
              rw [q4, ← hpl]; exact takeN_app (takeN_all pre)
            have hold : (Builtin.firstCells inf.size len (.slice (some ⟨p.b, 0, none⟩) len c')).run P w.drew = .ok pre.toArray w.drew := by
              have q2' : w.drew.heap[p.b]? = some (.cells cc e' fz) := q2
              simp [Builtin.firstCells, run_loadN q2' htk]
            have hr := app_grow (ty := ty) h0 hx1 hu hd hdi hinf hz hlen hroom hkk c1 hq hold hnew2
            obtain ⟨θ', g1, g2, g3, g4⟩ := grown (need := len + k) (z := z) rd1 hb hinf c2 (q3.append hvl2) (by simp [hpl, hnl2, Nat.add_mul]) hqn hf
            refine ⟨_, θ', _, hr, g1, g2, ?_, ?_⟩ <;> simpa using (by assumption)
        · rw [ha1, cond_true, Option.map_eq_some_iff] at ha
          obtain ⟨h1, hw, e1⟩ := ha
          cases e1
          simp only [Bool.and_eq_true, beq_iff_eq] at ha1
          obtain ⟨a1, rfl⟩ := ha1
          have a1 := Nat.le_of_ble_eq_true a1
          have hps : p.s = inf.size := by simp [size, hinf] at q6; exact q6.symm
          have hroom : len + k ≤ c' := by
            have : (len + k) * inf.size ≤ c' * inf.size := by rw [hps] at hk; omega
            exact Nat.le_of_mul_le_mul_right this (by omega)
          obtain ⟨p2, w', g1, g2, g3, g4⟩ := wr_spec (P := P) r hb hw hvl
          rw [hp] at g1; cases g1
          exact ⟨_, θ, w', app_room h0 hx1 hu hd hdi (hisz w) hlen hroom hnew (by rw [add_eq]; simpa using g2), Ext.refl θ, .slack hp hk .nil, g3, g4⟩
      · cases ha
  · cases ha
end
end Go.Proofs.YthbmnacleneflaaGreatDoor.ae
/-
  A run of one goroutine over known values: maps with keys that are numbers or texts, and what goes over them. Condition: the store and the world belong together (WR).
-/
set_option linter.unusedVariables false
set_option linter.unusedSimpArgs false
namespace Go.Proofs.YthbmnacleneflaaGreatDoor.ae
open Go

def keyDesc (P : Program) (t : TypeId) : Option TypeDesc := match P.underlying t with
  | some (.int k) => some (.int k)
  | some .string => some .string
  | some (.struct fs) => some (.struct fs)
  | _ => none
def pureRun {α : Type} (P : Program) : Sem α → Option α
  | .pure a => some a
  | .program k => pureRun P (k P)
  | .mark _ k => pureRun P k
  | _ => none
/-- Are two parts of a key the same: numbers, texts, truth values, places of one block. -/
def eqCell (P : Program) (t : TypeId) (x y : Value) : Option Bool := match P.underlying t, x, y with
  | some (.int _), .int k a, .int k' b => if k = k' then some (a == b) else none
  | some .string, .string a, .string b => some (a == b)
  | some .bool, .bool a, .bool b => some (a == b)
  | some (.pointer _), .pointer none, .pointer none => some true
  | some (.pointer e), .pointer (some ⟨i, o, none⟩), .pointer (some ⟨j, p, none⟩) => bif Nat.beq i j && (match size P e with | some (_ + 1) => true | _ => false) then some (Nat.beq o p) else none
  | _, _, _ => none
def eqFs (P : Program) (xs ys : List Value) : List Field → Option Bool
  | [] => some true
  | f :: fs => bif decide (f.name ≠ "_") then (partA P f.type xs f.offset).bind fun a => (partA P f.type ys f.offset).bind fun b => (eqCell P f.type a b).bind fun r => bif r then eqFs P xs ys fs else some false
    else eqFs P xs ys fs
def eqKey (P : Program) (kt : TypeId) (fs : Array Field) (k e : Value) : Option Bool := match k, e with
  | .agg xs, .agg ys => bif P.stoodInHeld kt then none else eqFs P xs.toList ys.toList fs.toList
  | _, _ => none
def plainT (P : Program) (t : TypeId) : Bool := match P.underlying t with
  | some (.int _) | some .string | some .bool | some (.pointer _) => true
  | _ => false
def keyFs (P : Program) (xs : List Value) (fs : List Field) : Bool := fs.all fun f => (partA P f.type xs f.offset).isSome && plainT P f.type
/-- A key that is a struct is looked for by asking one key after the other. -/
def findP (P : Program) (kt : TypeId) (fs : Array Field) (k : Value) : List MapEntry → Nat → Option (Option (Nat × Value))
  | [], _ => some none
  | e :: es, i => (match eqKey P kt fs k e.key with
    | some true => some (some (i, e.val))
    | some false => findP P kt fs k es (i + 1)
    | none => none)
def findA (P : Program) (kt : TypeId) (d : TypeDesc) (k : Value) (es : List MapEntry) : Option (Option (Nat × Value)) := match d with
  | .struct fs => (match k with
    | .agg xs => bif keyFs P xs.toList fs.toList then findP P kt fs k es 0 else none
    | _ => none)
  | d => Instr.findNow d k es 0
def mapDesc (P : Program) (t : TypeId) : Option (TypeId × TypeDesc × TypeId) := match P.underlying t with
  | some (.map k e) => (keyDesc P k).map fun d => (k, d, e)
  | _ => none
def lookupA (P : Program) (t : TypeId) (m k : Value) (ok : Bool) (h : H) : Option Value := (mapDesc P t).bind fun (kt, d, e) =>
  (match m with
    | .map none => some []
    | .map (some r) => (match h.get r with | some (.map es _) => some es | _ => none)
    | _ => none).bind fun es => (findA P kt d k es).bind fun f =>
  (match f with
    | some (_, v) => some (v, true)
    | none => (zero P e).bind fun z => bif atoms z then some (z, false) else none).map fun (v, b) => bif ok then .tuple #[v, .bool b] else v
def mapUpdateA (P : Program) (t : TypeId) (m k x : Value) (h : H) : Option H := (mapDesc P t).bind fun (kt, d, e) => match m with
  | .map (some r) => (match h.get r with
    | some (.map es c) => bif true then (findA P kt d k es).bind fun f => (match f with
      | some (i, _) => bif (match es[i]? with | some e => Instr.sameBits 10000 e.key k | none => false) then hput h r (.map (es.modify i fun e => { e with key := k, val := x }) c) else none
      | none => hput h r (.map (es ++ [{ key := k, val := x, born := c }]) (c + 1))) else none
    | _ => none)
  | _ => none
def newObjA (b : AB) (f : Nat → Value) (h : H) (n : Nat) : R := (fresh h n b).map fun h => (f n, h, n + 1)
def mapTo (i : Nat) : Value := .map (some i)
def rangeA (P : Program) (t : TypeId) (x : Value) (h : H) (n : Nat) : R := match P.underlying t, x with
  | some .string, .string b => newObjA (.strIter b 0) ptrTo h n
  | some (.map _ _), .map none => newObjA (.iter none 0 [] 0) ptrTo h n
  | some (.map _ _), .map (some m) => (match h.get m with | some (.map _ c) => newObjA (.iter (some m) c [] c) ptrTo h n | _ => none)
  | _, _ => none
def nextA (it : Value) (isS : Bool) (h : H) : Option (Value × H) := match it with
  | .pointer (some ⟨r, 0, none⟩) => (match h.get r, isS with
    | some (.strIter b pos), true => bif Nat.blt pos b.size then (hput h r (.strIter b (pos + (Utf8.decode b pos).2))).map fun h => (.tuple #[.bool true, goInt pos, .int .i32 (Utf8.decode b pos).1], h) else some (.tuple #[.bool false], h)
    | some (.iter none _ _ _), false => some (.tuple #[.bool false], h)
    | some (.iter (some m) since seen last), false => (match h.get m with
      | some (.map [] _) => some (.tuple #[.bool false], h)
      | some (.map [e] clock) => (match seen with
        | [] => bif Nat.blt e.born since then (hput h r (.iter (some m) since [e.born] clock)).map fun h => (.tuple #[.bool true, e.key, e.val], h) else none
        | [b] => bif Nat.beq b e.born && Nat.blt e.born last then some (.tuple #[.bool false], h) else none
        | _ => none)
      | _ => none)
    | _, _ => none)
  | _ => none
def entryA (it : Value) (h : H) : Option Value := match it with
  | .pointer (some ⟨r, 0, none⟩) => (match h.get r with
    | some (.iter (some m) _ [b] stepped) => (match h.get m with
      | some (.map [e] clock) => bif Nat.beq clock stepped && Nat.beq b e.born then some (.tuple #[e.key, e.val]) else none
      | _ => none)
    | _ => none)
  | _ => none

section
variable {P : Program} {base : Nat} {θ : Th} {w : World} {h h' : H} {t : TypeId} {n : Nat}
theorem bytes_beq (a b : ByteArray) : (a == b) = true ↔ a = b := by
  cases a with | mk x => ?_
  cases b with | mk y => ?_
  show (x == y) = true ↔ _
  simp
def Kd (d : TypeDesc) : Prop := ((∃ k, d = .int k) ∨ d = .string) ∨ ∃ fs, d = .struct fs
theorem pureRun_run {α : Type} {m : Sem α} {a : α} (e : pureRun P m = some a) : m.run P w = .ok a w := by
  induction m generalizing a with
  | pure x => simp only [pureRun, Option.some.injEq] at e; subst e; rfl
  | program k ih => exact ih P e
  | mark x k ih => exact ih e
  | _ => cases e
theorem keyDesc_spec {d : TypeDesc} (hk : keyDesc P t = some d) : P.underlying t = some d ∧ Kd d := by
  unfold keyDesc at hk
  split at hk
  · cases hk; rename_i k e; exact ⟨e, .inl (.inl ⟨k, rfl⟩)⟩
  · cases hk; rename_i e; exact ⟨e, .inl (.inr rfl)⟩
  · cases hk; rename_i fs e; exact ⟨e, .inr ⟨fs, rfl⟩⟩
  · cases hk
theorem mapDesc_spec {kt e : TypeId} {d : TypeDesc} (hm : mapDesc P t = some (kt, d, e)) : P.underlying t = some (.map kt e) ∧ P.underlying kt = some d ∧ Kd d := by
  unfold mapDesc at hm
  split at hm
  · rename_i k e' hu
    rw [Option.map_eq_some_iff] at hm
    obtain ⟨d', hd, e1⟩ := hm
    cases e1
    exact ⟨hu, keyDesc_spec hd⟩
  · cases hm
theorem run_checkKey {d : TypeDesc} {b : Bool} {v : Value} (hu : P.underlying t = some d) (hd : (∃ k, d = .int k) ∨ d = .string) : (Instr.checkKey b 10000 t v).run P w = .ok () w := by
  rcases hd with ⟨k, rfl⟩ | rfl <;> (unfold Instr.checkKey; simp [run_underlying hu])
theorem sameNow_eq {d : TypeDesc} {k k' x x' : Value} {b : Bool} (hd : (∃ k, d = .int k) ∨ d = .string) (hs : Instr.sameNow d k x = some b) (hk : VR θ k k') (hx : VR θ x x') : k' = k ∧ x' = x ∧ (b = true → x = k) := by
  rcases hd with ⟨j, rfl⟩ | rfl
  · unfold Instr.sameNow at hs
    split at hs <;> first | (rename_i heq; cases heq) | skip
    · rename_i k1 a k2 b2
      cases hk with | same _ _ => ?_
      cases hx with | same _ _ => ?_
      refine ⟨rfl, rfl, fun hb => ?_⟩
      subst hb
      split at hs
      · rename_i e; subst e; simp at hs; subst hs; rfl
      · cases hs
    all_goals (first | cases hs | skip)
  · unfold Instr.sameNow at hs
    split at hs <;> first | (rename_i heq; cases heq; done) | skip
    · rename_i a b2 
      cases hk with | same _ _ => ?_
      cases hx with | same _ _ => ?_
      refine ⟨rfl, rfl, fun hb => ?_⟩
      subst hb
      simp only [Option.some.injEq] at hs
      rw [(bytes_beq _ _).1 hs]
    all_goals (first | cases hs | skip)
theorem ER.cons {e e' : MapEntry} {es es' : List MapEntry} (h : ER θ (e :: es) (e' :: es')) : VR θ e.key e'.key ∧ VR θ e.val e'.val ∧ e.born = e'.born ∧ ER θ es es' := by
  obtain ⟨h1, h2, h3⟩ := h
  simp only [List.map_cons] at h1 h2 h3
  obtain ⟨a1, a2⟩ := h1.uncons
  obtain ⟨b1, b2⟩ := h2.uncons
  simp only [List.cons.injEq] at h3
  exact ⟨a1, b1, h3.1, a2, b2, h3.2⟩
theorem ER.mk {e e' : MapEntry} {es es' : List MapEntry} (h1 : VR θ e.key e'.key) (h2 : VR θ e.val e'.val) (h3 : e.born = e'.born) (h : ER θ es es') : ER θ (e :: es) (e' :: es') :=
  ⟨.cons h1 h.1, .cons h2 h.2.1, by simp only [List.map_cons, h3, h.2.2]⟩
theorem ER.inv {e : MapEntry} {es es' : List MapEntry} (h : ER θ (e :: es) es') : ∃ e' l, es' = e' :: l := by
  have := h.1.len
  cases es' with
  | nil => simp at this
  | cons e' l => exact ⟨e', l, rfl⟩
theorem ER.inv_nil {es' : List MapEntry} (h : ER θ [] es') : es' = [] := by
  have := h.1.len
  cases es' with
  | nil => rfl
  | cons e' l => simp at this
theorem ER.len {es es' : List MapEntry} (h : ER θ es es') : es.length = es'.length := by simpa using h.1.len
/-- The search for a key goes in the world as in the store. -/
theorem findNow_er {d : TypeDesc} {k k' : Value} (hd : (∃ k, d = .int k) ∨ d = .string) (hk : VR θ k k') : ∀ {es es' : List MapEntry} {i : Nat} {f : Option (Nat × Value)}, ER θ es es' → Instr.findNow d k es i = some f →
    (f = none → Instr.findNow d k' es' i = some none) ∧ (∀ j v, f = some (j, v) → ∃ v', Instr.findNow d k' es' i = some (some (j, v')) ∧ VR θ v v' ∧ i ≤ j ∧ ∃ e e', es[j - i]? = some e ∧ es'[j - i]? = some e' ∧ e'.key = e.key ∧ e.key = k ∧ k' = k) := by
  intro es
  induction es with
  | nil =>
    intro es' i f her hf
    rw [her.inv_nil]
    rw [Instr.findNow, Option.some.injEq] at hf
    subst hf
    exact ⟨fun _ => rfl, fun j v h => (by cases h)⟩
  | cons e es ih =>
    intro es' i f her hf
    obtain ⟨e', l, rfl⟩ := her.inv
    obtain ⟨h1, h2, h3, h4⟩ := her.cons
    rw [Instr.findNow] at hf
    split at hf
    · rename_i hs
      cases hf
      obtain ⟨g1, g2, g3⟩ := sameNow_eq hd hs hk h1
      have hs' : Instr.sameNow d k' e'.key = some true := by rw [g1, g2]; exact hs
      have hst : Instr.findNow d k' (e' :: l) i = some (some (i, e'.val)) := by rw [Instr.findNow, hs']
      refine ⟨fun h => (by cases h), fun j v h => ?_⟩
      cases h
      exact ⟨e'.val, hst, h2, Nat.le_refl _, e, e', by simp, by simp, g2, g3 rfl, g1⟩
    · rename_i hs
      obtain ⟨g1, g2, _⟩ := sameNow_eq hd hs hk h1
      have hs' : Instr.sameNow d k' e'.key = some false := by rw [g1, g2]; exact hs
      have hst : Instr.findNow d k' (e' :: l) i = Instr.findNow d k' l (i + 1) := by rw [Instr.findNow, hs']
      obtain ⟨q1, q2⟩ := ih h4 hf
      refine ⟨fun h => by rw [hst]; exact q1 h, fun j v h => ?_⟩
      obtain ⟨v', a1, a2, a3, x, x', a4, a5, a6, a7, a8⟩ := q2 j v h
      refine ⟨v', by rw [hst]; exact a1, a2, by omega, x, x', ?_, ?_, a6, a7, a8⟩
      · rw [show j - i = (j - (i + 1)) + 1 by omega]; simpa using a4
      · rw [show j - i = (j - (i + 1)) + 1 by omega]; simpa using a5
    · cases hf
theorem atoms_vr {z : Value} (ha : atoms z = true) : VR θ z z := by
  have := atoms_vl (θ := θ) ha
  cases z <;> first | exact this | exact .agg this .nil
theorem map_at {r : Nat} {es : List MapEntry} {c : Nat} (hr : WR P base θ h w) (hg : h.get r = some (.map es c)) : ∃ p es', θ r = some p ∧ w.heap[p.b]? = some (.map es' c) ∧ ER θ es es'.toList ∧ base ≤ p.b := by
  obtain ⟨p, hp, hb⟩ := hr.at_ r _ hg
  cases hb with
  | map g hv hb => exact ⟨p, _, hp, g, hv, hb⟩
theorem run_getObj {r : Nat} {o : Obj} (h : w.heap[r]? = some o) (hn : ∀ c e f, o ≠ .cells c e f) : (getObj r).run P w = .ok o w := by
  simp only [getObj, Sem.run, h]
theorem run_setObj {r : Nat} {o o' : Obj} (h : w.heap[r]? = some o) (hn : ∀ c e f, o ≠ .cells c e f) : (setObj r o').run P w = .ok () { w with heap := w.heap.setIfInBounds r o' } := by
  simp only [setObj, Sem.run, h]
theorem eqCell_run {t : TypeId} {x x' y y' : Value} {b : Bool} (n : Nat) (he : eqCell P t x y = some b) (hx : VR θ x x') (hy : VR θ y y') : (Op.equalIn (n + 1) t x' y').run P w = .ok b w := by
  unfold eqCell at he
  split at he
  · rename_i k a k' b' hu
    split at he
    · rename_i hk
      cases he
      have e1 := flat_same hx rfl
      have e2 := flat_same hy rfl
      subst e1 e2 hk
      exact run_equalIn_int w n t _ _ _ _ hu
    · cases he
  · rename_i a b' hu
    cases he
    have e1 := flat_same hx rfl
    have e2 := flat_same hy rfl
    subst e1 e2
    rw [run_equalIn_string w n t _ _ hu, beq_toListBytes]
  · rename_i a b' hu
    cases he
    have e1 := flat_same hx rfl
    have e2 := flat_same hy rfl
    subst e1 e2
    exact run_equalIn_bool' w n t _ _ hu
  · rename_i e hu
    cases he
    have e1 := flat_same hx rfl
    have e2 := flat_same hy rfl
    subst e1 e2
    simp [Op.equalIn, run_underlying hu]
  · rename_i e i o j p hu
    cases hc : (Nat.beq i j && (match size P e with | some (_ + 1) => true | _ => false))
    · rw [hc] at he; cases he
    rw [hc, cond_true] at he
    cases he
    simp only [Bool.and_eq_true] at hc
    obtain ⟨c1, c2⟩ := hc
    have c1 := Nat.eq_of_beq_eq_true c1
    subst c1
    split at c2
    · rename_i sz hsz
      cases hx with
      | same hq _ => simp [atom] at hq
      | ptr hp _ =>
        cases hy with
        | same hq _ => simp [atom] at hq
        | ptr hp2 _ =>
          rw [hp] at hp2; cases hp2
          simp only [Op.equalIn, Sem.run_bind, run_underlying hu, Result.andThen_ok, run_size hsz, sameAddr]
          by_cases e : o = p
          · subst e; simp
          · simp [e, beq_f e]
    · cases c2
  · cases he
theorem eqFs_run {xs ys : List Value} {xs' ys' : Array Value} {n : Nat} (hx : VL θ xs xs'.toList) (hy : VL θ ys ys'.toList) : ∀ {fs : List Field} {b : Bool}, eqFs P xs ys fs = some b → (Op.eqFields (n + 1) xs' ys' fs).run P w = .ok b w := by
  intro fs
  induction fs with
  | nil => intro b h; cases h; rfl
  | cons f fs ih =>
    intro b h
    unfold eqFs at h
    unfold Op.eqFields
    cases hd : decide (f.name ≠ "_")
    · rw [hd, cond_false] at h
      rw [if_neg (of_decide_eq_false hd)]
      exact ih h
    · rw [hd, cond_true] at h
      rw [if_pos (of_decide_eq_true hd)]
      simp only [Option.bind_eq_some_iff] at h
      obtain ⟨a, ha, c, hc, r, hr, h⟩ := h
      obtain ⟨a', g1, g2⟩ := partA_run (w := w) ha hx
      obtain ⟨c', g3, g4⟩ := partA_run (w := w) hc hy
      have g5 := eqCell_run (w := w) n hr g2 g4
      simp only [Sem.run_bind, g1, g3, g5, Result.andThen_ok]
      cases r
      · cases h; rfl
      · rw [cond_true] at h; simpa using ih h
theorem eqKey_run {kt : TypeId} {fs : Array Field} {k k' e e' : Value} {b : Bool} (hu : P.underlying kt = some (.struct fs)) (he : eqKey P kt fs k e = some b) (hk : VR θ k k') (hx : VR θ e e') : (Op.equal kt k' e').run P w = .ok b w := by
  unfold eqKey at he
  split at he
  · rename_i xs ys
    cases hs : P.stoodInHeld kt
    · rw [hs, cond_false] at he
      cases hk with
      | same hq _ => simp [atom] at hq
      | @agg _ xs' _ _ h1 _ =>
        cases hx with
        | same hq _ => simp [atom] at hq
        | @agg _ ys' _ _ h2 _ =>
          have hf : P.fieldsOf kt = fs := by simp [Program.fieldsOf, hu]
          have := run_equalIn_struct (P := P) w 9999 kt xs' ys' (by rw [hf]; exact hu) hs
          show (Op.equalIn (9999 + 1) kt (.agg xs') (.agg ys')).run P w = .ok b w
          rw [this, hf]
          exact eqFs_run (n := 9998) h1 h2 he
    · rw [hs] at he; cases he
  · cases he
theorem run_checkPlain {t : TypeId} {v : Value} {b : Bool} {n : Nat} (h : plainT P t = true) : (Instr.checkKey b (n + 1) t v).run P w = .ok () w := by
  unfold plainT at h
  split at h
  · rename_i k hu; unfold Instr.checkKey; simp [run_underlying hu]
  · rename_i hu; unfold Instr.checkKey; simp [run_underlying hu]
  · rename_i hu; unfold Instr.checkKey; simp [run_underlying hu]
  · rename_i e hu; unfold Instr.checkKey; simp [run_underlying hu]
  · cases h
theorem run_checkFs {xs : List Value} {xs' : Array Value} {b : Bool} {n : Nat} (hx : VL θ xs xs'.toList) : ∀ {fs : List Field}, keyFs P xs fs = true →
    (forIn fs PUnit.unit fun f _ => (do
      if f.name ≠ "_" then Instr.checkKey b (n + 1) f.type (← part f.type xs' f.offset)
      pure (ForInStep.yield PUnit.unit) : Sem (ForInStep PUnit))).run P w = .ok PUnit.unit w := by
  intro fs
  induction fs with
  | nil => intro _; rfl
  | cons f fs ih =>
    intro h
    simp only [keyFs, List.all_cons, Bool.and_eq_true] at h
    obtain ⟨⟨h1, h2⟩, h3⟩ := h
    obtain ⟨a, ha⟩ := Option.isSome_iff_exists.1 h1
    obtain ⟨a', g1, g2⟩ := partA_run (w := w) ha hx
    have h4 := ih (by simpa [keyFs] using h3)
    simp only [List.forIn_cons, Sem.run_bind]
    by_cases hn : f.name ≠ "_"
    · simp only [hn, if_true, Sem.run_bind, g1, Result.andThen_ok, run_checkPlain h2, Sem.run_pure, not_false_eq_true, ne_eq]
      exact h4
    · simp only [hn, if_false, Sem.run_pure, Result.andThen_ok]
      exact h4
theorem run_checkStruct {kt : TypeId} {fs : Array Field} {xs : List Value} {xs' : Array Value} {b : Bool} (hu : P.underlying kt = some (.struct fs)) (hx : VL θ xs xs'.toList) (hk : keyFs P xs fs.toList = true) : (Instr.checkKey b 10000 kt (.agg xs')).run P w = .ok () w := by
  have := run_checkFs (w := w) (b := b) (n := 9998) hx hk
  show (Instr.checkKey b (9999 + 1) kt (.agg xs')).run P w = .ok () w
  unfold Instr.checkKey
  simp only [Sem.run_bind, run_underlying hu, Result.andThen_ok]
  rw [← Array.forIn_toList]
  simp only [Sem.run_bind] at this ⊢
  erw [this]
  rfl
theorem findP_er {kt : TypeId} {fs : Array Field} {k k' : Value} (hu : P.underlying kt = some (.struct fs)) (hk : VR θ k k') : ∀ {es es' : List MapEntry} {i : Nat} {f : Option (Nat × Value)}, ER θ es es' → findP P kt fs k es i = some f →
    (f = none → (Instr.findAsking kt k' es' i).run P w = .ok none w) ∧ (∀ j v, f = some (j, v) → ∃ v', (Instr.findAsking kt k' es' i).run P w = .ok (some (j, v')) w ∧ VR θ v v' ∧ i ≤ j ∧ ∃ e e', es[j - i]? = some e ∧ es'[j - i]? = some e' ∧ VR θ e.key e'.key) := by
  intro es
  induction es with
  | nil =>
    intro es' i f her hf
    rw [her.inv_nil]
    rw [findP, Option.some.injEq] at hf
    subst hf
    exact ⟨fun _ => rfl, fun j v h => (by cases h)⟩
  | cons e es ih =>
    intro es' i f her hf
    obtain ⟨e', l, rfl⟩ := her.inv
    obtain ⟨h1, h2, h3, h4⟩ := her.cons
    rw [findP] at hf
    split at hf
    · rename_i hs
      cases hf
      have hrun := eqKey_run (w := w) hu hs hk h1
      refine ⟨fun h => (by cases h), fun j v h => ?_⟩
      cases h
      refine ⟨e'.val, ?_, h2, Nat.le_refl _, e, e', by simp, by simp, h1⟩
      simp [Instr.findAsking, hrun]
    · rename_i hs
      have hrun := eqKey_run (w := w) hu hs hk h1
      have hst : (Instr.findAsking kt k' (e' :: l) i).run P w = (Instr.findAsking kt k' l (i + 1)).run P w := by simp [Instr.findAsking, hrun]
      obtain ⟨q1, q2⟩ := ih h4 hf
      refine ⟨fun h => by rw [hst]; exact q1 h, fun j v h => ?_⟩
      obtain ⟨v', a1, a2, a3, x, x', a4, a5, a6⟩ := q2 j v h
      refine ⟨v', by rw [hst]; exact a1, a2, by omega, x, x', ?_, ?_, a6⟩
      · rw [show j - i = (j - (i + 1)) + 1 by omega]; simpa using a4
      · rw [show j - i = (j - (i + 1)) + 1 by omega]; simpa using a5
    · cases hf
/-- The search for a key, and the check ahead of it. -/
theorem findA_er {d : TypeDesc} {kt : TypeId} {k k' : Value} (hku : P.underlying kt = some d) (hd : Kd d) (hk : VR θ k k') {es : List MapEntry} {es' : Array MapEntry} {f : Option (Nat × Value)} (her : ER θ es es'.toList) (hf : findA P kt d k es = some f) :
    (∀ b, (Instr.checkKey b 10000 kt k').run P w = .ok () w) ∧
    (f = none → (Instr.findKey kt k' es'.toList).run P w = .ok none w) ∧ (∀ j v, f = some (j, v) → ∃ v', (Instr.findKey kt k' es'.toList).run P w = .ok (some (j, v')) w ∧ VR θ v v' ∧ ∃ e e', es[j]? = some e ∧ es'.toList[j]? = some e' ∧ VR θ e.key e'.key) := by
  rcases hd with hd | ⟨fs, rfl⟩
  · have hfk : ∀ f', Instr.findNow d k' es'.toList 0 = some f' → (Instr.findKey kt k' es'.toList).run P w = .ok f' w := fun f' hf' => by
      simp [Instr.findKey, run_underlying hku, hf']
    have hf' : Instr.findNow d k es 0 = some f := by rcases hd with ⟨j, rfl⟩ | rfl <;> exact hf
    obtain ⟨q1, q2⟩ := findNow_er hd hk her hf'
    refine ⟨fun b => run_checkKey hku hd, fun h => hfk _ (q1 h), fun j v h => ?_⟩
    obtain ⟨v', a1, a2, a3, e, e', a4, a5, a6, a7, a8⟩ := q2 j v h
    have a9 : VR θ e.key e'.key := by
      obtain ⟨y', g1, g2⟩ := her.1.get (i := j) (v := e.key) (by rw [List.getElem?_map, show es[j]? = some e by simpa using a4]; rfl)
      rw [List.getElem?_map, show es'.toList[j]? = some e' by simpa using a5] at g1
      cases g1
      exact g2
    exact ⟨v', hfk _ a1, a2, e, e', by simpa using a4, by simpa using a5, a9⟩
  · simp only [findA] at hf
    split at hf
    · rename_i xs
      cases hc : keyFs P xs.toList fs.toList
      · rw [hc] at hf; cases hf
      rw [hc, cond_true] at hf
      obtain ⟨q1, q2⟩ := findP_er (w := w) hku hk her hf
      have hst : (Instr.findKey kt k' es'.toList).run P w = (Instr.findAsking kt k' es'.toList).run P w := by
        simp only [Instr.findKey, Sem.run_bind, run_underlying hku, Result.andThen_ok]
        generalize es'.toList = l
        cases l with
        | nil => rfl
        | cons x l => rfl
      refine ⟨fun b => ?_, fun h => by rw [hst]; exact q1 h, fun j v h => ?_⟩
      · cases hk with
        | same hq _ => simp [atom] at hq
        | agg h1 _ => exact run_checkStruct hku h1 hc
      · obtain ⟨v', a1, a2, a3, e, e', a4, a5, a6⟩ := q2 j v h
        exact ⟨v', by rw [hst]; exact a1, a2, e, e', by simpa using a4, by simpa using a5, a6⟩
    · cases hf
theorem same_atom {x x' : Value} (h : VR θ x x') (ha : atom x = true) : x' = x := by
  cases h <;> first | rfl | (simp [atom, ae.emp] at ha; done)
theorem sameBits_vr : ∀ (n : Nat) {x x' y y' : Value}, VR θ x x' → VR θ y y' → Instr.sameBits n x y = true → Instr.sameBits n x' y' = true := by
  intro n
  induction n with
  | zero =>
    intro x x' y y' hx hy h
    unfold Instr.sameBits at h
    split at h
    case _ =>
      rw [same_atom hx rfl, same_atom hy rfl]; simpa [Instr.sameBits] using h
    case _ => rw [same_atom hx rfl, same_atom hy rfl]; simpa [Instr.sameBits] using h
    case _ => rw [same_atom hx rfl, same_atom hy rfl]; simpa [Instr.sameBits] using h
    case _ => rw [same_atom hx rfl, same_atom hy rfl]; simpa [Instr.sameBits] using h
    case _ => rw [same_atom hx rfl, same_atom hy rfl]; simpa [Instr.sameBits] using h
    case _ a b =>
      have h : a = b := by simpa using h
      subst h
      have : ∀ u v, VR θ (.pointer a) u → VR θ (.pointer a) v → u = v := fun u v h1 h2 => by
        cases h1 with
        | same ha _ => exact (same_atom h2 ha).symm
        | ptr hp _ => cases h2 with
          | same hq _ => simp [atom] at hq
          | ptr hq _ => rw [hp] at hq; cases hq; rfl
      have h1 := this x' y' hx hy
      subst h1
      cases hx <;> simp [Instr.sameBits]
    case _ a b =>
      cases hx with | same _ _ => ?_
      cases hy with | same _ _ => ?_
      simpa [Instr.sameBits] using h
    case _ => rw [same_atom hx rfl, same_atom hy rfl]; simp [Instr.sameBits]
    all_goals (first | cases h | skip)
    all_goals (rename_i e; cases e)
  | succ n ih =>
    intro x x' y y' hx hy h
    unfold Instr.sameBits at h
    split at h
    case _ => rw [same_atom hx rfl, same_atom hy rfl]; simpa [Instr.sameBits] using h
    case _ => rw [same_atom hx rfl, same_atom hy rfl]; simpa [Instr.sameBits] using h
    case _ => rw [same_atom hx rfl, same_atom hy rfl]; simpa [Instr.sameBits] using h
    case _ => rw [same_atom hx rfl, same_atom hy rfl]; simpa [Instr.sameBits] using h
    case _ => rw [same_atom hx rfl, same_atom hy rfl]; simpa [Instr.sameBits] using h
    case _ a b =>
      have h : a = b := by simpa using h
      subst h
      have : ∀ u v, VR θ (.pointer a) u → VR θ (.pointer a) v → u = v := fun u v h1 h2 => by
        cases h1 with
        | same ha _ => exact (same_atom h2 ha).symm
        | ptr hp _ => cases h2 with
          | same hq _ => simp [atom] at hq
          | ptr hq _ => rw [hp] at hq; cases hq; rfl
      have h1 := this x' y' hx hy
      subst h1
      cases hx <;> simp [Instr.sameBits]
    case _ a b =>
      cases hx with | same _ _ => ?_
      cases hy with | same _ _ => ?_
      simpa [Instr.sameBits] using h
    case _ => rw [same_atom hx rfl, same_atom hy rfl]; simp [Instr.sameBits]
    case _ n' t v u w' e =>
      cases e
      cases hx with
      | same ha _ => simp [atom] at ha
      | iface h1 _ =>
        cases hy with
        | same hb _ => simp [atom] at hb
        | iface h2 _ =>
          simp only [Instr.sameBits, Bool.and_eq_true] at h ⊢
          exact ⟨h.1, ih h1 h2 h.2⟩
    case _ n' a b e =>
      cases e
      cases hx with
      | same ha _ => simp [atom] at ha
      | @agg a a' _ _ h1 _ =>
        cases hy with
        | same hb _ => simp [atom] at hb
        | @agg b b' _ _ h2 _ =>
          simp only [Instr.sameBits, Bool.and_eq_true, beq_iff_eq] at h ⊢
          refine ⟨by have e1 := h1.len; have e2 := h2.len; simp at e1 e2; omega, ?_⟩
          have h3 := h.2
          clear h
          generalize a.toList = l1 at h1 h3
          generalize a'.toList = l1' at h1
          generalize b.toList = l2 at h2 h3
          generalize b'.toList = l2' at h2
          induction l1 generalizing l1' l2 l2' with
          | nil => rw [h1.inv_nil]; rfl
          | cons v l1 ih1 =>
            obtain ⟨v', l1', rfl, k1, k2⟩ := h1.inv_cons
            cases l2 with
            | nil => rw [h2.inv_nil]; simp
            | cons u l2 =>
              obtain ⟨u', l2', rfl, k3, k4⟩ := h2.inv_cons
              simp only [List.zip_cons_cons, List.all_cons, Bool.and_eq_true] at h3 ⊢
              exact ⟨ih k1 k3 h3.1, ih1 _ k2 _ h3.2 _ k4⟩
    all_goals (cases h)
theorem lookupA_run {m m' k k' v : Value} {ok : Bool} (r : WR P base θ h w) (hl : lookupA P t m k ok h = some v) (hm : VR θ m m') (hk : VR θ k k') : ∃ v', (Instr.lookup t m' k' ok).run P w = .ok v' w ∧ VR θ v v' := by
  unfold lookupA at hl
  simp only [Option.bind_eq_some_iff, Option.map_eq_some_iff] at hl
  obtain ⟨⟨kt, d, e⟩, hmd, es, hes, f, hf, ⟨x, b⟩, hx, hv⟩ := hl
  obtain ⟨hu, hku, hd⟩ := mapDesc_spec hmd
  have core : ∀ es' : Array MapEntry, ER θ es es'.toList → ∃ x', VR θ x x' ∧ ((do
      Instr.checkKey es'.isEmpty 10000 kt k'
      let (v, ok) ← match ← Instr.findKey kt k' es'.toList with
        | some (_, v) => pure (v, true)
        | none => pure (← zeroValue e, false)
      pure (v, ok) : Sem (Value × Bool)).run P w = .ok (x', b) w) := by
    intro es' he2
    obtain ⟨q0, q1, q2⟩ := findA_er (w := w) hku hd hk he2 hf
    cases f with
    | none =>
      simp only [Option.bind_eq_some_iff] at hx
      obtain ⟨z, hz, hx⟩ := hx
      cases ha : atoms z
      · rw [ha] at hx; cases hx
      rw [ha, cond_true] at hx
      cases hx
      exact ⟨x, atoms_vr ha, by simp [q0, q1 rfl, run_zero hz]⟩
    | some a =>
      obtain ⟨j, v0⟩ := a
      cases hx
      obtain ⟨v', a1, a2, _⟩ := q2 j _ rfl
      exact ⟨v', a2, by simp [q0, a1]⟩
  have fin : ∀ x', VR θ x x' → VR θ v (if ok = true then .tuple #[x', .bool b] else x') := fun x' hx' => by
    subst hv
    cases ok
    · exact hx'
    · exact .tup (.cons hx' (.same rfl .nil)) .nil
  split at hes
  · cases hes
    cases hm with | same _ _ => ?_
    obtain ⟨x', g1, g2⟩ := core #[] ⟨.nil, .nil, rfl⟩
    refine ⟨_, ?_, fin x' g1⟩
    simp only [Sem.run_bind] at g2
    simp only [Instr.lookup, Sem.run_bind, run_underlying hu, Result.andThen_ok, Sem.run_pure]
    revert g2
    generalize (Instr.checkKey (#[] : Array MapEntry).isEmpty 10000 kt k').run P w = r1
    intro g2
    cases r1 with
    | halt _ _ => simp at g2
    | ok a w1 =>
      simp only [Result.andThen_ok] at g2 ⊢
      generalize (Instr.findKey kt k' (#[] : Array MapEntry).toList).run P w1 = r2 at g2 ⊢
      cases r2 with
      | halt _ _ => simp at g2
      | ok a w1 =>
        cases a with
        | none =>
          simp only [Result.andThen_ok, Sem.run_bind] at g2 ⊢
          generalize (zeroValue e).run P w1 = r3 at g2 ⊢
          cases r3 with
          | halt _ _ => simp at g2
          | ok a w1 => simp at g2 ⊢; obtain ⟨⟨rfl, rfl⟩, rfl⟩ := g2; exact ⟨rfl, rfl⟩
        | some a => simp at g2 ⊢; obtain ⟨⟨rfl, rfl⟩, rfl⟩ := g2; exact ⟨rfl, rfl⟩
  · split at hes
    · rename_i r0 es0 c hg
      cases hes
      obtain ⟨p, es', g1, g2, g3, g4⟩ := map_at r hg
      cases hm with
      | same hq _ => simp [atom] at hq
      | map hp _ =>
        rw [hp] at g1; cases g1
        obtain ⟨x', q1, q2⟩ := core es' g3
        refine ⟨_, ?_, fin x' q1⟩
        simp only [Sem.run_bind] at q2
        simp only [Instr.lookup, Sem.run_bind, run_underlying hu, Result.andThen_ok, Sem.run_pure, run_getObj g2 (by simp)]
        revert q2
        generalize (Instr.checkKey es'.isEmpty 10000 kt k').run P w = r1
        intro q2
        cases r1 with
        | halt _ _ => simp at q2
        | ok a w1 =>
          simp only [Result.andThen_ok] at q2 ⊢
          generalize (Instr.findKey kt k' es'.toList).run P w1 = r2 at q2 ⊢
          cases r2 with
          | halt _ _ => simp at q2
          | ok a w1 =>
            cases a with
            | none =>
              simp only [Result.andThen_ok, Sem.run_bind] at q2 ⊢
              generalize (zeroValue e).run P w1 = r3 at q2 ⊢
              cases r3 with
              | halt _ _ => simp at q2
              | ok a w1 => simp at q2 ⊢; obtain ⟨⟨rfl, rfl⟩, rfl⟩ := q2; exact ⟨rfl, rfl⟩
            | some a => simp at q2 ⊢; obtain ⟨⟨rfl, rfl⟩, rfl⟩ := q2; exact ⟨rfl, rfl⟩
    · cases hes
  · cases hes
end
end Go.Proofs.YthbmnacleneflaaGreatDoor.ae
/-
  A run of one goroutine over known values: maps written, gone over. Condition: the store and the world belong together (WR).
-/
set_option linter.unusedVariables false
set_option linter.unusedSimpArgs false
namespace Go.Proofs.YthbmnacleneflaaGreatDoor.ae
open Go

section
variable {P : Program} {base : Nat} {θ : Th} {w : World} {h h' : H} {t : TypeId} {n : Nat}
theorem set_at {a : Array Obj} {k : Nat} {o : Obj} (hk : k < a.size) : (a.setIfInBounds k o)[k]? = some o := by simp [hk]
theorem set_ne {a : Array Obj} {k j : Nat} {o : Obj} (hk : j ≠ k) : (a.setIfInBounds k o)[j]? = a[j]? := by
  rw [Array.getElem?_setIfInBounds_ne (Ne.symm hk)]
/-- An object that is no row of cells is put anew. -/
theorem setObj_spec {i : Nat} {x b : AB} {o o' : Obj} {p : Pl} (r : WR P base θ h w) (hp : hput h i b = some h') (hi : h.get i = some x) (hx : live x = true) (ht : θ i = some p) (ho : w.heap[p.b]? = some o) (hn : ∀ c e f, o ≠ .cells c e f) (hb : base ≤ p.b)
    (hbr : ∀ w' : World, w'.heap[p.b]? = some o' → BR P θ base p w' b) :
    ∃ w', (setObj p.b o').run P w = .ok () w' ∧ WR P base θ h' w' ∧ Keep base w w' := by
  have hlt := lt_blk ho
  refine ⟨{ w with heap := w.heap.setIfInBounds p.b o' }, run_setObj ho hn, r.set hp hi ht hx (hbr _ (set_at hlt)) fun k hk => set_ne hk, ⟨rfl, rfl, rfl, by simp, fun k hk => set_ne (by omega)⟩⟩
theorem newObjA_run {b : AB} {o : Obj} {f f' : Nat → Value} {v : Value} {n' : Nat} (r : WR P base θ h w) (hb : base ≤ w.heap.size) (hn : newObjA b f h n = some (v, h', n')) (hbr : ∀ (p : Pl) θ' w', Ext θ θ' → base ≤ p.b → w'.heap[p.b]? = some o → BR P θ' base p w' b)
    (hf : ∀ θ' p, θ' n = some p → VR θ' (f n) (f' p.b)) : OpS P base θ w (do pure (f' (← newObj o))) v h' := by
  unfold newObjA at hn
  rw [Option.map_eq_some_iff] at hn
  obtain ⟨h1, hf1, e1⟩ := hn
  cases e1
  obtain ⟨θ', g1, g2, g3, g4⟩ := new_spec (o := o) (p := ⟨w.heap.size, 0, 0⟩) r hb hf1 rfl (fun θ' w' hx hw => hbr _ θ' w' hx hb hw)
  exact ⟨f' w.heap.size, θ', _, by simp [newObj, Sem.run], g2, hf _ _ g1, g3, g4⟩
theorem makeMapA_run {rv rv' : Option Value} {v : Value} {n' : Nat} (r : WR P base θ h w) (hb : base ≤ w.heap.size) (hm : ∃ k e, P.underlying t = some (.map k e)) (hr : ∀ x, rv' = some x → ∃ k i, x = .int k i) (hn : newObjA (.map [] 0) mapTo h n = some (v, h', n')) : OpS P base θ w (Instr.makeMap t rv') v h' := by
  obtain ⟨v', θ', w', h1, h2⟩ := newObjA_run (o := .map #[] 0) (f' := mapTo) r hb hn (fun p θ' w' hx hb hw => .map hw ⟨.nil, .nil, rfl⟩ hb) (fun θ' p hp => .map hp .nil)
  refine ⟨v', θ', w', ?_, h2⟩
  rw [← h1]
  obtain ⟨k, e, hu⟩ := hm
  cases rv' with
  | none => simp [Instr.makeMap, mapTo]
  | some x =>
    obtain ⟨k, i, rfl⟩ := hr x rfl
    simp [Instr.makeMap, mapTo, run_underlying hu, asInt, asIntOf]
theorem ER.push {es es' : List MapEntry} {e e' : MapEntry} (h : ER θ es es') (h1 : VR θ e.key e'.key) (h2 : VR θ e.val e'.val) (h3 : e.born = e'.born) : ER θ (es ++ [e]) (es' ++ [e']) := by
  obtain ⟨a, b, c⟩ := h
  refine ⟨?_, ?_, ?_⟩
  · simpa using a.append (.cons h1 .nil)
  · simpa using b.append (.cons h2 .nil)
  · simp [c, h3]
theorem ER.modify {f f' : MapEntry → MapEntry} (hf : ∀ e e', VR θ e.key e'.key → VR θ e.val e'.val → e.born = e'.born → VR θ (f e).key (f' e').key ∧ VR θ (f e).val (f' e').val ∧ (f e).born = (f' e').born) : ∀ {es es' : List MapEntry} {i : Nat}, ER θ es es' → ER θ (es.modify i f) (es'.modify i f') := by
  intro es
  induction es with
  | nil => intro es' i h; have e := h.inv_nil; subst e; simpa using h
  | cons e es ih =>
    intro es' i h
    obtain ⟨e', l, rfl⟩ := h.inv
    obtain ⟨h1, h2, h3, h4⟩ := h.cons
    cases i with
    | zero =>
      obtain ⟨g1, g2, g3⟩ := hf e e' h1 h2 h3
      simpa using ER.mk g1 g2 g3 h4
    | succ i => simpa using ER.mk h1 h2 h3 (ih h4)
theorem mapUpdateA_run {m m' k k' x x' : Value} (r : WR P base θ h w) (hl : mapUpdateA P t m k x h = some h') (hm : VR θ m m') (hk : VR θ k k') (hx : VR θ x x') : OpU P base θ w (Instr.mapUpdate t m' k' x') h' := by
  unfold mapUpdateA at hl
  rw [Option.bind_eq_some_iff] at hl
  obtain ⟨⟨kt, d, e⟩, hmd, hl⟩ := hl
  obtain ⟨hu, hku, hd⟩ := mapDesc_spec hmd
  dsimp only at hl
  split at hl
  · rename_i r0
    split at hl
    · rename_i es c hg
      rw [cond_true, Option.bind_eq_some_iff] at hl
      obtain ⟨f, hf, hl⟩ := hl
      obtain ⟨p, es', g1, g2, g3, g4⟩ := map_at r hg
      cases hm with
      | same hq _ => simp [atom] at hq
      | map hp _ =>
        rw [hp] at g1; cases g1
        obtain ⟨q0, q1, q2⟩ := findA_er (w := w) hku hd hk g3 hf
        split at hl
        · rename_i i v0
          obtain ⟨v', a1, a2, y, y', a4, a5, a6⟩ := q2 i v0 rfl
          rw [a4] at hl
          cases hsb : Instr.sameBits 10000 y.key k
          · simp only [hsb, cond_false] at hl; cases hl
          simp only [hsb, cond_true] at hl
          have hsb' : Instr.sameBits 10000 y'.key k' = true := sameBits_vr 10000 a6 hk hsb
          have a5' : es'[i]? = some y' := by simpa using a5
          obtain ⟨w', s1, s2, s3⟩ := setObj_spec (o' := .map (es'.modify i fun e => { e with key := k', val := x' }) c) r hl hg rfl hp g2 (by simp) g4 (fun w' hw' => by
            refine .map hw' ?_ g4
            rw [Array.toList_modify]
            exact ER.modify (f := fun e => { e with key := k, val := x }) (f' := fun e => { e with key := k', val := x' }) (fun e e' _ _ hb => ⟨hk, hx, hb⟩) g3)
          refine ⟨θ, w', ?_, Ext.refl θ, s2, s3⟩
          simp only [Instr.mapUpdate, Sem.run_bind, run_underlying hu, Result.andThen_ok, run_getObj g2 (by simp), q0, a1, a5', Option.map_some, Option.getD_some, Instr.keyThatStays, hsb', if_true, Sem.run_pure]
          exact s1
        · obtain ⟨w', s1, s2, s3⟩ := setObj_spec (o' := .map (es'.push { key := k', val := x', born := c }) (c + 1)) r hl hg rfl hp g2 (by simp) g4 (fun w' hw' => by
            refine .map hw' ?_ g4
            rw [Array.toList_push]
            exact g3.push hk hx rfl)
          refine ⟨θ, w', ?_, Ext.refl θ, s2, s3⟩
          simp only [Instr.mapUpdate, Sem.run_bind, run_underlying hu, Result.andThen_ok, run_getObj g2 (by simp), q0, q1 rfl]
          exact s1
    · cases hl
  · cases hl
/-- 'm[k] op= x', its first half: the entry is there from now on. -/
def mapEntryA (P : Program) (t : TypeId) (m k : Value) (h : H) : Option (Value × H) := (mapDesc P t).bind fun (kt, d, e) => match m with
  | .map (some r) => (match h.get r with
    | some (.map es c) => bif true then (findA P kt d k es).bind fun f => (match f with
      | some (i, v) => (match es[i]? with
        | some y => bif Instr.sameBits 10000 y.key k then (hput h r (.map (es.modify i fun e => { e with key := k }) c)).map fun h => (.tuple #[v, goInt y.born], h) else none
        | none => none)
      | none => (zero P e).bind fun z => bif atoms z then (hput h r (.map (es ++ [{ key := k, val := z, born := c }]) (c + 1))).map fun h => (.tuple #[z, goInt c], h) else none) else none
    | _ => none)
  | _ => none
def entryStoreA (m s x : Value) (h : H) : Option H := match m, s with
  | .map (some r), .int _ b => (match h.get r with
    | some (.map es c) => (match es.findIdx? (fun e => (e.born : Int) == b) with
      | some i => hput h r (.map (es.modify i fun e => { e with val := x }) c)
      | none => none)
    | _ => none)
  | _, _ => none
theorem mapEntryA_run {m m' k k' v : Value} (r : WR P base θ h w) (hl : mapEntryA P t m k h = some (v, h')) (hm : VR θ m m') (hk : VR θ k k') : OpS P base θ w (Instr.mapEntry t m' k') v h' := by
  unfold mapEntryA at hl
  rw [Option.bind_eq_some_iff] at hl
  obtain ⟨⟨kt, d, e⟩, hmd, hl⟩ := hl
  obtain ⟨hu, hku, hd⟩ := mapDesc_spec hmd
  dsimp only at hl
  split at hl
  · rename_i r0
    split at hl
    · rename_i es c hg
      rw [cond_true, Option.bind_eq_some_iff] at hl
      obtain ⟨f, hf, hl⟩ := hl
      obtain ⟨p, es', g1, g2, g3, g4⟩ := map_at r hg
      cases hm with
      | same hq _ => simp [atom] at hq
      | map hp _ =>
        rw [hp] at g1; cases g1
        obtain ⟨q0, q1, q2⟩ := findA_er (w := w) hku hd hk g3 hf
        split at hl
        · rename_i i v0
          obtain ⟨v', a1, a2, y, y', a4, a5, a6⟩ := q2 i v0 rfl
          rw [a4] at hl
          dsimp only at hl
          cases hsb : Instr.sameBits 10000 y.key k
          · simp only [hsb, cond_false] at hl; cases hl
          simp only [hsb, cond_true, Option.map_eq_some_iff] at hl
          obtain ⟨h1, hput, e1⟩ := hl
          cases e1
          have hsb' : Instr.sameBits 10000 y'.key k' = true := sameBits_vr 10000 a6 hk hsb
          have a5' : es'[i]? = some y' := by simpa using a5
          have hborn : y'.born = y.born := by
            have h3 := congrArg (fun l => l[i]?) g3.2.2
            simp only [List.getElem?_map, a4, a5, Option.map_some, Option.some.injEq] at h3
            exact h3.symm
          obtain ⟨w', s1, s2, s3⟩ := setObj_spec (o' := .map (es'.modify i fun e => { e with key := k' }) c) r hput hg rfl hp g2 (by simp) g4 (fun w' hw' => by
            refine .map hw' ?_ g4
            rw [Array.toList_modify]
            exact ER.modify (f := fun e => { e with key := k }) (f' := fun e => { e with key := k' }) (fun e e' _ hb hc => ⟨hk, hb, hc⟩) g3)
          refine ⟨.tuple #[v', goInt y.born], θ, w', ?_, Ext.refl θ, .tup (.cons a2 (.same rfl .nil)) .nil, s2, s3⟩
          simp only [Instr.mapEntry, Sem.run_bind, run_underlying hu, Result.andThen_ok, run_getObj g2 (by simp), q0, a1, a5', Option.map_some, Option.getD_some, Instr.keyThatStays, hsb', if_true, Sem.run_pure, hborn]
          rw [s1]
          rfl
        · rw [Option.bind_eq_some_iff] at hl
          obtain ⟨z, hz, hl⟩ := hl
          cases ha : atoms z
          · rw [ha] at hl; cases hl
          rw [ha, cond_true, Option.map_eq_some_iff] at hl
          obtain ⟨h1, hput, e1⟩ := hl
          cases e1
          obtain ⟨w', s1, s2, s3⟩ := setObj_spec (o' := .map (es'.push { key := k', val := z, born := c }) (c + 1)) r hput hg rfl hp g2 (by simp) g4 (fun w' hw' => by
            refine .map hw' ?_ g4
            rw [Array.toList_push]
            exact g3.push hk (atoms_vr ha) rfl)
          refine ⟨.tuple #[z, goInt c], θ, w', ?_, Ext.refl θ, .tup (.cons (atoms_vr ha) (.same rfl .nil)) .nil, s2, s3⟩
          simp only [Instr.mapEntry, Sem.run_bind, run_underlying hu, Result.andThen_ok, run_getObj g2 (by simp), q0, q1 rfl, run_zero hz]
          rw [s1]
          rfl
    · cases hl
  · cases hl
theorem entryStoreA_run {m m' s s' x x' : Value} (r : WR P base θ h w) (hl : entryStoreA m s x h = some h') (hm : VR θ m m') (hs : VR θ s s') (hx : VR θ x x') : OpU P base θ w (Instr.entryStore t m' s' x') h' := by
  unfold entryStoreA at hl
  split at hl
  · rename_i r0 k b
    split at hl
    · rename_i es c hg
      split at hl
      · rename_i i hi
        obtain ⟨p, es', g1, g2, g3, g4⟩ := map_at r hg
        have := flat_same hs rfl
        subst this
        cases hm with
        | same hq _ => simp [atom] at hq
        | map hp _ =>
          rw [hp] at g1; cases g1
          have hi' : es'.findIdx? (fun e => (e.born : Int) == b) = some i := by
            have e1 : ∀ l : List MapEntry, l.findIdx? (fun e => (e.born : Int) == b) = (l.map (fun e : MapEntry => e.born)).findIdx? (fun n : Nat => (n : Int) == b) := fun l => by
              rw [List.findIdx?_map]; rfl
            have e2 : es'.findIdx? (fun e => (e.born : Int) == b) = es'.toList.findIdx? (fun e => (e.born : Int) == b) := by
              rcases es' with ⟨l⟩
              simp
            rw [e2, e1, ← g3.2.2, ← e1]
            exact hi
          obtain ⟨w', s1, s2, s3⟩ := setObj_spec (o' := .map (es'.modify i fun e => { e with val := x' }) c) r hl hg rfl hp g2 (by simp) g4 (fun w' hw' => by
            refine .map hw' ?_ g4
            rw [Array.toList_modify]
            exact ER.modify (f := fun e => { e with val := x }) (f' := fun e => { e with val := x' }) (fun e e' ha _ hc => ⟨ha, hx, hc⟩) g3)
          refine ⟨θ, w', ?_, Ext.refl θ, s2, s3⟩
          simp only [Instr.entryStore, Sem.run_bind, run_getObj g2 (by simp), Result.andThen_ok, asInt, asIntOf, Sem.run_pure, hi']
          exact s1
      · cases hl
    · cases hl
  · cases hl
theorem rangeA_run {x x' v : Value} {n' : Nat} (r : WR P base θ h w) (hb : base ≤ w.heap.size) (hn : rangeA P t x h n = some (v, h', n')) (hx : VR θ x x') : OpS P base θ w (Instr.range t x') v h' := by
  unfold rangeA at hn
  split at hn
  · rename_i b hu
    have e0 := flat_same hx rfl
    subst e0
    obtain ⟨v', θ', w', h1, h2⟩ := newObjA_run (o := .stringIter b 0) (f' := ptrTo) r hb hn (fun p θ' w' hx hb hw => .strIter hw hb) (fun θ' p hp => .ptr hp .nil)
    refine ⟨v', θ', w', ?_, h2⟩
    rw [← h1]
    simp [Instr.range, run_underlying hu, ptrTo]
  · rename_i k e hu
    cases hx with | same _ _ => ?_
    obtain ⟨v', θ', w', h1, h2⟩ := newObjA_run (o := .mapIter none 0 #[] 0) (f' := ptrTo) r hb hn (fun p θ' w' hx hb hw => .iter0 hw rfl hb) (fun θ' p hp => .ptr hp .nil)
    refine ⟨v', θ', w', ?_, h2⟩
    rw [← h1]
    simp [Instr.range, run_underlying hu, ptrTo]
  · rename_i k e m hu
    split at hn
    · rename_i es c hg
      obtain ⟨p, es', g1, g2, g3, g4⟩ := map_at r hg
      cases hx with
      | same hq _ => simp [atom] at hq
      | map hp _ =>
        rw [hp] at g1; cases g1
        obtain ⟨v', θ', w', h1, h2⟩ := newObjA_run (o := .mapIter (some p.b) c #[] c) (f' := ptrTo) r hb hn (fun p θ' w' hx hb hw => .iter hw (hx _ _ hp) rfl hb) (fun θ' p hp => .ptr hp .nil)
        refine ⟨v', θ', w', ?_, h2⟩
        rw [← h1]
        simp [Instr.range, run_underlying hu, ptrTo, run_getObj g2]
    · cases hn
  · cases hn
theorem iter_at {i : Nat} {ab : AB} (r : WR P base θ h w) (hg : h.get i = some ab) : ∃ p, θ i = some p ∧ BR P θ base p w ab := r.at_ i ab hg
theorem toList_one {α : Type} {a : Array α} {x : α} (h : a.toList = [x]) : a = #[x] := by
  apply Array.toList_inj.1; simpa using h
theorem toList_nil {α : Type} {a : Array α} (h : a.toList = []) : a = #[] := by
  apply Array.toList_inj.1; simpa using h
theorem nextA_run {it it' v : Value} {isS : Bool} {ty : TypeId} (r : WR P base θ h w) (hn : nextA it isS h = some (v, h')) (hi : VR θ it it') : OpS P base θ w (Instr.next it' isS ty) v h' := by
  unfold nextA at hn
  split at hn
  · rename_i i
    cases hi with
    | same hq _ => simp [atom] at hq
    | ptr hp _ =>
      rename_i p
      split at hn
      · rename_i b pos hg
        obtain ⟨q, hq, hb⟩ := r.at_ _ _ hg
        rw [hp] at hq; cases hq
        cases hb with
        | strIter g hbase =>
          cases hlt : Nat.blt pos b.size
          · rw [hlt] at hn; cases hn
            have : ¬ pos < b.size := fun h => by rw [show Nat.blt pos b.size = true from Nat.ble_eq_true_of_le h] at hlt; cases hlt
            exact OpS.same r (by simp [Instr.next, run_getObj g, this]) (flat_vr (by rfl))
          · rw [hlt, cond_true, Option.map_eq_some_iff] at hn
            obtain ⟨h1, hput, e1⟩ := hn
            cases e1
            have hlt : pos < b.size := Nat.le_of_ble_eq_true hlt
            obtain ⟨w', s1, s2, s3⟩ := setObj_spec (o' := .stringIter b (pos + (Utf8.decode b pos).2)) r hput hg rfl hp g (by simp) hbase (fun w' hw' => .strIter hw' hbase)
            refine ⟨_, θ, w', ?_, Ext.refl θ, .tup (.cons (.same rfl .nil) (.cons (.same rfl .nil) (.cons (.same rfl .nil) .nil))) .nil, s2, s3⟩
            simp [Instr.next, run_getObj g, hlt, s1]
      · rename_i hg
        cases hn
        obtain ⟨q, hq, hb⟩ := r.at_ _ _ hg
        rw [hp] at hq; cases hq
        cases hb with
        | iter0 g hs hb => exact OpS.same r (by simp [Instr.next, run_getObj g]) (flat_vr (by rfl))
      · rename_i m since seen last hg
        obtain ⟨q, hq, hb⟩ := r.at_ _ _ hg
        rw [hp] at hq; cases hq
        cases hb with
        | iter g hm hs hbase =>
          rename_i qm seen'
          split at hn
          · rename_i hgm
            cases hn
            obtain ⟨p2, es', g1, g2, g3, g4⟩ := map_at r hgm
            rw [hm] at g1; cases g1
            have := toList_nil g3.inv_nil
            subst this
            exact OpS.same r (by simp [Instr.next, run_getObj g, run_getObj g2, choose, Sem.run, Question.forced]) (flat_vr (by rfl))
          · rename_i e clock hgm
            obtain ⟨p2, es', g1, g2, g3, g4⟩ := map_at r hgm
            rw [hm] at g1; cases g1
            obtain ⟨e', l, hl⟩ := g3.inv
            have hl2 : l = [] := by have := g3.len; rw [hl] at this; simpa using this
            subst hl2
            have := toList_one hl
            subst this
            obtain ⟨k1, k2, k3, _⟩ := g3.cons
            split at hn
            · cases hlt : Nat.blt e.born since
              · rw [hlt] at hn; cases hn
              rw [hlt, cond_true, Option.map_eq_some_iff] at hn
              obtain ⟨h1, hput, e1⟩ := hn
              cases e1
              have hlt : e.born < since := Nat.le_of_ble_eq_true hlt
              have hse := toList_nil hs
              subst hse
              obtain ⟨w', s1, s2, s3⟩ := setObj_spec (o' := .mapIter (some qm.b) since #[e'.born] clock) r hput hg rfl hp g (by simp) hbase (fun w' hw' => .iter hw' hm (by simp [k3]) hbase)
              rw [k3] at hlt
              refine ⟨.tuple #[.bool true, e'.key, e'.val], θ, w', ?_, Ext.refl θ, .tup (.cons (.same rfl .nil) (.cons k1 (.cons k2 .nil))) .nil, s2, s3⟩
              simp [Instr.next, run_getObj g, run_getObj g2, choose, Sem.run, Question.forced, hlt, show ¬ (since ≤ e'.born) by omega, s1]
            · rename_i b
              cases hc : (Nat.beq b e.born && Nat.blt e.born last)
              · rw [hc] at hn; cases hn
              rw [hc, cond_true] at hn
              cases hn
              simp only [Bool.and_eq_true] at hc
              have hc1 := Nat.eq_of_beq_eq_true hc.1
              have hc2 : e.born < last := Nat.le_of_ble_eq_true hc.2
              have hse := toList_one hs
              subst hse
              subst hc1
              rw [k3] at hc2
              exact OpS.same r (by simp [Instr.next, run_getObj g, run_getObj g2, choose, Sem.run, Question.forced, k3, show ¬ (last ≤ e'.born) by omega]) (flat_vr (by rfl))
            · cases hn
          · cases hn
      · cases hn
  · cases hn
theorem entryA_run {it it' v : Value} (r : WR P base θ h w) (hn : entryA it h = some v) (hi : VR θ it it') : ∃ v', (Instr.entry it').run P w = .ok v' w ∧ VR θ v v' := by
  unfold entryA at hn
  split at hn
  · rename_i i
    cases hi with
    | same hq _ => simp [atom] at hq
    | ptr hp _ =>
      rename_i p
      split at hn
      · rename_i m since b stepped hg
        obtain ⟨q, hq, hb⟩ := r.at_ _ _ hg
        rw [hp] at hq; cases hq
        cases hb with
        | iter g hm hs hbase =>
          rename_i qm seen'
          split at hn
          · rename_i e clock hgm
            cases hc : (Nat.beq clock stepped && Nat.beq b e.born)
            · rw [hc] at hn; cases hn
            rw [hc, cond_true] at hn
            cases hn
            simp only [Bool.and_eq_true] at hc
            have hc1 := Nat.eq_of_beq_eq_true hc.1
            have hc2 := Nat.eq_of_beq_eq_true hc.2
            obtain ⟨p2, es', g1, g2, g3, g4⟩ := map_at r hgm
            rw [hm] at g1; cases g1
            obtain ⟨e', l, hl⟩ := g3.inv
            have hl2 : l = [] := by have := g3.len; rw [hl] at this; simpa using this
            subst hl2
            have := toList_one hl
            subst this
            obtain ⟨k1, k2, k3, _⟩ := g3.cons
            have hse := toList_one hs
            subst hse hc1 hc2
            exact ⟨.tuple #[e'.key, e'.val], by simp [Instr.entry, run_getObj g, run_getObj g2, k3], .tup (.cons k1 (.cons k2 .nil)) .nil⟩
          · cases hn
      · cases hn
  · cases hn
end
end Go.Proofs.YthbmnacleneflaaGreatDoor.ae
