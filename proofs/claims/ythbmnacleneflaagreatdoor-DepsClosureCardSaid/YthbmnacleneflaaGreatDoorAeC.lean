/-
  A run of one goroutine over known values: lengths, clear, copy of nothing, nil and equality, texts and bytes, unsafe pointers. Condition: the store and the world belong together (WR).
-/
import Derived.Test.YthbmnacleneflaaGreatDoorAeB
import Derived.Laws.BytesString
import Derived.Laws.Cover4
import Derived.Orders
import Derived.Defers
set_option linter.unusedVariables false
set_option linter.unusedSimpArgs false
namespace Go.Proofs.YthbmnacleneflaaGreatDoor.ae
open Go

def lenA (P : Program) (t : TypeId) (x : Value) (h : H) : Option Value := match P.underlying t, x with
  | some (.slice _), .slice _ k _ => some (goInt k)
  | some (.map _ _), .map none => some (goInt 0)
  | some (.map _ _), .map (some r) => (match h.get r with | some (.map es _) => some (goInt es.length) | _ => none)
  | _, _ => none
def clearA (P : Program) (t : TypeId) (x : Value) (h : H) : Option H := match P.underlying t, x with
  | some (.slice _), .slice _ 0 _ => some h
  | some (.slice e), .slice (some ⟨i, o, none⟩) k _ => (zero P e).bind fun z => bif atoms z then wr h i o (rep k (lst z)) else none
  | _, _ => none
def copy0A (P : Program) (t : TypeId) (d s : Value) : Option Value := match elemOf P t, d, s with
  | some e, .slice _ _ _, .slice none 0 _ => (size P e).map fun _ => goInt 0
  | _, _, _ => none
def nilCheckA' : Value → Option Value
  | .pointer (some a) => some (.pointer (some a))
  | _ => none
/-- Are two values the same, of which one at least is nil, or both of which point into one block. -/
def eqA (P : Program) (t : TypeId) (x y : Value) (h : H) : Option Bool := match P.underlying t, x, y with
  | some (.pointer _), .pointer none, .pointer b => some b.isNone
  | some (.pointer _), .pointer (some _), .pointer none => some false
  | some (.pointer e), .pointer (some ⟨i, o, none⟩), .pointer (some ⟨j, p, none⟩) => bif Nat.beq i j && (match size P e with | some (_ + 1) => true | _ => false) then some (Nat.beq o p) else none
  | some (.slice _), .slice none _ _, .slice b _ _ => some b.isNone
  | some (.slice _), .slice (some _) _ _, .slice none _ _ => some false
  | some (.map _ _), .map none, .map b => some b.isNone
  | some (.map _ _), .map (some _), .map none => some false
  | some (.func _ _ _), .nilFunc, .func (.func _) _ _ => some false
  | some (.func _ _ _), .func (.func _) _ _, .nilFunc => some false
  | _, _, _ => none
def toInts : List Value → Option (List Int)
  | [] => some []
  | .int .u8 n :: l => (toInts l).map (n :: ·)
  | _ => none
def toRunes : List Value → Option (List Int)
  | [] => some []
  | .int .i32 n :: l => (toRunes l).map (n :: ·)
  | _ => none
def bytes (l : List Int) : ByteArray := l.foldl (fun r n => r.push (UInt8.ofNat n.toNat)) ByteArray.empty
def strCells (s : ByteArray) : List Value := (s.data.map fun b => Value.int .u8 b.toNat).toList
def convA (P : Program) (s d : TypeId) (x : Value) (h : H) (n : Nat) : R := match P.underlying s, P.underlying d, x with
  | some .string, some (.slice e), .string b => match P.underlying e, size P e with
    | some (.int .u8), some 1 => (fresh h n (.cells (strCells b) e false true)).map fun h => (.slice (some ⟨n, 0, none⟩) b.size big, h, n + 1)
    | _, _ => none
  | some (.slice _), some (.slice e), .slice (some ⟨i, o, none⟩) len cap => match P.underlying e, h.get i with
    | some (.int .u8), some (.cells c e' false g) => bif Nat.beq s d then some (.slice (some ⟨i, o, none⟩) len cap, h, n) else none
    | _, _ => none
  | some (.slice e), some .string, .slice (some ⟨i, o, none⟩) len _ => match P.underlying e with
    | some (.int .u8) => ((rd h i o len).bind toInts).map fun l => (.string (bytes l), h, n)
    | some (.int .i32) => ((rd h i o len).bind toRunes).map fun l => (.string (runesBytes l), h, n)
    | _ => none
  | some (.pointer t), some .unsafePointer, .pointer (some ⟨i, o, none⟩) => match size P t, h.get i with
    | some (_ + 1), some (.cells c _ _ false) => bif Nat.blt o c.length then some (.pointer (some ⟨i, o, none⟩), h, n) else none
    | _, _ => none
  | some .unsafePointer, some (.pointer u), .pointer (some ⟨i, o, none⟩) => match size P u, h.get i with
    | some (_ + 1), some (.cells c e _ false) => bif liesAt P P.depth e (c.length / P.cellsOf e) o u 1 then some (.pointer (some ⟨i, o, none⟩), h, n) else none
    | _, _ => none
  | _, _, _ => none
section
variable {P : Program} {base : Nat} {θ : Th} {w : World} {h h' : H} {t : TypeId} {n : Nat}
theorem lenA_run {ts : Array TypeId} {ty : TypeId} {x x' v : Value} (r : WR P base θ h w) (h0 : ts[0]? = some t) (hl : lenA P t x h = some v) (hx : VR θ x x') : ∃ v', (Builtin.len_ ts ty #[x']).run P w = .ok v' w ∧ VR θ v v' := by
  unfold lenA at hl
  split at hl
  · rename_i e a k c hu
    cases hl
    refine ⟨goInt k, ?_, .same rfl .nil⟩
    cases hx <;> first | (simp [Builtin.len_, h0, run_underlying hu]; done) | skip
  · rename_i k e hu
    cases hl
    cases hx with | same _ _ => ?_
    exact ⟨goInt 0, by simp [Builtin.len_, h0, run_underlying hu], .same rfl .nil⟩
  · rename_i k e r0 hu
    split at hl
    · rename_i es c hg
      cases hl
      obtain ⟨p, es', g1, g2, g3, g4⟩ := map_at r hg
      cases hx with
      | same hq _ => simp [atom] at hq
      | map hp _ =>
        rw [hp] at g1; cases g1
        have : es'.size = es.length := by have := g3.len; simp at this; omega
        exact ⟨goInt es.length, by simp [Builtin.len_, h0, run_underlying hu, run_getObj g2, this], .same rfl .nil⟩
    · cases hl
  · cases hl
theorem clearA_run {ts : Array TypeId} {ty : TypeId} {x x' : Value} (r : WR P base θ h w) (hb : base ≤ w.heap.size) (h0 : ts[0]? = some t) (hl : clearA P t x h = some h') (hx : VR θ x x') :
    OpS P base θ w (Builtin.clear_ ts ty #[x']) (.tuple #[]) h' := by
  unfold clearA at hl
  split at hl
  · rename_i e a c hu
    cases hl
    refine OpS.same r ?_ (flat_vr (by rfl))
    cases hx <;> first | (simp [Builtin.clear_, h0, run_underlying hu]; done) | skip
    rename_i hq _
    cases a <;> simp [atom] at hq
    simp [Builtin.clear_, h0, run_underlying hu]
  · rename_i e i o k c _ hu
    rw [Option.bind_eq_some_iff] at hl
    obtain ⟨z, hz, hl⟩ := hl
    cases ha : atoms z
    · rw [ha] at hl; cases hl
    rw [ha, cond_true] at hl
    obtain ⟨p, w', g1, g2, g3, g4⟩ := wr_spec (P := P) r hb hl (atoms_vl (rep_atoms k ha))
    have hzc : (Builtin.zeroCells z.cells k).toList = rep k (lst z) := by
      have := rep_eq k z.cells.size z.cells rfl
      simp only [Builtin.zeroCells, this, lst]
    have hfin : ∀ c', (Builtin.clear_ ts ty #[.slice (some ⟨p.b, o, none⟩) k c']).run P w = .ok (.tuple #[]) w' := fun c' => by
      cases k with
      | zero => simp [rep, storeCells] at g2; subst g2; simp [Builtin.clear_, h0, run_underlying hu]
      | succ k => simp [Builtin.clear_, h0, run_underlying hu, run_zero hz, hzc, g2]
    cases hx with
    | same hq _ => simp [atom] at hq
    | slice hp _ _ => rw [hp] at g1; cases g1; exact ⟨_, θ, w', hfin _, Ext.refl θ, flat_vr (by rfl), g3, g4⟩
    | slack hp _ _ => rw [hp] at g1; cases g1; exact ⟨_, θ, w', hfin _, Ext.refl θ, flat_vr (by rfl), g3, g4⟩
  · cases hl
theorem copy0A_run {ts : Array TypeId} {ty : TypeId} {d d' s s' v : Value} (r : WR P base θ h w) (h0 : ts[0]? = some t) (hl : copy0A P t d s = some v) (hd : VR θ d d') (hs : VR θ s s') : ∃ v', (Builtin.copy_ ts ty #[d', s']).run P w = .ok v' w ∧ VR θ v v' := by
  unfold copy0A at hl
  split at hl
  · rename_i e a k c c2 he
    rw [Option.map_eq_some_iff] at hl
    obtain ⟨sz, hsz, e1⟩ := hl
    cases e1
    have hu := elemOf_spec he
    cases hs with | same _ _ => ?_
    refine ⟨goInt 0, ?_, .same rfl .nil⟩
    have key : ∀ (b : Option Addr) (k c' : Nat), (Builtin.copy_ ts ty #[.slice b k c', .slice none 0 c2]).run P w = .ok (goInt 0) w := fun b k c' => by
      cases b <;> simp [Builtin.copy_, h0, run_underlying hu, Builtin.lenOf, Builtin.firstCells, run_size hsz, storeCells]
    cases hd <;> first | exact key _ _ _ | skip
  · cases hl
theorem eqA_run {x x' y y' : Value} {b : Bool} {ox oy : Operand} (he : eqA P t x y h = some b) (hx : VR θ x x') (hy : VR θ y y') :
    (do eqGuard .eql t ox oy x' y'; binOp .eql t x' y' : Sem Value).run P w = .ok (.bool b) w ∧ (do eqGuard .neq t ox oy x' y'; binOp .neq t x' y' : Sem Value).run P w = .ok (.bool !b) w := by
  have key : ∀ x' y', (∀ a b, ¬ (x' = .nilIface ∧ y' = .nilIface) ∧ ¬ (x' = .agg a ∧ y' = .agg b)) → (∀ k a, x' ≠ .int k a) → (∀ k a, x' ≠ .float k a) → (∀ k a b, x' ≠ .complex k a b) → (∀ a, x' ≠ .string a) → (Op.equal t x' y').run P w = .ok b w →
      (do eqGuard .eql t ox oy x' y'; binOp .eql t x' y' : Sem Value).run P w = .ok (.bool b) w ∧ (do eqGuard .neq t ox oy x' y'; binOp .neq t x' y' : Sem Value).run P w = .ok (.bool !b) w := by
    intro x' y' h1 h2 h3 h4 h5 hr
    have hg : ∀ op, op = .eql ∨ op = .neq → (eqGuard op t ox oy x' y').run P w = .ok () w := fun op ho => by
      rcases ho with rfl | rfl <;> (unfold eqGuard; simp only [Bool.not_true, Bool.false_eq_true, if_false]; split)
      · exact absurd ⟨rfl, rfl⟩ (h1 #[] #[]).1
      · exact absurd ⟨rfl, rfl⟩ (h1 _ _).2
      · rfl
      · exact absurd ⟨rfl, rfl⟩ (h1 #[] #[]).1
      · exact absurd ⟨rfl, rfl⟩ (h1 _ _).2
      · rfl
    constructor
    · rw [Sem.run_bind, hg _ (.inl rfl)]
      cases x' <;> first | exact absurd rfl (h2 _ _) | exact absurd rfl (h3 _ _) | exact absurd rfl (h4 _ _ _) | exact absurd rfl (h5 _) | simp [binOp, hr]
    · rw [Sem.run_bind, hg _ (.inr rfl)]
      cases x' <;> first | exact absurd rfl (h2 _ _) | exact absurd rfl (h3 _ _) | exact absurd rfl (h4 _ _ _) | exact absurd rfl (h5 _) | simp [binOp, hr]
  have eqd : ∀ x' y', (∀ n, (Op.equalIn (n + 1) t x' y').run P w = .ok b w) → (Op.equal t x' y').run P w = .ok b w := fun x' y' h => h 9999
  unfold eqA at he
  split at he
  · rename_i e a hu
    cases he
    cases hx with | same _ _ => ?_
    refine key _ _ (by simp) (by simp) (by simp) (by simp) (by simp) (eqd _ _ fun n => ?_)
    cases hy <;> first | (simp [Op.equalIn, run_underlying hu]; done) | skip
  · rename_i e a hu
    cases he
    cases hy with | same _ _ => ?_
    cases hx with
    | same hq _ => simp [atom] at hq
    | ptr hp _ =>
      refine key _ _ (by simp) (by simp) (by simp) (by simp) (by simp) (eqd _ _ fun n => ?_)
      simp [Op.equalIn, run_underlying hu]
  · rename_i e i o j p hu
    cases hc : (Nat.beq i j && (match size P e with | some (_ + 1) => true | _ => false))
    · rw [hc] at he; cases he
    rw [hc, cond_true] at he
    cases he
    simp only [Bool.and_eq_true] at hc
    obtain ⟨c1, c2⟩ := hc
    have c1 := Nat.eq_of_beq_eq_true c1
    subst c1
    obtain ⟨s, hs⟩ : ∃ s, size P e = some (s + 1) := by
      cases hs : size P e with
      | none => simp [hs] at c2
      | some s => cases s with
        | zero => simp [hs] at c2
        | succ s => exact ⟨s, rfl⟩
    cases hx with
    | same hq _ => simp [atom] at hq
    | ptr hp _ =>
      cases hy with
      | same hq _ => simp [atom] at hq
      | ptr hp2 _ =>
        rw [hp] at hp2; cases hp2
        refine key _ _ (by simp) (by simp) (by simp) (by simp) (by simp) (eqd _ _ fun n => ?_)
        simp only [Op.equalIn, Sem.run_bind, run_underlying hu, Result.andThen_ok, run_size hs, sameAddr]
        by_cases e : o = p
        · subst e; simp
        · simp [e, beq_f e]
  · rename_i e a k c b k2 c2 hu
    cases he
    cases hx with | same _ _ => ?_
    refine key _ _ (by simp) (by simp) (by simp) (by simp) (by simp) (eqd _ _ fun n => ?_)
    cases hy <;> first | (simp [Op.equalIn, run_underlying hu]; done) | skip
  · rename_i e a k c k2 c2 hu
    cases he
    cases hy with | same _ _ => ?_
    refine key _ _ (by cases hx <;> simp) (by cases hx <;> simp) (by cases hx <;> simp) (by cases hx <;> simp) (by cases hx <;> simp) (eqd _ _ fun n => ?_)
    cases hx <;> first | (simp [Op.equalIn, run_underlying hu]; done) | (rename_i hq _; simp [atom] at hq; done) | skip
  · rename_i k e b hu
    cases he
    cases hx with | same _ _ => ?_
    refine key _ _ (by simp) (by simp) (by simp) (by simp) (by simp) (eqd _ _ fun n => ?_)
    cases hy <;> first | (simp [Op.equalIn, run_underlying hu]; done) | skip
  · rename_i k e a hu
    cases he
    cases hy with | same _ _ => ?_
    cases hx with
    | same hq _ => simp [atom] at hq
    | map hp _ =>
      refine key _ _ (by simp) (by simp) (by simp) (by simp) (by simp) (eqd _ _ fun n => ?_)
      simp [Op.equalIn, run_underlying hu]
  · rename_i k e f b c d hu
    cases he
    cases hx with | same _ _ => ?_
    cases hy with
    | same hq _ => simp [atom] at hq
    | func _ _ _ =>
      refine key _ _ (by simp) (by simp) (by simp) (by simp) (by simp) (eqd _ _ fun n => ?_)
      simp [Op.equalIn, run_underlying hu]
  · rename_i k e f b c d hu
    cases he
    cases hy with | same _ _ => ?_
    cases hx with
    | same hq _ => simp [atom] at hq
    | func _ _ _ =>
      refine key _ _ (by simp) (by simp) (by simp) (by simp) (by simp) (eqd _ _ fun n => ?_)
      simp [Op.equalIn, run_underlying hu]
  · cases he
theorem toInts_vl {l l' : List Value} {ns : List Int} (h : toInts l = some ns) (hv : VL θ l l') : l' = ns.map (Value.int .u8) := by
  induction l generalizing l' ns with
  | nil => rw [hv.inv_nil]; simp [toInts] at h; subst h; rfl
  | cons v l ih =>
    obtain ⟨v', l', rfl, h1, h2⟩ := hv.inv_cons
    unfold toInts at h
    split at h
    · rename_i e; cases e
    · rename_i n l0 e
      cases e
      rw [Option.map_eq_some_iff] at h
      obtain ⟨ms, hm, rfl⟩ := h
      cases h1 with | same _ _ => ?_
      rw [ih hm h2]; rfl
    · cases h
theorem toRunes_vl {l l' : List Value} {ns : List Int} (h : toRunes l = some ns) (hv : VL θ l l') : l' = ns.map (Value.int .i32) := by
  induction l generalizing l' ns with
  | nil => rw [hv.inv_nil]; simp [toRunes] at h; subst h; rfl
  | cons v l ih =>
    obtain ⟨v', l', rfl, h1, h2⟩ := hv.inv_cons
    unfold toRunes at h
    split at h
    · rename_i e; cases e
    · rename_i n l0 e
      cases e
      rw [Option.map_eq_some_iff] at h
      obtain ⟨ms, hm, rfl⟩ := h
      cases h1 with | same _ _ => ?_
      rw [ih hm h2]; rfl
    · cases h
theorem run_shape {b : Nat} {c : Array Value} {e : TypeId} {fz : Nat × Nat} (h : w.heap[b]? = some (.cells c e fz)) : (shape b).run P w = .ok (some (e, c.size)) w := by
  simp [shape, Sem.run, World.shape?, h]
end
end Go.Proofs.YthbmnacleneflaaGreatDoor.ae
/-
  A run of one goroutine over known values: texts and bytes, unsafe pointers. Condition: the store and the world belong together (WR).
-/
set_option linter.unusedVariables false
set_option linter.unusedSimpArgs false
namespace Go.Proofs.YthbmnacleneflaaGreatDoor.ae
open Go
section
variable {P : Program} {base : Nat} {θ : Th} {w : World} {h h' : H} {t : TypeId} {n : Nat}
theorem modify_at {a : Array Obj} {k : Nat} {f : Obj → Obj} {o : Obj} (h : a[k]? = some o) : (a.modify k f)[k]? = some (f o) := by
  rw [Array.getElem?_modify, if_pos rfl, h]; rfl
theorem modify_ne {a : Array Obj} {k j : Nat} {f : Obj → Obj} (h : j ≠ k) : (a.modify k f)[j]? = a[j]? := by
  rw [Array.getElem?_modify, if_neg (Ne.symm h)]
theorem same_put (h : H) (i : Nat) (x : AB) (hx : h.get i = some x) (hl : Nat.ble i lim = true) : ∃ h1, hput h i x = some h1 ∧ ∀ j, h1.get j = h.get j := by
  refine ⟨T.put x 24 h i, by unfold hput; rw [hl]; rfl, fun j => ?_⟩
  rw [T.get_put x 24 h i j (lim_put hl)]
  split
  · rename_i e; subst e; exact hx.symm
  · rfl
theorem WR.ext {h1 : H} (r : WR P base θ h w) (he : ∀ j, h1.get j = h.get j) : WR P base θ h1 w :=
  ⟨fun i g => r.dom i (by rw [← he]; exact g), fun i ab g => r.at_ i ab (by rw [← he]; exact g), fun i j p q x y a b c => r.inj i j p q x y a (by rw [← he]; exact b) (by rw [← he]; exact c)⟩
/-- The world's side of a block may turn, the store's need not. -/
theorem WR.turn {i : Nat} {x : AB} {p : Pl} {w' : World} (r : WR P base θ h w) (hi : h.get i = some x) (hx : live x = true) (ht : θ i = some p) (hb : BR P θ base p w' x) (hw : ∀ k, k ≠ p.b → w'.heap[k]? = w.heap[k]?) : WR P base θ h w' := by
  refine ⟨r.dom, fun j ab g => ?_, r.inj⟩
  by_cases e : j = i
  · subst e; rw [hi] at g; cases g; exact ⟨p, ht, hb⟩
  · obtain ⟨q, h1, h2⟩ := r.at_ j ab g
    exact ⟨q, h1, h2.mono (Ext.refl θ) fun hl => hw _ (r.inj j i q p ab x e g hi hl hx h1 ht)⟩
/-- Marking a block as one that a text may share changes nothing that is known. -/
theorem mark_spec {i o : Nat} {c : List Value} {e : TypeId} {g : Bool} {p : Pl} (r : WR P base θ h w) (hg : h.get i = some (.cells c e false g)) (hp : θ i = some p) :
    ∃ w', (markStringish ⟨p.b, o, none⟩).run P w = .ok () w' ∧ WR P base θ h w' ∧ Keep base w w' := by
  obtain ⟨q, hq, hbr⟩ := r.at_ i _ hg
  rw [hp] at hq; cases hq
  have keep : ∀ f : Obj → Obj, base ≤ p.b → Keep base w { w with heap := w.heap.modify p.b f } := fun f hb => ⟨rfl, rfl, rfl, by simp, fun k hk => modify_ne (by omega)⟩
  have wt : ∀ (n : Nat) (fz : Nat × Nat), Wt base p.b n fz → Wt base p.b n (if fz.1 == fz.2 then (n, n + 1) else (min fz.1 n, max fz.2 (n + 1))) := fun n fz hz => by
    refine ⟨hz.1, ?_⟩
    by_cases e : fz.1 = fz.2
    · rw [if_pos (by simpa using e)]; exact .inr (Nat.le_refl _)
    · rw [if_neg (by simpa using e)]
      rcases hz.2 with e2 | e2
      · exact absurd e2 e
      · exact .inr (by show n ≤ min fz.1 n; omega)
  cases hbr with
  | cells g1 hv hz =>
    rename_i c' fz
    refine ⟨_, by simp [markStringish, run_shape g1, freeze, Sem.run, World.freeze]; rfl, r.turn hg rfl hp (.cells (fz := if fz.1 == fz.2 then (c'.size, c'.size + 1) else (min fz.1 c'.size, max fz.2 (c'.size + 1))) ?_ hv fun h => wt _ _ (hz h)) fun k hk => modify_ne hk, keep _ (hz rfl).1⟩
    rw [modify_at g1]
    obtain ⟨lo, hi⟩ := fz
    by_cases e : lo = hi <;> simp [e]
  | grow g1 hv he hk hs hz =>
    rename_i pre rr c' fz
    refine ⟨_, by simp [markStringish, run_shape g1, freeze, Sem.run, World.freeze]; rfl, r.turn hg rfl hp (.grow (fz := if fz.1 == fz.2 then (c'.size, c'.size + 1) else (min fz.1 c'.size, max fz.2 (c'.size + 1))) ?_ hv he hk hs fun h => wt _ _ (hz h)) fun k hk => modify_ne hk, keep _ (hz rfl).1⟩
    rw [modify_at g1]
    obtain ⟨lo, hi⟩ := fz
    by_cases e : lo = hi <;> simp [e]
theorem strCells_atoms (s : ByteArray) : (strCells s).all atom = true := by
  rw [List.all_eq_true]
  intro v hv
  simp only [strCells, Array.toList_map, List.mem_map] at hv
  obtain ⟨b, _, rfl⟩ := hv
  rfl
theorem conv_str {s d e : TypeId} {b : ByteArray} {h1 : H} (r : WR P base θ h w) (hb : base ≤ w.heap.size) (hs : P.underlying s = some .string) (hd : P.underlying d = some (.slice e)) (he : P.underlying e = some (.int .u8)) (hsz : size P e = some 1)
    (hf : fresh h n (.cells (strCells b) e false true) = some h1) : OpS P base θ w (convert s d (.string b)) (.slice (some ⟨n, 0, none⟩) b.size big) h1 := by
  obtain ⟨q, hq⟩ : ∃ q, q = (Question.appendCap b.size 0 e).cut (w.tape w.drawn (.appendCap b.size 0 e)) := ⟨_, rfl⟩
  have hqn : b.size ≤ q := by rw [hq]; unfold Question.cut; simp
  have r1 : WR P base θ h w.drew := r.heap rfl
  have hbs : b.data.size = b.size := rfl
  obtain ⟨θ', g1, g2, g3, g4⟩ := new_spec (o := .cells ((b.data.map fun b => Value.int .u8 b.toNat) ++ Array.replicate (q - b.size) (.int .u8 0)) e) (p := ⟨w.heap.size, q, 1⟩) r1 hb hf rfl (fun θ' w' hx hw => by
    refine .grow (r := List.replicate (q - b.size) (.int .u8 0)) hw (atoms_vl (strCells_atoms b)) ?_ ?_ hsz fun _ => ⟨hb, .inl rfl⟩
    · simp [strCells]
    · simp [hbs]; omega)
  have hget : h1.get n = some (.cells (strCells b) e false true) := by
    rw [hput_get (fresh_spec hf).2, if_pos rfl]
  obtain ⟨w', k1, k2, k3⟩ := mark_spec (o := 0) g3 hget g1
  refine ⟨.slice (some ⟨w.heap.size, 0, none⟩) b.size q, θ', w', ?_, g2, .slack g1 (by simp) .nil, k2, Keep.trans ⟨g4.os, g4.tape, g4.output, g4.size, g4.block⟩ k3⟩
  have hforced : (Question.appendCap b.size 0 e).forced = false := rfl
  simp only [convert, Sem.run_bind, run_underlying hs, run_underlying hd, run_underlying he, Result.andThen_ok, Conv.stringToBytes]
  rw [show (choose (Question.appendCap b.size 0 e)).run P w = .ok q w.drew by simp [choose, Sem.run, hforced, ← hq]]
  simp only [Result.andThen_ok, newRow, Sem.run_bind, newObj, Sem.run, Sem.run_pure]
  rw [show w.drew.heap.size = w.heap.size from rfl]
  have k1' := k1
  simp only [] at k1'
  erw [k1']
  rfl
theorem convA_run {s d : TypeId} {x x' v : Value} {n' : Nat} (r : WR P base θ h w) (hb : base ≤ w.heap.size) (hc : convA P s d x h n = some (v, h', n')) (hx : VR θ x x') : OpS P base θ w (convert s d x') v h' := by
  unfold convA at hc
  split at hc
  · rename_i e b hs hd
    split at hc
    · rename_i he hsz
      rw [Option.map_eq_some_iff] at hc
      obtain ⟨h1, hf, e1⟩ := hc
      cases e1
      cases hx with | same _ _ => ?_
      exact conv_str r hb hs hd he hsz hf
    · cases hc
  · rename_i e0 e i o len cap hs hd
    split at hc
    · rename_i c e' g he hg
      cases hsd : Nat.beq s d
      · rw [hsd] at hc; cases hc
      rw [hsd, cond_true] at hc
      cases hc
      have hsd := Nat.eq_of_beq_eq_true hsd
      subst hsd
      obtain ⟨p, hp, hbr⟩ := r.at_ _ _ hg
      obtain ⟨w', k1, k2, k3⟩ := mark_spec (P := P) (o := o) r hg hp
      have key : ∀ cap', (convert s s (.slice (some ⟨p.b, o, none⟩) len cap')).run P w = .ok (.slice (some ⟨p.b, o, none⟩) len cap') w' := fun cap' => by
        rw [hs] at hd; cases hd
        simp [convert, run_underlying hs, run_underlying he, k1]
      cases hx with
      | same hq _ => simp [atom] at hq
      | slice hp2 hcc _ => rw [hp] at hp2; cases hp2; exact ⟨_, θ, w', key _, Ext.refl θ, .slice hp hcc .nil, k2, k3⟩
      | slack hp2 hk _ => rw [hp] at hp2; cases hp2; exact ⟨_, θ, w', key _, Ext.refl θ, .slack hp hk .nil, k2, k3⟩
    · cases hc
  · rename_i e i o len c hs hd
    split at hc
    · rename_i he
      rw [Option.map_eq_some_iff] at hc
      obtain ⟨l, hl, e1⟩ := hc
      cases e1
      rw [Option.bind_eq_some_iff] at hl
      obtain ⟨cs, hr, hi⟩ := hl
      obtain ⟨p, c', e2, fz, l', g1, g2, g3, g4⟩ := rd_spec r hr
      have hl' := toInts_vl hi g4
      have key : ∀ cap', (convert s d (.slice (some ⟨p.b, o, none⟩) len cap')).run P w = .ok (.string (bytes l)) w := fun cap' => by
        rw [run_convert_bytes_string w s d e _ _ _ hs he hd, run_bytesToString w _ _ _ l (by rw [run_loadN g2 g3, hl'])]
        rfl
      cases hx with
      | same hq _ => simp [atom] at hq
      | slice hp _ _ => rw [hp] at g1; cases g1; exact OpS.same r (key _) (.same rfl .nil)
      | slack hp _ _ => rw [hp] at g1; cases g1; exact OpS.same r (key _) (.same rfl .nil)
    · rename_i he
      rw [Option.map_eq_some_iff] at hc
      obtain ⟨l, hl, e1⟩ := hc
      cases e1
      rw [Option.bind_eq_some_iff] at hl
      obtain ⟨cs, hr, hi⟩ := hl
      obtain ⟨p, c', e2, fz, l', g1, g2, g3, g4⟩ := rd_spec r hr
      have hl' := toRunes_vl hi g4
      have key : ∀ cap', (convert s d (.slice (some ⟨p.b, o, none⟩) len cap')).run P w = .ok (.string (runesBytes l)) w := fun cap' => by
        rw [run_convert_runes_string w s d e _ _ _ hs he hd, run_runesToString w _ _ _ l (by rw [run_loadN g2 g3, hl'])]
      cases hx with
      | same hq _ => simp [atom] at hq
      | slice hp _ _ => rw [hp] at g1; cases g1; exact OpS.same r (key _) (.same rfl .nil)
      | slack hp _ _ => rw [hp] at g1; cases g1; exact OpS.same r (key _) (.same rfl .nil)
    · cases hc
  · rename_i u i o hs hd
    split at hc
    · rename_i k c e ro hsz hg
      cases hlt : Nat.blt o c.length
      · rw [hlt] at hc; cases hc
      rw [hlt, cond_true] at hc
      cases hc
      have hlt : o < c.length := Nat.le_of_ble_eq_true hlt
      obtain ⟨p, hp, hbr⟩ := r.at_ _ _ hg
      cases hx with
      | same hq _ => simp [atom] at hq
      | ptr hp2 _ =>
        rw [hp] at hp2; cases hp2
        cases hbr with
        | cells g1 hv hz =>
          rename_i c' fz
          have hcs : c'.size = c.length := by have := hv.len; simp at this; omega
          refine OpS.same r ?_ (.ptr hp .nil)
          have hnl : ¬ (c.length ≤ o) := by omega
          have hsh : w.shape? p.b = some (e, c.length) := by simp [World.shape?, g1, hcs]
          simp [convert, run_underlying hs, run_underlying hd, Conv.unsafePointer, Conv.seenAt, viewAt, hsh, cellsIn, hnl, run_size hsz]
    · cases hc
  · rename_i u i o hs hd
    split at hc
    · rename_i k c e ro hsz hg
      cases hlt : liesAt P P.depth e (c.length / P.cellsOf e) o u 1
      · rw [hlt] at hc; cases hc
      rw [hlt, cond_true] at hc
      cases hc
      obtain ⟨p, hp, hbr⟩ := r.at_ _ _ hg
      cases hx with
      | same hq _ => simp [atom] at hq
      | ptr hp2 _ =>
        rw [hp] at hp2; cases hp2
        cases hbr with
        | cells g1 hv hz =>
          rename_i c' fz
          have hcs : c'.size = c.length := by have := hv.len; simp at this; omega
          refine OpS.same r ?_ (.ptr hp .nil)
          have hsh : w.shape? p.b = some (e, c.length) := by simp [World.shape?, g1, hcs]
          simp [convert, run_underlying hs, run_underlying hd, Conv.unsafePointer, Conv.seenAt, viewAt, hsh, run_size hsz, variablesAt, program, Sem.run, hlt]
    · cases hc
  · cases hc
end
end Go.Proofs.YthbmnacleneflaaGreatDoor.ae
/-
  A run of one goroutine over known values: the bytes of a text, the text of bytes, without a copy. Condition: the store and the world belong together (WR).
-/
set_option linter.unusedVariables false
set_option linter.unusedSimpArgs false
namespace Go.Proofs.YthbmnacleneflaaGreatDoor.ae
open Go
def sliceDataA (x : Value) (h : H) : Option Value := match x with
  | .slice (some ⟨i, o, none⟩) _ c => bif Nat.beq c big then (match h.get i with
      | some (.cells cs _ _ true) => bif Nat.ble (o + 1) cs.length then some (.pointer (some ⟨i, o, none⟩)) else none
      | _ => none)
    else bif Nat.ble 1 c then some (.pointer (some ⟨i, o, none⟩)) else none
  | _ => none
def stringA (P : Program) (t : TypeId) (p l : Value) (h : H) : Option (Value × H) := match P.underlying t, p, asNat l with
  | some (.pointer u), .pointer (some ⟨i, o, none⟩), some (k + 1) => (match h.get i with
    | some (.cells c e false g) => bif Nat.beq u e && Nat.beq (P.cellsOf e) 1 && sameLayout P P.depth e u && Nat.ble k 1000000 && Nat.ble 1 P.depth then
        (takeN o (k + 1) c).bind fun cs => (toInts cs).bind fun l => (hput h i (.cells c e true g)).map fun h => (.string (bytes l), h) else none
    | _ => none)
  | _, _, _ => none
section
variable {P : Program} {base : Nat} {θ : Th} {w : World} {h h' : H} {t : TypeId} {n : Nat}
theorem run_data {ts : Array TypeId} {ty : TypeId} {a : Addr} {l c : Nat} (hc : c ≠ 0) : (Builtin.unsafeSliceData_ ts ty #[.slice (some a) l c]).run P w = .ok (.pointer (some a)) w := by
  obtain ⟨k, rfl⟩ : ∃ k, c = k + 1 := ⟨c - 1, by omega⟩
  rfl
theorem sliceDataA_run {ts : Array TypeId} {ty : TypeId} {x x' v : Value} (r : WR P base θ h w) (hl : sliceDataA x h = some v) (hx : VR θ x x') : ∃ v', (Builtin.unsafeSliceData_ ts ty #[x']).run P w = .ok v' w ∧ VR θ v v' := by
  unfold sliceDataA at hl
  split at hl
  · rename_i i o k c
    cases hx with
    | same hq _ => simp [atom] at hq
    | slice hp hc _ =>
      rw [beq_f hc, cond_false] at hl
      cases h1 : Nat.ble 1 c
      · rw [h1] at hl; cases hl
      rw [h1, cond_true] at hl
      cases hl
      have h1 := Nat.le_of_ble_eq_true h1
      exact ⟨_, run_data (by omega), .ptr hp .nil⟩
    | slack hp hk hnil =>
      rename_i c' p
      rw [beq_t rfl, cond_true] at hl
      split at hl
      · rename_i cs e ro hg
        cases h1 : Nat.ble (o + 1) cs.length
        · rw [h1] at hl; cases hl
        rw [h1, cond_true] at hl
        cases hl
        have h1 := Nat.le_of_ble_eq_true h1
        obtain ⟨q, cc, fz, pre, rr, q1, q2, q3, q4, q5, q6, q7⟩ := grow_spec r hg
        rw [hp] at q1; cases q1
        have hlen : cs.length ≤ p.k := by
          rw [q3.len, ← q5]
          have : cc.size = (pre ++ rr).length := by rw [← q4]; simp
          rw [this]; simp
        have hc0 : c' ≠ 0 := fun e => by subst e; simp at hk; omega
        exact ⟨_, run_data hc0, .ptr hp .nil⟩
      · cases hl
  · cases hl
theorem run_bytesN : ∀ (ns : List Int) (o : Nat) (acc : ByteArray) {b : Nat}, (∀ j x, ns[j]? = some x → w.cell? ⟨b, o + j, none⟩ = some (.int .u8 x)) → (loadBytes ⟨b, o, none⟩ acc ns.length).run P w = .ok (ns.foldl (fun r n => r.push (UInt8.ofNat n.toNat)) acc) w := by
  intro ns
  induction ns with
  | nil => intro o acc b _; simp [loadBytes]
  | cons x ns ih =>
    intro o acc b hc
    have h0 := hc 0 x rfl
    rw [Nat.add_zero] at h0
    simp only [List.length_cons, loadBytes, Sem.run_bind, run_load, h0, Result.andThen_ok, add_eq, List.foldl_cons]
    exact ih (o + 1) _ fun j y hj => by
      have := hc (j + 1) y (by simpa using hj)
      rwa [show o + 1 + j = o + (j + 1) by omega]
theorem lies_one {d e count off n : Nat} (hs : P.cellsOf e = 1) (hl : sameLayout P P.depth e e = true) (hd : P.depth = d + 1) (hc : off + n ≤ count) : liesAt P P.depth e count off e n = true := by
  have hrow : rowAt P (sameLayout P P.depth · e) (d + 1) e count off n = true := by
    unfold rowAt
    simp [hs, hc, hl, Nat.mod_one]
  rw [hd] at hrow ⊢
  unfold liesAt
  rw [hd]
  simp [hrow]
theorem freeze_run {a : Addr} {k : Nat} : (freeze a k).run P w = .ok () (w.freeze a k) := by simp [freeze, Sem.run]
theorem freeze_at {b o k : Nat} {c : Array Value} {e : TypeId} {fz : Nat × Nat} (hg : w.heap[b]? = some (.cells c e fz)) : ∃ fz', (w.freeze ⟨b, o, none⟩ k).heap[b]? = some (.cells c e fz') := by
  unfold World.freeze
  split
  · exact ⟨fz, hg⟩
  · simp only [Array.getElem?_modify, hg]
    obtain ⟨lo, hi⟩ := fz
    exact ⟨_, by simp; rfl⟩
theorem freeze_keep {b o k : Nat} : (∀ j, j ≠ b → (w.freeze ⟨b, o, none⟩ k).heap[j]? = w.heap[j]?) ∧ (w.freeze ⟨b, o, none⟩ k).heap.size = w.heap.size ∧ (w.freeze ⟨b, o, none⟩ k).os = w.os ∧ (w.freeze ⟨b, o, none⟩ k).tape = w.tape ∧ (w.freeze ⟨b, o, none⟩ k).output = w.output := by
  unfold World.freeze
  split
  · exact ⟨fun _ _ => rfl, rfl, rfl, rfl, rfl⟩
  · refine ⟨fun j hj => ?_, by simp, rfl, rfl, rfl⟩
    simp only [Array.getElem?_modify]
    rw [if_neg (Ne.symm hj)]
theorem stringA_run {ts : Array TypeId} {ty : TypeId} {p p' l l' v : Value} (r : WR P base θ h w) (h0 : ts[0]? = some t) (hl : stringA P t p l h = some (v, h')) (hp : VR θ p p') (hl2 : VR θ l l') : OpS P base θ w (Builtin.unsafeString_ ts ty #[p', l']) v h' := by
  unfold stringA at hl
  split at hl
  · rename_i u i o k hu hk
    obtain ⟨kk, rfl⟩ := asNat_spec hk hl2
    split at hl
    · rename_i c e g hg
      cases hc : (Nat.beq u e && Nat.beq (P.cellsOf e) 1 && sameLayout P P.depth e u && Nat.ble k 1000000 && Nat.ble 1 P.depth)
      · rw [hc] at hl; cases hl
      rw [hc, cond_true] at hl
      simp only [Option.bind_eq_some_iff, Option.map_eq_some_iff] at hl
      obtain ⟨cs, htk, ns, hns, h1, hput, e1⟩ := hl
      cases e1
      simp only [Bool.and_eq_true] at hc
      obtain ⟨⟨⟨⟨c1, c2⟩, c3⟩, c4⟩, c5⟩ := hc
      have c1 := Nat.eq_of_beq_eq_true c1
      have c2 := Nat.eq_of_beq_eq_true c2
      have c4 := Nat.le_of_ble_eq_true c4
      have c5 := Nat.le_of_ble_eq_true c5
      subst c1
      obtain ⟨d, hd⟩ : ∃ d, P.depth = d + 1 := ⟨P.depth - 1, by omega⟩
      obtain ⟨q, hq, hbr⟩ := r.at_ _ _ hg
      cases hp with
      | same hx _ => simp [atom] at hx
      | ptr hp2 _ =>
        rw [hq] at hp2; cases hp2
        have hbase : base ≤ q.b := by
          cases hbr with
          | cells g1 hv hz => exact (hz rfl).1
          | grow g1 hv he hk2 hs hz => exact (hz rfl).1
        have main : ∀ (c' : Array Value) (fz : Nat × Nat) (l' : List Value), w.heap[q.b]? = some (.cells c' u fz) → takeN o (k + 1) c'.toList = some l' → VL θ cs l' → (∀ fz', (w.freeze ⟨q.b, o, none⟩ (k + 1)).heap[q.b]? = some (.cells c' u fz') → BR P θ base q (w.freeze ⟨q.b, o, none⟩ (k + 1)) (.cells c u true g)) →
            OpS P base θ w (Builtin.unsafeString_ ts ty #[.pointer (some ⟨q.b, o, none⟩), .int kk (k + 1 : Nat)]) (.string (bytes ns)) h' := by
          intro c' fz l' g1 g2 g3 g4
          have hl' := toInts_vl hns g3
          have hsp := takeN_spec _ _ _ _ g2
          have hlen : ns.length = k + 1 := by rw [← hsp.2.1, hl']; simp
          have hle : o + (k + 1) ≤ c'.size := by
            rcases hsp.2.2 with e | e
            · omega
            · simpa using e
          obtain ⟨fz', f1⟩ := freeze_at (o := o) (k := k + 1) g1
          obtain ⟨f2, f3, f4, f5, f6⟩ := freeze_keep (w := w) (b := q.b) (o := o) (k := k + 1)
          refine ⟨.string (bytes ns), θ, w.freeze ⟨q.b, o, none⟩ (k + 1), ?_, Ext.refl θ, .same rfl .nil, r.set hput hg hq rfl (g4 fz' f1) f2, ⟨f4, f5, f6, by omega, fun j hj => f2 j (by omega)⟩⟩
          have hsh : w.shape? q.b = some (u, c'.size) := by simp [World.shape?, g1]
          have hlies : liesAt P P.depth u (c'.size / P.cellsOf u) o u (k + 1) = true := by rw [c2, Nat.div_one]; exact lies_one c2 c3 hd hle
          have hbytes := run_bytesN (P := P) (w := w) ns o ByteArray.empty (b := q.b) (fun j x hj => by
            have hjn : j < k + 1 := by
              rw [← hlen]
              rcases Nat.lt_or_ge j ns.length with z | z
              · exact z
              · rw [List.getElem?_eq_none z] at hj; cases hj
            rw [cell_of g1, takeN_get g2 j hjn, hl', List.getElem?_map, hj]; rfl)
          rw [hlen] at hbytes
          have n1 : ¬ (((k : Int) + 1) < 0) := by omega
          have n2 : ¬ ((9223372036854775807 : Int) < ((k : Int) + 1)) := by omega
          have n3 : ¬ (((k : Int) + 1) = 0) := by omega
          have n4 : ((k : Int) + 1).toNat = k + 1 := by omega
          have hdef : Builtin.unsafeString_ ts ty #[.pointer (some ⟨q.b, o, none⟩), .int kk (k + 1 : Nat)] = (do
              let n ← asInt (.int kk (k + 1 : Nat))
              let some pt := ts[0]? | stuck "unsafe.String: no argument types"
              if n < 0 then runtimePanic (.error "unsafe.String: len out of range")
              if n > IntKind.i64.max then unsupported (.unsafePointer "String: a length above the largest int")
              if n = 0 then pure (.string .empty)
              else if ← variablesAt ⟨q.b, o, none⟩ (← Go.elemOf pt) n.toNat then do
                let s ← loadBytes ⟨q.b, o, none⟩ .empty n.toNat
                freeze ⟨q.b, o, none⟩ n.toNat
                pure (.string s)
              else unsupported (.unsafePointer "String: not so many bytes at ptr")) := rfl
          rw [hdef]
          simp [asInt, asIntOf, h0, n1, n2, n3, n4, Go.elemOf, run_underlying hu, variablesAt, program, Sem.run, hsh, hlies, hbytes, freeze_run, bytes]
        cases hbr with
        | cells g1 hv hz =>
          obtain ⟨l', g2, g3⟩ := takeN_vl htk hv
          exact main _ _ l' g1 g2 g3 fun fz' hf => .cells hf hv fun e => (by cases e)
        | grow g1 hv he hk2 hs hz =>
          obtain ⟨l', g2, g3⟩ := takeN_vl htk hv
          exact main _ _ l' g1 (by rw [he]; exact takeN_app g2) g3 fun fz' hf => .grow hf hv he hk2 hs fun e => (by cases e)
    · cases hl
  · cases hl
end
end Go.Proofs.YthbmnacleneflaaGreatDoor.ae
/-
  A run of one goroutine over known values: what an operation of any kind does. Condition: the store and the world belong together (WR).
-/
set_option linter.unusedVariables false
set_option linter.unusedSimpArgs false
namespace Go.Proofs.YthbmnacleneflaaGreatDoor.ae
open Go

/-- What a computation yields that asks of the program alone. -/
def isFlatOp : Op → Bool
  | .binOp .. | .unOp .. | .convert .. | .index .. | .slice .. => true
  | .call c => match c.callee with
    | .builtin .len | .builtin .cap | .builtin .max | .builtin .min => true
    | _ => false
  | _ => false
def flatOp (P : Program) (ρ : Operand → Value) (o : Oper) : Option Value :=
  bif isFlatOp o.op && o.op.operands.toList.all (fun x => flat (ρ x)) then (match pureRun P (execOp ρ o) with
    | some (.value v) => bif flat v then some v else none
    | _ => none) else none
def keepA (v : Option Value) (h : H) (n : Nat) : R := v.map fun v => (v, h, n)
def unitA (h : Option H) (n : Nat) : R := h.map fun h => (undef, h, n)
def builtinA (P : Program) (b : Builtin) (ts : Array TypeId) (args : List Value) (h : H) (n : Nat) : R := match b, args with
  | .len, [x] => (ts[0]?).bind fun t => keepA (lenA P t x h) h n
  | .append, [s, x] => (ts[0]?).bind fun t => bif notInt P ts[1]? then appendA P t s x h n else none
  | .copy, [d, s] => (ts[0]?).bind fun t => keepA (copy0A P t d s) h n
  | .clear, [x] => (ts[0]?).bind fun t => (clearA P t x h).map fun h => (.tuple #[], h, n)
  | .unsafeSliceData, [x] => keepA (sliceDataA x h) h n
  | .unsafeString, [p, l] => (ts[0]?).bind fun t => (stringA P t p l h).map fun r => (r.1, r.2, n)
  | _, _ => none
def partsA (ρ : Operand → Value) (parts : Array (Nat × Operand)) : List (Nat × Value) := parts.toList.map fun p => (p.1, ρ p.2)
def isInt : Option Value → Bool
  | none | some (.int _ _) => true
  | _ => false
def opA (P : Program) (ρ : Operand → Value) (op : Op) (h : H) (n : Nat) : R := match op with
  | .move x | .assign x => some (ρ x, h, n)
  | .pick c a b => (match ρ c with | .bool t => some (bif t then ρ a else ρ b, h, n) | _ => none)
  | .alloc e => (zero P e).bind fun z => bif (lst z).all atom then newRowA e (lst z) ptrTo h n else none
  | .box e x => newRowA e (lst (ρ x)) ptrTo h n
  | .build t parts => keepA (buildA P t (partsA ρ parts)) h n
  | .buildSlice t len parts => buildSliceA P t len (partsA ρ parts) h n
  | .load t a => keepA (loadA P t (ρ a) h) h n
  | .store t a x => unitA (storeA P t (ρ a) (ρ x) h) n
  | .nilCheck x => keepA (nilCheckA (ρ x)) h n
  | .binOp .eql t x y _ => keepA ((eqA P t (ρ x) (ρ y) h).map .bool) h n
  | .binOp .neq t x y _ => keepA ((eqA P t (ρ x) (ρ y) h).map fun b => .bool !b) h n
  | .convert s d x => convA P s d (ρ x) h n
  | .makeFunc (.func f) first cap => some (.func (.func f) (first.map ρ) (cap.map ρ), h, n)
  | .makeMap t r => (match P.underlying t with | some (.map _ _) => bif isInt (r.map ρ) then newObjA (.map [] 0) mapTo h n else none | _ => none)
  | .makeSlice t l c => makeSliceA P t (ρ l) (ρ c) h n
  | .slice t x lo hi mx => keepA (resliceA P t (ρ x) (lo.map ρ) (hi.map ρ) (mx.map ρ) h) h n
  | .fieldAddr s x f => keepA (fieldAddrA P s (ρ x) f) h n
  | .field t x f => keepA (fieldA P t (ρ x) f) h n
  | .indexAddr t x i => keepA (indexAddrA P t (ρ x) (ρ i)) h n
  | .index t x i => keepA (indexA P t (ρ x) (ρ i)) h n
  | .lookup t m k ok => keepA (lookupA P t (ρ m) (ρ k) ok h) h n
  | .mapEntry t m k => (mapEntryA P t (ρ m) (ρ k) h).map fun r => (r.1, r.2, n)
  | .entryStore _ m s x => unitA (entryStoreA (ρ m) (ρ s) (ρ x) h) n
  | .mapUpdate t m k x | .insert t m k x => unitA (mapUpdateA P t (ρ m) (ρ k) (ρ x) h) n
  | .range t x => rangeA P t (ρ x) h n
  | .next it isS => (nextA (ρ it) isS h).map fun r => (r.1, r.2, n)
  | .entry it => keepA (entryA (ρ it) h) h n
  | .extract t i => keepA (extractA (ρ t) i) h n
  | .call c => (match c.callee with | .builtin b => builtinA P b c.argTypes (c.args.toList.map ρ) h n | _ => none)
  | _ => none

/-- What an operation of any kind does that goes straight on. -/
def OpN (P : Program) (base : Nat) (θ : Th) (w : World) (m : Sem Next) (v : Value) (h' : H) : Prop :=
  ∃ nx θ' w' v', m.run P w = .ok nx w' ∧ (nx = .value v' ∨ nx = .skip ∧ v' = undef) ∧ Ext θ θ' ∧ VR θ' v v' ∧ WR P base θ' h' w' ∧ Keep base w w'

section
variable {P : Program} {base : Nat} {θ : Th} {w : World} {h h' : H} {t : TypeId} {n n' : Nat}
theorem undef_vr : VR θ undef undef := .tup .nil .nil
theorem OpN.of {s : Sem Value} {v : Value} (k : OpS P base θ w s v h') : OpN P base θ w (do pure (.value (← s))) v h' := by
  obtain ⟨v', θ', w', h1, h2, h3, h4, h5⟩ := k
  exact ⟨.value v', θ', w', v', by simp [h1], .inl rfl, h2, h3, h4, h5⟩
theorem OpN.unit {s : Sem Unit} (k : OpU P base θ w s h') : OpN P base θ w (do s; pure .skip) undef h' := by
  obtain ⟨θ', w', h1, h2, h4, h5⟩ := k
  exact ⟨.skip, θ', w', undef, by simp [h1], .inr ⟨rfl, rfl⟩, h2, undef_vr, h4, h5⟩
theorem OpN.val {m : Sem Next} {v v' : Value} (r : WR P base θ h w) (hm : m.run P w = .ok (.value v') w) (hv : VR θ v v') : OpN P base θ w m v h :=
  ⟨.value v', θ, w, v', hm, .inl rfl, Ext.refl θ, hv, r, Keep.refl base w⟩
theorem OpN.keep {s : Sem Value} {v : Value} (r : WR P base θ h w) (k : ∃ v', s.run P w = .ok v' w ∧ VR θ v v') : OpN P base θ w (do pure (.value (← s))) v h := by
  obtain ⟨v', h1, h2⟩ := k
  exact OpN.val r (by simp [h1]) h2
theorem flatOp_run {ρ ρ' : Operand → Value} {o : Oper} {v : Value} (hf : flatOp P ρ o = some v) (hρ : ∀ x, VR θ (ρ x) (ρ' x)) : (execOp ρ' o).run P w = .ok (.value v) w ∧ flat v = true := by
  unfold flatOp at hf
  cases hc : (isFlatOp o.op && o.op.operands.toList.all (fun x => flat (ρ x)))
  · rw [hc] at hf; cases hf
  rw [hc, cond_true] at hf
  simp only [Bool.and_eq_true, List.all_eq_true] at hc
  have hs : ∀ cs b, o.op ≠ .select cs b := fun cs b e => by have := hc.1; rw [e] at this; cases this
  have he : execOp ρ o = execOp ρ' o := execOp_congr o hs fun x hx => (flat_same (hρ x) (hc.2 x (by simpa using hx))).symm
  split at hf
  · rename_i u hu
    cases hfl : flat u
    · rw [hfl] at hf; cases hf
    rw [hfl] at hf; cases hf
    exact ⟨by rw [← he]; exact pureRun_run hu, hfl⟩
  · cases hf
theorem keepA_spec {x : Option Value} {v : Value} (hk : keepA x h n = some (v, h', n')) : x = some v ∧ h' = h ∧ n' = n := by
  unfold keepA at hk
  rw [Option.map_eq_some_iff] at hk
  obtain ⟨y, hy, e⟩ := hk
  cases e
  exact ⟨hy, rfl, rfl⟩
theorem unitA_spec {x : Option H} {v : Value} (hk : unitA x n = some (v, h', n')) : x = some h' ∧ v = undef ∧ n' = n := by
  unfold unitA at hk
  rw [Option.map_eq_some_iff] at hk
  obtain ⟨y, hy, e⟩ := hk
  cases e
  exact ⟨hy, rfl, rfl⟩
theorem map_vl {ρ ρ' : Operand → Value} (hρ : ∀ x, VR θ (ρ x) (ρ' x)) (l : List Operand) : VL θ (l.map ρ) (l.map ρ') := by
  induction l with
  | nil => exact .nil
  | cons x l ih => exact .cons (hρ x) ih
theorem partsA_rel {ρ ρ' : Operand → Value} (hρ : ∀ x, VR θ (ρ x) (ρ' x)) (parts : Array (Nat × Operand)) :
    (partsA ρ parts) = (parts.map fun p => (p.1, ρ p.2)).toList ∧ (parts.map fun p => (p.1, ρ p.2)).toList.map (·.1) = (parts.map fun p => (p.1, ρ' p.2)).toList.map (·.1) ∧
    VL θ ((parts.map fun p => (p.1, ρ p.2)).toList.map (·.2)) ((parts.map fun p => (p.1, ρ' p.2)).toList.map (·.2)) := by
  refine ⟨by simp [partsA], by simp, ?_⟩
  have := map_vl hρ (parts.toList.map (·.2))
  simpa [Function.comp_def] using this
theorem or_map {ρ ρ' : Operand → Value} (hρ : ∀ x, VR θ (ρ x) (ρ' x)) (x : Option Operand) : OR θ (x.map ρ) (x.map ρ') := by
  cases x with
  | none => trivial
  | some x => exact hρ x
theorem args_one {l : List Value} {x : Value} {a : Array Value} (h1 : VL θ [x] a.toList) : ∃ x', a = #[x'] ∧ VR θ x x' := by
  obtain ⟨x', l', e, h2, h3⟩ := h1.inv_cons
  have := h3.inv_nil
  subst this
  exact ⟨x', Array.toList_inj.1 (by simpa using e), h2⟩
theorem args_two {x y : Value} {a : Array Value} (h1 : VL θ [x, y] a.toList) : ∃ x' y', a = #[x', y'] ∧ VR θ x x' ∧ VR θ y y' := by
  obtain ⟨x', l', e, h2, h3⟩ := h1.inv_cons
  obtain ⟨y', l'', e2, h4, h5⟩ := h3.inv_cons
  have := h5.inv_nil
  subst this
  subst e2
  exact ⟨x', y', Array.toList_inj.1 (by simpa using e), h2, h4⟩
theorem builtinA_run {b : Builtin} {ts : Array TypeId} {ty : TypeId} {cs : Array Bool} {args : List Value} {args' : Array Value} {v : Value} (r : WR P base θ h w) (hb : base ≤ w.heap.size)
    (he : builtinA P b ts args h n = some (v, h', n')) (ha : VL θ args args'.toList) : OpN P base θ w (builtin b ts ty cs args') v h' := by
  unfold builtinA at he
  split at he
  · obtain ⟨x', rfl, hx⟩ := args_one (l := []) ha
    rw [Option.bind_eq_some_iff] at he
    obtain ⟨t, ht, he⟩ := he
    obtain ⟨h1, rfl, rfl⟩ := keepA_spec he
    exact OpN.keep r (lenA_run r ht h1 hx)
  · obtain ⟨x', y', rfl, hx, hy⟩ := args_two ha
    rw [Option.bind_eq_some_iff] at he
    obtain ⟨t, ht, he⟩ := he
    cases hn : notInt P ts[1]?
    · rw [hn] at he; cases he
    rw [hn, cond_true] at he
    exact OpN.of (appendA_run r hb ht hn he hx hy)
  · obtain ⟨x', y', rfl, hx, hy⟩ := args_two ha
    rw [Option.bind_eq_some_iff] at he
    obtain ⟨t, ht, he⟩ := he
    obtain ⟨h1, rfl, rfl⟩ := keepA_spec he
    exact OpN.keep r (copy0A_run r ht h1 hx hy)
  · obtain ⟨x', rfl, hx⟩ := args_one (l := []) ha
    rw [Option.bind_eq_some_iff] at he
    obtain ⟨t, ht, he⟩ := he
    rw [Option.map_eq_some_iff] at he
    obtain ⟨h1, hc, e⟩ := he
    cases e
    exact OpN.of (clearA_run r hb ht hc hx)
  · obtain ⟨x', rfl, hx⟩ := args_one (l := []) ha
    obtain ⟨h1, rfl, rfl⟩ := keepA_spec he
    exact OpN.keep r (sliceDataA_run r h1 hx)
  · obtain ⟨x', y', rfl, hx, hy⟩ := args_two ha
    rw [Option.bind_eq_some_iff] at he
    obtain ⟨t, ht, he⟩ := he
    rw [Option.map_eq_some_iff] at he
    obtain ⟨⟨u, h1⟩, hc, e⟩ := he
    cases e
    exact OpN.of (stringA_run r ht hc hx hy)
  · cases he
end
end Go.Proofs.YthbmnacleneflaaGreatDoor.ae
/-
  A run of one goroutine over known values: an operation of any kind, in the store and in the world. Condition: the store and the world belong together (WR).
-/
set_option linter.unusedVariables false
set_option linter.unusedSimpArgs false
namespace Go.Proofs.YthbmnacleneflaaGreatDoor.ae
open Go

section
variable {P : Program} {base : Nat} {θ : Th} {w : World} {h h' : H} {n n' : Nat}
theorem opA_run {ρ ρ' : Operand → Value} {o : Oper} {v : Value} (r : WR P base θ h w) (hb : base ≤ w.heap.size) (he : opA P ρ o.op h n = some (v, h', n')) (hρ : ∀ x, VR θ (ρ x) (ρ' x)) :
    OpN P base θ w (execOp ρ' o) v h' := by
  obtain ⟨dst, op, type, pos, after, guard⟩ := o
  dsimp only at he
  cases op with
  | move x =>
    simp only [opA, Option.some.injEq, Prod.mk.injEq] at he
    obtain ⟨rfl, rfl, rfl⟩ := he
    exact OpN.val r rfl (hρ x)
  | assign x =>
    simp only [opA, Option.some.injEq, Prod.mk.injEq] at he
    obtain ⟨rfl, rfl, rfl⟩ := he
    exact OpN.val r rfl (hρ x)
  | pick c a b =>
    simp only [opA] at he
    split at he
    · rename_i t hc
      have e1 := flat_same (hρ c) (by rw [hc]; rfl)
      rw [hc] at e1
      cases he
      cases t
      · exact OpN.val r (by simp [execOp, e1, asBool]) (hρ b)
      · exact OpN.val r (by simp [execOp, e1, asBool]) (hρ a)
    · cases he
  | alloc e =>
    simp only [opA, Option.bind_eq_some_iff] at he
    obtain ⟨z, hz, he⟩ := he
    cases ha : (lst z).all atom
    · rw [ha] at he; cases he
    rw [ha, cond_true] at he
    exact OpN.of (allocA_run r hb hz ha he)
  | box e x =>
    simp only [opA] at he
    exact OpN.of (boxA_run r hb he (hρ x))
  | build t parts =>
    simp only [opA] at he
    obtain ⟨h1, rfl, rfl⟩ := keepA_spec he
    obtain ⟨p1, p2, p3⟩ := partsA_rel hρ parts
    rw [p1] at h1
    exact OpN.keep r (buildA_run h1 p2 p3)
  | buildSlice t len parts =>
    simp only [opA] at he
    obtain ⟨p1, p2, p3⟩ := partsA_rel hρ parts
    rw [p1] at he
    exact OpN.of (buildSliceA_run r hb he p2 p3)
  | load t a =>
    simp only [opA] at he
    obtain ⟨h1, rfl, rfl⟩ := keepA_spec he
    exact OpN.keep r (loadA_run r h1 (hρ a))
  | store t a x =>
    simp only [opA] at he
    obtain ⟨h1, rfl, rfl⟩ := unitA_spec he
    exact OpN.unit (storeA_run r hb h1 (hρ a) (hρ x))
  | nilCheck x =>
    simp only [opA] at he
    obtain ⟨h1, rfl, rfl⟩ := keepA_spec he
    have hx := hρ x
    generalize hy : ρ' x = y at hx
    generalize ρ x = x0 at hx h1
    unfold nilCheckA at h1
    split at h1
    · cases h1
      cases hx with
      | same hh _ => simp [atom] at hh
      | ptr hp _ => exact OpN.val r (by simp [execOp, hy]) (.ptr hp .nil)
    · cases h1
  | binOp op t x y yt =>
    cases op with
    | eql =>
      simp only [opA] at he
      obtain ⟨h1, rfl, rfl⟩ := keepA_spec he
      rw [Option.map_eq_some_iff] at h1
      obtain ⟨b, hbq, rfl⟩ := h1
      exact OpN.of (OpS.same r (eqA_run hbq (hρ x) (hρ y)).1 (.same rfl .nil))
    | neq =>
      simp only [opA] at he
      obtain ⟨h1, rfl, rfl⟩ := keepA_spec he
      rw [Option.map_eq_some_iff] at h1
      obtain ⟨b, hbq, rfl⟩ := h1
      exact OpN.of (OpS.same r (eqA_run hbq (hρ x) (hρ y)).2 (.same rfl .nil))
    | _ => simp [opA] at he
  | convert s d x =>
    simp only [opA] at he
    exact OpN.of (convA_run r hb he (hρ x))
  | makeFunc fn first cap =>
    cases fn with
    | func f =>
      simp only [opA, Option.some.injEq, Prod.mk.injEq] at he
      obtain ⟨rfl, rfl, rfl⟩ := he
      exact OpN.val (v' := .func (.func f) (first.map ρ') (cap.map ρ')) r (by simp [execOp, Instr.makeFunc]) (.func (by simpa using map_vl hρ first.toList) (by simpa using map_vl hρ cap.toList) .nil)
    | _ => simp [opA] at he
  | makeMap t rv =>
    simp only [opA] at he
    split at he
    · rename_i k e hu
      cases hi : isInt (rv.map ρ)
      · rw [hi] at he; cases he
      rw [hi, cond_true] at he
      refine OpN.of (makeMapA_run (rv := rv.map ρ) r hb ⟨k, e, hu⟩ (fun x hx => ?_) he)
      cases rv with
      | none => cases hx
      | some x0 =>
        simp only [Option.map_some, Option.some.injEq] at hx hi
        subst hx
        unfold isInt at hi
        split at hi
        · rename_i e0; cases e0
        · rename_i k i e0
          simp only [Option.some.injEq] at e0
          have := flat_same (hρ x0) (by rw [e0]; rfl)
          exact ⟨k, i, by rw [this, e0]⟩
        · cases hi
    · cases he
  | makeSlice t l c =>
    simp only [opA] at he
    exact OpN.of (makeSliceA_run r hb he (hρ l) (hρ c))
  | slice t x lo hi mx =>
    simp only [opA] at he
    obtain ⟨h1, rfl, rfl⟩ := keepA_spec he
    exact OpN.keep r (resliceA_run r h1 (hρ x) (or_map hρ lo) (or_map hρ hi) (or_map hρ mx))
  | fieldAddr t x f =>
    simp only [opA] at he
    obtain ⟨h1, rfl, rfl⟩ := keepA_spec he
    exact OpN.keep r (fieldAddrA_run h1 (hρ x))
  | field t x f =>
    simp only [opA] at he
    obtain ⟨h1, rfl, rfl⟩ := keepA_spec he
    exact OpN.keep r (fieldA_run h1 (hρ x))
  | indexAddr t x i =>
    simp only [opA] at he
    obtain ⟨h1, rfl, rfl⟩ := keepA_spec he
    exact OpN.keep r (indexAddrA_run h1 (hρ x) (hρ i))
  | index t x i =>
    simp only [opA] at he
    obtain ⟨h1, rfl, rfl⟩ := keepA_spec he
    exact OpN.keep r (indexA_run h1 (hρ x) (hρ i))
  | lookup t m k ok =>
    simp only [opA] at he
    obtain ⟨h1, rfl, rfl⟩ := keepA_spec he
    exact OpN.keep r (lookupA_run r h1 (hρ m) (hρ k))
  | mapEntry t m k =>
    simp only [opA] at he
    rw [Option.map_eq_some_iff] at he
    obtain ⟨⟨u, h1⟩, hc, e⟩ := he
    cases e
    exact OpN.of (mapEntryA_run r hc (hρ m) (hρ k))
  | entryStore t m s x =>
    simp only [opA] at he
    obtain ⟨h1, rfl, rfl⟩ := unitA_spec he
    exact OpN.unit (entryStoreA_run r h1 (hρ m) (hρ s) (hρ x))
  | mapUpdate t m k x =>
    simp only [opA] at he
    obtain ⟨h1, rfl, rfl⟩ := unitA_spec he
    exact OpN.unit (mapUpdateA_run r h1 (hρ m) (hρ k) (hρ x))
  | insert t m k x =>
    simp only [opA] at he
    obtain ⟨h1, rfl, rfl⟩ := unitA_spec he
    exact OpN.unit (mapUpdateA_run r h1 (hρ m) (hρ k) (hρ x))
  | range t x =>
    simp only [opA] at he
    exact OpN.of (rangeA_run r hb he (hρ x))
  | next it isS =>
    simp only [opA] at he
    rw [Option.map_eq_some_iff] at he
    obtain ⟨⟨u, h1⟩, hc, e⟩ := he
    cases e
    exact OpN.of (nextA_run r hc (hρ it))
  | entry it =>
    simp only [opA] at he
    obtain ⟨h1, rfl, rfl⟩ := keepA_spec he
    exact OpN.keep r (entryA_run r h1 (hρ it))
  | extract t i =>
    simp only [opA] at he
    obtain ⟨h1, rfl, rfl⟩ := keepA_spec he
    exact OpN.keep r (extractA_run h1 (hρ t))
  | call c =>
    simp only [opA] at he
    split at he
    · rename_i b hcl
      have hm : execOp ρ' ⟨dst, .call c, type, pos, after, guard⟩ = builtin b c.argTypes type (c.args.map fun | .const _ => true | _ => false) (c.args.map ρ') := by
        simp only [execOp, resolve, hcl]
        rfl
      rw [hm]
      exact builtinA_run r hb he (by simpa using map_vl hρ c.args.toList)
    · cases he
  | _ => simp [opA] at he
end
end Go.Proofs.YthbmnacleneflaaGreatDoor.ae
/-
  A run of one goroutine over known values: temporaries and operands; an operation, calls among them, and a row of operations. Conditions: the store and the world belong together (WR), calls do what is said of them (CallOk).
-/
set_option linter.unusedVariables false
set_option linter.unusedSimpArgs false
namespace Go.Proofs.YthbmnacleneflaaGreatDoor.ae
open Go

def tget (tm : T Value) (t : Nat) : Value := (tm.get t).getD undef
def putA (N : Nat) (tm : T Value) (dst : Option Tmp) (v : Value) : Option (T Value) := match dst with
  | none => some tm
  | some d => bif Nat.blt d N && Nat.ble d lim then some (T.put v 24 tm d) else none
/-- Operands whose value is known: constants that are flat, the first G global variables, temporaries, functions. -/
def okO (G : Nat) : Operand → Bool
  | .const v => flat v
  | .global g => Nat.blt g G
  | _ => true
def evA (G : Nat) (tm : T Value) : Operand → Value
  | .tmp t => tget tm t
  | .const v => bif flat v then v else undef
  | .global g => bif Nat.blt g G then .pointer (some ⟨g, 0, none⟩) else undef
  | .func f => .func (.func f) #[] #[]
def evC (G : Nat) (a : Act) (x : Operand) : Value := bif okO G x then a.eval x else undef
/-- The blocks of the start (h0) lie below the base; the first G of them, the global variables, stand where their numbers say. -/
def Gl (P : Program) (h0 : H) (G base : Nat) (θ : Th) (w : World) : Prop := ∃ θ0, Ext θ0 θ ∧ (∀ g, g < G → ∃ p, θ0 g = some p ∧ p.b = g) ∧ WR P base θ0 h0 w ∧ ∀ i p, θ0 i = some p → p.b < base
def Same (w w' : World) : Prop := w'.heap = w.heap ∧ w'.os = w.os ∧ w'.tape = w.tape ∧ w'.output = w.output
/-- A deferred call: a function and its arguments. -/
abbrev DV := FuncId × List Value
inductive DL (θ : Th) : List DV → List Deferred → Prop
  | nil : DL θ [] []
  | cons {g : FuncId} {l : List Value} {cap dargs : Array Value} {ds : List DV} {dds : List Deferred} (hv : VL θ l (dargs ++ cap).toList) (t : DL θ ds dds) : DL θ ((g, l) :: ds) ({ target := .fn (.func g) cap, args := dargs } :: dds)
structure AR (θ : Th) (N : Nat) (tm : T Value) (ds : List DV) (a : Act) : Prop where
  defers : DL θ ds a.defers
  size : a.tmps.size = N
  val : ∀ x, VR θ (tget tm x) (a.tmps.getD x undef)
abbrev CallF := FuncId → List Value → H → Nat → R
/-- What a call comes back with. -/
def Ret (P : Program) (base : Nat) (θ : Th) (w : World) (v : Value) (h' : H) (e : Ending) (w' : World) : Prop :=
  ∃ v' θ', e = .returned v' ∧ Ext θ θ' ∧ VR θ' v v' ∧ WR P base θ' h' w' ∧ Keep base w w'
inductive Ans (P : Program) (base : Nat) (θ : Th) (w : World) (m : Sem Next) (v : Value) (h' : H) : Prop
  | op (k : OpN P base θ w m v h') : Ans P base θ w m v h'
  | enter {f : FuncId} {args : Array Value} (hm : m.run P w = .ok (.enter f args) w) (k : Calls P f args w (Ret P base θ w v h')) : Ans P base θ w m v h'
def CallOk (P : Program) (h0 : H) (G : Nat) (call : CallF) : Prop := ∀ (g : FuncId) (args : List Value) (h : H) (n : Nat) (v : Value) (h' : H) (n' : Nat), call g args h n = some (v, h', n') →
  ∀ (base : Nat) (θ : Th) (w : World) (args' : Array Value), Gl P h0 G base θ w → WR P base θ h w → base ≤ w.heap.size → VL θ args args'.toList → Ans P base θ w (callFunc g args') v h'
def evalOp (P : Program) (G : Nat) (call : CallF) (tm : T Value) (o : Oper) (h : H) (n : Nat) : R :=
  bif o.op.operands.toList.all (okO G) then
    (match o.op with
    | .call c => (match c.callee with
      | .value f => (match evA G tm f with
        | .func (.func g) first cap => call g (first.toList ++ (c.args.toList.map (evA G tm) ++ cap.toList)) h n
        | _ => none)
      | _ => (match flatOp P (evA G tm) o with
        | some v => some (v, h, n)
        | none => opA P (evA G tm) o.op h n))
    | _ => (match flatOp P (evA G tm) o with
      | some v => some (v, h, n)
      | none => opA P (evA G tm) o.op h n))
  else none
def deferA (G : Nat) (tm : T Value) (o : Oper) : Option DV := match o.op with
  | .defer c => bif o.op.operands.toList.all (okO G) then (match c.callee with
      | .value f => (match evA G tm f with
        | .func (.func g) first cap => some (g, first.toList ++ (c.args.toList.map (evA G tm) ++ cap.toList))
        | _ => none)
      | _ => none) else none
  | _ => none
structure St where
  tm : T Value
  h : H
  n : Nat
  ds : List DV
def yieldedA (ops : Array Oper) (tm : T Value) (j : Nat) : Option Bool := match (ops[j]?).bind (·.dst) with
  | some t => (match tget tm t with | .bool b => some b | _ => none)
  | none => none
def isCall : Op → Bool
  | .call c => (match c.callee with | .value _ => true | _ => false)
  | _ => false
/-- One operation of a region. In a region whose order is drawn a number is set aside for each operation. -/
def stepI (P : Program) (G : Nat) (call : CallF) (N : Nat) (ops : Array Oper) (dr : Option Nat) (i : Nat) (s : St) : Option St := match ops[i]? with
  | none => some s
  | some o => bif Region.wanted o (yieldedA ops s.tm) then
      (match dr with
      | none => (match deferA G s.tm o with
        | some d => (putA N s.tm o.dst undef).map fun tm => ⟨tm, s.h, s.n, d :: s.ds⟩
        | none => (evalOp P G call s.tm o s.h s.n).bind fun r => (putA N s.tm o.dst r.1).map fun tm => ⟨tm, r.2.1, r.2.2, s.ds⟩)
      | some n0 => bif isCall o.op then (evalOp P G call s.tm o s.h s.n).bind fun r => (putA N s.tm o.dst r.1).map fun tm => ⟨tm, r.2.1, r.2.2, s.ds⟩
        else (evalOp P G call s.tm o s.h (n0 + i)).bind fun r => (putA N s.tm o.dst r.1).map fun tm => ⟨tm, r.2.1, s.n, s.ds⟩)
    else (putA N s.tm o.dst undef).map fun tm => ⟨tm, s.h, s.n, s.ds⟩
def evalOps (P : Program) (G : Nat) (call : CallF) (N : Nat) (ops : Array Oper) (dr : Option Nat) : List Nat → St → Option St
  | [], s => some s
  | i :: l, s => (stepI P G call N ops dr i s).bind (evalOps P G call N ops dr l)

section
variable {P : Program} {G N base : Nat} {θ θ' : Th} {w w' : World} {h h' h0 : H} {n n' : Nat} {call : CallF} {tm tm' : T Value} {ds ds' : List DV} {a : Act} {v v' : Value}
theorem DL.mono {dds : List Deferred} (r : DL θ ds dds) (hx : Ext θ θ') : DL θ' ds dds := by
  induction r with
  | nil => exact .nil
  | cons hv _ ih => exact .cons (hv.mono hx) ih
theorem AR.mono (r : AR θ N tm ds a) (hx : Ext θ θ') : AR θ' N tm ds a := ⟨r.defers.mono hx, r.size, fun x => (r.val x).mono hx⟩
theorem Gl.at_ (gl : Gl P h0 G base θ w) (g : Nat) (hg : g < G) : ∃ p, θ g = some p ∧ p.b = g :=
  let ⟨θ0, h1, h2, h3, h4⟩ := gl
  let ⟨p, k1, k2⟩ := h2 g hg
  ⟨p, h1 _ _ k1, k2⟩
theorem Gl.mono (gl : Gl P h0 G base θ w) (hx : Ext θ θ') (k : Keep base w w') : Gl P h0 G base θ' w' := by
  obtain ⟨θ0, h1, h2, h3, h4⟩ := gl
  refine ⟨θ0, h1.trans hx, h2, ⟨h3.dom, fun i ab g => ?_, h3.inj⟩, h4⟩
  obtain ⟨p, k1, k2⟩ := h3.at_ i ab g
  exact ⟨p, k1, k2.mono (Ext.refl θ0) fun _ => k.block _ (h4 i p k1)⟩
theorem AR.put {a' : Act} {dst : Option Tmp} (r : AR θ N tm ds a) (hv : VR θ v v') (hp : putA N tm dst v = some tm') (ht : a'.tmps = (a.put dst v').tmps) (hd : DL θ ds' a'.defers) : AR θ N tm' ds' a' := by
  refine ⟨hd, ?_, fun x => ?_⟩
  · rw [ht]; cases dst <;> simp [Act.put, r.size]
  · rw [ht]
    unfold putA at hp
    cases dst with
    | none => cases hp; exact r.val x
    | some d =>
      dsimp only at hp
      cases hc : (Nat.blt d N && Nat.ble d lim)
      · rw [hc] at hp; cases hp
      rw [hc] at hp
      simp only [cond_true, Option.some.injEq] at hp
      subst hp
      simp only [Bool.and_eq_true] at hc
      have c1 : d < N := Nat.le_of_ble_eq_true hc.1
      unfold tget
      rw [T.get_put v 24 tm d x (lim_put hc.2)]
      by_cases e : x = d
      · subst e
        have : ((a.put (some x) v').tmps.getD x undef) = v' := by simp [Act.put, r.size, c1]
        rw [if_pos rfl, this]; exact hv
      · have : ((a.put (some d) v').tmps.getD x undef) = a.tmps.getD x undef := by
          simp [Act.put, Array.getElem?_setIfInBounds_ne (Ne.symm e)]
        rw [if_neg e, this]; exact r.val x
theorem ev_rel (r : AR θ N tm ds a) (gl : Gl P h0 G base θ w) (x : Operand) : VR θ (evA G tm x) (evC G a x) := by
  cases x with
  | tmp t => exact r.val t
  | const u =>
    simp only [evA, evC, okO, Act.eval]
    cases hf : flat u
    · exact undef_vr
    · exact flat_vr hf
  | global g =>
    simp only [evA, evC, okO, Act.eval]
    cases hf : Nat.blt g G
    · exact undef_vr
    · obtain ⟨p, h1, h2⟩ := gl.at_ g (Nat.le_of_ble_eq_true hf)
      subst h2
      exact .ptr h1 .nil
  | func f => exact .func .nil .nil .nil
theorem exec_ok {o : Oper} (hs : ∀ cs b, o.op ≠ .select cs b) (hk : o.op.operands.toList.all (okO G) = true) : execOp a.eval o = execOp (evC G a) o :=
  execOp_congr o hs fun x hx => by
    have := List.all_eq_true.1 hk x (by simpa using hx)
    simp [evC, this]
theorem func_inv {g : FuncId} {b c : Array Value} (k : VR θ (.func (.func g) b c) v') : ∃ b' c', v' = .func (.func g) b' c' ∧ VL θ b.toList b'.toList ∧ VL θ c.toList c'.toList := by
  cases k with
  | same hh _ => simp [atom] at hh
  | func h1 h2 _ => exact ⟨_, _, rfl, h1, h2⟩
theorem flat_or {o : Oper} (gl : Gl P h0 G base θ w) (ar : AR θ N tm ds a) (r : WR P base θ h w) (hb : base ≤ w.heap.size) (he : execOp a.eval o = execOp (evC G a) o)
    (hv : (match flatOp P (evA G tm) o with | some v => some (v, h, n) | none => opA P (evA G tm) o.op h n) = some (v, h', n')) : Ans P base θ w (execOp a.eval o) v h' := by
  rw [he]
  split at hv
  · rename_i u hu
    cases hv
    obtain ⟨h1, h2⟩ := flatOp_run (P := P) (w := w) hu (ev_rel ar gl)
    exact .op (OpN.val r h1 (flat_vr h2))
  · exact .op (opA_run r hb hv (ev_rel ar gl))
theorem evalOp_ok {o : Oper} (hc : CallOk P h0 G call) (gl : Gl P h0 G base θ w) (ar : AR θ N tm ds a) (r : WR P base θ h w) (hb : base ≤ w.heap.size)
    (hv : evalOp P G call tm o h n = some (v, h', n')) : Ans P base θ w (execOp a.eval o) v h' := by
  unfold evalOp at hv
  cases hk : o.op.operands.toList.all (okO G)
  · rw [hk] at hv; cases hv
  rw [hk, cond_true] at hv
  split at hv
  · rename_i c hop
    have he : execOp a.eval o = execOp (evC G a) o := exec_ok (fun cs b e => by rw [hop] at e; cases e) hk
    split at hv
    · rename_i f hcl
      split at hv
      · rename_i g first cap hf
        have hr := ev_rel ar gl f
        rw [hf] at hr
        obtain ⟨first', cap', e1, k1, k2⟩ := func_inv hr
        have hm : execOp a.eval o = callFunc g (first' ++ c.args.map (evC G a) ++ cap') := by
          rw [he]
          simp only [execOp, hop, resolve, hcl, e1, Deferred.ofValue, pure_bind, invoke]
        rw [hm]
        refine hc _ _ _ _ _ _ _ hv base θ w _ gl r hb ?_
        have := map_vl (ev_rel ar gl) c.args.toList
        simp only [Array.toList_append, Array.toList_map, List.append_assoc]
        exact k1.append (this.append k2)
      · cases hv
    · exact flat_or gl ar r hb he hv
  · rename_i hn1
    have hs : ∀ cs b, o.op ≠ .select cs b := fun cs b e => by
      have e1 : flatOp P (evA G tm) o = none := by simp [flatOp, e, isFlatOp]
      rw [e1, e] at hv
      simp [opA] at hv
    exact flat_or gl ar r hb (exec_ok hs hk) hv
theorem put_defers {dst : Option Tmp} : (a.put dst v').defers = a.defers := by cases dst <;> rfl
theorem Ans.wp {o : Oper} {next : Act → World → Prop} {Q : Exit → Act → World → Prop} (k : Ans P base θ w (execOp a.eval o) v h') (ar : AR θ N tm ds a) (hp : putA N tm o.dst v = some tm')
    (hn : ∀ a' θ' w', Ext θ θ' → AR θ' N tm' ds a' → WR P base θ' h' w' → Keep base w w' → next a' w') : o.wp P a w next Q := by
  unfold Oper.wp
  cases k with
  | op k =>
    obtain ⟨nx, θ', w', v', h1, h2, h3, h4, h5, h6⟩ := k
    rw [h1]
    rcases h2 with rfl | ⟨rfl, rfl⟩
    · exact hn _ θ' w' h3 ((ar.mono h3).put h4 hp rfl (by rw [put_defers]; exact (ar.mono h3).defers)) h5 h6
    · exact hn _ θ' w' h3 ((ar.mono h3).put h4 hp rfl (by rw [put_defers]; exact (ar.mono h3).defers)) h5 h6
  | enter hm k =>
    rw [hm]
    refine Calls.mono k fun e w' he => ?_
    obtain ⟨v', θ', rfl, h3, h4, h5, h6⟩ := he
    exact hn _ θ' w' h3 ((ar.mono h3).put h4 hp rfl (by rw [put_defers]; exact (ar.mono h3).defers)) h5 h6
/-- A call is put off. -/
theorem defer_wp {o : Oper} {d : DV} {next : Act → World → Prop} {Q : Exit → Act → World → Prop} (hd : deferA G tm o = some d) (gl : Gl P h0 G base θ w) (ar : AR θ N tm ds a) (r : WR P base θ h w) (hp : putA N tm o.dst undef = some tm')
    (hn : ∀ a' θ' w', Ext θ θ' → AR θ' N tm' (d :: ds) a' → WR P base θ' h w' → Keep base w w' → next a' w') : o.wp P a w next Q := by
  unfold deferA at hd
  split at hd
  · rename_i c hop
    cases hk : o.op.operands.toList.all (okO G)
    · rw [hk] at hd; cases hd
    rw [hk, cond_true] at hd
    have he : execOp a.eval o = execOp (evC G a) o := exec_ok (fun cs b e => by rw [hop] at e; cases e) hk
    split at hd
    · rename_i f hcl
      split at hd
      · rename_i g first cap hf
        cases hd
        have hr := ev_rel ar gl f
        rw [hf] at hr
        obtain ⟨first', cap', e1, k1, k2⟩ := func_inv hr
        have hm : (execOp a.eval o).run P w = .ok (.defer { target := .fn (.func g) cap', args := first' ++ c.args.map (evC G a) }) w := by
          rw [he]
          simp [execOp, hop, resolve, hcl, e1, Deferred.ofValue]
        unfold Oper.wp
        rw [hm]
        refine hn _ θ w (Ext.refl θ) (ar.put undef_vr hp (v' := undef) ?_ ?_) r (Keep.refl base w)
        · cases ho : o.dst <;> simp [Act.put]
        · have := map_vl (ev_rel ar gl) c.args.toList
          have hv : VL θ (first.toList ++ (c.args.toList.map (evA G tm) ++ cap.toList)) (first' ++ c.args.map (evC G a) ++ cap').toList := by
            simp only [Array.toList_append, Array.toList_map, List.append_assoc]
            exact k1.append (this.append k2)
          rw [put_defers]
          exact .cons hv ar.defers
      · cases hd
    · cases hd
  · cases hd
def boolOf : Value → Option Bool
  | .bool b => some b
  | _ => none
theorem vr_bool {x u : Value} (k : VR θ x u) : boolOf u = boolOf x := by
  cases k with
  | same _ _ => rfl
  | _ => rfl
theorem boolOf_some (o : Option Value) : (match o with | some (.bool b) => some b | _ => none) = o.bind boolOf := by
  cases o with
  | none => rfl
  | some u => cases u <;> rfl
theorem boolOf_eq (u : Value) : (match u with | .bool b => some b | _ => none) = boolOf u := by cases u <;> rfl
theorem yielded_eq (ar : AR θ N tm ds a) (ops : Array Oper) : yielded ops a.tmps = yieldedA ops tm := by
  funext j
  unfold yielded yieldedA
  cases hd : (ops[j]?).bind (·.dst) with
  | none => rfl
  | some t =>
    have hv := vr_bool (ar.val t)
    simp only [Option.bind_some]
    refine Eq.trans ?_ (hv.trans (boolOf_eq _).symm)
    cases hg : a.tmps[t]? with
    | none => rw [show a.tmps.getD t undef = undef by simp [hg]]; rfl
    | some u => rw [show a.tmps.getD t undef = u by simp [hg]]; cases u <;> rfl
/-- One operation, that of number i. -/
def wpOp1 (P : Program) (ops : Array Oper) (Q : Exit → Act → World → Prop) (i : Nat) (K : Act → World → Prop) (a : Act) (w : World) : Prop := match ops[i]? with
  | none => K a w
  | some o => if Region.wanted o (yielded ops a.tmps) then o.wp P a w K Q else K (a.put o.dst undef) w
theorem stepI_wp1 {ops : Array Oper} {dr : Option Nat} {i : Nat} {s s' : St} {K : Act → World → Prop} {Q : Exit → Act → World → Prop} (hc : CallOk P h0 G call) (gl : Gl P h0 G base θ w) (ar : AR θ N s.tm s.ds a) (r : WR P base θ s.h w) (hb : base ≤ w.heap.size)
    (hv : stepI P G call N ops dr i s = some s')
    (hn : ∀ a' θ' w', Ext θ θ' → AR θ' N s'.tm s'.ds a' → WR P base θ' s'.h w' → Keep base w w' → K a' w') : wpOp1 P ops Q i K a w := by
  unfold stepI at hv
  unfold wpOp1
  split at hv
  · rename_i ho
    cases hv
    first | simp only [ho] | skip
    exact hn a θ w (Ext.refl θ) ar r (Keep.refl base w)
  · rename_i o ho
    first | simp only [ho, yielded_eq ar ops] | simp only [yielded_eq ar ops]
    cases hw : Region.wanted o (yieldedA ops s.tm)
    · rw [hw, cond_false, Option.map_eq_some_iff] at hv
      obtain ⟨tm', hp, rfl⟩ := hv
      simp only [Bool.false_eq_true, if_false]
      exact hn _ θ w (Ext.refl θ) (ar.put undef_vr hp rfl (by rw [put_defers]; exact ar.defers)) r (Keep.refl base w)
    · rw [hw, cond_true] at hv
      simp only [if_true]
      have key : ∀ (nn : Nat) (n2 : Value × H × Nat → Nat), ((evalOp P G call s.tm o s.h nn).bind fun r => (putA N s.tm o.dst r.1).map fun tm => (⟨tm, r.2.1, n2 r, s.ds⟩ : St)) = some s' → o.wp P a w K Q := fun nn n2 hv => by
        rw [Option.bind_eq_some_iff] at hv
        obtain ⟨⟨v, h', n'⟩, hv1, hv⟩ := hv
        rw [Option.map_eq_some_iff] at hv
        obtain ⟨tm', hp, rfl⟩ := hv
        exact (evalOp_ok hc gl ar r hb hv1).wp ar hp hn
      split at hv
      · split at hv
        · rename_i d hd
          rw [Option.map_eq_some_iff] at hv
          obtain ⟨tm', hp, rfl⟩ := hv
          exact defer_wp hd gl ar r hp hn
        · exact key _ (fun r => r.2.2) hv
      · cases hcl : isCall o.op
        · rw [hcl] at hv; exact key _ (fun _ => s.n) hv
        · rw [hcl] at hv; exact key _ (fun r => r.2.2) hv
theorem stepI_ok {ops : Array Oper} {dr : Option Nat} {i : Nat} {s s' : St} {K : Act → World → Prop} {Q : Exit → Act → World → Prop} (hc : CallOk P h0 G call) (gl : Gl P h0 G base θ w) (ar : AR θ N s.tm s.ds a) (r : WR P base θ s.h w) (hb : base ≤ w.heap.size)
    (hv : stepI P G call N ops dr i s = some s')
    (hn : ∀ a' θ' w', Ext θ θ' → AR θ' N s'.tm s'.ds a' → WR P base θ' s'.h w' → Keep base w w' → K a' w') : wpOp P ops Q i K a w := by
  have := stepI_wp1 hc gl ar r hb hv hn (Q := Q)
  unfold wpOp1 at this
  unfold wpOp
  split
  · rename_i e; rw [e] at this; exact this
  · rename_i o e
    rw [e] at this
    dsimp only at this
    split
    · rename_i hw; rw [if_pos hw] at this; exact .inl this
    · rename_i hw; rw [if_neg hw] at this; exact this
theorem evalOps_ok {ops : Array Oper} {dr : Option Nat} {Q : Exit → Act → World → Prop} (hc : CallOk P h0 G call) : ∀ (l : List Nat) (s s' : St) (a : Act) (θ : Th) (w : World), evalOps P G call N ops dr l s = some s' →
    Gl P h0 G base θ w → AR θ N s.tm s.ds a → WR P base θ s.h w → base ≤ w.heap.size →
    (∀ a' θ' w', Ext θ θ' → AR θ' N s'.tm s'.ds a' → WR P base θ' s'.h w' → Keep base w w' → Q .normal a' w') → wpOps P ops Q l a w := by
  intro l
  induction l with
  | nil =>
    intro s s' a θ w hv gl ar r hb hn
    cases hv
    exact hn a θ w (Ext.refl θ) ar r (Keep.refl base w)
  | cons i l ih =>
    intro s s' a θ w hv gl ar r hb hn
    simp only [evalOps, Option.bind_eq_some_iff] at hv
    obtain ⟨s1, h1, h2⟩ := hv
    rw [wpOps_cons]
    refine stepI_ok hc gl ar r hb h1 fun a1 θ1 w1 x1 ar1 r1 k1 => ?_
    exact ih s1 s' a1 θ1 w1 h2 (gl.mono x1 k1) ar1 r1 (Nat.le_trans hb k1.size) fun a2 θ2 w2 x2 ar2 r2 k2 => hn a2 θ2 w2 (x1.trans x2) ar2 r2 (k1.trans k2)
end
end Go.Proofs.YthbmnacleneflaaGreatDoor.ae
