/-
  Closed facts of a great program, in parts: what its functions name, part by part of the row of functions; the closure of calls over that table. No condition beside the tables'.
-/
import Derived.Test.YtihlneenajlhoaaGreatDoorAeA
import Derived.JoinedOf
set_option linter.unusedVariables false
namespace Go.Proofs.YtihlneenajlhoaaGreatDoor.big
open Go Go.Proofs.YtihlneenajlhoaaGreatDoor.ae

theorem part_map {α β : Type} (l : List α) (f : α → β) (a n : Nat) {c rest : List β} (h : ((l.drop a).take n).map f = c) (hr : (l.drop (a + n)).map f = rest) : (l.drop a).map f = c ++ rest := by
  rw [← List.take_append_drop n (l.drop a), List.map_append, h, List.drop_drop, hr]
theorem part_all {α : Type} (l : List α) (p : α → Bool) (a n : Nat) (h : ((l.drop a).take n).all p = true) (hr : (l.drop (a + n)).all p = true) : (l.drop a).all p = true := by
  rw [← List.take_append_drop n (l.drop a), List.all_append, h, List.drop_drop, hr]; rfl

/-- A row of things as a trie. -/
def ofL {α : Type} : List α → Nat → T α → T α
  | [], _, t => t
  | x :: l, i, t => ofL l (i + 1) (T.put x 24 t i)
theorem ofL_get {α : Type} : ∀ (l : List α) (i : Nat) (t : T α), i + l.length + 1 < 2 ^ 24 → (∀ j, i ≤ j → t.get j = none) → ∀ j, (ofL l i t).get j = if j < i then t.get j else l[j - i]? := by
  intro l
  induction l with
  | nil =>
    intro i t _ ht j
    unfold ofL
    by_cases h : j < i
    · rw [if_pos h]
    · rw [if_neg h, ht j (by omega)]; simp
  | cons x l ih =>
    intro i t hl ht j
    unfold ofL
    simp only [List.length_cons] at hl
    rw [ih (i + 1) _ (by omega) (fun k hk => by rw [T.get_put _ _ _ _ _ (by omega), if_neg (by omega)]; exact ht k (by omega))]
    by_cases h : j < i
    · rw [if_pos (by omega), if_pos h, T.get_put _ _ _ _ _ (by omega), if_neg (by omega)]
    · rw [if_neg h]
      by_cases e : j = i
      · subst e
        rw [if_pos (by omega), T.get_put _ _ _ _ _ (by omega), if_pos rfl]; simp
      · rw [if_neg (by omega)]
        have : j - i = (j - (i + 1)) + 1 := by omega
        rw [this]; simp
theorem ofL_get0 {α : Type} (l : List α) (hl : l.length + 1 < 2 ^ 24) (j : Nat) : (ofL l 0 .nil).get j = l[j]? := by
  rw [ofL_get l 0 .nil (by omega) (fun _ _ => rfl)]
  simp

section
variable {P : Program}
def cloL (L : List (List Nat)) : Nat → List Nat → List Nat → List Nat
  | 0, _, seen => seen.reverse
  | _ + 1, [], seen => seen.reverse
  | n + 1, f :: todo, seen => if seen.contains f then cloL L n todo seen else cloL L n ((L[f]?).getD [] ++ todo) (f :: seen)
theorem via_eq {L : List (List Nat)} (h : P.funcs.toList.map P.leadsTo = L) : ∀ (n : Nat) (todo seen : List Nat), P.closureVia n todo seen = cloL L n todo seen := by
  intro n
  induction n with
  | zero => intro todo seen; cases todo <;> rfl
  | succ n ih =>
    intro todo seen
    cases todo with
    | nil => rfl
    | cons f todo =>
      have e : (P.funcs[f]?).elim [] P.leadsTo = (L[f]?).getD [] := by
        rw [← h, List.getElem?_map, Array.getElem?_toList]
        cases P.funcs[f]? <;> rfl
      show (if seen.contains f then P.closureVia n todo seen else P.closureVia n ((P.funcs[f]?).elim [] P.leadsTo ++ todo) (f :: seen)) = _
      rw [e, ih, ih]
      rfl
def cloT (L : T (List Nat)) : Nat → List Nat → T Unit → List Nat → List Nat
  | 0, _, _, seen => seen.reverse
  | _ + 1, [], _, seen => seen.reverse
  | n + 1, f :: todo, t, seen => match t.get f with
    | some _ => cloT L n todo t seen
    | none => cloT L n ((L.get f).getD [] ++ todo) (T.put () 24 t f) (f :: seen)
theorem cloT_eq {L : List (List Nat)} (hL : L.length + 1 < 2 ^ 24) (hs : ∀ l ∈ L, ∀ x ∈ l, x + 1 < 2 ^ 24) : ∀ (n : Nat) (todo seen : List Nat) (t : T Unit), (∀ x ∈ todo, x + 1 < 2 ^ 24) → (∀ x, (t.get x).isSome = seen.contains x) → cloL L n todo seen = cloT (ofL L 0 .nil) n todo t seen := by
  intro n
  induction n with
  | zero => intro todo seen t _ _; cases todo <;> rfl
  | succ n ih =>
    intro todo seen t hb ht
    cases todo with
    | nil => rfl
    | cons f todo =>
      have hf := hb f List.mem_cons_self
      have hto : ∀ x ∈ todo, x + 1 < 2 ^ 24 := fun x hx => hb x (List.mem_cons_of_mem _ hx)
      show (if seen.contains f then cloL L n todo seen else cloL L n ((L[f]?).getD [] ++ todo) (f :: seen)) = (match t.get f with
        | some _ => cloT (ofL L 0 .nil) n todo t seen
        | none => cloT (ofL L 0 .nil) n (((ofL L 0 .nil).get f).getD [] ++ todo) (T.put () 24 t f) (f :: seen))
      have hh := ht f
      cases hg : t.get f with
      | some u =>
        rw [hg] at hh
        rw [if_pos (show seen.contains f = true from hh.symm)]
        exact ih _ _ _ hto ht
      | none =>
        rw [hg] at hh
        rw [if_neg (by rw [← hh]; exact Bool.false_ne_true), ofL_get0 L hL]
        refine ih _ _ _ (fun x hx => ?_) (fun x => ?_)
        · rcases List.mem_append.1 hx with hx | hx
          · cases hl : L[f]? with
            | none => rw [hl] at hx; cases hx
            | some l =>
              rw [hl] at hx
              exact hs l (List.mem_of_getElem? hl) x hx
          · exact hto x hx
        · rw [T.get_put _ _ _ _ _ hf]
          by_cases e : x = f
          · subst e; simp
          · rw [if_neg e, ht x]; simp [e]
theorem closure_eq {L : List (List Nat)} (h : P.funcs.toList.map P.leadsTo = L) (hL : L.length + 1 < 2 ^ 24) (hs : L.all (fun l => l.all fun x => Nat.blt (x + 1) 16777216) = true) (f : Nat) (hf : f + 1 < 2 ^ 24) :
    P.closure f = cloT (ofL L 0 .nil) (1 + (L.map fun l => l.length + 1).sum) [f] .nil [] := by
  unfold Program.closure
  rw [via_eq h]
  have e : (P.funcs.toList.map fun g => (P.leadsTo g).length + 1) = L.map fun l => l.length + 1 := by rw [← h, List.map_map]; rfl
  rw [e]
  refine cloT_eq hL (fun l hl x hx => ?_) _ _ _ _ (fun x hx => by rw [List.mem_singleton.1 hx]; exact hf) (fun x => rfl)
  have := List.all_eq_true.1 (List.all_eq_true.1 hs l hl) x hx
  have := Nat.le_of_ble_eq_true this
  omega
/-- What a table says of a function. -/
theorem bind_tab {β : Type} {k : Func → Option β} {I : List (Option β)} (h : P.funcs.toList.map k = I) (g : Nat) : (P.funcs[g]?).bind k = (I[g]?).join := by
  rw [← h, List.getElem?_map, Array.getElem?_toList]
  cases P.funcs[g]? <;> rfl
theorem filterMap_tab {β : Type} {k : Func → Option β} {I : List (Option β)} (h : P.funcs.toList.map k = I) (hL : I.length + 1 < 2 ^ 24) {C : List Nat} {f : Nat} (hc : P.closure f = C) :
    ((P.closure f).filterMap fun g => (P.funcs[g]?).bind k) = C.filterMap fun g => ((ofL I 0 .nil).get g).join := by
  rw [hc]
  congr 1
  funext g
  rw [bind_tab h, ofL_get0 I hL]
theorem flatMap_tab {k : Func → List Nat} {G : List (List Nat)} (h : P.funcs.toList.map k = G) (hL : G.length + 1 < 2 ^ 24) {C : List Nat} {f : Nat} (hc : P.closure f = C) :
    ((P.closure f).flatMap fun g => (P.funcs[g]?).elim [] k) = C.flatMap fun g => ((ofL G 0 .nil).get g).getD [] := by
  rw [hc]
  congr 1
  funext g
  rw [ofL_get0 G hL, ← h, List.getElem?_map, Array.getElem?_toList]
  cases P.funcs[g]? <;> rfl
def kIn (fn : Func) : Option String := if fn.ours || fn.body.isNone || fn.name == "runtime.NumGoroutine" then some fn.name else none
def kGl (fn : Func) : List Nat := fn.body.elim [] Code.globalsNamed
def kEn (fn : Func) : Option String := if fn.body.isNone then entryReads.lookup fn.name else none
theorem inPlace_eq {I : List (Option String)} (h : P.funcs.toList.map kIn = I) (hL : I.length + 1 < 2 ^ 24) {C : List Nat} {f : Nat} (hc : P.closure f = C) : P.inPlace f = C.filterMap fun g => ((ofL I 0 .nil).get g).join :=
  filterMap_tab h hL hc
theorem varsNamed_eq {G : List (List Nat)} {E : List (Option String)} (h : P.funcs.toList.map kGl = G) (hG : G.length + 1 < 2 ^ 24) (h2 : P.funcs.toList.map kEn = E) (hE : E.length + 1 < 2 ^ 24) {C : List Nat} {f : Nat} (hc : P.closure f = C) :
    P.varsNamed f = ((((C.flatMap fun g => ((ofL G 0 .nil).get g).getD []).eraseDups).filterMap fun g => (P.globals[g]?).map (·.name)) ++ C.filterMap fun g => ((ofL E 0 .nil).get g).join).eraseDups := by
  rw [← flatMap_tab h hG hc, ← filterMap_tab h2 hE hc]
  unfold Program.varsNamed
  congr 3
  congr 2
  congr 1
  funext g
  cases P.funcs[g]? <;> rfl
theorem unfollowed_of {C : List Nat} {f g : Nat} {fn : Func} {c : Code} (hc : P.closure f = C) (hg : C.contains g = true) (hf : P.funcs[g]? = some fn) (hb : fn.body = some c) (hu : c.unfollowed = true) : P.unfollowed f = true := by
  unfold Program.unfollowed
  rw [hc]
  refine List.any_eq_true.2 ⟨g, List.contains_iff_mem.1 hg, ?_⟩
  rw [hf, Option.any_some, hb]
  exact hu
theorem recurses_of {f : Nat} (h : P.unfollowed f = true) : P.recurses f = true := by
  unfold Program.recurses
  rw [h]; rfl
end
end Go.Proofs.YtihlneenajlhoaaGreatDoor.big
