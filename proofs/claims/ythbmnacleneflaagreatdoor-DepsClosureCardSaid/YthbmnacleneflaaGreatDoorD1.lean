/-
  Rows of elements as trees, plain lists and numbers: what stands below an element, how deep, and that nothing stands there twice. Conditions: the row's numbers differ; there is one root; parents and kids fit.
-/
import Derived.OrdersHeld
import Derived.Deep.RegionHeld
import Derived.Test.YthbmnacleneflaaGreatDoorProg
import Derived.WalkKit
import Derived.WalkSpells
import Derived.Below
import Derived.OneCell
import Derived.LoopTactic
import Derived.Lib.Hide
import Derived.Lib.ConvBytes
import Derived.BigQuiet
import Derived.BigGuardPart
import Derived.Deep.QuietTactic
import Derived.Outline
import Derived.StillTailTactics
import Derived.Deep.MidRow
import Derived.Laws.AppendOwnNone
import Derived.OwnWalk
import Derived.Maps.RangeWalk
import Derived.Maps.OwnSet
import Derived.Maps.OwnOps
import Derived.WalkLawsBesides
import Derived.ChangeKeysEq
import Derived.Deep.RegionHeld3
import Derived.Laws.Rows
import Derived.Laws.CopyOwn
set_option linter.unusedSimpArgs false
set_option linter.unusedVariables false
namespace Go.Proofs.YthbmnacleneflaaGreatDoor.dt

/-- An element: its number, its parent's, its kids'. -/
structure Nd where
  id : Int
  par : Int
  kids : List Int

def fnd (ns : List Nd) (x : Int) : Option Nd := ns.find? fun n => decide (n.id = x)
/-- An element and all below it, to a depth. -/
def pre (ns : List Nd) : Nat → Int → List Int
  | 0, _ => []
  | f + 1, x => match fnd ns x with
    | none => []
    | some n => x :: n.kids.flatMap (pre ns f)
/-- All that is below an element ends within a depth. -/
def Deep (ns : List Nd) : Nat → Int → Prop
  | 0, _ => False
  | f + 1, x => ∃ n, fnd ns x = some n ∧ ∀ k ∈ n.kids, Deep ns f k
/-- The parent's number, step by step. -/
def ups (ns : List Nd) : Nat → Int → Option Int
  | 0, x => some x
  | f + 1, x => (fnd ns x).bind fun n => ups ns f n.par

structure Fits (ns : List Nd) (r : Int) : Prop where
  ids : (ns.map Nd.id).Nodup
  nonneg : ∀ n ∈ ns, 0 ≤ n.id
  kids : ∀ n ∈ ns, n.kids.Nodup ∧ ∀ k ∈ n.kids, ∃ m, fnd ns k = some m ∧ m.par = n.id
  root : ∃ n, fnd ns r = some n ∧ n.par = -1

theorem fnd_some {ns : List Nd} {x : Int} {n : Nd} (h : fnd ns x = some n) : n ∈ ns ∧ n.id = x := by
  refine ⟨List.mem_of_find?_eq_some h, ?_⟩
  have := List.find?_some h
  simpa using this
theorem fnd_mem {ns : List Nd} (hd : (ns.map Nd.id).Nodup) {n : Nd} (h : n ∈ ns) : fnd ns n.id = some n := by
  induction ns with
  | nil => cases h
  | cons a l ih =>
    unfold fnd
    rw [List.find?_cons]
    rw [List.map_cons, List.nodup_cons] at hd
    rcases List.mem_cons.1 h with rfl | h
    · simp
    · have hne : ¬ a.id = n.id := fun e => hd.1 (e ▸ List.mem_map_of_mem h)
      simp only [hne, decide_false]
      exact ih hd.2 h
theorem fnd_neg {ns : List Nd} (hn : ∀ n ∈ ns, 0 ≤ n.id) : fnd ns (-1) = none := by
  cases h : fnd ns (-1) with
  | none => rfl
  | some n =>
    have := fnd_some h
    have := hn n this.1
    omega

theorem length_le_of_sub {α : Type} [DecidableEq α] : ∀ (l m : List α), l.Nodup → (∀ x ∈ l, x ∈ m) → l.length ≤ m.length := by
  intro l
  induction l with
  | nil => intro m _ _; exact Nat.zero_le _
  | cons a l ih =>
    intro m hd hs
    rw [List.nodup_cons] at hd
    have ha : a ∈ m := hs a List.mem_cons_self
    have := ih (m.erase a) hd.2 fun x hx => by
      have hxa : x ≠ a := fun e => hd.1 (e ▸ hx)
      exact (List.mem_erase_of_ne hxa).2 (hs x (List.mem_cons_of_mem _ hx))
    rw [List.length_erase_of_mem ha] at this
    have hp : 0 < m.length := List.length_pos_of_mem ha
    simp only [List.length_cons]
    omega

section
variable {ns : List Nd} {r : Int}
theorem ups_add : ∀ (i j : Nat) (x : Int), ups ns (i + j) x = (ups ns i x).bind (ups ns j) := by
  intro i
  induction i with
  | zero => intro j x; simp [ups]
  | succ i ih =>
    intro j x
    rw [show i + 1 + j = (i + j) + 1 by omega]
    unfold ups
    cases fnd ns x with
    | none => rfl
    | some n => exact ih j n.par
theorem ups_root (hf : Fits ns r) : ∀ i, 0 < i → ups ns i r ≠ some r := by
  intro i hi
  obtain ⟨n, hn, hp⟩ := hf.root
  match i, hi with
  | i + 1, _ =>
    unfold ups
    rw [hn, Option.bind_some, hp]
    cases i with
    | zero =>
      intro e
      have h := (fnd_some hn)
      have := hf.nonneg n h.1
      simp only [ups, Option.some.injEq] at e
      omega
    | succ i =>
      unfold ups
      rw [fnd_neg hf.nonneg]
      intro e
      cases e
/-- How many steps it is to the root. -/
def Dist (ns : List Nd) (r x : Int) (d : Nat) : Prop := ups ns d x = some r
theorem dist_inj (hf : Fits ns r) {x : Int} {d e : Nat} (h : Dist ns r x d) (k : Dist ns r x e) : d = e := by
  unfold Dist at h k
  rcases Nat.lt_trichotomy d e with hl | hl | hl
  · exfalso
    rw [show e = d + (e - d) by omega, ups_add, h] at k
    exact ups_root hf (e - d) (by omega) k
  · exact hl
  · exfalso
    rw [show d = e + (d - e) by omega, ups_add, k] at h
    exact ups_root hf (d - e) (by omega) h
theorem dist_root : Dist ns r r 0 := rfl
theorem dist_kid (hf : Fits ns r) {n : Nd} {x k : Int} {d : Nat} (hx : fnd ns x = some n) (hk : k ∈ n.kids) (h : Dist ns r x d) : Dist ns r k (d + 1) := by
  obtain ⟨hn, rfl⟩ := fnd_some hx
  obtain ⟨m, hm, hp⟩ := (hf.kids n hn).2 k hk
  unfold Dist ups
  rw [hm, Option.bind_some, hp]
  exact h
theorem dist_par {m : Nd} {x : Int} {d : Nat} (hx : fnd ns x = some m) (h : Dist ns r x (d + 1)) : Dist ns r m.par d := by
  unfold Dist ups at h
  rw [hx] at h
  exact h
/-- The numbers on the way up. -/
theorem ups_mem : ∀ (d : Nat) (x y : Int), ups ns d x = some y → (∃ n, fnd ns y = some n) → ∀ i, i ≤ d → ∃ z, ups ns i x = some z ∧ z ∈ ns.map Nd.id := by
  intro d
  induction d with
  | zero =>
    intro x y h ⟨n, hn⟩ i hi
    obtain rfl : i = 0 := by omega
    simp only [ups, Option.some.injEq] at h
    subst h
    exact ⟨_, rfl, by obtain ⟨hm, rfl⟩ := fnd_some hn; exact List.mem_map_of_mem hm⟩
  | succ d ih =>
    intro x y h hy i hi
    unfold ups at h
    cases hx : fnd ns x with
    | none => rw [hx] at h; cases h
    | some n =>
      rw [hx, Option.bind_some] at h
      cases i with
      | zero => exact ⟨x, rfl, by obtain ⟨hm, rfl⟩ := fnd_some hx; exact List.mem_map_of_mem hm⟩
      | succ i =>
        obtain ⟨z, hz, hm⟩ := ih n.par y h hy i (by omega)
        exact ⟨z, by unfold ups; rw [hx]; exact hz, hm⟩
theorem dist_lt (hf : Fits ns r) {x : Int} {d : Nat} (h : Dist ns r x d) : d < ns.length := by
  have hr : ∃ n, fnd ns r = some n := by obtain ⟨n, hn, _⟩ := hf.root; exact ⟨n, hn⟩
  have hz := ups_mem d x r h hr
  let f : Nat → Int := fun i => (ups ns i x).getD 0
  have hff : ∀ i, i ≤ d → ups ns i x = some (f i) := fun i hi => by
    obtain ⟨z, hz, _⟩ := hz i hi
    simp only [f, hz, Option.getD_some]
  have hdi : ∀ i, i ≤ d → Dist ns r (f i) (d - i) := fun i hi => by
    have h2 : ups ns (i + (d - i)) x = some r := by rw [show i + (d - i) = d by omega]; exact h
    rw [ups_add, hff i hi] at h2
    exact h2
  have hnd : ((List.range (d + 1)).map f).Nodup := by
    rw [List.nodup_iff_pairwise_ne, List.pairwise_map]
    refine List.Pairwise.imp_of_mem ?_ (List.nodup_iff_pairwise_ne.1 List.nodup_range)
    intro a b ha hb hne e
    rw [List.mem_range] at ha hb
    have h1 := hdi a (by omega)
    have h2 := hdi b (by omega)
    rw [e] at h1
    have := dist_inj hf h1 h2
    omega
  have := length_le_of_sub _ (ns.map Nd.id) hnd fun y hy => by
    obtain ⟨i, hi, rfl⟩ := List.mem_map.1 hy
    rw [List.mem_range] at hi
    obtain ⟨z, hz, hm⟩ := hz i (by omega)
    have h2 := hff i (by omega)
    rw [hz] at h2
    cases h2
    exact hm
  simp only [List.length_map, List.length_range] at this
  omega
/-- What is below ends. -/
theorem deep_of (hf : Fits ns r) : ∀ (f : Nat) (x : Int) (d : Nat), Dist ns r x d → ns.length ≤ d + f → Deep ns f x := by
  intro f
  induction f with
  | zero => intro x d h hl; have := dist_lt hf h; omega
  | succ f ih =>
    intro x d h hl
    have hx : ∃ n, fnd ns x = some n := by
      obtain ⟨n, hn, _⟩ := hf.root
      cases d with
      | zero => simp only [Dist, ups, Option.some.injEq] at h; subst h; exact ⟨n, hn⟩
      | succ d =>
        unfold Dist ups at h
        cases hx : fnd ns x with
        | none => rw [hx] at h; cases h
        | some n => exact ⟨n, rfl⟩
    obtain ⟨n, hn⟩ := hx
    exact ⟨n, hn, fun k hk => ih k (d + 1) (dist_kid hf hn hk h) (by omega)⟩
theorem pre_mem (hf : Fits ns r) : ∀ (f : Nat) (x : Int) (d : Nat), Dist ns r x d → ∀ y ∈ pre ns f x, ∃ i, ups ns i y = some x ∧ Dist ns r y (d + i) ∧ y ∈ ns.map Nd.id := by
  intro f
  induction f with
  | zero => intro x d _ y hy; simp [pre] at hy
  | succ f ih =>
    intro x d h y hy
    unfold pre at hy
    cases hx : fnd ns x with
    | none => rw [hx] at hy; cases hy
    | some n =>
      rw [hx] at hy
      rcases List.mem_cons.1 hy with rfl | hy
      · exact ⟨0, rfl, h, by obtain ⟨hm, rfl⟩ := fnd_some hx; exact List.mem_map_of_mem hm⟩
      · obtain ⟨k, hk, hy⟩ := List.mem_flatMap.1 hy
        obtain ⟨i, hi, hd, hm⟩ := ih k (d + 1) (dist_kid hf hx hk h) y hy
        obtain ⟨hn, rfl⟩ := fnd_some hx
        obtain ⟨m, hm2, hp⟩ := (hf.kids n hn).2 k hk
        refine ⟨i + 1, ?_, by rw [show d + (i + 1) = d + 1 + i by omega]; exact hd, hm⟩
        rw [ups_add, hi, Option.bind_some]
        unfold ups
        rw [hm2, Option.bind_some, hp]
        rfl
theorem nodup_flatMap {α β : Type} (g : α → List β) : ∀ l : List α, l.Nodup → (∀ a ∈ l, (g a).Nodup) → (∀ a ∈ l, ∀ b ∈ l, a ≠ b → ∀ x ∈ g a, x ∉ g b) → (l.flatMap g).Nodup := by
  intro l
  induction l with
  | nil => intro _ _ _; exact List.nodup_nil
  | cons a l ih =>
    intro hl hg hd
    rw [List.nodup_cons] at hl
    rw [List.flatMap_cons, List.nodup_append]
    refine ⟨hg a List.mem_cons_self, ih hl.2 (fun b hb => hg b (List.mem_cons_of_mem _ hb)) (fun b hb c hc => hd b (List.mem_cons_of_mem _ hb) c (List.mem_cons_of_mem _ hc)), ?_⟩
    intro x hx y hy e
    subst e
    obtain ⟨b, hb, hy⟩ := List.mem_flatMap.1 hy
    exact hd a List.mem_cons_self b (List.mem_cons_of_mem _ hb) (fun e => hl.1 (e ▸ hb)) x hx hy
theorem pre_nodup (hf : Fits ns r) : ∀ (f : Nat) (x : Int) (d : Nat), Dist ns r x d → (pre ns f x).Nodup := by
  intro f
  induction f with
  | zero => intro x d _; simp [pre]
  | succ f ih =>
    intro x d h
    unfold pre
    cases hx : fnd ns x with
    | none => exact List.nodup_nil
    | some n =>
      obtain ⟨hn, hid⟩ := fnd_some hx
      refine List.nodup_cons.2 ⟨fun hm => ?_, nodup_flatMap _ _ (hf.kids n hn).1 (fun k hk => ih k (d + 1) (dist_kid hf hx hk h)) ?_⟩
      · obtain ⟨k, hk, hy⟩ := List.mem_flatMap.1 hm
        obtain ⟨i, _, hd, _⟩ := pre_mem hf f k (d + 1) (dist_kid hf hx hk h) x hy
        have := dist_inj hf h hd
        omega
      · intro a ha b hb hne y hya hyb
        obtain ⟨i, hi, hd, _⟩ := pre_mem hf f a (d + 1) (dist_kid hf hx ha h) y hya
        obtain ⟨j, hj, he, _⟩ := pre_mem hf f b (d + 1) (dist_kid hf hx hb h) y hyb
        have := dist_inj hf hd he
        obtain rfl : i = j := by omega
        rw [hi] at hj
        cases hj
        exact hne rfl
theorem pre_len (hf : Fits ns r) (f : Nat) {x : Int} {d : Nat} (h : Dist ns r x d) : (pre ns f x).length ≤ ns.length := by
  have := length_le_of_sub (pre ns f x) (ns.map Nd.id) (pre_nodup hf f x d h) fun y hy => by
    obtain ⟨_, _, _, hm⟩ := pre_mem hf f x d h y hy
    exact hm
  simpa using this
/-- A tree that is whole: from each element it is some steps to the root. -/
theorem all_dist (hf : Fits ns r) {f : Nat} (hl : (pre ns f r).length = ns.length) : ∀ n ∈ ns, n.id ∈ pre ns f r := by
  intro n hn
  have hdec : n.id ∈ pre ns f r ∨ n.id ∉ pre ns f r := Classical.em _
  rcases hdec with h | h
  · exact h
  · exfalso
    have hd := pre_nodup hf f r 0 dist_root
    have := length_le_of_sub (n.id :: pre ns f r) (ns.map Nd.id) (List.nodup_cons.2 ⟨h, hd⟩) fun y hy => by
      rcases List.mem_cons.1 hy with rfl | hy
      · exact List.mem_map_of_mem hn
      · obtain ⟨_, _, _, hm⟩ := pre_mem hf f r 0 dist_root y hy
        exact hm
    simp only [List.length_cons, List.length_map] at this
    omega
theorem dist_of_pre (hf : Fits ns r) {f : Nat} {x : Int} (h : x ∈ pre ns f r) : ∃ d, Dist ns r x d := by
  obtain ⟨i, _, hd, _⟩ := pre_mem hf f r 0 dist_root x h
  exact ⟨_, hd⟩
/-- More depth than is wanted changes nothing. -/
theorem pre_deep : ∀ (f : Nat) (x : Int), Deep ns f x → ∀ g, f ≤ g → pre ns g x = pre ns f x := by
  intro f
  induction f with
  | zero => intro x h; cases h
  | succ f ih =>
    intro x ⟨n, hn, hk⟩ g hg
    match g, hg with
    | g + 1, hg =>
      unfold pre
      rw [hn]
      show x :: _ = x :: _
      congr 1
      have : ∀ l : List Int, (∀ k ∈ l, Deep ns f k) → l.flatMap (pre ns g) = l.flatMap (pre ns f) := by
        intro l
        induction l with
        | nil => intro _; rfl
        | cons a l ihl => intro h; rw [List.flatMap_cons, List.flatMap_cons, ih a (h a List.mem_cons_self) g (by omega), ihl fun k hk => h k (List.mem_cons_of_mem _ hk)]
      exact this _ hk
theorem deep_mono : ∀ (f : Nat) (x : Int), Deep ns f x → ∀ g, f ≤ g → Deep ns g x := by
  intro f
  induction f with
  | zero => intro x h; cases h
  | succ f ih =>
    intro x ⟨n, hn, hk⟩ g hg
    match g, hg with
    | g + 1, hg => exact ⟨n, hn, fun k h => ih k (hk k h) g (by omega)⟩
end
/-- Rows that hold the same elements in another order. -/
theorem fnd_perm {ns ms : List Nd} (hd : (ns.map Nd.id).Nodup) (hp : ms.Perm ns) (x : Int) : fnd ms x = fnd ns x := by
  have hd' : (ms.map Nd.id).Nodup := (hp.map Nd.id).nodup_iff.2 hd
  cases h : fnd ns x with
  | some n =>
    obtain ⟨hn, rfl⟩ := fnd_some h
    exact fnd_mem hd' (hp.mem_iff.2 hn)
  | none =>
    cases k : fnd ms x with
    | none => rfl
    | some m =>
      obtain ⟨hm, rfl⟩ := fnd_some k
      rw [fnd_mem hd (hp.mem_iff.1 hm)] at h
      cases h
theorem pre_congr {ns ms : List Nd} (h : ∀ x, fnd ms x = fnd ns x) : ∀ f x, pre ms f x = pre ns f x := by
  intro f
  induction f with
  | zero => intro x; rfl
  | succ f ih =>
    intro x
    unfold pre
    rw [h x]
    have : pre ms f = pre ns f := funext ih
    rw [this]
theorem deep_congr {ns ms : List Nd} (h : ∀ x, fnd ms x = fnd ns x) : ∀ f x, Deep ms f x ↔ Deep ns f x := by
  intro f
  induction f with
  | zero => intro x; exact Iff.rfl
  | succ f ih =>
    intro x
    unfold Deep
    rw [h x]
    have : ∀ k, Deep ms f k ↔ Deep ns f k := ih
    simp only [this]
end Go.Proofs.YthbmnacleneflaaGreatDoor.dt
/-
  Rows of elements, plain: when they are one tree; what hangs below some numbers; each element counted. Conditions: the numbers differ and are not below nought.
-/
namespace Go.Proofs.YthbmnacleneflaaGreatDoor.dt

def kidOk (ns : List Nd) (id k : Int) : Bool := match fnd ns k with
  | some m => m.par == id
  | none => false
/-- What an element's own data must be among the others. -/
def elOk (ns : List Nd) (n : Nd) : Bool := (n.par == -1 || (fnd ns n.par).isSome) && decide n.kids.Nodup && n.kids.all (kidOk ns n.id)
def rootsN (ns : List Nd) : Nat := ns.countP fun n => n.par == -1
def kidsN (ns : List Nd) : Nat := (ns.map fun n => n.kids.length).sum
def rootOf (ns : List Nd) : Int := ((ns.find? fun n => n.par == -1).map Nd.id).getD 0
/-- One tree. -/
def oneTree (ns : List Nd) : Bool := ns.all (elOk ns) && rootsN ns == 1 && kidsN ns == ns.length - 1 && (pre ns ns.length (rootOf ns)).length == ns.length

theorem fits_of {ns : List Nd} (hd : (ns.map Nd.id).Nodup) (hn : ∀ n ∈ ns, 0 ≤ n.id) (hk : ∀ n ∈ ns, elOk ns n = true) (hr : rootsN ns = 1) : Fits ns (rootOf ns) := by
  refine ⟨hd, hn, fun n hm => ?_, ?_⟩
  · have := hk n hm
    simp only [elOk, Bool.and_eq_true, decide_eq_true_eq, List.all_eq_true] at this
    refine ⟨this.1.2, fun k hkm => ?_⟩
    have h2 := this.2 k hkm
    unfold kidOk at h2
    split at h2
    · rename_i m hm
      exact ⟨m, hm, by simpa using h2⟩
    · cases h2
  · unfold rootsN at hr
    have hpos : 0 < ns.countP (fun n => n.par == -1) := by omega
    obtain ⟨a, ha, hpa⟩ := List.countP_pos_iff.1 hpos
    unfold rootOf
    cases hf : ns.find? (fun n => n.par == -1) with
    | none =>
      have := List.find?_eq_none.1 hf a ha
      exact absurd hpa this
    | some n =>
      have hn1 := List.find?_some hf
      have hn2 := List.mem_of_find?_eq_some hf
      refine ⟨n, ?_, by simpa using hn1⟩
      exact fnd_mem hd hn2
theorem root_of_mem {ns : List Nd} (hr : rootsN ns = 1) {n : Nd} (hm : n ∈ ns) (hp : n.par = -1) : rootOf ns = n.id := by
  unfold rootsN at hr
  unfold rootOf
  induction ns with
  | nil => cases hm
  | cons a l ih =>
    rw [List.countP_cons] at hr
    by_cases ha : a.par = -1
    · have hz : l.countP (fun n => n.par == -1) = 0 := by
        have e : (a.par == -1) = true := by simpa using ha
        rw [e] at hr
        simp at hr
        simpa [List.countP_eq_zero] using hr
      rw [List.find?_cons]
      have e : (a.par == -1) = true := by simpa using ha
      rw [e]
      rcases List.mem_cons.1 hm with rfl | h
      · rfl
      · exact absurd (show (n.par == -1) = true by simpa using hp) (by simpa using (List.countP_eq_zero.1 hz) n h)
    · have e : (a.par == -1) = false := by simpa using ha
      rw [List.find?_cons, e]
      rw [e] at hr
      rcases List.mem_cons.1 hm with rfl | h
      · exact absurd hp ha
      · exact ih (by simpa using hr) h

/-- Those below some numbers, in tree order. -/
def cloL (ns : List Nd) (r : Int) (ids : List Int) : List Int := (pre ns ns.length r).filter fun x => ids.any fun i => (pre ns ns.length i).contains x
theorem clo_nodup {ns : List Nd} {r : Int} (hf : Fits ns r) (ids : List Int) : (cloL ns r ids).Nodup := (pre_nodup hf _ r 0 dist_root).filter _
theorem clo_mem {ns : List Nd} {r : Int} (hf : Fits ns r) (hl : (pre ns ns.length r).length = ns.length) (ids : List Int) {n : Nd} (hn : n ∈ ns) : n.id ∈ cloL ns r ids ↔ ∃ i ∈ ids, n.id ∈ pre ns ns.length i := by
  unfold cloL
  rw [List.mem_filter]
  have := all_dist hf hl n hn
  simp only [this, true_and, List.any_eq_true, List.contains_iff_mem]
theorem clo_count {ns : List Nd} {r : Int} (hf : Fits ns r) (hl : (pre ns ns.length r).length = ns.length) (ids : List Int) {n : Nd} (hn : n ∈ ns) :
    (cloL ns r ids).count n.id = if (∃ i ∈ ids, n.id ∈ pre ns ns.length i) then 1 else 0 := by
  have hc := List.nodup_iff_count.1 (clo_nodup hf ids) n.id
  split
  · rename_i h
    have := List.count_pos_iff.2 ((clo_mem hf hl ids hn).2 h)
    omega
  · rename_i h
    exact List.count_eq_zero.2 fun hm => h ((clo_mem hf hl ids hn).1 hm)
end Go.Proofs.YthbmnacleneflaaGreatDoor.dt
/-
  Trees as rows of elements, plain: who stands above whom; the closure by steps up; a closure is its own. Condition: the row is one tree.
-/
namespace Go.Proofs.YthbmnacleneflaaGreatDoor.dt

section
variable {ns : List Nd} {r : Int}
theorem pre_succ : ∀ (f : Nat) (x y : Int), y ∈ pre ns f x → y ∈ pre ns (f + 1) x := by
  intro f
  induction f with
  | zero => intro x y h; simp [pre] at h
  | succ f ih =>
    intro x y h
    unfold pre at h ⊢
    cases hx : fnd ns x with
    | none => rw [hx] at h; cases h
    | some n =>
      rw [hx] at h
      rcases List.mem_cons.1 h with rfl | h
      · exact List.mem_cons_self
      · obtain ⟨k, hk, hy⟩ := List.mem_flatMap.1 h
        exact List.mem_cons_of_mem _ (List.mem_flatMap.2 ⟨k, hk, ih k y hy⟩)
theorem pre_le {f g : Nat} (h : f ≤ g) {x y : Int} (hy : y ∈ pre ns f x) : y ∈ pre ns g x := by
  obtain ⟨d, rfl⟩ := Nat.exists_eq_add_of_le h
  induction d with
  | zero => exact hy
  | succ d ih => exact pre_succ _ _ _ (ih (Nat.le_add_right _ _))
/-- Whoever is below another, and not it itself, is a kid of somebody. -/
theorem pre_kid : ∀ (f : Nat) (x y : Int), y ∈ pre ns f x → y = x ∨ ∃ m, fnd ns m.id = some m ∧ y ∈ m.kids := by
  intro f
  induction f with
  | zero => intro x y h; simp [pre] at h
  | succ f ih =>
    intro x y h
    unfold pre at h
    cases hx : fnd ns x with
    | none => rw [hx] at h; cases h
    | some n =>
      rw [hx] at h
      rcases List.mem_cons.1 h with rfl | h
      · exact .inl rfl
      · obtain ⟨k, hk, hy⟩ := List.mem_flatMap.1 h
        obtain ⟨hn, rfl⟩ := fnd_some hx
        rcases ih k y hy with rfl | h
        · exact .inr ⟨n, hx, hk⟩
        · exact .inr h
structure Whole (ns : List Nd) (r : Int) : Prop where
  fits : Fits ns r
  len : (pre ns ns.length r).length = ns.length
theorem Whole.dist (h : Whole ns r) {n : Nd} (hn : n ∈ ns) : ∃ d, Dist ns r n.id d := dist_of_pre h.fits (all_dist h.fits h.len n hn)
theorem Whole.dist_of (h : Whole ns r) {x : Int} {n : Nd} (hx : fnd ns x = some n) : ∃ d, Dist ns r x d := by
  obtain ⟨hn, rfl⟩ := fnd_some hx
  exact h.dist hn
/-- Above: some steps up. -/
theorem up_pre (h : Whole ns r) : ∀ (k : Nat) (x z : Int) (n : Nd), fnd ns x = some n → ups ns k x = some z → (∃ m, fnd ns z = some m) → x ∈ pre ns (k + 1) z := by
  intro k
  induction k with
  | zero =>
    intro x z n hx hz _
    simp only [ups, Option.some.injEq] at hz
    subst hz
    unfold pre
    rw [hx]
    exact List.mem_cons_self
  | succ k ih =>
    intro x z n hx hz hm
    rw [ups_add] at hz
    cases hy : ups ns k x with
    | none => rw [hy] at hz; cases hz
    | some y =>
      rw [hy, Option.bind_some] at hz
      unfold ups at hz
      cases hyn : fnd ns y with
      | none => rw [hyn] at hz; cases hz
      | some yn =>
        rw [hyn, Option.bind_some] at hz
        simp only [ups, Option.some.injEq] at hz
        subst hz
        have h1 := ih x y n hx hy ⟨yn, hyn⟩
        obtain ⟨m, hm⟩ := hm
        obtain ⟨hyn1, rfl⟩ := fnd_some hyn
        have h2 := all_dist h.fits h.len yn hyn1
        rcases pre_kid _ _ _ h2 with e | ⟨p, hp, hk⟩
        · obtain ⟨rn, hrn, hrp⟩ := h.fits.root
          rw [e] at hyn
          rw [hyn] at hrn
          cases hrn
          rw [hrp, fnd_neg h.fits.nonneg] at hm
          cases hm
        · have hpm := (fnd_some hp).1
          obtain ⟨q, hq, hqp⟩ := (h.fits.kids p hpm).2 yn.id hk
          rw [hyn] at hq
          cases hq
          rw [hqp, hp] at hm
          cases hm
          rw [hqp]
          unfold pre
          rw [hp]
          exact List.mem_cons_of_mem _ (List.mem_flatMap.2 ⟨yn.id, hk, h1⟩)
/-- Below, said by steps up. -/
theorem mem_pre_iff (h : Whole ns r) {x z : Int} {n : Nd} {d : Nat} (hx : fnd ns x = some n) (hd : Dist ns r x d) : x ∈ pre ns ns.length z ↔ ∃ k, k ≤ d ∧ ups ns k x = some z := by
  constructor
  · intro hm
    have hz : ∃ m, fnd ns z = some m := by
      cases hl : ns.length with
      | zero => rw [hl] at hm; simp [pre] at hm
      | succ f =>
        rw [hl] at hm
        unfold pre at hm
        cases hz : fnd ns z with
        | none => rw [hz] at hm; cases hm
        | some m => exact ⟨m, rfl⟩
    obtain ⟨m, hz⟩ := hz
    obtain ⟨dz, hdz⟩ := h.dist_of hz
    obtain ⟨i, hi, hdi, _⟩ := pre_mem h.fits ns.length z dz hdz x hm
    have := dist_inj h.fits hd hdi
    exact ⟨i, by omega, hi⟩
  · rintro ⟨k, hk, hu⟩
    have hr : ∃ m, fnd ns r = some m := by obtain ⟨m, hm, _⟩ := h.fits.root; exact ⟨m, hm⟩
    obtain ⟨z', hz', hm⟩ := ups_mem d x r hd hr k hk
    rw [hu] at hz'
    cases hz'
    obtain ⟨m, hm1, rfl⟩ := List.mem_map.1 hm
    have h1 := up_pre h k x m.id n hx hu ⟨m, fnd_mem h.fits.ids hm1⟩
    have := dist_lt h.fits hd
    exact pre_le (by omega) h1
/-- The closure, by steps up. -/
theorem clo_ups (h : Whole ns r) (ids : List Int) : cloL ns r ids = (pre ns ns.length r).filter fun x => @decide (∃ k z, Dist ns r x k ∧ ∃ j, j ≤ k ∧ ups ns j x = some z ∧ z ∈ ids) (Classical.propDecidable _) := by
  unfold cloL
  refine List.filter_congr fun x hx => ?_
  obtain ⟨d, hd⟩ := dist_of_pre h.fits hx
  have hn : ∃ n, fnd ns x = some n := by
    obtain ⟨_, _, _, hm⟩ := pre_mem h.fits _ _ 0 dist_root x hx
    obtain ⟨n, hn, rfl⟩ := List.mem_map.1 hm
    exact ⟨n, fnd_mem h.fits.ids hn⟩
  obtain ⟨n, hn⟩ := hn
  rw [Bool.eq_iff_iff]
  simp only [List.any_eq_true, List.contains_iff_mem, decide_eq_true_eq]
  constructor
  · rintro ⟨i, hi, hm⟩
    obtain ⟨k, hk, hu⟩ := (mem_pre_iff h hn hd).1 hm
    exact ⟨d, i, hd, k, hk, hu, hi⟩
  · rintro ⟨k, z, hk, j, hj, hu, hz⟩
    have := dist_inj h.fits hd hk
    subst this
    exact ⟨z, hz, (mem_pre_iff h hn hd).2 ⟨j, hj, hu⟩⟩
theorem mem_clo (h : Whole ns r) (ids : List Int) {x : Int} : x ∈ cloL ns r ids ↔ x ∈ pre ns ns.length r ∧ ∃ i ∈ ids, x ∈ pre ns ns.length i := by
  unfold cloL
  rw [List.mem_filter]
  simp only [List.any_eq_true, List.contains_iff_mem]
/-- A closure is its own. -/
theorem clo_clo (h : Whole ns r) (ids : List Int) : cloL ns r (cloL ns r ids) = cloL ns r ids := by
  show (pre ns ns.length r).filter _ = (pre ns ns.length r).filter _
  refine List.filter_congr fun x hx => ?_
  obtain ⟨d, hd⟩ := dist_of_pre h.fits hx
  have hn : ∃ n, fnd ns x = some n := by
    obtain ⟨_, _, _, hm⟩ := pre_mem h.fits _ _ 0 dist_root x hx
    obtain ⟨n, hn, rfl⟩ := List.mem_map.1 hm
    exact ⟨n, fnd_mem h.fits.ids hn⟩
  obtain ⟨n, hn⟩ := hn
  rw [Bool.eq_iff_iff]
  simp only [List.any_eq_true, List.contains_iff_mem]
  constructor
  · rintro ⟨i, hi, hm⟩
    obtain ⟨hi1, i0, hi0, hm0⟩ := (mem_clo h ids).1 hi
    obtain ⟨di, hdi⟩ := dist_of_pre h.fits hi1
    obtain ⟨_, _, _, hmi⟩ := pre_mem h.fits _ _ 0 dist_root i hi1
    obtain ⟨m, hm1, rfl⟩ := List.mem_map.1 hmi
    obtain ⟨j, hj, hu⟩ := (mem_pre_iff h hn hd).1 hm
    obtain ⟨k, hk, hv⟩ := (mem_pre_iff h (fnd_mem h.fits.ids hm1) hdi).1 hm0
    have hjd : d = j + di := by
      have h2 : Dist ns r x (j + di) := by
        show ups ns (j + di) x = some r
        rw [ups_add, hu]
        exact hdi
      exact dist_inj h.fits hd h2
    exact ⟨i0, hi0, (mem_pre_iff h hn hd).2 ⟨j + k, by omega, by rw [ups_add, hu]; exact hv⟩⟩
  · rintro ⟨i, hi, hm⟩
    exact ⟨x, (mem_clo h ids).2 ⟨hx, i, hi, hm⟩, (mem_pre_iff h hn hd).2 ⟨0, by omega, rfl⟩⟩
end
end Go.Proofs.YthbmnacleneflaaGreatDoor.dt
/-
  A region in whatever order, of which one operation comes last: loads may be taken first where nobody before that one turns what they read. No condition of its own.
-/
set_option linter.unusedVariables false
namespace Go.Proofs.YthbmnacleneflaaGreatDoor.dt
open Go

section
variable {P : Program} {ops : Array Oper} {Q : Exit → Act → World → Prop} {md : Region.Mode} {S : World → Prop} {t : Nat}
/-- Whatever order is picked from here on; behind every operation but number t, S holds. -/
def wpAnyT (P : Program) (md : Region.Mode) (ops : Array Oper) (Q : Exit → Act → World → Prop) (S : World → Prop) (t : Nat) : Nat → Array Bool → Act → World → Prop
  | 0, listed, a, w => Region.ready md ops listed = [] ∧ Q .normal a w
  | f + 1, listed, a, w => (Region.ready md ops listed = [] → Q .normal a w) ∧ ∀ i ∈ Region.ready md ops listed, wpOp P ops Q i (fun b u => (i ≠ t → S u) ∧ wpAnyT P md ops Q S t f (listed.setIfInBounds i true) b u) a w
theorem any_of_T : ∀ (f : Nat) (listed : Array Bool) (a : Act) (w : World), wpAnyT P md ops Q S t f listed a w → wpAny P md ops Q f listed a w
  | 0, _, _, _, h => h
  | f + 1, _, _, _, h => ⟨h.1, fun i hi => wpOp_mono (fun b u k => any_of_T f _ b u k.2) (h.2 i hi)⟩
theorem T_first {i : Nat} {oi : Oper} {v : Value} (hi : ops[i]? = some oi) (hit : i ≠ t) (ht : ∀ ot, ops[t]? = some ot → ∃ e ∈ ot.after, Region.binds md e = true ∧ e.on = i) (hsel : ∀ (j : Nat) (o : Oper) cs b, ops[j]? = some o → o.op ≠ .select cs b)
    (hQ : ∀ c a w, Q (.panic c) (a.put oi.dst v) w → Q (.panic c) a w) : ∀ (f : Nat) (listed : Array Bool) (a : Act) (w : World),
      (∀ j oj, ops[j]? = some oj → j ≠ i → listed.getD j true = false → (∀ e ∈ oj.after, Region.binds md e = true → e.on ≠ i) → oi.apart ops oj = true) →
      i ∈ Region.ready md ops listed → YieldsIf P ops S oi v a → S w → wpAnyT P md ops Q S t f (listed.setIfInBounds i true) (a.put oi.dst v) w → wpAnyT P md ops Q S t (f + 1) listed a w := by
  intro f
  induction f with
  | zero =>
    intro listed a w _ hr hy hS H
    refine ⟨fun h => (by rw [h] at hr; cases hr), fun j hj => ?_⟩
    by_cases e : j = i
    · subst e; exact hy.wpOp hi hS ⟨fun _ => hS, H⟩
    · have h1 := ready_mono hj e
      rw [H.1] at h1
      cases h1
  | succ f ih =>
    intro listed a w hfree hr hy hS H
    refine ⟨fun h => (by rw [h] at hr; cases hr), fun j hj => ?_⟩
    by_cases e : j = i
    · subst e; exact hy.wpOp hi hS ⟨fun _ => hS, H⟩
    · have h1 := H.2 j (ready_mono hj e)
      obtain ⟨hu, oj, hoj, hall⟩ := mem_ready.1 hj
      have hi0 := (mem_ready.1 hr).1
      have hno : ∀ x ∈ oj.after, Region.binds md x = true → x.on ≠ i := fun x hx hb he => by
        have h2 := hall x hx hb
        rw [he] at h2
        rcases Nat.lt_or_ge i listed.size with k | k
        · simp [k] at hi0 h2; rw [hi0] at h2; cases h2
        · simp [Array.getElem?_eq_none k] at h2
      have hjt : j ≠ t := fun he => by
        subst he
        obtain ⟨x, hx, hb, ho⟩ := ht oj hoj
        exact hno x hx hb ho
      have h2 := wpOp_putIf hoj (hfree j oj hoj e hu hno) (fun cs b => hsel i oi cs b hi) (fun cs b => hsel j oj cs b hoj) hQ hy h1
      refine wpOp_mono (fun b u k => ⟨k.2.1, ih (listed.setIfInBounds j true) b u ?_ (ready_mono hr (Ne.symm e)) k.1 (k.2.1 hjt) ?_⟩) h2
      · intro q oq hq hqi hun hn
        refine hfree q oq hq hqi ?_ hn
        by_cases hjq : j = q
        · subst hjq; exact hu
        · rw [getD_set_ne true hjq] at hun; exact hun
      · rw [Array.setIfInBounds_comm _ _ e]
        exact k.2.2
/-- Does number t wait for number i? -/
def waitsB (md : Region.Mode) (ops : Array Oper) (t i : Nat) : Bool := match ops[t]? with
  | some o => o.after.any fun e => Region.binds md e && e.on == i
  | none => false
theorem T_take {i : Nat} {oi : Oper} {v : Value} {f : Nat} {listed : Array Bool} {a : Act} {w : World} (hi : ops[i]? = some oi) (hw : waitsB md ops t i = true) (hne : Nat.beq i t = false) (hs : Region.noSelect ops = true) (hf : Region.free md ops listed i = true) (hr : (Region.ready md ops listed).contains i = true)
    (hQ : ∀ c a w, Q (.panic c) (a.put oi.dst v) w → Q (.panic c) a w) (hy : YieldsIf P ops S oi v a) (hS : S w) (h : wpAnyT P md ops Q S t f (listed.setIfInBounds i true) (a.put oi.dst v) w) : wpAnyT P md ops Q S t (f + 1) listed a w :=
  T_first hi (fun e => by subst e; rw [Nat.beq_refl] at hne; cases hne) (fun ot ho => by
    unfold waitsB at hw
    rw [ho] at hw
    simp only [Array.any_eq_true, Bool.and_eq_true, beq_iff_eq] at hw
    obtain ⟨k, hk, h1, h2⟩ := hw
    exact ⟨_, Array.getElem_mem hk, h1, h2⟩) (Region.noSelect_spec hs) hQ f listed a w (Region.free_spec hi hf) (by simpa using hr) hy hS h
/-- One operation alone may come next. -/
theorem T_next {i : Nat} {o : Oper} {f : Nat} {listed : Array Bool} {a : Act} {w : World} (hr : Region.ready md ops listed = [i]) (ho : ops[i]? = some o)
    (h : ∀ K : Act → World → Prop, Shut (∀ b u, (i ≠ t → S u) → ((i ≠ t → S u) → wpAnyT P md ops Q S t f (listed.setIfInBounds i true) b u) → K b u) → if Region.wanted o (yielded ops a.tmps) = true then Oper.wp P o a w K Q else K (a.put o.dst undef) w) : wpAnyT P md ops Q S t (f + 1) listed a w := by
  refine ⟨fun h0 => (by rw [hr] at h0; cases h0), fun j hj => ?_⟩
  rw [hr] at hj
  obtain rfl : j = i := by simpa using hj
  exact wpOp_step ho fun K hK => h K fun b u hS hW => hK b u ⟨hS, hW hS⟩
/-- What is wanted behind one operation. -/
def Qk (K : Act → World → Prop) (Q : Exit → Act → World → Prop) : Exit → Act → World → Prop
  | .normal, a, w => K a w
  | .exit i, a, w => Q (.exit i) a w
  | .goto l, a, w => Q (.goto l) a w
  | .ret, a, w => Q .ret a w
  | .panic c, a, w => Q (.panic c) a w
  | .outgrown, a, w => Q .outgrown a w
theorem wp_Qk {o : Oper} {a : Act} {w : World} {K : Act → World → Prop} (h : o.wp P a w (wpList P ops (Qk K Q) []) (Qk K Q)) : o.wp P a w K Q := by
  unfold Oper.wp at *
  generalize (execOp a.eval o).run P w = r at *
  cases r with
  | ok n w' =>
    cases n <;> try exact h
  | halt x w' => cases x <;> exact h
/-- One operation alone may come next: as a list of one. -/
theorem T_list {i : Nat} {o : Oper} {f : Nat} {listed : Array Bool} {a : Act} {w : World} (hr : Region.ready md ops listed = [i]) (ho : ops[i]? = some o)
    (h : ∀ K : Act → World → Prop, Shut (∀ b u, (i ≠ t → S u) → ((i ≠ t → S u) → wpAnyT P md ops Q S t f (listed.setIfInBounds i true) b u) → K b u) → wpList P ops (Qk K Q) [o] a w) : wpAnyT P md ops Q S t (f + 1) listed a w := by
  refine ⟨fun h0 => (by rw [hr] at h0; cases h0), fun j hj => ?_⟩
  rw [hr] at hj
  obtain rfl : j = i := by simpa using hj
  have h1 := h (fun b u => (j ≠ t → S u) ∧ wpAnyT P md ops Q S t f (listed.setIfInBounds j true) b u) (fun b u hS hW => ⟨hS, hW hS⟩)
  unfold wpOp
  rw [ho]
  unfold wpList at h1
  show if Region.wanted o (yielded ops a.tmps) = true then _ else _
  split
  · rename_i hw
    rw [if_pos hw] at h1
    rcases h1 with h1 | ⟨h1, b, u, h2⟩
    · exact .inl (wp_Qk h1)
    · exact .inr ⟨h1, b, u, h2⟩
  · rename_i hw
    rw [if_neg hw] at h1
    exact h1
theorem T_done {listed : Array Bool} {a : Act} {w : World} (hr : Region.ready md ops listed = []) (h : Q .normal a w) : ∀ f, wpAnyT P md ops Q S t f listed a w
  | 0 => ⟨hr, h⟩
  | _ + 1 => ⟨fun _ => h, by rw [hr]; simp⟩
theorem region_T {id : Nat} {a : Act} {w : World} (t : Nat) (S : World → Prop) (hm : P.follows .mixedOrders = true) (h : wpAnyT P .any ops Q S t ops.size (Array.replicate ops.size false) a w.drew) : (Code.region id ops true).wp P Q a w :=
  wp_region_any hm (any_of_T _ _ _ _ h)
end
end Go.Proofs.YthbmnacleneflaaGreatDoor.dt
/-
  Contracts, for a run of one goroutine, of the functions that look at a name: jalousie/dom.MayName and jalousie/jalousieref8.Name. Condition: the text's length fits.
-/
set_option linter.unusedSimpArgs false
set_option linter.unusedVariables false
namespace Go.Proofs.YthbmnacleneflaaGreatDoor
open Go Go.RowKit

theorem bcell {B : Nat} {W w1 : World} (hb : Below B W w1) : (∀ b o, b < B → w1.cell? ⟨b, o, none⟩ = W.cell? ⟨b, o, none⟩) ∧ (∀ b o, b < B → w1.frozen? ⟨b, o, none⟩ = W.frozen? ⟨b, o, none⟩) :=
  ⟨fun b o h => hb.cell (p := ⟨b, o, none⟩) h, fun b o h => hb.frozen (p := ⟨b, o, none⟩) h⟩

def byt (s : ByteArray) (j : Nat) : Int := ((s.data.toList.getD j 0).toNat : Int)
theorem byt_le (s : ByteArray) (j : Nat) : 0 ≤ byt s j ∧ byt s j ≤ 255 := by
  unfold byt
  have := (s.data.toList.getD j 0).toNat_lt
  omega
def letC (c : Int) : Prop := (97 ≤ c ∧ c ≤ 122) ∨ (65 ≤ c ∧ c ≤ 90) ∨ c = 95
def chOk (j : Nat) (c : Int) : Prop := letC c ∨ (j ≠ 0 ∧ (c = 45 ∨ (48 ≤ c ∧ c ≤ 57)))
def NameP (s : ByteArray) : Prop := 1 ≤ s.size ∧ s.size ≤ 64 ∧ ∀ j, j < s.size → chOk j (byt s j)
/-- Is a text a name? -/
noncomputable def nameB (s : ByteArray) : Bool := @decide (NameP s) (Classical.propDecidable _)
theorem nameB_yes {s : ByteArray} (h : NameP s) : nameB s = true := by unfold nameB; exact @decide_eq_true _ (Classical.propDecidable _) h
theorem nameB_no {s : ByteArray} (h : ¬ NameP s) : nameB s = false := by unfold nameB; exact @decide_eq_false _ (Classical.propDecidable _) h
theorem ret_bool {a b : Bool} (h : a = b) : Ending.returned (.bool a) = .returned (.bool b) := by rw [h]

theorem below_bytes (w : World) (s : ByteArray) : Below w.heap.size w (Lib.bytesWorld w 5 s) :=
  ⟨rfl, rfl, rfl, by rw [Lib.bytesWorld_size]; omega, fun k hk => Lib.bytesWorld_at_old w 5 s k hk⟩

set_option maxRecDepth 100000 in
set_option maxHeartbeats 4000000 in
/-- dom.MayName. -/
theorem may_name (s : ByteArray) (w : World) (hs : s.size ≤ maxLen) : Calls Tryz.prog 37 #[.string s] w fun e w' => e = .returned (.bool (nameB s)) ∧ Below w.heap.size w w' := by
  unfold maxLen at hs
  by_cases h1 : s.size < 1
  · have HN := Lib.hid (nameB_no (s := s) fun h => by have := h.1; omega)
    go_enter Tryz.func37, Tryz.ntmps37
    go_wp2
    go_ret
    exact ⟨ret_bool HN.out.symm, Below.refl _ _⟩
  by_cases h2 : 64 < s.size
  · have HN := Lib.hid (nameB_no (s := s) fun h => by have := h.2.1; omega)
    have h3 : (1 : Int) ≤ (s.size : Int) := by omega
    have h4 : (64 : Int) < (s.size : Int) := by omega
    have h5 : decide ((s.size : Int) < 1) = false := by simp; omega
    have h6 : decide ((64 : Int) < (s.size : Int)) = true := by simp; omega
    clear h1 h2
    go_enter Tryz.func37, Tryz.ntmps37
    go_wp2
    go_ret
    exact ⟨ret_bool HN.out.symm, Below.refl _ _⟩
  have h3 : (1 : Int) ≤ (s.size : Int) := by omega
  have h4 : (s.size : Int) ≤ 64 := by omega
  have h5 : decide ((s.size : Int) < 1) = false := by simp; omega
  have h6 : decide ((64 : Int) < (s.size : Int)) = false := by simp; omega
  clear h1 h2
  have hcv := Lib.run_convert_string_bytes (P := Tryz.prog) w 9 67 5 s Tryz.underlying9 Tryz.underlying67 Tryz.underlying5
  have HC := Lib.hid (fun j (hj : j < s.size) => Lib.bytesWorld_cell w 5 s j hj)
  have HB := Lib.hid (below_bytes w s)
  generalize Lib.bytesWorld w 5 s = W1 at hcv HC HB
  generalize grownCap w s.size 0 5 = cp at hcv
  go_enter Tryz.func37, Tryz.ntmps37
  go_wp2
  go_loop [17] (fun i => ∃ k : Nat, k ≤ s.size ∧ i = .int .i64 k ∧ ∀ j, j < k → chOk j (byt s j)) (fun i => s.size - (intOf i).toNat)
  case atStart => exact ⟨0, Nat.zero_le _, rfl, fun j h => by omega⟩
  case round =>
    obtain ⟨k, hk, rfl, hok⟩ := hrel
    have HK := Lib.hid hok; clear hok
    by_cases hlt : k < s.size
    · have hc : W1.cell? ⟨w.heap.size, k, none⟩ = some (.int .u8 (byt s k)) := HC.out k hlt
      have hb := byt_le s k
      have HE : Hid (∀ c, byt s k = c → (chOk k c → ∀ j, j < k + 1 → chOk j (byt s j)) ∧ (¬ chOk k c → nameB s = false)) := Lib.hid (fun c e => ⟨fun h j hj => by
        by_cases e2 : j = k
        · subst e2; rw [e]; exact h
        · exact HK.out j (by omega), fun h => nameB_no fun hn => h (e ▸ hn.2.2 k hlt)⟩)
      generalize byt s k = c at hc hb HE
      go_wp2
      all_goals first
        | exact ⟨⟨k + 1, by omega, by go_num, (HE.out c rfl).1 (by unfold chOk letC; omega)⟩, by simp [intOf]; omega⟩
        | (go_ret; exact ⟨ret_bool ((HE.out c rfl).2 (by unfold chOk letC; omega)).symm, HB.out⟩)
    · go_wp2
      go_ret
      exact ⟨ret_bool (nameB_yes ⟨by omega, by omega, fun j hj => HK.out j (by omega)⟩).symm, HB.out⟩
set_option maxRecDepth 100000 in
set_option maxHeartbeats 4000000 in
/-- jalousieref8.Name. -/
theorem ref_name (s : ByteArray) (w : World) (hs : s.size ≤ maxLen) : Calls Tryz.prog 19 #[.string s] w fun e w' => e = .returned (.bool (nameB s)) ∧ Below w.heap.size w w' := by
  unfold maxLen at hs
  by_cases h1 : s.size < 1
  · have HN := Lib.hid (nameB_no (s := s) fun h => by have := h.1; omega)
    go_enter Tryz.func19, Tryz.ntmps19
    go_wp2
    go_ret
    exact ⟨ret_bool HN.out.symm, Below.refl _ _⟩
  by_cases h2 : 64 < s.size
  · have HN := Lib.hid (nameB_no (s := s) fun h => by have := h.2.1; omega)
    have h3 : (1 : Int) ≤ (s.size : Int) := by omega
    have h4 : (64 : Int) < (s.size : Int) := by omega
    have h5 : decide ((s.size : Int) < 1) = false := by simp; omega
    have h6 : decide ((64 : Int) < (s.size : Int)) = true := by simp; omega
    clear h1 h2
    go_enter Tryz.func19, Tryz.ntmps19
    go_wp2
    go_ret
    exact ⟨ret_bool HN.out.symm, Below.refl _ _⟩
  have h3 : (1 : Int) ≤ (s.size : Int) := by omega
  have h4 : (s.size : Int) ≤ 64 := by omega
  have h5 : decide ((s.size : Int) < 1) = false := by simp; omega
  have h6 : decide ((64 : Int) < (s.size : Int)) = false := by simp; omega
  clear h1 h2
  have hcv := Lib.run_convert_string_bytes (P := Tryz.prog) w 9 67 5 s Tryz.underlying9 Tryz.underlying67 Tryz.underlying5
  have HC := Lib.hid (fun j (hj : j < s.size) => Lib.bytesWorld_cell w 5 s j hj)
  have HB := Lib.hid (below_bytes w s)
  generalize Lib.bytesWorld w 5 s = W1 at hcv HC HB
  generalize grownCap w s.size 0 5 = cp at hcv
  go_enter Tryz.func19, Tryz.ntmps19
  go_wp2
  go_loop [17] (fun i => ∃ k : Nat, k ≤ s.size ∧ i = .int .i64 k ∧ ∀ j, j < k → chOk j (byt s j)) (fun i => s.size - (intOf i).toNat)
  case atStart => exact ⟨0, Nat.zero_le _, rfl, fun j h => by omega⟩
  case round =>
    obtain ⟨k, hk, rfl, hok⟩ := hrel
    have HK := Lib.hid hok; clear hok
    by_cases hlt : k < s.size
    · have hc : W1.cell? ⟨w.heap.size, k, none⟩ = some (.int .u8 (byt s k)) := HC.out k hlt
      have hb := byt_le s k
      have HE : Hid (∀ c, byt s k = c → (chOk k c → ∀ j, j < k + 1 → chOk j (byt s j)) ∧ (¬ chOk k c → nameB s = false)) := Lib.hid (fun c e => ⟨fun h j hj => by
        by_cases e2 : j = k
        · subst e2; rw [e]; exact h
        · exact HK.out j (by omega), fun h => nameB_no fun hn => h (e ▸ hn.2.2 k hlt)⟩)
      generalize byt s k = c at hc hb HE
      go_wp2
      all_goals first
        | exact ⟨⟨k + 1, by omega, by go_num, (HE.out c rfl).1 (by unfold chOk letC; omega)⟩, by simp [intOf]; omega⟩
        | (go_ret; exact ⟨ret_bool ((HE.out c rfl).2 (by unfold chOk letC; omega)).symm, HB.out⟩)
        | (have hq : c = 45 := by simpa using (‹(!c == 45) = false› : (!c == 45) = false)
           exact ⟨⟨k + 1, by omega, by go_num, (HE.out c rfl).1 (by unfold chOk letC; omega)⟩, by simp [intOf]; omega⟩)
        | (have hq : ¬ c = 45 := by simpa using (‹(!c == 45) = true› : (!c == 45) = true)
           go_ret; exact ⟨ret_bool ((HE.out c rfl).2 (by unfold chOk letC; omega)).symm, HB.out⟩)
    · go_wp2
      go_ret
      exact ⟨ret_bool (nameB_yes ⟨by omega, by omega, fun j hj => HK.out j (by omega)⟩).symm, HB.out⟩
end Go.Proofs.YthbmnacleneflaaGreatDoor
/-
  Contracts, for a run of one goroutine, of the functions that look at a fraction: rat.gcd, rat.size, rat.sure, rat.May, dom.side. Condition: the numbers are of their kinds.
-/
set_option linter.unusedSimpArgs false
set_option linter.unusedVariables false
namespace Go.Proofs.YthbmnacleneflaaGreatDoor
open Go Go.RowKit

theorem ret_u64 {a b : Int} (h : a = b) : Ending.returned (.int .u64 a) = .returned (.int .u64 b) := by rw [h]

set_option maxRecDepth 100000 in
/-- rat.gcd. -/
theorem gcd_any (x y : Nat) (w : World) (hx : x ≤ 18446744073709551615) (hy : y ≤ 18446744073709551615) : Calls Tryz.prog 159 #[.int .u64 x, .int .u64 y] w fun e w' => e = .returned (.int .u64 (Nat.gcd x y)) ∧ w = w' := by
  have HX := Lib.hid hx; have HY := Lib.hid hy; clear hx hy
  go_enter Tryz.func159, Tryz.ntmps159
  go_wp2
  go_loop [0, 1] (fun a b => ∃ p q : Nat, p ≤ 18446744073709551615 ∧ q ≤ 18446744073709551615 ∧ a = .int .u64 p ∧ b = .int .u64 q ∧ Nat.gcd p q = Nat.gcd x y) (fun a _ => (intOf a).toNat)
  case atStart => exact ⟨x, y, HX.out, HY.out, rfl, rfl, rfl⟩
  case round =>
    obtain ⟨p, q, hp, hq, rfl, rfl, hg⟩ := hrel
    have HG := Lib.hid hg; have HP := Lib.hid hp; have HQ := Lib.hid hq; clear hg hp hq
    by_cases h0 : p = 0
    · subst h0
      go_wp2
      go_ret
      exact ⟨ret_u64 (by rw [← HG.out, Nat.gcd_zero_left]), rfl⟩
    · have hp1 : (1 : Int) ≤ p := by omega
      have hne : ((p : Int) != 0) = true := by simp; omega
      have hlt : q % p < p := Nat.mod_lt _ (by omega)
      have HE : Hid (Nat.gcd (q % p) p = Nat.gcd x y) := Lib.hid (by rw [← Nat.gcd_rec]; exact HG.out)
      clear h0
      go_wp2
      exact ⟨⟨q % p, p, by have := HP.out; omega, HP.out, by simp, rfl, HE.out⟩, by simp [intOf]; omega⟩

/-- What may be the number of an int64. -/
def I64 (n : Int) : Prop := -9223372036854775808 ≤ n ∧ n ≤ 9223372036854775807
theorem wrap_u64_pos {n : Int} (h0 : 0 ≤ n) (h : I64 n) : IntKind.u64.wrap n = n := by unfold I64 at h; simp [IntKind.wrap, IntKind.bits, IntKind.signed]; omega

/-- rat.size of a number that is not below nought. -/
theorem size_pos (n : Int) (w : World) (hn : I64 n) (h0 : 0 ≤ n) : Calls Tryz.prog 160 #[.int .i64 n] w fun e w' => e = .returned (.int .u64 (n.natAbs : Nat)) ∧ w = w' := by
  have HN := Lib.hid (show IntKind.u64.wrap n = (n.natAbs : Nat) by rw [wrap_u64_pos h0 hn]; omega)
  clear hn
  go_enter Tryz.func160, Tryz.ntmps160
  go_wp2
  go_ret
  exact ⟨ret_u64 (by first | exact HN.out | omega), rfl⟩
theorem wrap_u64_neg {n : Int} (h0 : n < 0) (h : I64 n) : IntKind.u64.wrap (-(IntKind.u64.wrap n)) = -n := by unfold I64 at h; simp [IntKind.wrap, IntKind.bits, IntKind.signed]; omega
/-- rat.size of a number below nought. -/
theorem size_neg (n : Int) (w : World) (hn : I64 n) (h0 : n < 0) : Calls Tryz.prog 160 #[.int .i64 n] w fun e w' => e = .returned (.int .u64 (n.natAbs : Nat)) ∧ w = w' := by
  have HN := Lib.hid (show IntKind.u64.wrap (-(IntKind.u64.wrap n)) = (n.natAbs : Nat) by rw [wrap_u64_neg h0 hn]; omega)
  clear hn
  go_enter Tryz.func160, Tryz.ntmps160
  go_wp2
  go_ret
  exact ⟨ret_u64 (by first | exact HN.out | (simpa using HN.out) | omega), rfl⟩
theorem size_any (n : Int) (w : World) (hn : I64 n) : Calls Tryz.prog 160 #[.int .i64 n] w fun e w' => e = .returned (.int .u64 (n.natAbs : Nat)) ∧ w = w' := by
  by_cases h0 : 0 ≤ n
  · exact size_pos n w hn h0
  · exact size_neg n w hn (by omega)

def SureP (n d : Int) : Prop := 1 ≤ d ∧ n ≠ -9223372036854775808 ∧ Nat.gcd n.natAbs d.toNat = 1
/-- May a fraction be, and is it not over? -/
noncomputable def sureB (n d : Int) : Bool := @decide (SureP n d) (Classical.propDecidable _)
theorem sureB_yes {n d : Int} (h : SureP n d) : sureB n d = true := by unfold sureB; exact @decide_eq_true _ (Classical.propDecidable _) h
theorem sureB_no {n d : Int} (h : ¬ SureP n d) : sureB n d = false := by unfold sureB; exact @decide_eq_false _ (Classical.propDecidable _) h
def ratBlk (n d : Int) : Obj := .cells #[.int .i64 n, .int .i64 d] 43 (0, 0)

theorem flip {P : Program} {f : FuncId} {args : Array Value} {w : World} {v : Ending} (h : Calls P f args w fun e w' => e = v ∧ w = w') : Calls P f args w fun e w' => e = v ∧ w' = w := h.mono fun _ _ ⟨a, b⟩ => ⟨a, b.symm⟩
theorem below_drewN {B : Nat} {a w : World} (h : Below B a w) (n : Nat) : Below B a (w.drewN n) := ⟨h.os, h.tape, h.output, h.size, h.block⟩
theorem sureB_eq {n : Int} {D : Nat} (h1 : 1 ≤ (D : Int)) (h2 : n ≠ -9223372036854775808) : (((Nat.gcd n.natAbs D : Nat) : Int) == 1) = sureB n D := by
  by_cases h : Nat.gcd n.natAbs D = 1
  · rw [sureB_yes ⟨h1, h2, by simpa using h⟩, h]; rfl
  · rw [sureB_no fun k => h (by simpa using k.2.2)]
    simp; omega
theorem natAbs_le {n : Int} (h : I64 n) : n.natAbs ≤ 18446744073709551615 := by unfold I64 at h; omega
set_option maxRecDepth 100000 in
set_option maxHeartbeats 2000000 in
/-- rat.sure. -/
theorem sure_any (n d : Int) (w : World) (hn : I64 n) (hd : I64 d) : Calls Tryz.prog 103 #[.agg #[.int .i64 n, .int .i64 d]] w fun e w' => e = .returned (.bool (sureB n d)) ∧ Below w.heap.size w w' := by
  by_cases h1 : d < 1
  · have HS := Lib.hid (sureB_no (n := n) (d := d) fun h => by have := h.1; omega)
    have q1 : decide (1 ≤ d) = false := by simp; omega
    clear hn hd
    go_enter Tryz.func103, Tryz.ntmps103
    go_wp2
    go_quiet (fail)
    go_wp2
    go_ret
    exact ⟨ret_bool HS.out.symm, below_drewN ((Below.refl _ _).alloc (Nat.le_refl _) _) _⟩
  obtain ⟨D, rfl⟩ := Int.eq_ofNat_of_zero_le (show 0 ≤ d by omega)
  have q1 : decide (1 ≤ (D : Int)) = true := by simp; omega
  by_cases h2 : n = -9223372036854775808
  · have HS := Lib.hid (sureB_no (n := n) (d := D) fun h => h.2.1 h2)
    have q2 : (n != -9223372036854775808) = false := by simpa using h2
    clear hn hd h2 h1
    go_enter Tryz.func103, Tryz.ntmps103
    go_wp2
    go_quiet (fail)
    go_wp2
    go_ret
    exact ⟨ret_bool HS.out.symm, below_drewN ((Below.refl _ _).alloc (Nat.le_refl _) _) _⟩
  have HS := Lib.hid (sureB_eq (n := n) (D := D) (by omega) h2)
  have q2 : (n != -9223372036854775808) = true := by simpa using h2
  have HA := Lib.hid (natAbs_le hn)
  have HN := Lib.hid hn
  have HD := Lib.hid (show D ≤ 18446744073709551615 by unfold I64 at hd; omega)
  have hw : IntKind.u64.wrap (D : Int) = D := wrap_u64_pos (by omega) hd
  clear hn hd h2 h1
  go_enter Tryz.func103, Tryz.ntmps103
  go_wp2
  go_quiet ((first | (go_at_call 160; exact Calls.quiet_of_same (flip (size_any _ _ HN.out))) | (go_at_call 159; exact Calls.quiet_of_same (flip (gcd_any _ _ _ HA.out HD.out)))))
  go_wp2
  go_ret
  exact ⟨ret_bool HS.out, below_drewN ((Below.refl _ _).alloc (Nat.le_refl _) _) _⟩
end Go.Proofs.YthbmnacleneflaaGreatDoor
/-
  Data in memory and what is done with them: rows of numbers, of pairs of texts, of elements; a row copied by append; a whole element loaded and stored. No condition of its own.
-/
set_option linter.unusedSimpArgs false
set_option linter.unusedVariables false
namespace Go.Proofs.YthbmnacleneflaaGreatDoor
open Go Go.RowKit

/-- A slice value with n elements over the cells cs, in a block below B. -/
def RowAt (B : Nat) (w : World) (v : Value) (n : Nat) (cs : List Value) : Prop :=
  ∃ a cap, v = .slice a n cap ∧ n ≤ cap ∧ cap ≤ maxLen ∧ ((n = 0 ∧ cs = [] ∧ (a = none → cap = 0)) ∨ (0 < n ∧ ∃ b off, a = some ⟨b, off, none⟩ ∧ b < B ∧ w.rangeAt b off cs))
theorem RowAt.mono {B B' : Nat} {w : World} {v : Value} {n : Nat} {cs : List Value} (h : RowAt B w v n cs) (hB : B ≤ B') : RowAt B' w v n cs := by
  obtain ⟨a, cap, h1, h2, h3, h4⟩ := h
  exact ⟨a, cap, h1, h2, h3, h4.imp id fun ⟨x, b, off, y1, y2, y3⟩ => ⟨x, b, off, y1, by omega, y3⟩⟩
theorem rangeAt_below {B : Nat} {w w' : World} (hb : Below B w w') {b off : Nat} {cs : List Value} (h : b < B) (hr : w.rangeAt b off cs) : w'.rangeAt b off cs := fun j v hv => by
  rw [(bcell hb).1 b (off + j) h]; exact hr j v hv
theorem RowAt.keep {B : Nat} {w w' : World} {v : Value} {n : Nat} {cs : List Value} (h : RowAt B w v n cs) (hb : Below B w w') : RowAt B w' v n cs := by
  obtain ⟨a, cap, h1, h2, h3, h4⟩ := h
  exact ⟨a, cap, h1, h2, h3, h4.imp id fun ⟨x, b, off, y1, y2, y3⟩ => ⟨x, b, off, y1, y2, rangeAt_below hb y2 y3⟩⟩
def intCells (l : List Int) : List Value := l.map (.int .i64)
def attrCells (l : List (ByteArray × ByteArray)) : List Value := l.flatMap fun p => [.string p.1, .string p.2]
theorem intCells_get {l : List Int} {i : Nat} (h : i < l.length) : (intCells l)[i]? = some (.int .i64 l[i]) := by
  unfold intCells
  rw [List.getElem?_map, List.getElem?_eq_getElem h]
  rfl
theorem attrCells_length (l : List (ByteArray × ByteArray)) : (attrCells l).length = l.length * 2 := by
  unfold attrCells
  induction l with
  | nil => rfl
  | cons a l ih => simp only [List.flatMap_cons, List.length_append, ih, List.length_cons, List.length_nil]; omega
theorem attrCells_get : ∀ (l : List (ByteArray × ByteArray)) (i : Nat) (h : i < l.length), (attrCells l)[i * 2]? = some (.string l[i].1) ∧ (attrCells l)[i * 2 + 1]? = some (.string l[i].2) := by
  intro l
  induction l with
  | nil => intro i h; simp at h
  | cons a l ih =>
    intro i h
    cases i with
    | zero => exact ⟨rfl, rfl⟩
    | succ i =>
      have := ih i (by simpa using h)
      have e : attrCells (a :: l) = .string a.1 :: .string a.2 :: attrCells l := rfl
      rw [e, show (i + 1) * 2 = i * 2 + 1 + 1 by omega, show i * 2 + 1 + 1 + 1 = (i * 2 + 1) + 1 + 1 by omega]
      simp only [List.getElem?_cons_succ, List.getElem_cons_succ]
      exact this
def IntsAt (B : Nat) (w : World) (v : Value) (l : List Int) : Prop := RowAt B w v l.length (intCells l)
def AttrsAt (B : Nat) (w : World) (v : Value) (l : List (ByteArray × ByteArray)) : Prop := RowAt B w v l.length (attrCells l)

/-- As RowAt, the block not below A. -/
def RowFrom (A B : Nat) (w : World) (v : Value) (n : Nat) (cs : List Value) : Prop :=
  ∃ a cap, v = .slice a n cap ∧ n ≤ cap ∧ cap ≤ maxLen ∧ ((n = 0 ∧ cs = [] ∧ (a = none → cap = 0)) ∨ (0 < n ∧ ∃ b off, a = some ⟨b, off, none⟩ ∧ A ≤ b ∧ b < B ∧ w.rangeAt b off cs))
theorem RowFrom.at_ {A B : Nat} {w : World} {v : Value} {n : Nat} {cs : List Value} (h : RowFrom A B w v n cs) : RowAt B w v n cs := by
  obtain ⟨a, cap, h1, h2, h3, h4⟩ := h
  exact ⟨a, cap, h1, h2, h3, h4.imp id fun ⟨x, b, off, y1, _, y2, y3⟩ => ⟨x, b, off, y1, y2, y3⟩⟩
theorem RowFrom.mono {A A' B B' : Nat} {w : World} {v : Value} {n : Nat} {cs : List Value} (h : RowFrom A B w v n cs) (hA : A' ≤ A) (hB : B ≤ B') : RowFrom A' B' w v n cs := by
  obtain ⟨a, cap, h1, h2, h3, h4⟩ := h
  exact ⟨a, cap, h1, h2, h3, h4.imp id fun ⟨x, b, off, y1, y0, y2, y3⟩ => ⟨x, b, off, y1, by omega, by omega, y3⟩⟩
theorem cell_of_same {w w' : World} {b : Nat} (hb : w'.heap[b]? = w.heap[b]?) (hlt : b < w.heap.size) (off : Nat) : w'.cell? ⟨b, off, none⟩ = w.cell? ⟨b, off, none⟩ := World.cell?_of_block hb
theorem RowFrom.keep {A B : Nat} {w w' : World} {v : Value} {n : Nat} {cs : List Value} (h : RowFrom A B w v n cs) (hb : ∀ b, A ≤ b → b < B → w'.heap[b]? = w.heap[b]?) : RowFrom A B w' v n cs := by
  obtain ⟨a, cap, h1, h2, h3, h4⟩ := h
  exact ⟨a, cap, h1, h2, h3, h4.imp id fun ⟨x, b, off, y1, y0, y2, y3⟩ => ⟨x, b, off, y1, y0, y2, fun j v hv => (World.cell?_of_block (hb b y0 y2)).trans (y3 j v hv)⟩⟩
theorem RowFrom.keep_below {A B C : Nat} {w w' : World} {v : Value} {n : Nat} {cs : List Value} (h : RowFrom A B w v n cs) (hb : Below C w w') (hC : B ≤ C) : RowFrom A B w' v n cs := h.keep fun b _ h2 => hb.block b (by omega)
/-- What a row of the call's own is, is a row. -/
theorem RowFrom.of_own {w : World} {base : Nat} {e : TypeId} {size : Nat} {v : Value} {n : Nat} {xs : List Value} (h : w.ownsRow base e size v n xs) (hsz : 0 < size) : RowFrom base w.heap.size w v n xs := by
  obtain ⟨hl, h | ⟨g, cap, cur, rfl, hg, hb, hn, hm, hs, ht⟩⟩ := h
  · obtain ⟨rfl, rfl⟩ := h
    exact ⟨none, 0, rfl, Nat.le_refl _, Nat.zero_le _, .inl ⟨rfl, List.eq_nil_of_length_eq_zero (by simpa using hl), fun _ => rfl⟩⟩
  · refine ⟨_, cap, rfl, hn, hm, ?_⟩
    by_cases h0 : n = 0
    · subst h0
      exact .inl ⟨rfl, List.eq_nil_of_length_eq_zero (by simpa using hl), fun e => by cases e⟩
    · refine .inr ⟨by omega, g, 0, rfl, by omega, (Array.getElem?_eq_some_iff.1 hb).1, fun j u hu => ?_⟩
      have hj : j < xs.length := (List.getElem?_eq_some_iff.1 hu).1
      rw [cell_of_row w g (0 + j) cur e (0, 0) hb, Nat.zero_add, ← hu, ← ht, List.getElem?_take]
      rw [if_pos (by rw [← hl]; exact hj), Array.getElem?_toList]
def IntsFrom (A B : Nat) (w : World) (v : Value) (l : List Int) : Prop := RowFrom A B w v l.length (intCells l)
def AttrsFrom (A B : Nat) (w : World) (v : Value) (l : List (ByteArray × ByteArray)) : Prop := RowFrom A B w v l.length (attrCells l)
theorem IntsFrom.at_ {A B : Nat} {w : World} {v : Value} {l : List Int} (h : IntsFrom A B w v l) : IntsAt B w v l := RowFrom.at_ h
theorem AttrsFrom.at_ {A B : Nat} {w : World} {v : Value} {l : List (ByteArray × ByteArray)} (h : AttrsFrom A B w v l) : AttrsAt B w v l := RowFrom.at_ h

section
variable {P : Program} {t e : TypeId} {i : TypeInfo} {z : Value} {size bytes : Nat}
/-- append(dst, src...): dst the call's own or nil. -/
theorem append_row (ht : P.underlying t = some (.slice e)) (hi : P.info? e = some i) (hz : i.zero = some z) (hsize : i.size = size) (hby : i.bytes = bytes) (hzs : z.cells.size = size) (hsz : 0 < size)
    {w : World} {base B : Nat} {d v : Value} {n m : Nat} {xs cs : List Value} (hd : w.ownsRow base e size d n xs) (hbase : base ≤ w.heap.size) (h : RowAt B w v m cs) (hl : cs.length = m * size) (hone : ∀ u ∈ cs, u.oneCell' = true) (h63 : n + m ≤ maxLen) (hbytes : (n + m) * bytes ≤ 140737488355328) (ty : TypeId) :
    ∃ v' w', (Builtin.append_ #[t, t] ty #[d, v]).run P w = .ok v' w' ∧ w'.ownsRow base e size v' (n + m) (xs ++ cs) ∧ w.grownBy w' d.ownBlock := by
  obtain ⟨a, cap, rfl, _, _, hh⟩ := h
  cases a with
  | none =>
    rcases hh with ⟨rfl, rfl, hc⟩ | ⟨_, b, off, e, _⟩
    · have hc0 := hc rfl
      subst hc0
      refine ⟨d, w, run_append_owned_none (P := P) (w := w) base t ty e i size ht hi d n xs hd, by simpa using hd, ⟨rfl, rfl, rfl, Nat.le_refl _, fun _ _ _ => rfl⟩⟩
    · cases e
  | some a =>
    have hcell : ∀ j u, cs[j]? = some u → w.cell? (a.add j) = some u := by
      rcases hh with ⟨rfl, rfl, _⟩ | ⟨_, b, off, e, _, hr⟩
      · intro j u hu; simp at hu
      · intro j u hu
        obtain rfl := Option.some.inj e
        rw [Addr.add_mid]
        exact hr j u hu
    obtain ⟨v', w', h1, h2, h3, _⟩ := run_append_own (P := P) w base t ty e i z size bytes ht hi hz hsize hby hzs hsz d n xs hd a m cap cs hl hcell hone h63 hbytes hbase
    exact ⟨v', w', h1, h2, h3⟩
/-- append([]T(nil), src...). -/
theorem append_copy (ht : P.underlying t = some (.slice e)) (hi : P.info? e = some i) (hz : i.zero = some z) (hsize : i.size = size) (hby : i.bytes = bytes) (hzs : z.cells.size = size) (hsz : 0 < size)
    {w : World} {B : Nat} {v : Value} {m : Nat} {cs : List Value} (h : RowAt B w v m cs) (hl : cs.length = m * size) (hone : ∀ u ∈ cs, u.oneCell' = true) (hbytes : m * bytes ≤ 140737488355328) (ty : TypeId) :
    ∃ v' w', (Builtin.append_ #[t, t] ty #[.slice none 0 0, v]).run P w = .ok v' w' ∧ RowFrom w.heap.size w'.heap.size w' v' m cs ∧ Below w.heap.size w w' := by
  have hm : m ≤ maxLen := by obtain ⟨_, _, _, h1, h2, _⟩ := h; omega
  obtain ⟨v', w', h1, h2, h3⟩ := append_row ht hi hz hsize hby hzs hsz (World.ownsRow_nil w w.heap.size e size) (Nat.le_refl _) h hl hone (by simpa using hm) (by simpa using hbytes) ty
  refine ⟨v', w', h1, ?_, ⟨h3.os, h3.tape, h3.output, h3.size, fun k hk => h3.block k hk (by simp [Value.ownBlock])⟩⟩
  have := RowFrom.of_own h2 hsz
  simpa using this
end

theorem info3 : (Tryz.prog.info? 3).map (fun i => (i.zero, i.size, i.bytes)) = some (some (.int .i64 0), 1, 8) := by kernel_rfl
theorem info81 : (Tryz.prog.info? 81).map (fun i => (i.zero, i.size, i.bytes)) = some (some (.agg #[.string ⟨#[]⟩, .string ⟨#[]⟩]), 2, 32) := by kernel_rfl
theorem size47 : (Tryz.prog.info? 47).map (·.size) = some 11 := by kernel_rfl
theorem one_ints (l : List Int) : ∀ u ∈ intCells l, u.oneCell' = true := by
  intro u hu
  obtain ⟨x, _, rfl⟩ := List.mem_map.1 hu
  rfl
theorem one_attrs (l : List (ByteArray × ByteArray)) : ∀ u ∈ attrCells l, u.oneCell' = true := by
  intro u hu
  obtain ⟨x, _, hx⟩ := List.mem_flatMap.1 hu
  simp only [List.mem_cons, List.not_mem_nil, or_false] at hx
  rcases hx with rfl | rfl <;> rfl
theorem copy_ints {w : World} {B : Nat} {v : Value} {l : List Int} (h : IntsAt B w v l) (hl : l.length * 8 ≤ 140737488355328) : ∃ v' w', (Builtin.append_ #[23, 23] 23 #[.slice none 0 0, v]).run Tryz.prog w = .ok v' w' ∧ IntsFrom w.heap.size w'.heap.size w' v' l ∧ Below w.heap.size w w' := by
  obtain ⟨i, hi, hz, hs, hb⟩ := info_parts info3
  exact append_copy Tryz.underlying23 hi hz hs hb rfl (by decide) h (by simp [intCells]) (one_ints l) hl 23
theorem copy_attrs {w : World} {B : Nat} {v : Value} {l : List (ByteArray × ByteArray)} (h : AttrsAt B w v l) (hl : l.length * 32 ≤ 140737488355328) : ∃ v' w', (Builtin.append_ #[41, 41] 41 #[.slice none 0 0, v]).run Tryz.prog w = .ok v' w' ∧ AttrsFrom w.heap.size w'.heap.size w' v' l ∧ Below w.heap.size w w' := by
  obtain ⟨i, hi, hz, hs, hb⟩ := info_parts info81
  exact append_copy Tryz.underlying41 hi hz hs hb rfl (by decide) h (attrCells_length l) (one_attrs l) hl 41
end Go.Proofs.YthbmnacleneflaaGreatDoor
/-
  The map of the elements in memory, by numbers, to the elements' blocks: what looking up, laying in, counting and ranging do. Condition: the numbers are of int's kind.
-/
set_option linter.unusedSimpArgs false
set_option linter.unusedVariables false
namespace Go.Proofs.YthbmnacleneflaaGreatDoor
open Go Go.RowKit

/-- How an element of the map reads: the number of the block that it points to. -/
def ptrE (v : Value) : Option (DataW Unit × List MemPlace) := match v with
  | .pointer none => some (.nil, [])
  | .pointer (some ⟨b, 0, none⟩) => some (.lit (.int .i64 (b : Int)), [])
  | _ => none
theorem ptrE_nil {v : Value} {ps : List MemPlace} (h : ptrE v = some (.nil, ps)) : v = .pointer none := by
  unfold ptrE at h
  split at h
  · rfl
  · cases h
  · cases h
theorem ptrE_at {v : Value} {b : Nat} {ps : List MemPlace} (h : ptrE v = some (.lit (.int .i64 (b : Int)), ps)) : v = .pointer (some ⟨b, 0, none⟩) := by
  unfold ptrE at h
  split at h
  · cases h
  · rename_i c
    simp only [Option.some.injEq, Prod.mk.injEq, DataW.lit.injEq, Lit.int.injEq, true_and] at h
    have : c = b := by omega
    rw [this]
  · cases h
theorem isKL {x : Int} : WideAt.IsKeyLit (.int .i64 x) := by unfold WideAt.IsKeyLit; trivial
theorem nodup_of_fst : ∀ {l : List (Int × Nat)}, (l.map (·.1)).Nodup → l.Nodup
  | [], _ => List.nodup_nil
  | p :: l, h => by
    rw [List.map_cons, List.nodup_cons] at h
    exact List.nodup_cons.2 ⟨fun hm => h.1 (List.mem_map_of_mem hm), nodup_of_fst h.2⟩
theorem eq_of_fst : ∀ {l : List (Int × Nat)}, (l.map (·.1)).Nodup → ∀ {p q}, p ∈ l → q ∈ l → p.1 = q.1 → p = q
  | [], _, _, _, h, _, _ => by cases h
  | a :: l, h, p, q, hp, hq, e => by
    rw [List.map_cons, List.nodup_cons] at h
    rcases List.mem_cons.1 hp with h1 | h1
    · rcases List.mem_cons.1 hq with h2 | h2
      · rw [h1, h2]
      · exact absurd (show a.1 ∈ l.map (·.1) by rw [← h1, e]; exact List.mem_map_of_mem (f := (·.1)) h2) h.1
    · rcases List.mem_cons.1 hq with h2 | h2
      · exact absurd (show a.1 ∈ l.map (·.1) by rw [← h2, ← e]; exact List.mem_map_of_mem (f := (·.1)) h1) h.1
      · exact eq_of_fst h.2 h1 h2 e
theorem keyed : Maps.Keyed Tryz.prog 3 := Maps.int_keyed Tryz.underlying3
abbrev KL (x : Int) : Lit := .int .i64 x
theorem wf_i64 {x : Int} (h : I64 x) : (KL x).wf = true := by unfold I64 at h; simp [Lit.wf, IntKind.min, IntKind.max, IntKind.signed, IntKind.bits]; omega
theorem keyOf_ok {x : Int} (h : I64 x) : keyOf Tryz.prog 3 (.int .i64 x) = some (KL x) := Maps.keyOf_int_mk Tryz.underlying3 (wf_i64 h)
theorem zero54 (w : World) : (zeroValue 54).run Tryz.prog w = .ok (.pointer none) w := by kernel_rfl

/-- What a datum says of the map of the elements f. -/
structure Reads (D : DataW Unit) (f : List (Int × Nat)) : Prop where
  size : Maps.size D = f.length
  at_ : ∀ x b, (x, b) ∈ f → ∀ z, D.atKey (KL x) z = .lit (.int .i64 (b : Int))
  has : ∀ kl, Maps.has D kl = true ↔ ∃ p ∈ f, kl = KL p.1
structure MapIs (w : World) (B : Nat) (f : List (Int × Nat)) : Prop where
  own : ∃ D, w.ownsMap Tryz.prog 3 ptrE B f.length D ∧ Reads D f
  keys : (f.map (·.1)).Nodup
  wf : ∀ p ∈ f, I64 p.1

theorem MapIs.made (w : World) : MapIs (w.alloc (.map #[] 0)) w.heap.size [] :=
  ⟨⟨_, World.ownsMap_made w Tryz.prog 3 ptrE, ⟨rfl, fun x b h => (by cases h), fun kl => ⟨fun h => (by cases h), fun ⟨p, h, _⟩ => (by cases h)⟩⟩⟩, List.nodup_nil, fun p h => by cases h⟩
theorem MapIs.lt {w : World} {B : Nat} {f : List (Int × Nat)} (h : MapIs w B f) : B < w.heap.size := by obtain ⟨D, h1, _⟩ := h.own; exact h1.lt
theorem MapIs.kept {w w' : World} {B : Nat} {f : List (Int × Nat)} (h : MapIs w B f) (hb : w'.heap[B]? = w.heap[B]?) : MapIs w' B f := by
  obtain ⟨D, ⟨es, clock, h1, h2⟩, hr⟩ := h.own
  exact ⟨⟨D, ⟨es, clock, hb.trans h1, h2⟩, hr⟩, h.keys, h.wf⟩
theorem MapIs.below {w w' : World} {B C : Nat} {f : List (Int × Nat)} (h : MapIs w B f) (hb : Below C w w') (hc : B < C) : MapIs w' B f := h.kept (hb.block B hc)

theorem MapIs.look_some {w : World} {B : Nat} {f : List (Int × Nat)} (h : MapIs w B f) {x : Int} {b : Nat} (hx : (x, b) ∈ f) : (Instr.lookup 49 (.map (some B)) (.int .i64 x) false).run Tryz.prog w = .ok (.pointer (some ⟨b, 0, none⟩)) w := by
  obtain ⟨D, h1, hr⟩ := h.own
  obtain ⟨v, ps, hrun, hv⟩ := h1.lookup keyed Tryz.underlying49 (zero54 w) (zd := .nil) (zp := []) rfl (keyOf_ok (h.wf _ hx))
  rw [hr.at_ x b hx] at hv
  rw [hrun, ptrE_at hv]
theorem MapIs.look_none {w : World} {B : Nat} {f : List (Int × Nat)} (h : MapIs w B f) {x : Int} (hi : I64 x) (hx : x ∉ f.map (·.1)) : (Instr.lookup 49 (.map (some B)) (.int .i64 x) false).run Tryz.prog w = .ok (.pointer none) w := by
  obtain ⟨D, h1, hr⟩ := h.own
  obtain ⟨v, ps, hrun, hv⟩ := h1.lookup keyed Tryz.underlying49 (zero54 w) (zd := .nil) (zp := []) rfl (keyOf_ok hi)
  have hno : Maps.has D (KL x) = false := by
    cases hh : Maps.has D (KL x) with
    | false => rfl
    | true =>
      obtain ⟨p, hp, e⟩ := (hr.has _).1 hh
      simp only [KL, Lit.int.injEq, true_and] at e
      exact absurd (e ▸ List.mem_map_of_mem (f := (·.1)) hp) hx
  rw [Maps.atKey_of_not_has hno] at hv
  rw [hrun, ptrE_nil hv]
theorem MapIs.len {w : World} {B : Nat} {f : List (Int × Nat)} (h : MapIs w B f) (ty : TypeId) : (Builtin.len_ #[49] ty #[.map (some B)]).run Tryz.prog w = .ok (.int .i64 f.length) w := by
  obtain ⟨D, h1, hr⟩ := h.own
  rw [h1.len Tryz.underlying49 ty, hr.size]
theorem reads_put {D : DataW Unit} {f : List (Int × Nat)} {x : Int} {b : Nat} (h : Reads D f) (ht : Maps.Tidy D) (hx : x ∉ f.map (·.1)) : Reads (D.put (KL x) (.lit (.int .i64 (b : Int)))) (f ++ [(x, b)]) := by
  have hno : Maps.has D (KL x) = false := by
    cases hh : Maps.has D (KL x) with
    | false => rfl
    | true =>
      obtain ⟨p, hp, e⟩ := (h.has _).1 hh
      simp only [KL, Lit.int.injEq, true_and] at e
      exact absurd (e ▸ List.mem_map_of_mem (f := (·.1)) hp) hx
  refine ⟨?_, ?_, ?_⟩
  · rw [Maps.size_put ht, hno, h.size]; simp
  · intro y c hy z
    rcases List.mem_append.1 hy with hy | hy
    · have hne : KL y ≠ KL x := fun e => by
        simp only [KL, Lit.int.injEq, true_and] at e
        exact hx (e ▸ List.mem_map_of_mem (f := (·.1)) hy)
      rw [Maps.atKey_put_other hne]
      exact h.at_ y c hy z
    · simp only [List.mem_singleton, Prod.mk.injEq] at hy
      obtain ⟨rfl, rfl⟩ := hy
      exact Maps.atKey_put_same ht.isMap isKL _ _
  · intro kl
    by_cases e : kl = KL x
    · subst e
      rw [Maps.has_put_same ht.isMap isKL]
      exact ⟨fun _ => ⟨(x, b), by simp, rfl⟩, fun _ => rfl⟩
    · rw [Maps.has_put_other e, h.has]
      constructor
      · rintro ⟨p, hp, rfl⟩; exact ⟨p, List.mem_append_left _ hp, rfl⟩
      · rintro ⟨p, hp, rfl⟩
        rcases List.mem_append.1 hp with hp | hp
        · exact ⟨p, hp, rfl⟩
        · simp only [List.mem_singleton] at hp; subst hp; exact absurd rfl e
/-- A new element is laid in. -/
theorem MapIs.put {w : World} {B : Nat} {f : List (Int × Nat)} (h : MapIs w B f) {x : Int} {b : Nat} (hi : I64 x) (hx : x ∉ f.map (·.1)) (hl : f.length < 1000000) :
    ∃ w', (Instr.mapUpdate 49 (.map (some B)) (.int .i64 x) (.pointer (some ⟨b, 0, none⟩))).run Tryz.prog w = .ok () w' ∧ MapIs w' B (f ++ [(x, b)]) ∧ w.grownBy w' (some B) := by
  obtain ⟨D, h1, hr⟩ := h.own
  obtain ⟨w', hrun, h2, h3⟩ := h1.update keyed Tryz.underlying49 (by unfold maxLen; omega) (keyOf_ok hi) (val := .pointer (some ⟨b, 0, none⟩)) (d := .lit (.int .i64 (b : Int))) (ps := []) rfl
  refine ⟨w', hrun, ⟨⟨_, by simpa using h2, reads_put hr (h1.tidy keyed) hx⟩, ?_, ?_⟩, h3⟩
  · rw [List.map_append, List.nodup_append]
    refine ⟨h.keys, by simp, ?_⟩
    intro a ha c hc e
    simp only [List.map_cons, List.map_nil, List.mem_singleton] at hc
    exact hx (by rw [← hc, ← e]; exact ha)
  · intro p hp
    rcases List.mem_append.1 hp with hp | hp
    · exact h.wf p hp
    · simp only [List.mem_singleton] at hp; subst hp; exact hi

/-- A range over the map under way: what is still to come. -/
def RangeIs (w : World) (B r : Nat) (f rest : List (Int × Nat)) (cnt : Nat) : Prop :=
  ∃ D left, Reads D f ∧ w.ranges Tryz.prog 3 ptrE B r f.length D left cnt ∧ (∀ kl, left kl = true ↔ ∃ p ∈ rest, kl = KL p.1) ∧ (∀ p ∈ rest, p ∈ f) ∧ (rest.map (·.1)).Nodup
theorem RangeIs.left {w : World} {B r : Nat} {f rest : List (Int × Nat)} {cnt : Nat} (h : RangeIs w B r f rest cnt) : w.rangeLeft B r = cnt := by
  obtain ⟨D, left, _, h2, _⟩ := h; exact h2.left_eq
theorem RangeIs.kept {w w' : World} {B r : Nat} {f rest : List (Int × Nat)} {cnt : Nat} (h : RangeIs w B r f rest cnt) (hB : w'.heap[B]? = w.heap[B]?) (hr : w'.heap[r]? = w.heap[r]?) : RangeIs w' B r f rest cnt := by
  obtain ⟨D, left, h1, ⟨es, clock, since, seen, c0, g1, g2, g3, g4, g5, g6⟩, h3⟩ := h
  exact ⟨D, left, h1, ⟨es, clock, since, seen, c0, hB.trans g1, g2, g3, g4, hr.trans g5, g6⟩, h3⟩
theorem RangeIs.lt {w : World} {B r : Nat} {f rest : List (Int × Nat)} {cnt : Nat} (h : RangeIs w B r f rest cnt) : B < w.heap.size ∧ r < w.heap.size ∧ r ≠ B := by
  obtain ⟨D, left, _, h2, _⟩ := h; exact ⟨h2.owns.lt, h2.lt, h2.ne⟩
theorem MapIs.range {w : World} {B : Nat} {f : List (Int × Nat)} (h : MapIs w B f) : ∃ w', (Instr.range 49 (.map (some B))).run Tryz.prog w = .ok (.pointer (some ⟨w.heap.size, 0, none⟩)) w' ∧ RangeIs w' B w.heap.size f f f.length ∧ w.grownBy w' none ∧ w'.heap.size = w.heap.size + 1 := by
  obtain ⟨D, h1, hr⟩ := h.own
  obtain ⟨w', hrun, h2, h3, h4⟩ := h1.range keyed Tryz.underlying49
  exact ⟨w', hrun, ⟨D, Maps.has D, hr, (by rw [← hr.size] at h2 ⊢; exact h2), hr.has, fun p hp => hp, h.keys⟩, h3, h4⟩
theorem RangeIs.next {w : World} {B r : Nat} {f rest : List (Int × Nat)} {cnt : Nat} (h : RangeIs w B r f rest cnt) (ty : TypeId) :
    (rest = [] ∧ (Instr.next (.pointer (some ⟨r, 0, none⟩)) false ty).run Tryz.prog w = .ok (.tuple #[.bool false]) w) ∨
    ∃ x b w' cnt', (x, b) ∈ rest ∧ (Instr.next (.pointer (some ⟨r, 0, none⟩)) false ty).run Tryz.prog w = .ok (.tuple #[.bool true, .int .i64 x, .pointer (some ⟨b, 0, none⟩)]) w' ∧ RangeIs w' B r f (rest.erase (x, b)) cnt' ∧ cnt' < cnt ∧
      w.grownBy w' (some r) ∧ w'.heap.size = w.heap.size ∧ (Instr.entry (.pointer (some ⟨r, 0, none⟩))).run Tryz.prog w' = .ok (.tuple #[.int .i64 x, .pointer (some ⟨b, 0, none⟩)]) w' := by
  obtain ⟨D, left, hr, h2, hl, hf, hn⟩ := h
  rcases h2.next keyed ty with ⟨h0, hk, hrun⟩ | ⟨key, v, kl, y, w', cnt', hkey, hlk, hv, hat, hrun, hrg, hlt, hgr, hsz, hen⟩
  · refine .inl ⟨?_, hrun⟩
    cases rest with
    | nil => rfl
    | cons p l =>
      have := (hl (KL p.1)).2 ⟨p, List.mem_cons_self, rfl⟩
      rw [hk] at this
      cases this
  · obtain ⟨⟨x, b⟩, hp, rfl⟩ := (hl kl).1 hlk
    obtain ⟨x', rfl, e, _⟩ := Maps.keyOf_int_inv Tryz.underlying3 hkey
    simp only [KL, Lit.int.injEq, true_and] at e
    subst e
    have hd := hr.at_ x b (hf _ hp)
    have e2 : y = (.lit (.int .i64 (b : Int)), y.2) := Prod.ext ((hat .nil).symm.trans (hd .nil)) rfl
    rw [e2] at hv
    obtain rfl := ptrE_at hv
    have hnd : rest.Nodup := nodup_of_fst hn
    refine .inr ⟨x, b, w', cnt', hp, hrun, ⟨D, _, hr, hrg, fun kl => ?_, fun p hp => hf p (List.mem_of_mem_erase hp), hn.sublist (List.erase_sublist.map _)⟩, hlt, hgr, hsz, hen⟩
    simp only [Bool.and_eq_true, Bool.not_eq_true', hl]
    constructor
    · rintro ⟨⟨p, hp', rfl⟩, hs⟩
      refine ⟨p, (List.mem_erase_of_ne fun e => ?_).2 hp', rfl⟩
      subst e
      have := WideAt.sameKey_self (a := KL x) isKL
      rw [hs] at this
      cases this
    · rintro ⟨p, hp', rfl⟩
      have hm := List.mem_of_mem_erase hp'
      refine ⟨⟨p, hm, rfl⟩, Maps.sameKey_ne fun e => ?_⟩
      simp only [KL, Lit.int.injEq, true_and] at e
      have : p = (x, b) := by
        exact eq_of_fst hn hm hp e
      subst this
      exact (List.Nodup.not_mem_erase hnd) hp'
end Go.Proofs.YthbmnacleneflaaGreatDoor
/-
  Maps of the calls' own, at the walk's operations: the elements by numbers; how often each number was met; sets of numbers. Condition: the numbers are of int's kind.
-/
set_option linter.unusedSimpArgs false
set_option linter.unusedVariables false
namespace Go.Proofs.YthbmnacleneflaaGreatDoor
open Go Go.RowKit

section
variable {ops : Array Oper} {rest : List Oper} {o : Oper} {a : Act} {Q : Exit → Act → World → Prop} {w : World} {B : Nat} {f : List (Int × Nat)}
/-- t.all[k], k any number. -/
theorem wpl_el_look (hg : o.guard = none) (m x : Operand) (hop : o.op = Op.lookup 49 m x false) (hm : a.eval m = .map (some B)) (h : MapIs w B f) (k : Int) (hx : a.eval x = .int .i64 k) (hi : I64 k)
    (hS : ∀ b, (k, b) ∈ f → wpList Tryz.prog ops Q rest (a.put o.dst (.pointer (some ⟨b, 0, none⟩))) w) (hN : k ∉ f.map (·.1) → wpList Tryz.prog ops Q rest (a.put o.dst (.pointer none)) w) : wpList Tryz.prog ops Q (o :: rest) a w := by
  refine wpList_plain hg fun K' hK' => ?_
  unfold Oper.wp
  by_cases hk : k ∈ f.map (·.1)
  · obtain ⟨⟨k', b⟩, hp, rfl⟩ := List.mem_map.1 hk
    simp [execOp, hop, hm, hx, h.look_some hp, Result.andThen]
    exact hK' _ _ (hS b hp)
  · simp [execOp, hop, hm, hx, h.look_none hi hk, Result.andThen]
    exact hK' _ _ (hN hk)
/-- t.all[k], k there. -/
theorem wpl_el_look_at (hg : o.guard = none) (m x : Operand) (hop : o.op = Op.lookup 49 m x false) (hm : a.eval m = .map (some B)) (h : MapIs w B f) (k : Int) (hx : a.eval x = .int .i64 k) (b : Nat) (hp : (k, b) ∈ f)
    (hS : wpList Tryz.prog ops Q rest (a.put o.dst (.pointer (some ⟨b, 0, none⟩))) w) : wpList Tryz.prog ops Q (o :: rest) a w := by
  refine wpList_plain hg fun K' hK' => ?_
  unfold Oper.wp
  simp [execOp, hop, hm, hx, h.look_some hp, Result.andThen]
  exact hK' _ _ hS
theorem wpl_el_look_no (hg : o.guard = none) (m x : Operand) (hop : o.op = Op.lookup 49 m x false) (hm : a.eval m = .map (some B)) (h : MapIs w B f) (k : Int) (hx : a.eval x = .int .i64 k) (hi : I64 k) (hk : k ∉ f.map (·.1))
    (hN : wpList Tryz.prog ops Q rest (a.put o.dst (.pointer none)) w) : wpList Tryz.prog ops Q (o :: rest) a w := by
  refine wpList_plain hg fun K' hK' => ?_
  unfold Oper.wp
  simp [execOp, hop, hm, hx, h.look_none hi hk, Result.andThen]
  exact hK' _ _ hN
/-- t.all[k] = p, k not there. -/
theorem wpl_el_put (hg : o.guard = none) (m x v : Operand) (hop : o.op = Op.mapUpdate 49 m x v) (hm : a.eval m = .map (some B)) (h : MapIs w B f) (k : Int) (hx : a.eval x = .int .i64 k) (b : Nat) (hv : a.eval v = .pointer (some ⟨b, 0, none⟩)) (hi : I64 k) (hk : k ∉ f.map (·.1)) (hl : f.length < 1000000)
    (hS : ∀ w', MapIs w' B (f ++ [(k, b)]) → w.grownBy w' (some B) → wpList Tryz.prog ops Q rest (a.put o.dst undef) w') : wpList Tryz.prog ops Q (o :: rest) a w := by
  refine wpList_plain hg fun K' hK' => ?_
  obtain ⟨w', hrun, h1, h2⟩ := h.put hi hk hl (b := b)
  unfold Oper.wp
  simp [execOp, hop, hm, hx, hv, hrun, Result.andThen]
  exact hK' _ _ (hS w' h1 h2)
theorem wpl_el_len (hg : o.guard = none) (m : Operand) (hop : o.op = Op.call { callee := Callee.builtin Builtin.len, args := #[m], argTypes := #[49] }) (hm : a.eval m = .map (some B)) (h : MapIs w B f)
    (hS : wpList Tryz.prog ops Q rest (a.put o.dst (.int .i64 f.length)) w) : wpList Tryz.prog ops Q (o :: rest) a w := by
  refine wpList_plain hg fun K' hK' => ?_
  unfold Oper.wp
  simp [execOp, hop, hm, resolve, invoke, builtin, h.len, Result.andThen]
  exact hK' _ _ hS
theorem wpl_el_range (hg : o.guard = none) (m : Operand) (hop : o.op = Op.range 49 m) (hm : a.eval m = .map (some B)) (h : MapIs w B f)
    (hS : ∀ w', RangeIs w' B w.heap.size f f f.length → w.grownBy w' none → w'.heap.size = w.heap.size + 1 → wpList Tryz.prog ops Q rest (a.put o.dst (.pointer (some ⟨w.heap.size, 0, none⟩))) w') : wpList Tryz.prog ops Q (o :: rest) a w := by
  refine wpList_plain hg fun K' hK' => ?_
  obtain ⟨w', hrun, h1, h2, h3⟩ := h.range
  unfold Oper.wp
  simp [execOp, hop, hm, hrun, Result.andThen]
  exact hK' _ _ (hS w' h1 h2 h3)
theorem wpl_el_next {r cnt : Nat} {left : List (Int × Nat)} (hg : o.guard = none) (it : Operand) (hop : o.op = Op.next it false) (hit : a.eval it = .pointer (some ⟨r, 0, none⟩)) (h : RangeIs w B r f left cnt)
    (hDone : left = [] → wpList Tryz.prog ops Q rest (a.put o.dst (.tuple #[.bool false])) w)
    (hMore : ∀ (x : Int) (b : Nat) (w' : World) (cnt' : Nat), (x, b) ∈ left → RangeIs w' B r f (left.erase (x, b)) cnt' → cnt' < cnt → w.grownBy w' (some r) → w'.heap.size = w.heap.size →
      (Instr.entry (.pointer (some ⟨r, 0, none⟩))).run Tryz.prog w' = .ok (.tuple #[.int .i64 x, .pointer (some ⟨b, 0, none⟩)]) w' → wpList Tryz.prog ops Q rest (a.put o.dst (.tuple #[.bool true, .int .i64 x, .pointer (some ⟨b, 0, none⟩)])) w') :
    wpList Tryz.prog ops Q (o :: rest) a w := by
  refine wpList_plain hg fun K' hK' => ?_
  unfold Oper.wp
  rcases h.next o.type with ⟨h0, hrun⟩ | ⟨x, b, w', cnt', hx, hrun, h1, h2, h3, h4, h5⟩
  · simp [execOp, hop, hit, hrun, Result.andThen]
    exact hK' _ _ (hDone h0)
  · simp [execOp, hop, hit, hrun, Result.andThen]
    exact hK' _ _ (hMore x b w' cnt' hx h1 h2 h3 h4 h5)
end

/-- How often each number was met. -/
def MetIs (w : World) (B : Nat) (l : List Int) : Prop :=
  ∃ (D : DataW Unit) (n : Nat), w.ownsMap Tryz.prog 3 (plainElem Tryz.prog 3) B n D ∧ n ≤ l.length ∧ ∀ x, I64 x → D.atKey (KL x) (.lit (.int .i64 0)) = .lit (.int .i64 (l.count x : Nat))
theorem MetIs.kept {w w' : World} {B : Nat} {l : List Int} (h : MetIs w B l) (hb : w'.heap[B]? = w.heap[B]?) : MetIs w' B l := by
  obtain ⟨D, n, ⟨es, clock, h1, h2⟩, hr⟩ := h
  exact ⟨D, n, ⟨es, clock, hb.trans h1, h2⟩, hr⟩
theorem MetIs.made (w : World) : MetIs (w.alloc (.map #[] 0)) w.heap.size [] :=
  ⟨_, 0, World.ownsMap_made w Tryz.prog 3 _, Nat.le_refl _, fun x _ => rfl⟩
theorem zero3' (w : World) : (zeroValue 3).run Tryz.prog w = .ok (.int .i64 0) w := by kernel_rfl
theorem MetIs.look {w : World} {B : Nat} {l : List Int} (h : MetIs w B l) (k : Int) (hi : I64 k) (c : Nat) (hc : l.count k = c) : (Instr.lookup 82 (.map (some B)) (.int .i64 k) false).run Tryz.prog w = .ok (.int .i64 c) w := by
  obtain ⟨D, n, h1, h2, h3⟩ := h
  obtain ⟨c', hrun, hat, _⟩ := h1.lookup_int keyed Tryz.underlying82 Tryz.underlying3 (zero3' w) (keyOf_ok hi)
  rw [h3 k hi, hc] at hat
  simp only [DataW.lit.injEq, Lit.int.injEq, true_and] at hat
  rw [hrun, hat]
theorem MetIs.lt {w : World} {B : Nat} {l : List Int} (h : MetIs w B l) : B < w.heap.size := by obtain ⟨D, n, h1, _⟩ := h; exact h1.lt
theorem zero3 (w : World) : (zeroValue 3).run Tryz.prog w = .ok (.int .i64 0) w := by kernel_rfl
section
variable {ops : Array Oper} {rest : List Oper} {o : Oper} {a : Act} {Q : Exit → Act → World → Prop} {w : World} {B : Nat} {l : List Int}
theorem wpl_met_look (hg : o.guard = none) (m x : Operand) (hop : o.op = Op.lookup 82 m x false) (hm : a.eval m = .map (some B)) (h : MetIs w B l) (k : Int) (hx : a.eval x = .int .i64 k) (hi : I64 k) (c : Nat) (hc : l.count k = c)
    (hS : wpList Tryz.prog ops Q rest (a.put o.dst (.int .i64 c)) w) : wpList Tryz.prog ops Q (o :: rest) a w := by
  obtain ⟨D, n, h1, h2, h3⟩ := h
  refine wpList_lookup_own_int w hg m x 82 hop 3 3 .i64 keyed Tryz.underlying82 Tryz.underlying3 (zero3 w) B n D hm h1 _ _ hx (keyOf_ok hi) (fun c' hc' hw => ?_)
  rw [h3 k hi] at hc'
  simp only [DataW.lit.injEq, Lit.int.injEq, true_and] at hc'
  rw [← hc', hc]
  exact hS
theorem wpl_met_put (hg : o.guard = none) (m x v : Operand) (hop : o.op = Op.mapUpdate 82 m x v) (hm : a.eval m = .map (some B)) (h : MetIs w B l) (k : Int) (hx : a.eval x = .int .i64 k) (hi : I64 k) (c : Nat) (hc : l.count k = c) (hv : a.eval v = .int .i64 ((c : Int) + 1)) (hl : l.length < 1000000)
    (hS : ∀ w', MetIs w' B (l ++ [k]) → w.grownBy w' (some B) → wpList Tryz.prog ops Q rest (a.put o.dst undef) w') : wpList Tryz.prog ops Q (o :: rest) a w := by
  obtain ⟨D, n, h1, h2, h3⟩ := h
  subst hc
  have hc := List.count_le_length (a := k) (l := l)
  refine wpList_mapUpdate_own w hg m x v 82 hop 3 3 keyed Tryz.underlying82 _ B n D hm h1 (by unfold maxLen; omega) _ _ _ hx hv (keyOf_ok hi) _ [] (plainElem_int Tryz.underlying3 (wf_i64 (by unfold I64; omega))) (fun w' h1' hgr => hS w' ⟨_, _, h1', by simp; omega, fun y hy => ?_⟩ hgr)
  by_cases e : y = k
  · subst e
    rw [Maps.atKey_put_same (h1.isMap) isKL]
    simp
  · rw [Maps.atKey_put_other (fun h => e (by simpa using h)), h3 y hy]
    simp [List.count_append, List.count_singleton, Ne.symm e]
end

/-- A set of numbers. -/
def SetIs (w : World) (B : Nat) (n : Nat) (S : Int → Prop) : Prop :=
  ∃ D : DataW Unit, w.ownsMap Tryz.prog 3 unitElem B n D ∧ ∀ x, I64 x → (Maps.has D (KL x) = true ↔ S x)
theorem SetIs.kept {w w' : World} {B n : Nat} {S : Int → Prop} (h : SetIs w B n S) (hb : w'.heap[B]? = w.heap[B]?) : SetIs w' B n S := by
  obtain ⟨D, ⟨es, clock, h1, h2⟩, hr⟩ := h
  exact ⟨D, ⟨es, clock, hb.trans h1, h2⟩, hr⟩
theorem SetIs.made (w : World) : SetIs (w.alloc (.map #[] 0)) w.heap.size 0 (fun _ => False) :=
  ⟨_, World.ownsMap_made w Tryz.prog 3 _, fun x _ => ⟨fun h => (by cases h), fun h => h.elim⟩⟩
theorem SetIs.lt {w : World} {B n : Nat} {S : Int → Prop} (h : SetIs w B n S) : B < w.heap.size := by obtain ⟨D, h1, _⟩ := h; exact h1.lt
theorem SetIs.iff {w : World} {B n : Nat} {S S' : Int → Prop} (h : SetIs w B n S) (e : ∀ x, S x ↔ S' x) : SetIs w B n S' := by
  obtain ⟨D, h1, h2⟩ := h
  exact ⟨D, h1, fun x hx => (h2 x hx).trans (e x)⟩
theorem zero60 (w : World) : (zeroValue 60).run Tryz.prog w = .ok (.agg #[]) w := by kernel_rfl
section
variable {ops : Array Oper} {rest : List Oper} {o : Oper} {a : Act} {Q : Exit → Act → World → Prop} {w : World} {B n : Nat} {S : Int → Prop}
theorem wpl_set_look (hg : o.guard = none) (m x : Operand) (hop : o.op = Op.lookup 59 m x true) (hm : a.eval m = .map (some B)) (h : SetIs w B n S) (k : Int) (hx : a.eval x = .int .i64 k) (hi : I64 k)
    (hS : ∀ b, (b = true ↔ S k) → wpList Tryz.prog ops Q rest (a.put o.dst (.tuple #[.agg #[], .bool b])) w) : wpList Tryz.prog ops Q (o :: rest) a w := by
  obtain ⟨D, h1, h2⟩ := h
  exact wpList_lookup_own_unit w hg m x 59 hop 3 60 keyed Tryz.underlying59 (zero60 w) B n D hm h1 _ _ hx (keyOf_ok hi) (hS _ (h2 k hi))
theorem wpl_set_put (hg : o.guard = none) (m x v : Operand) (hop : o.op = Op.mapUpdate 59 m x v) (hm : a.eval m = .map (some B)) (h : SetIs w B n S) (k : Int) (hx : a.eval x = .int .i64 k) (hi : I64 k) (hv : a.eval v = .agg #[]) (hl : n < 1152921504606846976)
    (hS : ∀ w', SetIs w' B (n + 1) (fun y => S y ∨ y = k) → w.grownBy w' (some B) → wpList Tryz.prog ops Q rest (a.put o.dst undef) w') : wpList Tryz.prog ops Q (o :: rest) a w := by
  obtain ⟨D, h1, h2⟩ := h
  refine wpList_mapUpdate_own w hg m x v 59 hop 3 60 keyed Tryz.underlying59 _ B n D hm h1 (by unfold maxLen; omega) _ _ _ hx hv (keyOf_ok hi) _ [] unitElem_mk (fun w' h1' hgr => hS w' ⟨_, h1', fun y hy => ?_⟩ hgr)
  by_cases e : y = k
  · subst e
    simp [Maps.has_put_same (h1.isMap) isKL]
  · rw [Maps.has_put_other (fun h => e (by simpa using h)), h2 y hy]
    simp [e]
theorem wpl_set_del (hg : o.guard = none) (m x : Operand) (hop : o.op = Op.call { callee := Callee.builtin Builtin.delete, args := #[m, x], argTypes := #[59, 3] }) (hm : a.eval m = .map (some B)) (h : SetIs w B n S) (k : Int) (hx : a.eval x = .int .i64 k) (hi : I64 k)
    (hS : ∀ w', SetIs w' B n (fun y => S y ∧ y ≠ k) → w.grownBy w' (some B) → wpList Tryz.prog ops Q rest (a.put o.dst (.tuple #[])) w') : wpList Tryz.prog ops Q (o :: rest) a w := by
  obtain ⟨D, h1, h2⟩ := h
  refine wpList_delete_own w hg m x 59 3 hop 60 keyed Tryz.underlying59 _ B n D hm h1 _ _ hx (keyOf_ok hi) (fun w' h1' ht => hS w' ⟨_, h1', fun y hy => ?_⟩ ht.grown)
  by_cases e : y = k
  · subst e
    simp [Maps.has_del_same]
  · rw [Maps.has_del_other (fun h => e (by simpa using h)), h2 y hy]
    simp [e]
end
end Go.Proofs.YthbmnacleneflaaGreatDoor
/-
  Contracts, for a run of one goroutine, of what looks at a box and at an element by itself: rat.May, dom.side, dom.MayBox, dom.wrong. Condition: the numbers are of their kinds; the attributes lie in memory.
-/
set_option linter.unusedSimpArgs false
set_option linter.unusedVariables false
namespace Go.Proofs.YthbmnacleneflaaGreatDoor
open Go Go.RowKit

def zeroB (n d : Int) : Bool := (n == 0) && (d == 0)
noncomputable def mayB (n d : Int) : Bool := zeroB n d || sureB n d
theorem fmap43 : (Tryz.prog.fieldsOf 43).toList.map (fun f => (f.name == "_", f.type, f.offset)) = [(false, 2, 0), (false, 2, 1)] := by kernel_rfl
theorem pair_of {A : Type} {B : Type} {f : A → B} {a b : B} : ∀ {L : List A}, L.map f = [a, b] → ∃ x y, L = [x, y] ∧ f x = a ∧ f y = b
  | [x, y], h => ⟨x, y, rfl, by simpa using h⟩
  | [], h => by simp at h
  | [_], h => by simp at h
  | _ :: _ :: _ :: _, h => by simp at h
theorem plain2 : Tryz.prog.plainKey 2 = true := by kernel_rfl
theorem und43 : Tryz.prog.underlying 43 = some (.struct (Tryz.prog.fieldsOf 43)) := by kernel_rfl
theorem held43 : Tryz.prog.stoodInHeld 43 = false := by kernel_rfl
theorem eql43 (n d : Int) (w : World) : (binOp .eql 43 (.agg #[.int .i64 n, .int .i64 d]) (.agg #[.int .i64 0, .int .i64 0])).run Tryz.prog w = .ok (.bool (zeroB n d)) w := by
  rw [run_eql_struct, run_equalIn_agg w 9999 43 _ _ und43 held43]
  obtain ⟨f, g, hL, hf, hg⟩ := pair_of fmap43
  rw [hL]
  · simp only [Prod.mk.injEq, beq_eq_false_iff_ne] at hf hg
    obtain ⟨h1, h2, h3⟩ := hf
    obtain ⟨h4, h5, h6⟩ := hg
    simp only [Op.eqFields, h1, h4, h2, h3, h5, h6, ne_eq, not_false_eq_true, if_true, Sem.run_bind]
    rw [run_part_plain w plain2 (v := .int .i64 n) rfl]
    simp only [Result.andThen_ok]
    rw [run_part_plain w plain2 (v := .int .i64 0) rfl]
    simp only [Result.andThen_ok]
    rw [run_equalIn_int w 9998 2 .i64 .i64 n 0 Tryz.underlying2]
    simp only [Result.andThen_ok]
    cases hn : (n == 0) with
    | false => simp [zeroB, hn, Result.andThen]
    | true =>
      simp only [Bool.not_true, Bool.false_eq_true, if_false, Sem.run_bind]
      rw [run_part_plain w plain2 (v := .int .i64 d) rfl]
      simp only [Result.andThen_ok]
      rw [run_part_plain w plain2 (v := .int .i64 0) rfl]
      simp only [Result.andThen_ok]
      rw [run_equalIn_int w 9998 2 .i64 .i64 d 0 Tryz.underlying2]
      cases hd : (d == 0) <;> simp [zeroB, hn, hd, Result.andThen]
set_option maxRecDepth 100000 in
/-- rat.May. -/
theorem may_any (n d : Int) (w : World) (hn : I64 n) (hd : I64 d) : Calls Tryz.prog 71 #[.agg #[.int .i64 n, .int .i64 d]] w fun e w' => e = .returned (.bool (mayB n d)) ∧ Below w.heap.size w w' := by
  have HN := Lib.hid hn; have HD := Lib.hid hd
  have he := eql43 n d
  cases hz : zeroB n d with
  | true =>
    have HM := Lib.hid (show mayB n d = true by unfold mayB; rw [hz]; rfl)
    rw [hz] at he
    clear hz hn hd
    go_enter Tryz.func71, Tryz.ntmps71
    go_wp2_with fail
    go_ret
    exact ⟨ret_bool HM.out.symm, (Below.refl _ _).alloc (Nat.le_refl _) _⟩
  | false =>
    have HM := Lib.hid (show mayB n d = sureB n d by unfold mayB; rw [hz]; rfl)
    rw [hz] at he
    clear hz hn hd
    go_enter Tryz.func71, Tryz.ntmps71
    go_wp2_with (go_at_call 103; refine (sure_any n d _ HN.out HD.out).mono ?_; rintro e w1 ⟨rfl, hb⟩; have HB := Lib.hid hb; clear hb)
    go_ret
    exact ⟨ret_bool HM.out.symm, ((Below.refl _ _).alloc (Nat.le_refl _) _).trans (HB.out.mono (by simp))⟩
noncomputable def sideB (n d : Int) : Bool := mayB n d && decide (0 < d) && decide (0 ≤ n)
end Go.Proofs.YthbmnacleneflaaGreatDoor
/-
  Contracts, for a run of one goroutine, of dom.copied and jalousieref8.Clone: an element in memory of its own. Condition: its kids and attributes lie in memory.
-/
set_option linter.unusedSimpArgs false
set_option linter.unusedVariables false
namespace Go.Proofs.YthbmnacleneflaaGreatDoor
open Go Go.RowKit

theorem blk_set {w : World} {b : Nat} {c : Array Value} {t : TypeId} {fz : Nat × Nat} (h : w.heap[b]? = some (.cells c t fz)) (o : Nat) (v : Value) : (w.setCell ⟨b, o, none⟩ v).heap[b]? = some (.cells (c.setIfInBounds o v) t fz) := by
  have hlt := lt_of_block h
  have h' : w.heap[b] = .cells c t fz := by simpa [Array.getElem?_eq_getElem hlt] using h
  show (w.heap.modify b _)[b]? = _
  rw [Array.getElem?_eq_getElem (by simpa using hlt), Array.getElem_modify_self, h']
  rfl
theorem blk_cell {w : World} {b : Nat} {c : Array Value} {t : TypeId} {fz : Nat × Nat} (h : w.heap[b]? = some (.cells c t fz)) (o : Nat) (v : Value) (hv : c[o]? = some v) : w.cell? ⟨b, o, none⟩ = some v := by rw [cell_of_row w b o c t fz h, hv]
theorem blk_free {w : World} {b : Nat} {c : Array Value} {t : TypeId} (h : w.heap[b]? = some (.cells c t (0, 0))) (o : Nat) : w.frozen? ⟨b, o, none⟩ = false := by simp [World.frozen?, h]
theorem heap_old (w : World) (o x : Obj) {k : Nat} (h : w.heap[k]? = some x) : (w.alloc o).heap[k]? = some x := (Below.heap_alloc w o k (lt_of_block h)).trans h
theorem heap_alloc_at (w : World) (o : Obj) : (w.alloc o).heap[w.heap.size]? = some o := by
  show (w.heap.push o)[w.heap.size]? = some o
  simp

/-- append, where its run is known. -/
theorem wpList_append_run {P : Program} {w w' : World} {ops : Array Oper} {rest : List Oper} {o : Oper} {a : Act} {Q : Exit → Act → World → Prop} (hgd : o.guard = none) (s x : Operand) (t : TypeId)
    (ho : o.op = .call { callee := .builtin .append, args := #[s, x], argTypes := #[t, t] }) {v xv v' : Value} (hs : a.eval s = v) (hx : a.eval x = xv)
    (hr : (Builtin.append_ #[t, t] o.type #[v, xv]).run P w = .ok v' w') (h : wpList P ops Q rest (a.put o.dst v') w') : wpList P ops Q (o :: rest) a w :=
  wpList_plain hgd fun _ hK => by
    unfold Oper.wp execOp
    simp only [ho, resolve, invoke, builtin, Sem.run_bind, Sem.run_pure, Result.andThen_ok, List.map_toArray, List.map_cons, List.map_nil, hs, hx, hr]
    exact hK _ _ h

/-- What an element's copy is. -/
def CopyP (w : World) (id par : Int) (tag : ByteArray) (kids : List Int) (attrs : List (ByteArray × ByteArray)) (bt : Int) (bn : ByteArray) (n1 d1 n2 d2 : Int) (e : Ending) (w' : World) : Prop :=
  ∃ kv av, e = .returned (.agg #[.int .i64 id, .int .i64 par, .string tag, kv, av, .int .i64 bt, .string bn, .int .i64 n1, .int .i64 d1, .int .i64 n2, .int .i64 d2]) ∧ Below w.heap.size w w' ∧ IntsFrom w.heap.size w'.heap.size w' kv kids ∧ AttrsFrom w.heap.size w'.heap.size w' av attrs

theorem und47 : ∃ d, Tryz.prog.underlying 47 = some d ∧ d.isRow = true := ⟨_, Tryz.underlying47, rfl⟩

theorem one11 {id par : Int} {tag : ByteArray} {a1 a2 : Option Addr} {m1 c1 m2 c2 : Nat} {bt : Int} {bn : ByteArray} {n1 d1 n2 d2 : Int} : (#[.int .i64 id, .int .i64 par, .string tag, .slice a1 m1 c1, .slice a2 m2 c2, .int .i64 bt, .string bn, .int .i64 n1, .int .i64 d1, .int .i64 n2, .int .i64 d2] : Array Value).all (·.oneCell') = true := by
  rw [← Array.all_toList]
  rfl

set_option maxRecDepth 100000 in
set_option maxHeartbeats 2000000 in
/-- dom.copied. -/
theorem copied_any (id par : Int) (tag : ByteArray) (ka : Option Addr) (kn kc : Nat) (aa : Option Addr) (an ac : Nat) (bt : Int) (bn : ByteArray) (n1 d1 n2 d2 : Int) (kids : List Int) (attrs : List (ByteArray × ByteArray)) (w : World)
    (hk : IntsAt w.heap.size w (.slice ka kn kc) kids) (ha : AttrsAt w.heap.size w (.slice aa an ac) attrs) (hl1 : kids.length * 8 ≤ 140737488355328) (hl2 : attrs.length * 32 ≤ 140737488355328) :
    Calls Tryz.prog 16 #[.agg #[.int .i64 id, .int .i64 par, .string tag, .slice ka kn kc, .slice aa an ac, .int .i64 bt, .string bn, .int .i64 n1, .int .i64 d1, .int .i64 n2, .int .i64 d2]] w (CopyP w id par tag kids attrs bt bn n1 d1 n2 d2) := by
  have hb0 : Below w.heap.size w ((w.alloc (.cells #[.int .i64 id, .int .i64 par, .string tag, .slice ka kn kc, .slice aa an ac, .int .i64 bt, .string bn, .int .i64 n1, .int .i64 d1, .int .i64 n2, .int .i64 d2] 47)).alloc (.cells #[.int .i64 0, .int .i64 0, .string ⟨#[]⟩, .slice none 0 0, .slice none 0 0, .int .i64 0, .string ⟨#[]⟩, .int .i64 0, .int .i64 0, .int .i64 0, .int .i64 0] 47)) :=
    ((Below.refl _ w).alloc (Nat.le_refl _) _).alloc (by simp) _
  have hA : ((w.alloc (.cells #[.int .i64 id, .int .i64 par, .string tag, .slice ka kn kc, .slice aa an ac, .int .i64 bt, .string bn, .int .i64 n1, .int .i64 d1, .int .i64 n2, .int .i64 d2] 47)).alloc (.cells #[.int .i64 0, .int .i64 0, .string ⟨#[]⟩, .slice none 0 0, .slice none 0 0, .int .i64 0, .string ⟨#[]⟩, .int .i64 0, .int .i64 0, .int .i64 0, .int .i64 0] 47)).heap[w.heap.size]? = some (.cells #[.int .i64 id, .int .i64 par, .string tag, .slice ka kn kc, .slice aa an ac, .int .i64 bt, .string bn, .int .i64 n1, .int .i64 d1, .int .i64 n2, .int .i64 d2] 47 (0, 0)) := heap_old _ _ _ (heap_alloc_at w _)
  have hZ : ((w.alloc (.cells #[.int .i64 id, .int .i64 par, .string tag, .slice ka kn kc, .slice aa an ac, .int .i64 bt, .string bn, .int .i64 n1, .int .i64 d1, .int .i64 n2, .int .i64 d2] 47)).alloc (.cells #[.int .i64 0, .int .i64 0, .string ⟨#[]⟩, .slice none 0 0, .slice none 0 0, .int .i64 0, .string ⟨#[]⟩, .int .i64 0, .int .i64 0, .int .i64 0, .int .i64 0] 47)).heap[w.heap.size + 1]? = some (.cells #[.int .i64 0, .int .i64 0, .string ⟨#[]⟩, .slice none 0 0, .slice none 0 0, .int .i64 0, .string ⟨#[]⟩, .int .i64 0, .int .i64 0, .int .i64 0, .int .i64 0] 47 (0, 0)) := by
    have := heap_alloc_at (w.alloc (.cells #[.int .i64 id, .int .i64 par, .string tag, .slice ka kn kc, .slice aa an ac, .int .i64 bt, .string bn, .int .i64 n1, .int .i64 d1, .int .i64 n2, .int .i64 d2] 47)) (.cells #[.int .i64 0, .int .i64 0, .string ⟨#[]⟩, .slice none 0 0, .slice none 0 0, .int .i64 0, .string ⟨#[]⟩, .int .i64 0, .int .i64 0, .int .i64 0, .int .i64 0] 47)
    simpa using this
  have hsz : ((w.alloc (.cells #[.int .i64 id, .int .i64 par, .string tag, .slice ka kn kc, .slice aa an ac, .int .i64 bt, .string bn, .int .i64 n1, .int .i64 d1, .int .i64 n2, .int .i64 d2] 47)).alloc (.cells #[.int .i64 0, .int .i64 0, .string ⟨#[]⟩, .slice none 0 0, .slice none 0 0, .int .i64 0, .string ⟨#[]⟩, .int .i64 0, .int .i64 0, .int .i64 0, .int .i64 0] 47)).heap.size = w.heap.size + 2 := by simp
  obtain ⟨kv, w1, hrun1, hk1, hb1⟩ := copy_ints (hk.keep hb0) hl1
  have e1 : ∃ a n c, kv = .slice a n c := by obtain ⟨a, c, h, _⟩ := hk1; exact ⟨a, _, c, h⟩
  obtain ⟨a1, m1, c1, rfl⟩ := e1
  replace hA := (hb1.block _ (by rw [hsz]; omega)).trans hA
  replace hZ := (hb1.block _ (by rw [hsz]; omega)).trans hZ
  have A3 : w1.cell? ⟨w.heap.size, 3, none⟩ = some (.slice ka kn kc) := blk_cell hA 3 _ rfl
  have F3 : w1.frozen? ⟨w.heap.size, 3, none⟩ = false := blk_free hA 3
  have hA2 : (w1.setCell ⟨w.heap.size, 3, none⟩ (.slice a1 m1 c1)).heap[w.heap.size]? = some (.cells #[.int .i64 id, .int .i64 par, .string tag, .slice a1 m1 c1, .slice aa an ac, .int .i64 bt, .string bn, .int .i64 n1, .int .i64 d1, .int .i64 n2, .int .i64 d2] 47 (0, 0)) := blk_set hA 3 _
  have A4 : (w1.setCell ⟨w.heap.size, 3, none⟩ (.slice a1 m1 c1)).cell? ⟨w.heap.size, 4, none⟩ = some (.slice aa an ac) := blk_cell hA2 4 _ rfl
  have hb2 : Below w.heap.size w (w1.setCell ⟨w.heap.size, 3, none⟩ (.slice a1 m1 c1)) := (hb0.trans (hb1.mono (by rw [hsz]; omega))).setCell (Nat.le_refl _) _
  obtain ⟨av, w2, hrun2, hk2, hb3⟩ := copy_attrs (ha.keep hb2) hl2
  have e2 : ∃ a n c, av = .slice a n c := by obtain ⟨a, c, h, _⟩ := hk2; exact ⟨a, _, c, h⟩
  obtain ⟨a2, m2, c2, rfl⟩ := e2
  have hlt : w.heap.size + 1 < (w1.setCell ⟨w.heap.size, 3, none⟩ (.slice a1 m1 c1)).heap.size := Nat.lt_of_lt_of_eq (lt_of_block hZ) (by simp [World.setCell])
  replace hA2 := (hb3.block _ (by omega)).trans hA2
  replace hZ : w2.heap[w.heap.size + 1]? = some _ := (hb3.block _ hlt).trans ((Below.heap_setCell _ _ _ _ (by simp)).trans hZ)
  have B4 : w2.cell? ⟨w.heap.size, 4, none⟩ = some (.slice aa an ac) := blk_cell hA2 4 _ rfl
  have F4 : w2.frozen? ⟨w.heap.size, 4, none⟩ = false := blk_free hA2 4
  have hA3 : (w2.setCell ⟨w.heap.size, 4, none⟩ (.slice a2 m2 c2)).heap[w.heap.size]? = some (.cells #[.int .i64 id, .int .i64 par, .string tag, .slice a1 m1 c1, .slice a2 m2 c2, .int .i64 bt, .string bn, .int .i64 n1, .int .i64 d1, .int .i64 n2, .int .i64 d2] 47 (0, 0)) := blk_set hA2 4 _
  have hZ2 : (w2.setCell ⟨w.heap.size, 4, none⟩ (.slice a2 m2 c2)).heap[w.heap.size + 1]? = some (.cells #[.int .i64 0, .int .i64 0, .string ⟨#[]⟩, .slice none 0 0, .slice none 0 0, .int .i64 0, .string ⟨#[]⟩, .int .i64 0, .int .i64 0, .int .i64 0, .int .i64 0] 47 (0, 0)) := (Below.heap_setCell _ _ _ _ (by simp)).trans hZ
  have hR := setRow_heap _ _ _ #[.int .i64 id, .int .i64 par, .string tag, .slice a1 m1 c1, .slice a2 m2 c2, .int .i64 bt, .string bn, .int .i64 n1, .int .i64 d1, .int .i64 n2, .int .i64 d2] _ _ hZ2
  have hws : (w1.setCell ⟨w.heap.size, 3, none⟩ (.slice a1 m1 c1)).heap.size = w1.heap.size := by simp [World.setCell]
  have hother : ∀ b, w.heap.size + 2 ≤ b → ((w2.setCell ⟨w.heap.size, 4, none⟩ (.slice a2 m2 c2)).setRow (w.heap.size + 1) #[.int .i64 id, .int .i64 par, .string tag, .slice a1 m1 c1, .slice a2 m2 c2, .int .i64 bt, .string bn, .int .i64 n1, .int .i64 d1, .int .i64 n2, .int .i64 d2]).heap[b]? = w2.heap[b]? := fun b h => (setRow_other _ _ _ _ (by omega)).trans (Below.heap_setCell _ _ _ _ (by simp; omega))
  have hfs : ((w2.setCell ⟨w.heap.size, 4, none⟩ (.slice a2 m2 c2)).setRow (w.heap.size + 1) #[.int .i64 id, .int .i64 par, .string tag, .slice a1 m1 c1, .slice a2 m2 c2, .int .i64 bt, .string bn, .int .i64 n1, .int .i64 d1, .int .i64 n2, .int .i64 d2]).heap.size = w2.heap.size := by simp [World.setCell]
  have hw12 : w1.heap.size ≤ w2.heap.size := by rw [← hws]; exact hb3.size
  have hw01 : w.heap.size + 2 ≤ w1.heap.size := by rw [← hsz]; exact hb1.size
  have hfin1 : IntsFrom w.heap.size ((w2.setCell ⟨w.heap.size, 4, none⟩ (.slice a2 m2 c2)).setRow (w.heap.size + 1) #[.int .i64 id, .int .i64 par, .string tag, .slice a1 m1 c1, .slice a2 m2 c2, .int .i64 bt, .string bn, .int .i64 n1, .int .i64 d1, .int .i64 n2, .int .i64 d2]).heap.size ((w2.setCell ⟨w.heap.size, 4, none⟩ (.slice a2 m2 c2)).setRow (w.heap.size + 1) #[.int .i64 id, .int .i64 par, .string tag, .slice a1 m1 c1, .slice a2 m2 c2, .int .i64 bt, .string bn, .int .i64 n1, .int .i64 d1, .int .i64 n2, .int .i64 d2]) (.slice a1 m1 c1) kids := by
    rw [hsz] at hk1
    rw [hfs]
    refine RowFrom.mono (RowFrom.keep hk1 fun b h1 h2 => ?_) (Nat.le_add_right _ _) hw12
    exact (hother b h1).trans ((hb3.block b (by rw [hws]; exact h2)).trans (Below.heap_setCell _ _ _ _ (by simp; omega)))
  have hfin2 : AttrsFrom w.heap.size ((w2.setCell ⟨w.heap.size, 4, none⟩ (.slice a2 m2 c2)).setRow (w.heap.size + 1) #[.int .i64 id, .int .i64 par, .string tag, .slice a1 m1 c1, .slice a2 m2 c2, .int .i64 bt, .string bn, .int .i64 n1, .int .i64 d1, .int .i64 n2, .int .i64 d2]).heap.size ((w2.setCell ⟨w.heap.size, 4, none⟩ (.slice a2 m2 c2)).setRow (w.heap.size + 1) #[.int .i64 id, .int .i64 par, .string tag, .slice a1 m1 c1, .slice a2 m2 c2, .int .i64 bt, .string bn, .int .i64 n1, .int .i64 d1, .int .i64 n2, .int .i64 d2]) (.slice a2 m2 c2) attrs := by
    rw [hws] at hk2
    rw [hfs]
    refine RowFrom.mono (RowFrom.keep hk2 fun b h1 _ => hother b (by omega)) (by omega) (Nat.le_refl _)
  have HF1 := Lib.hid hfin1; have HF2 := Lib.hid hfin2
  clear hfin1 hfin2 hother hfs hw12 hw01 hk2
  have HB := Lib.hid hb3; have HS := Lib.hid (show w.heap.size ≤ (w1.setCell ⟨w.heap.size, 3, none⟩ (.slice a1 m1 c1)).heap.size by omega); have HR := Lib.hid hrun1; have HR2 := Lib.hid hrun2; have HB2 := Lib.hid hb2; have HA3 := Lib.hid hA3; have HZ2 := Lib.hid hZ2; have HRR := Lib.hid hR
  clear hws hk1 hb1 hb0 hk hrun1 hA hA2 hsz hrun2 hlt hb2 hb3 hA3 hZ hZ2 hR
  go_enter Tryz.func16, Tryz.ntmps16
  go_wp2_with (first | (at_builtin; first | refine wpList_append_run rfl _ _ _ rfl rfl rfl HR.out ?_ | refine wpList_append_run rfl _ _ _ rfl rfl rfl HR2.out ?_) | (refine wpList_load_row rfl 47 _ rfl _ rfl _ _ _ _ HA3.out Tryz.underlying47 rfl size47 ?_) | (refine wpList_store_row rfl 47 _ _ rfl _ _ rfl rfl _ _ HZ2.out size47 rfl one11 ?_))
  refine bodyPost_ret (results_cell_row rfl _ _ _ _ _ _ _ rfl HRR.out Tryz.underlying47 rfl size47) rfl ?_
  have hlast := below_setRow (g := w.heap.size + 1) ((HB2.out.trans (HB.out.mono HS.out)).setCell (p := ⟨w.heap.size, 4, none⟩) (Nat.le_refl _) (.slice a2 m2 c2)) (by omega) #[.int .i64 id, .int .i64 par, .string tag, .slice a1 m1 c1, .slice a2 m2 c2, .int .i64 bt, .string bn, .int .i64 n1, .int .i64 d1, .int .i64 n2, .int .i64 d2]
  exact ⟨_, _, rfl, hlast, HF1.out, HF2.out⟩
end Go.Proofs.YthbmnacleneflaaGreatDoor
/-
  Contract, for a run of one goroutine, of jalousieref8.Clone: an element in memory of its own. Condition: its kids and attributes lie in memory.
-/
set_option linter.unusedSimpArgs false
set_option linter.unusedVariables false
namespace Go.Proofs.YthbmnacleneflaaGreatDoor
open Go Go.RowKit

set_option maxRecDepth 100000 in
set_option maxHeartbeats 2000000 in
/-- jalousieref8.Clone. -/
theorem clone_any (id par : Int) (tag : ByteArray) (ka : Option Addr) (kn kc : Nat) (aa : Option Addr) (an ac : Nat) (bt : Int) (bn : ByteArray) (n1 d1 n2 d2 : Int) (kids : List Int) (attrs : List (ByteArray × ByteArray)) (w : World)
    (hk : IntsAt w.heap.size w (.slice ka kn kc) kids) (ha : AttrsAt w.heap.size w (.slice aa an ac) attrs) (hl1 : kids.length * 8 ≤ 140737488355328) (hl2 : attrs.length * 32 ≤ 140737488355328) :
    Calls Tryz.prog 22 #[.agg #[.int .i64 id, .int .i64 par, .string tag, .slice ka kn kc, .slice aa an ac, .int .i64 bt, .string bn, .int .i64 n1, .int .i64 d1, .int .i64 n2, .int .i64 d2]] w (CopyP w id par tag kids attrs bt bn n1 d1 n2 d2) := by
  have hb0 : Below w.heap.size w ((w.alloc (.cells #[.int .i64 id, .int .i64 par, .string tag, .slice ka kn kc, .slice aa an ac, .int .i64 bt, .string bn, .int .i64 n1, .int .i64 d1, .int .i64 n2, .int .i64 d2] 47)).alloc (.cells #[.int .i64 0, .int .i64 0, .string ⟨#[]⟩, .slice none 0 0, .slice none 0 0, .int .i64 0, .string ⟨#[]⟩, .int .i64 0, .int .i64 0, .int .i64 0, .int .i64 0] 47)) :=
    ((Below.refl _ w).alloc (Nat.le_refl _) _).alloc (by simp) _
  have hA : ((w.alloc (.cells #[.int .i64 id, .int .i64 par, .string tag, .slice ka kn kc, .slice aa an ac, .int .i64 bt, .string bn, .int .i64 n1, .int .i64 d1, .int .i64 n2, .int .i64 d2] 47)).alloc (.cells #[.int .i64 0, .int .i64 0, .string ⟨#[]⟩, .slice none 0 0, .slice none 0 0, .int .i64 0, .string ⟨#[]⟩, .int .i64 0, .int .i64 0, .int .i64 0, .int .i64 0] 47)).heap[w.heap.size]? = some (.cells #[.int .i64 id, .int .i64 par, .string tag, .slice ka kn kc, .slice aa an ac, .int .i64 bt, .string bn, .int .i64 n1, .int .i64 d1, .int .i64 n2, .int .i64 d2] 47 (0, 0)) := heap_old _ _ _ (heap_alloc_at w _)
  have hZ : ((w.alloc (.cells #[.int .i64 id, .int .i64 par, .string tag, .slice ka kn kc, .slice aa an ac, .int .i64 bt, .string bn, .int .i64 n1, .int .i64 d1, .int .i64 n2, .int .i64 d2] 47)).alloc (.cells #[.int .i64 0, .int .i64 0, .string ⟨#[]⟩, .slice none 0 0, .slice none 0 0, .int .i64 0, .string ⟨#[]⟩, .int .i64 0, .int .i64 0, .int .i64 0, .int .i64 0] 47)).heap[w.heap.size + 1]? = some (.cells #[.int .i64 0, .int .i64 0, .string ⟨#[]⟩, .slice none 0 0, .slice none 0 0, .int .i64 0, .string ⟨#[]⟩, .int .i64 0, .int .i64 0, .int .i64 0, .int .i64 0] 47 (0, 0)) := by
    have := heap_alloc_at (w.alloc (.cells #[.int .i64 id, .int .i64 par, .string tag, .slice ka kn kc, .slice aa an ac, .int .i64 bt, .string bn, .int .i64 n1, .int .i64 d1, .int .i64 n2, .int .i64 d2] 47)) (.cells #[.int .i64 0, .int .i64 0, .string ⟨#[]⟩, .slice none 0 0, .slice none 0 0, .int .i64 0, .string ⟨#[]⟩, .int .i64 0, .int .i64 0, .int .i64 0, .int .i64 0] 47)
    simpa using this
  have hsz : ((w.alloc (.cells #[.int .i64 id, .int .i64 par, .string tag, .slice ka kn kc, .slice aa an ac, .int .i64 bt, .string bn, .int .i64 n1, .int .i64 d1, .int .i64 n2, .int .i64 d2] 47)).alloc (.cells #[.int .i64 0, .int .i64 0, .string ⟨#[]⟩, .slice none 0 0, .slice none 0 0, .int .i64 0, .string ⟨#[]⟩, .int .i64 0, .int .i64 0, .int .i64 0, .int .i64 0] 47)).heap.size = w.heap.size + 2 := by simp
  obtain ⟨kv, w1, hrun1, hk1, hb1⟩ := copy_ints (hk.keep hb0) hl1
  have e1 : ∃ a n c, kv = .slice a n c := by obtain ⟨a, c, h, _⟩ := hk1; exact ⟨a, _, c, h⟩
  obtain ⟨a1, m1, c1, rfl⟩ := e1
  replace hA := (hb1.block _ (by rw [hsz]; omega)).trans hA
  replace hZ := (hb1.block _ (by rw [hsz]; omega)).trans hZ
  have A3 : w1.cell? ⟨w.heap.size, 3, none⟩ = some (.slice ka kn kc) := blk_cell hA 3 _ rfl
  have F3 : w1.frozen? ⟨w.heap.size, 3, none⟩ = false := blk_free hA 3
  have hA2 : (w1.setCell ⟨w.heap.size, 3, none⟩ (.slice a1 m1 c1)).heap[w.heap.size]? = some (.cells #[.int .i64 id, .int .i64 par, .string tag, .slice a1 m1 c1, .slice aa an ac, .int .i64 bt, .string bn, .int .i64 n1, .int .i64 d1, .int .i64 n2, .int .i64 d2] 47 (0, 0)) := blk_set hA 3 _
  have A4 : (w1.setCell ⟨w.heap.size, 3, none⟩ (.slice a1 m1 c1)).cell? ⟨w.heap.size, 4, none⟩ = some (.slice aa an ac) := blk_cell hA2 4 _ rfl
  have hb2 : Below w.heap.size w (w1.setCell ⟨w.heap.size, 3, none⟩ (.slice a1 m1 c1)) := (hb0.trans (hb1.mono (by rw [hsz]; omega))).setCell (Nat.le_refl _) _
  obtain ⟨av, w2, hrun2, hk2, hb3⟩ := copy_attrs (ha.keep hb2) hl2
  have e2 : ∃ a n c, av = .slice a n c := by obtain ⟨a, c, h, _⟩ := hk2; exact ⟨a, _, c, h⟩
  obtain ⟨a2, m2, c2, rfl⟩ := e2
  have hlt : w.heap.size + 1 < (w1.setCell ⟨w.heap.size, 3, none⟩ (.slice a1 m1 c1)).heap.size := Nat.lt_of_lt_of_eq (lt_of_block hZ) (by simp [World.setCell])
  replace hA2 := (hb3.block _ (by omega)).trans hA2
  replace hZ : w2.heap[w.heap.size + 1]? = some _ := (hb3.block _ hlt).trans ((Below.heap_setCell _ _ _ _ (by simp)).trans hZ)
  have B4 : w2.cell? ⟨w.heap.size, 4, none⟩ = some (.slice aa an ac) := blk_cell hA2 4 _ rfl
  have F4 : w2.frozen? ⟨w.heap.size, 4, none⟩ = false := blk_free hA2 4
  have hA3 : (w2.setCell ⟨w.heap.size, 4, none⟩ (.slice a2 m2 c2)).heap[w.heap.size]? = some (.cells #[.int .i64 id, .int .i64 par, .string tag, .slice a1 m1 c1, .slice a2 m2 c2, .int .i64 bt, .string bn, .int .i64 n1, .int .i64 d1, .int .i64 n2, .int .i64 d2] 47 (0, 0)) := blk_set hA2 4 _
  have hZ2 : (w2.setCell ⟨w.heap.size, 4, none⟩ (.slice a2 m2 c2)).heap[w.heap.size + 1]? = some (.cells #[.int .i64 0, .int .i64 0, .string ⟨#[]⟩, .slice none 0 0, .slice none 0 0, .int .i64 0, .string ⟨#[]⟩, .int .i64 0, .int .i64 0, .int .i64 0, .int .i64 0] 47 (0, 0)) := (Below.heap_setCell _ _ _ _ (by simp)).trans hZ
  have hR := setRow_heap _ _ _ #[.int .i64 id, .int .i64 par, .string tag, .slice a1 m1 c1, .slice a2 m2 c2, .int .i64 bt, .string bn, .int .i64 n1, .int .i64 d1, .int .i64 n2, .int .i64 d2] _ _ hZ2
  have hws : (w1.setCell ⟨w.heap.size, 3, none⟩ (.slice a1 m1 c1)).heap.size = w1.heap.size := by simp [World.setCell]
  have hother : ∀ b, w.heap.size + 2 ≤ b → ((w2.setCell ⟨w.heap.size, 4, none⟩ (.slice a2 m2 c2)).setRow (w.heap.size + 1) #[.int .i64 id, .int .i64 par, .string tag, .slice a1 m1 c1, .slice a2 m2 c2, .int .i64 bt, .string bn, .int .i64 n1, .int .i64 d1, .int .i64 n2, .int .i64 d2]).heap[b]? = w2.heap[b]? := fun b h => (setRow_other _ _ _ _ (by omega)).trans (Below.heap_setCell _ _ _ _ (by simp; omega))
  have hfs : ((w2.setCell ⟨w.heap.size, 4, none⟩ (.slice a2 m2 c2)).setRow (w.heap.size + 1) #[.int .i64 id, .int .i64 par, .string tag, .slice a1 m1 c1, .slice a2 m2 c2, .int .i64 bt, .string bn, .int .i64 n1, .int .i64 d1, .int .i64 n2, .int .i64 d2]).heap.size = w2.heap.size := by simp [World.setCell]
  have hw12 : w1.heap.size ≤ w2.heap.size := by rw [← hws]; exact hb3.size
  have hw01 : w.heap.size + 2 ≤ w1.heap.size := by rw [← hsz]; exact hb1.size
  have hfin1 : IntsFrom w.heap.size ((w2.setCell ⟨w.heap.size, 4, none⟩ (.slice a2 m2 c2)).setRow (w.heap.size + 1) #[.int .i64 id, .int .i64 par, .string tag, .slice a1 m1 c1, .slice a2 m2 c2, .int .i64 bt, .string bn, .int .i64 n1, .int .i64 d1, .int .i64 n2, .int .i64 d2]).heap.size ((w2.setCell ⟨w.heap.size, 4, none⟩ (.slice a2 m2 c2)).setRow (w.heap.size + 1) #[.int .i64 id, .int .i64 par, .string tag, .slice a1 m1 c1, .slice a2 m2 c2, .int .i64 bt, .string bn, .int .i64 n1, .int .i64 d1, .int .i64 n2, .int .i64 d2]) (.slice a1 m1 c1) kids := by
    rw [hsz] at hk1
    rw [hfs]
    refine RowFrom.mono (RowFrom.keep hk1 fun b h1 h2 => ?_) (Nat.le_add_right _ _) hw12
    exact (hother b h1).trans ((hb3.block b (by rw [hws]; exact h2)).trans (Below.heap_setCell _ _ _ _ (by simp; omega)))
  have hfin2 : AttrsFrom w.heap.size ((w2.setCell ⟨w.heap.size, 4, none⟩ (.slice a2 m2 c2)).setRow (w.heap.size + 1) #[.int .i64 id, .int .i64 par, .string tag, .slice a1 m1 c1, .slice a2 m2 c2, .int .i64 bt, .string bn, .int .i64 n1, .int .i64 d1, .int .i64 n2, .int .i64 d2]).heap.size ((w2.setCell ⟨w.heap.size, 4, none⟩ (.slice a2 m2 c2)).setRow (w.heap.size + 1) #[.int .i64 id, .int .i64 par, .string tag, .slice a1 m1 c1, .slice a2 m2 c2, .int .i64 bt, .string bn, .int .i64 n1, .int .i64 d1, .int .i64 n2, .int .i64 d2]) (.slice a2 m2 c2) attrs := by
    rw [hws] at hk2
    rw [hfs]
    refine RowFrom.mono (RowFrom.keep hk2 fun b h1 _ => hother b (by omega)) (by omega) (Nat.le_refl _)
  have HF1 := Lib.hid hfin1; have HF2 := Lib.hid hfin2
  clear hfin1 hfin2 hother hfs hw12 hw01 hk2
  have HB := Lib.hid hb3; have HS := Lib.hid (show w.heap.size ≤ (w1.setCell ⟨w.heap.size, 3, none⟩ (.slice a1 m1 c1)).heap.size by omega); have HR := Lib.hid hrun1; have HR2 := Lib.hid hrun2; have HB2 := Lib.hid hb2; have HA3 := Lib.hid hA3; have HZ2 := Lib.hid hZ2; have HRR := Lib.hid hR
  clear hws hk1 hb1 hb0 hk hrun1 hA hA2 hsz hrun2 hlt hb2 hb3 hA3 hZ hZ2 hR
  go_enter Tryz.func22, Tryz.ntmps22
  go_wp2_with (first | (at_builtin; first | refine wpList_append_run rfl _ _ _ rfl rfl rfl HR.out ?_ | refine wpList_append_run rfl _ _ _ rfl rfl rfl HR2.out ?_) | (refine wpList_load_row rfl 47 _ rfl _ rfl _ _ _ _ HA3.out Tryz.underlying47 rfl size47 ?_) | (refine wpList_store_row rfl 47 _ _ rfl _ _ rfl rfl _ _ HZ2.out size47 rfl one11 ?_))
  refine bodyPost_ret (results_cell_row rfl _ _ _ _ _ _ _ rfl HRR.out Tryz.underlying47 rfl size47) rfl ?_
  have hlast := below_setRow (g := w.heap.size + 1) ((HB2.out.trans (HB.out.mono HS.out)).setCell (p := ⟨w.heap.size, 4, none⟩) (Nat.le_refl _) (.slice a2 m2 c2)) (by omega) #[.int .i64 id, .int .i64 par, .string tag, .slice a1 m1 c1, .slice a2 m2 c2, .int .i64 bt, .string bn, .int .i64 n1, .int .i64 d1, .int .i64 n2, .int .i64 d2]
  exact ⟨_, _, rfl, hlast, HF1.out, HF2.out⟩
end Go.Proofs.YthbmnacleneflaaGreatDoor
/-
  Contracts, for a run of one goroutine, of dom.side and dom.MayBox. Condition: the numbers are of their kinds; the name's length fits.
-/
set_option linter.unusedSimpArgs false
set_option linter.unusedVariables false
namespace Go.Proofs.YthbmnacleneflaaGreatDoor
open Go Go.RowKit

set_option maxRecDepth 100000 in
set_option maxHeartbeats 2000000 in
/-- dom.side. -/
theorem side_any (n d : Int) (w : World) (hn : I64 n) (hd : I64 d) : Calls Tryz.prog 56 #[.agg #[.int .i64 n, .int .i64 d]] w fun e w' => e = .returned (.bool (sideB n d)) ∧ Below w.heap.size w w' := by
  have HN := Lib.hid hn; have HD := Lib.hid hd
  have HS := Lib.hid (show sideB n d = (mayB n d && decide (0 < d) && decide (0 ≤ n)) from rfl)
  have hcell : ∀ j v, (#[Value.int .i64 n, .int .i64 d] : Array Value)[j]? = some v → (w.alloc (.cells #[.int .i64 n, .int .i64 d] 43)).cell? ⟨w.heap.size, j, none⟩ = some v := fun j v hv => (World.cell?_alloc_at _ _ _ _ rfl).trans hv
  have HC0 := Lib.hid (hcell 0 _ rfl); have HC1 := Lib.hid (hcell 1 _ rfl)
  cases hm : mayB n d with
  | false =>
    have HM := Lib.hid hm
    clear hn hd hcell
    go_enter Tryz.func56, Tryz.ntmps56
    go_wp2_with (go_at_call 71; refine (may_any n d _ HN.out HD.out).mono ?_; rintro e w1 ⟨rfl, hb⟩; have HB := Lib.hid hb; clear hb)
    go_ret
    exact ⟨ret_bool (by rw [HS.out, HM.out]; rfl), ((Below.refl _ _).alloc (Nat.le_refl _) _).trans (HB.out.mono (by simp))⟩
  | true =>
    have HM := Lib.hid hm
    by_cases h1 : 0 < d
    · have q1 : decide (0 < d) = true := by simpa using h1
      by_cases h2 : 0 ≤ n
      · have q2 : decide (0 ≤ n) = true := by simpa using h2
        clear hn hd hcell h1 h2
        go_enter Tryz.func56, Tryz.ntmps56
        go_wp2_with (go_at_call 71; refine (may_any n d _ HN.out HD.out).mono ?_; rintro e w1 ⟨rfl, hb⟩; have hc0 := ((bcell hb).1 w.heap.size 0 (by simp)).trans HC0.out; have hc1 := ((bcell hb).1 w.heap.size 1 (by simp)).trans HC1.out; have HB := Lib.hid hb; clear hb)
        go_ret
        exact ⟨ret_bool (by rw [HS.out, HM.out, q1, q2]; rfl), ((Below.refl _ _).alloc (Nat.le_refl _) _).trans (HB.out.mono (by simp))⟩
      · have q2 : decide (0 ≤ n) = false := by simpa using h2
        clear hn hd hcell h1 h2
        go_enter Tryz.func56, Tryz.ntmps56
        go_wp2_with (go_at_call 71; refine (may_any n d _ HN.out HD.out).mono ?_; rintro e w1 ⟨rfl, hb⟩; have hc0 := ((bcell hb).1 w.heap.size 0 (by simp)).trans HC0.out; have hc1 := ((bcell hb).1 w.heap.size 1 (by simp)).trans HC1.out; have HB := Lib.hid hb; clear hb)
        go_ret
        exact ⟨ret_bool (by rw [HS.out, HM.out, q1, q2]; rfl), ((Below.refl _ _).alloc (Nat.le_refl _) _).trans (HB.out.mono (by simp))⟩
    · have q1 : decide (0 < d) = false := by simpa using h1
      clear hn hd hcell h1
      go_enter Tryz.func56, Tryz.ntmps56
      go_wp2_with (go_at_call 71; refine (may_any n d _ HN.out HD.out).mono ?_; rintro e w1 ⟨rfl, hb⟩; have hc0 := ((bcell hb).1 w.heap.size 0 (by simp)).trans HC0.out; have hc1 := ((bcell hb).1 w.heap.size 1 (by simp)).trans HC1.out; have HB := Lib.hid hb; clear hb)
      go_ret
      exact ⟨ret_bool (by rw [HS.out, HM.out, q1]; rfl), ((Below.refl _ _).alloc (Nat.le_refl _) _).trans (HB.out.mono (by simp))⟩
end Go.Proofs.YthbmnacleneflaaGreatDoor
