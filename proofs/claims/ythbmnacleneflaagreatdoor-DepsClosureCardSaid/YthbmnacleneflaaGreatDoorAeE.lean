/-
  A run of one goroutine over known values: the same evaluator, put so that the kernel runs it faster; that it is the same is proved. Condition: none.
-/
import Derived.Test.YthbmnacleneflaaGreatDoorAeD
set_option linter.unusedVariables false
set_option linter.unusedSimpArgs false
namespace Go.Proofs.YthbmnacleneflaaGreatDoor.ae
open Go

abbrev KF := Program → CallF → Nat → T Value → H → Nat → R
def slowK (o : Oper) : KF := fun P call G tm h n => evalOp P G call tm o h n
def k1 (x : Operand) (k : Program → Value → H → Nat → R) : KF := fun P _ G tm h n => bif okO G x then k P (evA G tm x) h n else none
def k2 (x y : Operand) (k : Program → Value → Value → H → Nat → R) : KF := fun P _ G tm h n => bif okO G x && okO G y then k P (evA G tm x) (evA G tm y) h n else none
def moveK : Program → Value → H → Nat → R := fun _ v h n => some (v, h, n)
def loadK (t : TypeId) : Program → Value → H → Nat → R := fun P v h n => keepA (loadA P t v h) h n
def storeK (t : TypeId) : Program → Value → Value → H → Nat → R := fun P u v h n => unitA (storeA P t u v h) n
def nilK : Program → Value → H → Nat → R := fun _ v h n => keepA (nilCheckA v) h n
def fieldAddrK (s : TypeId) (f : Nat) : Program → Value → H → Nat → R := fun P v h n => keepA (fieldAddrA P s v f) h n
def fieldK (s : TypeId) (f : Nat) : Program → Value → H → Nat → R := fun P v h n => keepA (fieldA P s v f) h n
def indexAddrK (t : TypeId) : Program → Value → Value → H → Nat → R := fun P u v h n => keepA (indexAddrA P t u v) h n
def extractK (i : Nat) : Program → Value → H → Nat → R := fun _ v h n => keepA (extractA v i) h n
def boxK (e : TypeId) : Program → Value → H → Nat → R := fun _ v h n => newRowA e (lst v) ptrTo h n
def rangeK (t : TypeId) : Program → Value → H → Nat → R := fun P v h n => rangeA P t v h n
def nextK (b : Bool) : Program → Value → H → Nat → R := fun _ v h n => (nextA v b h).map fun r => (r.1, r.2, n)
def callK (c : Call) (f : Operand) : KF := fun P call G tm h n => bif (Op.call c).operands.toList.all (okO G) then (match evA G tm f with
  | .func (.func g) first cap => call g (first.toList ++ (c.args.toList.map (evA G tm) ++ cap.toList)) h n
  | _ => none) else none
def allocK (e : TypeId) : KF := fun P _ _ _ h n => (zero P e).bind fun z => bif (lst z).all atom then newRowA e (lst z) ptrTo h n else none
def buildK (t : TypeId) (parts : Array (Nat × Operand)) : KF := fun P _ G tm h n => bif (parts.toList.map (·.2)).all (okO G) then keepA (buildA P t (partsA (evA G tm) parts)) h n else none
def buildSliceK (t : TypeId) (len : Nat) (parts : Array (Nat × Operand)) : KF := fun P _ G tm h n => bif (parts.toList.map (·.2)).all (okO G) then buildSliceA P t len (partsA (evA G tm) parts) h n else none
def sameU : List UInt8 → List UInt8 → Bool
  | [], [] => true
  | a :: l, b :: m => Nat.beq a.toNat b.toNat && sameU l m
  | _, _ => false
def fastBin (op : BinOp) (a b : Value) : Option Value := match a, b with
  | .int k x, .int k' y => if k = k' then (match op with
    | .add => some (.int k (k.wrap (x + y)))
    | .sub => some (.int k (k.wrap (x - y)))
    | .eql => some (.bool (x == y))
    | .neq => some (.bool (x != y))
    | .lss => some (.bool (decide (x < y)))
    | .leq => some (.bool (decide (x ≤ y)))
    | .gtr => some (.bool (decide (x > y)))
    | .geq => some (.bool (decide (x ≥ y)))
    | _ => none) else none
  | .string x, .string y => (match op with
    | .eql => some (.bool (sameU x.data.toList y.data.toList))
    | .neq => some (.bool (!sameU x.data.toList y.data.toList))
    | _ => none)
  | _, _ => none
def binK (o : Oper) (op : BinOp) (x y : Operand) : KF := fun P call G tm h n => bif okO G x && okO G y then (match fastBin op (evA G tm x) (evA G tm y) with
  | some v => some (v, h, n)
  | none => slowK o P call G tm h n) else none
def notK (o : Oper) (x : Operand) : KF := fun P call G tm h n => bif okO G x then (match evA G tm x with
  | .bool b => some (.bool (!b), h, n)
  | _ => slowK o P call G tm h n) else none
def lenK (o : Oper) (t : TypeId) (x : Operand) : KF := fun P call G tm h n => bif okO G x then (match evA G tm x with
  | .slice (some a) k c => keepA (lenA P t (.slice (some a) k c) h) h n
  | _ => slowK o P call G tm h n) else none
def sliceK (o : Oper) (t : TypeId) (x : Operand) (lo hi mx : Option Operand) : KF := fun P call G tm h n => bif o.op.operands.toList.all (okO G) then (match evA G tm x with
  | .slice (some a) k c => keepA (resliceA P t (.slice (some a) k c) (lo.map (evA G tm)) (hi.map (evA G tm)) (mx.map (evA G tm)) h) h n
  | _ => slowK o P call G tm h n) else none
def builtinK (o : Oper) (c : Call) (b : Builtin) : KF := match b with
  | .append => fun P _ G tm h n => bif (Op.call c).operands.toList.all (okO G) then builtinA P .append c.argTypes (c.args.toList.map (evA G tm)) h n else none
  | .len => (match c.args.toList, c.argTypes[0]? with
    | [x], some t => lenK o t x
    | _, _ => slowK o)
  | _ => slowK o
def opK (o : Oper) : KF := match o.op with
  | .move x => k1 x moveK
  | .assign x => k1 x moveK
  | .load t a => k1 a (loadK t)
  | .store t a x => k2 a x (storeK t)
  | .nilCheck x => k1 x nilK
  | .fieldAddr s x f => k1 x (fieldAddrK s f)
  | .field s x f => k1 x (fieldK s f)
  | .indexAddr t x i => k2 x i (indexAddrK t)
  | .extract t i => k1 t (extractK i)
  | .box e x => k1 x (boxK e)
  | .range t x => k1 x (rangeK t)
  | .next x b => k1 x (nextK b)
  | .alloc e => allocK e
  | .build t ps => buildK t ps
  | .buildSlice t k ps => buildSliceK t k ps
  | .binOp op _ x y _ => binK o op x y
  | .unOp op _ x => (match op with | .not => notK o x | _ => slowK o)
  | .slice t x lo hi mx => sliceK o t x lo hi mx
  | .call c => (match c.callee with
    | .value f => callK c f
    | .builtin b => builtinK o c b
    | _ => slowK o)
  | _ => slowK o
def stepF (P : Program) (G : Nat) (call : CallF) (N : Nat) (ops : Array Oper) (i : Nat) (s : St) : Option St := match ops[i]? with
  | none => some s
  | some o => bif Region.wanted o (yieldedA ops s.tm) then
      (match deferA G s.tm o with
        | some d => (putA N s.tm o.dst undef).map fun tm => ⟨tm, s.h, s.n, d :: s.ds⟩
        | none => (opK o P call G s.tm s.h s.n).bind fun r => (putA N s.tm o.dst r.1).map fun tm => ⟨tm, r.2.1, r.2.2, s.ds⟩)
    else (putA N s.tm o.dst undef).map fun tm => ⟨tm, s.h, s.n, s.ds⟩
def evalOpsF (P : Program) (G : Nat) (call : CallF) (N : Nat) (ops : Array Oper) : List Nat → St → Option St
  | [], s => some s
  | i :: l, s => (stepF P G call N ops i s).bind (evalOpsF P G call N ops l)
def regionF (P : Program) (G : Nat) (call : CallF) (N : Nat) : RegF := fun ops draw s =>
  bif draw then regionA P G call N ops true s else evalOpsF P G call N ops (List.range ops.size) s

section
variable {P : Program} {G N n : Nat} {call : CallF} {tm : T Value} {h : H} {o : Oper} {v : Value}
theorem sameU_eq : ∀ l m : List UInt8, sameU l m = (l == m) := by
  intro l
  induction l with
  | nil => intro m; cases m <;> rfl
  | cons a l ih =>
    intro m
    cases m with
    | nil => rfl
    | cons b m =>
      simp only [sameU, ih, List.cons_beq_cons]
      congr 1
      by_cases e : a = b
      · subst e; simp [beq_t]
      · rw [beq_f fun h => e (UInt8.toNat_inj.1 h)]
        simpa using e
theorem sameU_bytes (x y : ByteArray) : sameU x.data.toList y.data.toList = (x.toList == y.toList) := by
  rw [sameU_eq, ByteArray.toList_eq, ByteArray.toList_eq]
theorem fastBin_flat {op : BinOp} {t yt : TypeId} {x y : Operand} {ρ : Operand → Value} (ho : o.op = .binOp op t x y yt) (hf : fastBin op (ρ x) (ρ y) = some v) : flatOp P ρ o = some v := by
  unfold flatOp
  have hfl : isFlatOp o.op = true := by rw [ho]; rfl
  have hops : o.op.operands.toList = [x, y] := by rw [ho]; rfl
  rw [hfl, hops, Bool.true_and]
  have key : ((flat (ρ x) && flat (ρ y)) = true ∧ flat v = true) ∧ pureRun P (execOp ρ o) = some (.value v) := by
    unfold fastBin at hf
    split at hf
    · rename_i k a k' b hx hy
      split at hf
      · rename_i hk
        subst hk
        cases op <;> simp only [Option.some.injEq, reduceCtorEq] at hf <;> subst hf <;> refine ⟨⟨by rw [hx, hy]; rfl, by rfl⟩, ?_⟩ <;> simp [execOp, ho, hx, hy, eqGuard, binOp, Op.intArith, Op.intCmp] <;> rfl
      · cases hf
    · rename_i a b hx hy
      cases op <;> simp only [Option.some.injEq, reduceCtorEq] at hf <;> subst hf <;> refine ⟨⟨by rw [hx, hy]; rfl, by rfl⟩, ?_⟩ <;> rw [sameU_bytes] <;> simp [execOp, ho, hx, hy, eqGuard, binOp, Op.stringOp] <;> rfl
    · cases hf
  obtain ⟨⟨q1, q2⟩, q3⟩ := key
  simp only [List.all_cons, List.all_nil, Bool.and_true, q1, cond_true, q3, q2]
theorem noflat (hf : isFlatOp o.op = false) (ρ : Operand → Value) : flatOp P ρ o = none := by simp [flatOp, hf]
theorem opK_eq : opK o P call G tm h n = evalOp P G call tm o h n := by
  unfold opK
  cases ho : o.op
  case move x => simp [evalOp, ho, k1, moveK, Op.operands, noflat (o := o) (P := P) (by rw [ho]; rfl), opA]
  case assign x => simp [evalOp, ho, k1, moveK, Op.operands, noflat (o := o) (P := P) (by rw [ho]; rfl), opA]
  case load t a => simp [evalOp, ho, k1, loadK, Op.operands, noflat (o := o) (P := P) (by rw [ho]; rfl), opA]
  case store t a x => simp [evalOp, ho, k2, storeK, Op.operands, noflat (o := o) (P := P) (by rw [ho]; rfl), opA]
  case nilCheck x => simp [evalOp, ho, k1, nilK, Op.operands, noflat (o := o) (P := P) (by rw [ho]; rfl), opA]
  case fieldAddr s x f => simp [evalOp, ho, k1, fieldAddrK, Op.operands, noflat (o := o) (P := P) (by rw [ho]; rfl), opA]
  case field s x f => simp [evalOp, ho, k1, fieldK, Op.operands, noflat (o := o) (P := P) (by rw [ho]; rfl), opA]
  case indexAddr t x i => simp [evalOp, ho, k2, indexAddrK, Op.operands, noflat (o := o) (P := P) (by rw [ho]; rfl), opA]
  case extract t i => simp [evalOp, ho, k1, extractK, Op.operands, noflat (o := o) (P := P) (by rw [ho]; rfl), opA]
  case box e x => simp [evalOp, ho, k1, boxK, Op.operands, noflat (o := o) (P := P) (by rw [ho]; rfl), opA]
  case range t x => simp [evalOp, ho, k1, rangeK, Op.operands, noflat (o := o) (P := P) (by rw [ho]; rfl), opA]
  case next x b => simp [evalOp, ho, k1, nextK, Op.operands, noflat (o := o) (P := P) (by rw [ho]; rfl), opA]
  case alloc e => simp [evalOp, ho, allocK, Op.operands, noflat (o := o) (P := P) (by rw [ho]; rfl), opA]
  case build t ps => simp only [evalOp, ho, buildK, Op.operands, noflat (o := o) (P := P) (by rw [ho]; rfl), opA]
  case buildSlice t k ps => simp only [evalOp, ho, buildSliceK, Op.operands, noflat (o := o) (P := P) (by rw [ho]; rfl), opA]
  case binOp op t x y yt =>
    simp only [binK]
    cases hk : (okO G x && okO G y)
    · have : o.op.operands.toList.all (okO G) = false := by rw [ho]; simpa [Op.operands] using hk
      simp [evalOp, this]
    · rw [cond_true]
      split
      · rename_i v hv
        have := fastBin_flat (P := P) ho hv
        have h2 : (Op.binOp op t x y yt).operands.toList.all (okO G) = true := by simpa [Op.operands] using hk
        simp only [evalOp, ho, h2, cond_true, this]
      · rfl
  case unOp op t x =>
    cases op <;> try rfl
    simp only [notK]
    cases hk : okO G x
    · have : o.op.operands.toList.all (okO G) = false := by rw [ho]; simpa [Op.operands] using hk
      simp [evalOp, this]
    · rw [cond_true]
      split
      · rename_i b hb
        have h2 : (Op.unOp .not t x).operands.toList.all (okO G) = true := by simpa [Op.operands] using hk
        have : flatOp P (evA G tm) o = some (.bool (!b)) := by
          unfold flatOp
          have hops : o.op.operands.toList = [x] := by rw [ho]; rfl
          rw [show isFlatOp o.op = true by rw [ho]; rfl, hops, Bool.true_and]
          have q : pureRun P (execOp (evA G tm) o) = some (.value (.bool (!b))) := by simp only [execOp, ho, hb]; rfl
          rw [show ([x].all fun y => flat (evA G tm y)) = true by simp [hb]; rfl, cond_true, q]
          rfl
        simp only [evalOp, ho, h2, cond_true, this]
      · rfl
  case slice t x lo hi mx =>
    simp only [sliceK]
    cases hk : o.op.operands.toList.all (okO G)
    · simp [evalOp, hk]
    · rw [cond_true]
      split
      · rename_i a k c hs
        have hnf : flatOp P (evA G tm) o = none := by
          unfold flatOp
          have : (o.op.operands.toList.all fun y => flat (evA G tm y)) = false := by
            rw [ho]
            simp only [Op.operands]
            have : flat (evA G tm x) = false := by rw [hs]; rfl
            simp [this]
          rw [this, Bool.and_false, cond_false]
        rw [ho] at hk
        simp only [evalOp, hk, cond_true, ho, hnf, opA, hs]
      · rfl
  case call c =>
    simp only []
    cases hc : c.callee with
    | value f =>
      simp only [callK, evalOp, ho, hc]
      rfl
    | invoke a b => rfl
    | builtin b =>
      simp only []
      cases b <;> try rfl
      case append =>
        simp only [builtinK]
        have hnf : flatOp P (evA G tm) o = none := noflat (by rw [ho]; simp [isFlatOp, hc]) _
        cases hk : (Op.call c).operands.toList.all (okO G)
        · simp [evalOp, ho, hk]
        · simp only [evalOp, ho, hk, cond_true, hc, hnf, opA]
      case len =>
        have slow : ∀ k : KF, k = slowK o → k P call G tm h n = evalOp P G call tm o h n := fun k e => by rw [e]; rfl
        simp only [builtinK]
        rcases hx : c.args.toList with _ | ⟨x, _ | ⟨y, l⟩⟩
        · exact slow _ rfl
        · cases ht : c.argTypes[0]? with
          | none => exact slow _ rfl
          | some t =>
            show lenK o t x P call G tm h n = _
            simp only [lenK]
            have hops : (Op.call c).operands.toList = [x] := by simp [Op.operands, Call.operands, hc, hx]
            cases hk : okO G x
            · have : o.op.operands.toList.all (okO G) = false := by rw [ho, hops]; simpa using hk
              simp [evalOp, this]
            · rw [cond_true]
              split
              · rename_i a k cc hs
                have h2 : (Op.call c).operands.toList.all (okO G) = true := by rw [hops]; simpa using hk
                have hnf : flatOp P (evA G tm) o = none := by
                  unfold flatOp
                  have : (o.op.operands.toList.all fun y => flat (evA G tm y)) = false := by
                    rw [ho, hops]
                    have : flat (evA G tm x) = false := by rw [hs]; rfl
                    simp [this]
                  rw [this, Bool.and_false, cond_false]
                simp only [evalOp, ho, h2, cond_true, hc, hnf, opA, hx, List.map_cons, List.map_nil, builtinA, ht, Option.bind_some, hs]
              · rfl
        · exact slow _ rfl
  all_goals rfl
theorem stepF_eq (ops : Array Oper) (i : Nat) (s : St) : stepF P G call N ops i s = stepI P G call N ops none i s := by
  unfold stepF stepI
  simp only [opK_eq]
  rfl
theorem evalOpsF_eq (ops : Array Oper) : ∀ (l : List Nat) (s : St), evalOpsF P G call N ops l s = evalOps P G call N ops none l s := by
  intro l
  induction l with
  | nil => intro s; rfl
  | cons i l ih =>
    intro s
    simp only [evalOpsF, evalOps, stepF_eq]
    congr 1
    funext s
    exact ih s
theorem regionF_eq : regionF P G = regionA P G := by
  funext call N ops d s
  unfold regionF regionA
  cases d
  · simp only [cond_false, evalOpsF_eq]
  · simp only [cond_true]
end
end Go.Proofs.YthbmnacleneflaaGreatDoor.ae
/-
  A run of one goroutine over known values: functions in which the order of evaluation may turn what is known: all ends are followed, and where the function is left they must be one but for the numbers of new blocks. Conditions: those of the code's evaluator.
-/
set_option linter.unusedVariables false
set_option linter.unusedSimpArgs false
namespace Go.Proofs.YthbmnacleneflaaGreatDoor.ae
open Go

/-! One store that stands for another one: new numbers. -/
def look (ρ : List (Nat × Nat)) (i : Nat) : Nat := match ρ with
  | [] => i
  | x :: l => bif Nat.beq x.1 i then x.2 else look l i
def ren (h : H) (ρ : List (Nat × Nat)) (i : Nat) : Option Nat := match h.get i with
  | none => none
  | some _ => some (look ρ i)
def rnF (m : Nat → Option Nat) : AB → Option AB
  | .dead => some .dead
  | .cells c e ro g => (rnL (rnV m 12) c).map fun c => .cells c e ro g
  | .map es c => (rnEs m es).map fun es => .map es c
  | .iter none a b c => some (.iter none a b c)
  | .iter (some r) a b c => (m r).map fun r => .iter (some r) a b c
  | .strIter a b => some (.strIter a b)
def T.allI {α : Type} (f : Nat → α → Bool) : T α → (Nat → Nat) → Bool
  | .nil, _ => true
  | .node v l r, k => (match v with | none => true | some a => f (k 0) a) && T.allI f l (fun j => k (2 * j + 1)) && T.allI f r (fun j => k (2 * j + 2))
theorem T.allI_get {α : Type} {f : Nat → α → Bool} : ∀ (t : T α) (k : Nat → Nat), T.allI f t k = true → ∀ j a, t.get j = some a → f (k j) a = true := by
  intro t
  induction t with
  | nil => intro k _ j a h; cases h
  | node v l r il ir =>
    intro k h j a hj
    simp only [T.allI, Bool.and_eq_true] at h
    obtain ⟨⟨h1, h2⟩, h3⟩ := h
    simp only [T.get] at hj
    by_cases e : j = 0
    · subst e
      simp only [beq_t, cond_true] at hj
      rw [hj] at h1
      exact h1
    · rw [beq_f e, cond_false] at hj
      rcases Nat.mod_two_eq_zero_or_one j with hm | hm
      · rw [hm, show Nat.beq 0 1 = false from rfl, cond_false] at hj
        have := ir _ h3 (j / 2 - 1) a hj
        have e2 : 2 * (j / 2 - 1) + 2 = j := by omega
        rw [e2] at this
        exact this
      · rw [hm, show Nat.beq 1 1 = true from rfl, cond_true] at hj
        have := il _ h2 (j / 2) a hj
        have e2 : 2 * (j / 2) + 1 = j := by omega
        rw [e2] at this
        exact this
def liveAt (h : H) (i : Nat) : Bool := match h.get i with | some ab => live ab | none => false
/-- h stands for hk, its numbers turned by ρ. -/
def instB (h hk : H) (ρ : List (Nat × Nat)) : Bool := T.allI (fun i ab => match ab with
  | .dead => true
  | ab => (match rnF (ren h ρ) ab, hk.get (look ρ i) with | some x, some y => sameB x y | _, _ => false)) h (fun i => i)
def injB (h : H) (ρ : List (Nat × Nat)) : Bool := ρ.all fun x => (ρ.any (fun y => Nat.beq y.1 x.2) || !liveAt h x.2) && ρ.all fun y => !Nat.beq x.2 y.2 || Nat.beq x.1 y.1
def instOk (he h hk : H) (v vk : Value) (ρ : List (Nat × Nat)) : Bool := instB h hk ρ && injB h ρ && (ρ.all fun x => (he.get x.1).isNone) && (match rnV (ren h ρ) 12 v with | some u => sameV 12 u vk | none => false)
structure Hint where
  kill : List Nat
  maps : List (List (Nat × Nat))
def killA (h : H) : List Nat → Option H
  | [] => some h
  | i :: l => (hput h i .dead).bind fun h => killA h l
def maxN : List (Value × H × Nat) → Nat
  | [] => 0
  | o :: l => Nat.max o.2.2 (maxN l)
def instAll (he h : H) (v : Value) : List (Value × H × Nat) → List (List (Nat × Nat)) → Bool
  | [], _ => true
  | o :: l, ρ :: ρs => instOk he h o.2.1 v o.1 ρ && instAll he h v l ρs
  | _ :: _, [] => false
def mergeA (he : H) (outs : List (Value × H × Nat)) (hint : Hint) : R := match outs with
  | [] => none
  | o :: l => (killA o.2.1 hint.kill).bind fun h => bif T.allI (fun i _ => (h.get i).isSome) he (fun i => i) && instAll he h o.1 (o :: l) hint.maps then some (o.1, h, maxN (o :: l)) else none

/-! All orders of a region, followed one by one. -/
def bindL {α β : Type} : List α → (α → Option (List β)) → Option (List β)
  | [], _ => some []
  | a :: l, f => (f a).bind fun x => (bindL l f).map (x ++ ·)
def allA (P : Program) (G : Nat) (call : CallF) (N : Nat) (ops : Array Oper) (n0 : Nat) : Nat → Array Bool → St → Option (List St)
  | 0, listed, s => (match Region.ready .any ops listed with | [] => some [s] | _ => none)
  | f + 1, listed, s => (match Region.ready .any ops listed with
    | [] => some [s]
    | rs => bindL rs fun i => (stepI P G call N ops (some n0) i s).bind fun s1 => allA P G call N ops n0 f (listed.setIfInBounds i true) s1)
def regionN (P : Program) (G : Nat) (reg : RegF) (call : CallF) (N : Nat) (ops : Array Oper) (draw : Bool) (s : St) : Option (List St) := match reg ops draw s with
  | some s1 => some [s1]
  | none => bif draw then allA P G call N ops s.n ops.size (Array.replicate ops.size false) ⟨s.tm, s.h, s.n + ops.size, s.ds⟩ else none
def evalCodeN (G : Nat) (rn : Array Oper → Bool → St → Option (List St)) : Nat → Code → St → Option (List (Ex × St))
  | 0, _, _ => none
  | f + 1, c, s => match c with
    | .skip => some [(.normal, s)]
    | .label _ => some [(.normal, s)]
    | .region _ ops d => (rn ops d s).map fun l => l.map fun s => (.normal, s)
    | .seq a b => (evalCodeN G rn f a s).bind fun l => bindL l fun r => (match r.1 with
      | .normal => evalCodeN G rn f b r.2
      | ex => some [(ex, r.2)])
    | .cond c a b => (match evA G s.tm c with
      | .bool t => evalCodeN G rn f (bif t then a else b) s
      | _ => none)
    | .block id b => (evalCodeN G rn f b s).map fun l => l.map fun r => (match r.1 with
      | .exit j => (bif Nat.beq j id then .normal else .exit j, r.2)
      | ex => (ex, r.2))
    | .loop b => (evalCodeN G rn f b s).bind fun l => bindL l fun r => (match r.1 with
      | .normal => evalCodeN G rn f (.loop b) r.2
      | ex => some [(ex, r.2)])
    | .scope b => evalCodeN G rn f b s
    | .exit id => some [(.exit id, s)]
    | .ret => some [(.ret, s)]
    | _ => none
def outsA (P : Program) (dcall : CallD) (fn : Func) : List (Ex × St) → Option (List (Value × H × Nat))
  | [] => some []
  | r :: l => (match r.1 with
    | .exit _ => none
    | _ => (defersA dcall r.2.ds r.2.h r.2.n).bind fun q => (resA P fn.results.toList ⟨r.2.tm, q.1, q.2, []⟩).bind fun vs => (outsA P dcall fn l).map fun o => (oneOr vs, q.1, q.2) :: o)
def evalBodyN (P : Program) (G : Nat) (reg : RegF) (call : CallF) (dcall : CallD) (F : Nat) (fn : Func) (c : Code) (args : List Value) (h : H) (n : Nat) (hint : Hint) : R :=
  (argsT fn.ntmps 0 args .nil).bind fun tm => (evalCodeN G (regionN P G reg call fn.ntmps) F c ⟨tm, h, n, []⟩).bind fun l => (outsA P dcall fn l).bind fun o => mergeA h o hint
/-- Functions that are followed so; the hints by function and number. -/
def ndF (P : Program) (G : Nat) (rg : CallF → Nat → RegF) (dext : CallD) (F : Nat) (hints : List (FuncId × Nat × Hint)) : CallF → CallF := fun call g args h n =>
  match hints.find? (fun x => Nat.beq x.1 g && Nat.beq x.2.1 n) with
  | none => none
  | some x => (match P.funcs[g]? with
    | none => none
    | some fn => (match fn.body with
      | none => none
      | some c => evalBodyN P G (rg call fn.ntmps) call (lateA P G dext call F) F fn c args h n x.2.2))

section
variable {P : Program} {G N base : Nat} {θ θ' θe θk : Th} {w w' : World} {h h' hk he h0 : H} {n n' : Nat} {call : CallF} {tm tm' : T Value} {a : Act} {v v' u : Value} {s s' : St} {m : Nat → Option Nat} {ρ : List (Nat × Nat)}
theorem bindL_mem {α β : Type} {f : α → Option (List β)} : ∀ {l : List α} {r : List β}, bindL l f = some r → ∀ a ∈ l, ∃ x, f a = some x ∧ ∀ b ∈ x, b ∈ r := by
  intro l
  induction l with
  | nil => intro r _ a ha; cases ha
  | cons a l ih =>
    intro r h b hb
    simp only [bindL, Option.bind_eq_some_iff, Option.map_eq_some_iff] at h
    obtain ⟨x, h1, y, h2, rfl⟩ := h
    rcases List.mem_cons.1 hb with rfl | hb
    · exact ⟨x, h1, fun c hc => List.mem_append_left _ hc⟩
    · obtain ⟨z, k1, k2⟩ := ih h2 b hb
      exact ⟨z, k1, fun c hc => List.mem_append_right _ (k2 c hc)⟩
theorem allA_orders {ops : Array Oper} {n0 : Nat} : ∀ (f t : Nat) (listed : Array Bool) (s : St) (l : List St), allA P G call N ops n0 f listed s = some l → ∃ s' ∈ l, evalOps P G call N ops (some n0) (Region.linearise.go .any ops f t listed []) s = some s' := by
  intro f
  induction f with
  | zero =>
    intro t listed s l h
    unfold allA at h
    split at h
    · cases h; exact ⟨s, List.mem_cons_self .., by simp [Region.linearise.go, evalOps]⟩
    · cases h
  | succ f ih =>
    intro t listed s l h
    unfold allA at h
    simp only [Region.linearise.go]
    change ∃ s' ∈ l, evalOps P G call N ops (some n0) (match (Region.ready .any ops listed)[t % (Region.ready .any ops listed).length]? with
      | some i => Region.linearise.go .any ops f (t / (Region.ready .any ops listed).length) (listed.setIfInBounds i true) [i]
      | none => [].reverse) s = some s'
    split at h
    · rename_i hr
      cases h
      rw [hr]
      exact ⟨s, List.mem_cons_self .., by simp [evalOps]⟩
    · rename_i rs hne
      cases hi : (Region.ready .any ops listed)[t % (Region.ready .any ops listed).length]? with
      | none =>
        exfalso
        cases hr : Region.ready .any ops listed with
        | nil => exact hne hr
        | cons x xs =>
          rw [hr] at hi
          have hlt : t % (x :: xs).length < (x :: xs).length := Nat.mod_lt _ (by simp)
          rw [List.getElem?_eq_getElem hlt] at hi
          cases hi
      | some i =>
        simp only []
        rw [linearise_go_acc, List.reverse_singleton, List.singleton_append]
        obtain ⟨x, k1, k2⟩ := bindL_mem h i (List.mem_of_getElem? hi)
        rw [Option.bind_eq_some_iff] at k1
        obtain ⟨s1, k3, k4⟩ := k1
        obtain ⟨s', k5, k6⟩ := ih (t / (Region.ready .any ops listed).length) _ _ _ k4
        refine ⟨s', k2 _ k5, ?_⟩
        simp only [evalOps, k3, Option.bind_some]
        exact k6
theorem regionN_ok {rg : CallF → Nat → RegF} (hrg : RgOk P h0 G rg) {ops : Array Oper} {draw : Bool} {id : Nat} {l : List St} {Q : Exit → Act → World → Prop} (hm : P.follows .mixedOrders = true) (hc : CallOk P h0 G call) (hr : regionN P G (rg call N) call N ops draw s = some l) (gl : Gl P h0 G base θ w) (ar : AR θ N s.tm s.ds a) (r : WR P base θ s.h w) (hb : base ≤ w.heap.size)
    (hn : ∀ s' ∈ l, ∀ a' θ' w', Ext θ θ' → AR θ' N s'.tm s'.ds a' → WR P base θ' s'.h w' → Keep base w w' → Q .normal a' w') : (Code.region id ops draw).wp P Q a w := by
  unfold regionN at hr
  split at hr
  · rename_i s1 h1
    cases hr
    exact hrg call hc N base ops draw id s s1 a θ w Q h1 gl ar r hb (hn s1 (List.mem_cons_self ..))
  · cases draw with
    | false => cases hr
    | true =>
      rw [cond_true] at hr
      refine wp_region_draw fun t => ?_
      obtain ⟨s', k1, ho⟩ := allA_orders _ t _ _ _ hr
      simp only [Region.schedule, hm, Bool.true_or, if_true]
      exact evalOps_ok hc _ _ s' a θ { w with drawn := w.drawn + 1 } ho (gl.mono (Ext.refl θ) ⟨rfl, rfl, rfl, Nat.le_refl _, fun _ _ => rfl⟩) ar (r.heap rfl) hb fun a' θ' w' x1 x2 x3 x4 => hn s' k1 a' θ' w' x1 x2 x3 ⟨x4.os, x4.tape, x4.output, x4.size, x4.block⟩
theorem evalCodeN_ok {rg : CallF → Nat → RegF} (hrg : RgOk P h0 G rg) (hm : P.follows .mixedOrders = true) (hc : CallOk P h0 G call) : ∀ (f : Nat) (c : Code) (s : St) (l : List (Ex × St)) (a : Act) (θ : Th) (w : World) (Q : Exit → Act → World → Prop), evalCodeN G (regionN P G (rg call N) call N) f c s = some l →
    Gl P h0 G base θ w → AR θ N s.tm s.ds a → WR P base θ s.h w → base ≤ w.heap.size →
    (∀ r ∈ l, ∀ a' θ' w', Ext θ θ' → AR θ' N r.2.tm r.2.ds a' → WR P base θ' r.2.h w' → Keep base w w' → Q r.1.to a' w') → c.wp P Q a w := by
  intro f
  induction f using Nat.strongRecOn with
  | _ f ih =>
    intro c s l a θ w Q he gl ar r hb hn
    cases f with
    | zero => cases he
    | succ f =>
      cases c with
      | skip => simp only [evalCodeN, Option.some.injEq] at he; subst he; exact wp_skip (hn _ (List.mem_cons_self ..) a θ w (Ext.refl θ) ar r (Keep.refl base w))
      | label l => simp only [evalCodeN, Option.some.injEq] at he; subst he; exact wp_label (hn _ (List.mem_cons_self ..) a θ w (Ext.refl θ) ar r (Keep.refl base w))
      | exit id => simp only [evalCodeN, Option.some.injEq] at he; subst he; exact wp_exit (hn _ (List.mem_cons_self ..) a θ w (Ext.refl θ) ar r (Keep.refl base w))
      | ret => simp only [evalCodeN, Option.some.injEq] at he; subst he; exact wp_ret (hn _ (List.mem_cons_self ..) a θ w (Ext.refl θ) ar r (Keep.refl base w))
      | region id ops d =>
        simp only [evalCodeN, Option.map_eq_some_iff] at he
        obtain ⟨l1, h1, rfl⟩ := he
        exact regionN_ok hrg hm hc h1 gl ar r hb fun s' hs a' θ' w' x1 x2 x3 x4 => hn (.normal, s') (List.mem_map.2 ⟨s', hs, rfl⟩) a' θ' w' x1 x2 x3 x4
      | scope b =>
        simp only [evalCodeN] at he
        refine wp_scope_straight (ih f (by omega) b s l a θ w _ he gl ar r hb fun q hq a' θ' w' x1 x2 x3 x4 => ?_)
        have := hn q hq a' θ' w' x1 x2 x3 x4
        obtain ⟨ex, s'⟩ := q
        cases ex <;> exact this
      | cond c x y =>
        simp only [evalCodeN] at he
        split at he
        · rename_i t ht
          have hr := ev_rel ar gl c
          rw [ht] at hr
          have e1 := flat_same hr rfl
          have e2 : a.eval c = .bool t := by
            cases hk : okO G c
            · exfalso
              cases c <;> first | (cases hk; done) | skip
              all_goals (simp only [okO] at hk; simp only [evA, hk, cond_false] at ht; cases ht)
            · rw [← e1]; simp [evC, hk]
          refine wp_cond e2 ?_
          have := ih f (by omega) (bif t then x else y) s l a θ w Q he gl ar r hb hn
          cases t <;> exact this
        · cases he
      | block id b =>
        simp only [evalCodeN, Option.map_eq_some_iff] at he
        obtain ⟨l1, h1, rfl⟩ := he
        refine wp_block ?_
        refine ih f (by omega) b s l1 a θ w _ h1 gl ar r hb fun q hq a' θ' w' x1 x2 x3 x4 => ?_
        obtain ⟨ex, s'⟩ := q
        have := hn _ (List.mem_map.2 ⟨(ex, s'), hq, rfl⟩) a' θ' w'
        cases ex with
        | exit j =>
          have := this x1 x2 x3 x4
          show (if j = id then Q .normal a' w' else Q (.exit j) a' w')
          by_cases e : j = id
          · rw [if_pos e]; dsimp only at this; rw [beq_t e] at this; exact this
          · rw [if_neg e]; dsimp only at this; rw [beq_f e] at this; exact this
        | normal => exact this x1 x2 x3 x4
        | ret => exact this x1 x2 x3 x4
      | seq x y =>
        simp only [evalCodeN, Option.bind_eq_some_iff] at he
        obtain ⟨l1, h1, h2⟩ := he
        refine wp_seq ?_
        refine ih f (by omega) x s l1 a θ w _ h1 gl ar r hb fun q hq a' θ' w' x1 x2 x3 x4 => ?_
        obtain ⟨ex, s1⟩ := q
        obtain ⟨z, k1, k2⟩ := bindL_mem h2 _ hq
        cases ex with
        | normal => exact ih f (by omega) y s1 z a' θ' w' Q k1 (gl.mono x1 x4) x2 x3 (Nat.le_trans hb x4.size) fun p hp a2 θ2 w2 y1 y2 y3 y4 => hn p (k2 p hp) a2 θ2 w2 (x1.trans y1) y2 y3 (x4.trans y4)
        | exit j => cases k1; exact hn _ (k2 _ (List.mem_cons_self ..)) a' θ' w' x1 x2 x3 x4
        | ret => cases k1; exact hn _ (k2 _ (List.mem_cons_self ..)) a' θ' w' x1 x2 x3 x4
      | loop b =>
        refine wp_loop_ghost (fun k a1 w1 => k ≤ f + 1 ∧ ∃ s1 θ1 l1, Ext θ θ1 ∧ evalCodeN G (regionN P G (rg call N) call N) k (.loop b) s1 = some l1 ∧ (∀ p ∈ l1, p ∈ l) ∧ AR θ1 N s1.tm s1.ds a1 ∧ WR P base θ1 s1.h w1 ∧ Keep base w w1) (f + 1) ⟨Nat.le_refl _, s, θ, l, Ext.refl θ, he, fun _ h => h, ar, r, Keep.refl base w⟩ ?_
        rintro k a1 w1 ⟨hk, s1, θ1, l1, x1, h1, hsub, ar1, r1, k1⟩
        cases k with
        | zero => cases h1
        | succ k =>
          simp only [evalCodeN, Option.bind_eq_some_iff] at h1
          obtain ⟨lb, h2, h3⟩ := h1
          refine ih k (by omega) b s1 lb a1 θ1 w1 _ h2 (gl.mono x1 k1) ar1 r1 (Nat.le_trans hb k1.size) fun q hq a' θ' w' y1 y2 y3 y4 => ?_
          obtain ⟨ex, s2⟩ := q
          obtain ⟨z, m1, m2⟩ := bindL_mem h3 _ hq
          cases ex with
          | normal => exact ⟨k, by omega, by omega, s2, θ', z, x1.trans y1, m1, fun p hp => hsub p (m2 p hp), y2, y3, k1.trans y4⟩
          | exit j => cases m1; exact hn _ (hsub _ (m2 _ (List.mem_cons_self ..))) a' θ' w' (x1.trans y1) y2 y3 (k1.trans y4)
          | ret => cases m1; exact hn _ (hsub _ (m2 _ (List.mem_cons_self ..))) a' θ' w' (x1.trans y1) y2 y3 (k1.trans y4)
      | _ => simp [evalCodeN] at he
end
end Go.Proofs.YthbmnacleneflaaGreatDoor.ae
/-
  A run of one goroutine over known values: the ends of a function are one but for the numbers of new blocks: what that gives. Conditions: those of the code's evaluator.
-/
set_option linter.unusedVariables false
set_option linter.unusedSimpArgs false
namespace Go.Proofs.YthbmnacleneflaaGreatDoor.ae
open Go

section
variable {P : Program} {G N base : Nat} {θ θ' θe θk : Th} {w w' : World} {h h' hk he h0 : H} {n n' : Nat} {call : CallF} {v v' u vk : Value} {m : Nat → Option Nat} {ρ : List (Nat × Nat)}
/-! What stands for a thing whose numbers were turned stands for it. -/
theorem unL {f : Value → Option Value} (hf : ∀ v u v', f v = some u → VR θk u v' → VR θ v v') : ∀ (l l2 l' : List Value), rnL f l = some l2 → VL θk l2 l' → VL θ l l' := by
  intro l
  induction l with
  | nil => intro l2 l' h hv; cases h; rw [hv.inv_nil]; exact .nil
  | cons v l ih =>
    intro l2 l' h hv
    simp only [rnL, Option.bind_eq_some_iff, Option.map_eq_some_iff] at h
    obtain ⟨u, hu, l3, h3, rfl⟩ := h
    obtain ⟨v', l', rfl, k1, k2⟩ := hv.inv_cons
    exact .cons (hf _ _ _ hu k1) (ih _ _ h3 k2)
theorem unV (hm : ∀ i j p, m i = some j → θk j = some p → θ i = some p) : ∀ (k : Nat) (v u v' : Value), rnV m k v = some u → VR θk u v' → VR θ v v' := by
  intro k
  induction k with
  | zero => intro v u v' h _; cases h
  | succ k ih =>
    intro v u v' hu hv
    have hl := unL (θ := θ) (θk := θk) ih
    have at_ : atom v = true → (bif atom v then some v else none) = some u → VR θ v v' := fun ha h => by
      rw [ha] at h; cases h
      rw [same_atom hv ha]; exact .same ha .nil
    cases v with
    | pointer a =>
      cases a with
      | none => exact at_ rfl hu
      | some ad =>
        simp only [rnV, Option.map_eq_some_iff] at hu
        obtain ⟨j, hj, rfl⟩ := hu
        cases hv with
        | same hq _ => simp [atom] at hq
        | ptr hp _ => exact .ptr (hm _ _ _ hj hp) .nil
    | slice a l c =>
      cases a with
      | none => exact at_ rfl hu
      | some ad =>
        obtain ⟨i, o, sp⟩ := ad
        cases sp with
        | none =>
          simp only [rnV, Option.map_eq_some_iff] at hu
          obtain ⟨j, hj, rfl⟩ := hu
          cases hv with
          | same hq _ => simp [atom] at hq
          | slice hp hc _ => exact .slice (hm _ _ _ hj hp) hc .nil
          | slack hp hc _ => exact .slack (hm _ _ _ hj hp) hc .nil
        | some x =>
          simp only [rnV] at hu
          cases hc : sameV 1 (.slice (some ⟨i, o, some x⟩) l c) emp
          · rw [hc] at hu; cases hu
          · rw [hc] at hu; cases hu
            have e := sameV_eq _ _ _ hc
            rw [e]
            unfold ae.emp at hv
            cases hv with
            | same hq _ => simp [atom] at hq
            | emp _ => exact .emp .nil
    | map a =>
      cases a with
      | none => exact at_ rfl hu
      | some i =>
        simp only [rnV, Option.map_eq_some_iff] at hu
        obtain ⟨j, hj, rfl⟩ := hu
        cases hv with
        | same hq _ => simp [atom] at hq
        | map hp _ => exact .map (hm _ _ _ hj hp) .nil
    | func f a b =>
      cases f with
      | func f =>
        simp only [rnV, Option.bind_eq_some_iff, Option.map_eq_some_iff] at hu
        obtain ⟨a2, h1, b2, h2, rfl⟩ := hu
        cases hv with
        | same hq _ => simp [atom] at hq
        | func k1 k2 _ => exact .func (hl _ _ _ h1 (by simpa using k1)) (hl _ _ _ h2 (by simpa using k2)) .nil
      | _ => simp [rnV, atom] at hu
    | agg a =>
      simp only [rnV, Option.map_eq_some_iff] at hu
      obtain ⟨a2, h1, rfl⟩ := hu
      cases hv with
      | same hq _ => simp [atom] at hq
      | agg k1 _ => exact .agg (hl _ _ _ h1 (by simpa using k1)) .nil
    | tuple a =>
      simp only [rnV, Option.map_eq_some_iff] at hu
      obtain ⟨a2, h1, rfl⟩ := hu
      cases hv with
      | same hq _ => simp [atom] at hq
      | tup k1 _ => exact .tup (hl _ _ _ h1 (by simpa using k1)) .nil
    | iface t x =>
      simp only [rnV, Option.map_eq_some_iff] at hu
      obtain ⟨x2, h1, rfl⟩ := hu
      cases hv with
      | same hq _ => simp [atom] at hq
      | iface k1 _ => exact .iface (ih _ _ _ h1 k1) .nil
    | chan a => cases a <;> first | exact at_ rfl hu | (simp [rnV, atom] at hu; done)
    | _ => first | exact at_ rfl hu | (simp [rnV, atom] at hu; done)
theorem unEs (hm : ∀ i j p, m i = some j → θk j = some p → θ i = some p) : ∀ (es es2 es' : List MapEntry), rnEs m es = some es2 → ER θk es2 es' → ER θ es es' := by
  intro es
  induction es with
  | nil => intro es2 es' h he; cases h; rw [he.inv_nil]; exact ⟨.nil, .nil, rfl⟩
  | cons e es ih =>
    intro es2 es' h he
    simp only [rnEs, Option.bind_eq_some_iff, Option.map_eq_some_iff] at h
    obtain ⟨e2, h1, l2, h2, rfl⟩ := h
    simp only [rnE, Option.bind_eq_some_iff, Option.map_eq_some_iff] at h1
    obtain ⟨k, hk, v, hv, rfl⟩ := h1
    obtain ⟨e', l', rfl⟩ := he.inv
    obtain ⟨a1, a2, a3, a4⟩ := he.cons
    exact ER.mk (unV hm 12 _ _ _ hk a1) (unV hm 12 _ _ _ hv a2) a3 (ih _ _ h2 a4)
theorem unB {ab y : AB} {p : Pl} (hm : ∀ i j p, m i = some j → θk j = some p → θ i = some p) (hr : rnF m ab = some y) (k : BR P θk base p w y) : BR P θ base p w ab := by
  cases ab with
  | dead => exact .dead
  | cells c e ro g =>
    simp only [rnF, Option.map_eq_some_iff] at hr
    obtain ⟨c2, h1, rfl⟩ := hr
    cases k with
    | cells g hv hz => exact .cells g (unL (unV hm 12) _ _ _ h1 hv) hz
    | grow g hv he hk hs hz => exact .grow g (unL (unV hm 12) _ _ _ h1 hv) he hk hs hz
  | map es c =>
    simp only [rnF, Option.map_eq_some_iff] at hr
    obtain ⟨es2, h1, rfl⟩ := hr
    cases k with
    | map g hv hb => exact .map g (unEs hm _ _ _ h1 hv) hb
  | iter r a b c =>
    cases r with
    | none => cases hr; cases k with | iter0 g hs hb => exact .iter0 g hs hb
    | some r =>
      simp only [rnF, Option.map_eq_some_iff] at hr
      obtain ⟨r2, h1, rfl⟩ := hr
      cases k with
      | iter g hmm hs hb => exact .iter g (hm _ _ _ h1 hmm) hs hb
  | strIter a b => cases hr; cases k with | strIter g hb => exact .strIter g hb
theorem rnF_live {ab y : AB} (hr : rnF m ab = some y) (hl : live ab = true) : live y = true := by
  cases ab with
  | dead => cases hl
  | cells c e ro g => simp only [rnF, Option.map_eq_some_iff] at hr; obtain ⟨_, _, rfl⟩ := hr; rfl
  | map es c => simp only [rnF, Option.map_eq_some_iff] at hr; obtain ⟨_, _, rfl⟩ := hr; rfl
  | iter r a b c =>
    cases r with
    | none => cases hr; rfl
    | some r => simp only [rnF, Option.map_eq_some_iff] at hr; obtain ⟨_, _, rfl⟩ := hr; rfl
  | strIter a b => cases hr; rfl
theorem look_spec (i : Nat) : ∀ ρ : List (Nat × Nat), (∃ x ∈ ρ, x.1 = i ∧ x.2 = look ρ i) ∨ (look ρ i = i ∧ ∀ x ∈ ρ, x.1 ≠ i) := by
  intro ρ
  induction ρ with
  | nil => exact .inr ⟨rfl, fun x hx => by cases hx⟩
  | cons x l ih =>
    simp only [look]
    by_cases e : x.1 = i
    · rw [beq_t e, cond_true]
      exact .inl ⟨x, List.mem_cons_self .., e, rfl⟩
    · rw [beq_f e, cond_false]
      rcases ih with ⟨y, h1, h2, h3⟩ | ⟨h1, h2⟩
      · exact .inl ⟨y, List.mem_cons_of_mem _ h1, h2, h3⟩
      · exact .inr ⟨h1, fun y hy => (List.mem_cons.1 hy).elim (fun h => h ▸ e) (h2 y)⟩
theorem look_inj (hi : injB h ρ = true) {i j : Nat} {x y : AB} (hne : i ≠ j) (g1 : h.get i = some x) (g2 : h.get j = some y) (l1 : live x = true) (l2 : live y = true) : look ρ i ≠ look ρ j := by
  have spec : ∀ a ∈ ρ, ((∃ b ∈ ρ, b.1 = a.2) ∨ liveAt h a.2 = false) ∧ ∀ b ∈ ρ, a.2 = b.2 → a.1 = b.1 := fun a ha => by
    have := List.all_eq_true.1 hi a ha
    simp only [Bool.and_eq_true, Bool.or_eq_true, Bool.not_eq_true'] at this
    refine ⟨this.1.imp (fun q => ?_) id, fun b hb e => ?_⟩
    · obtain ⟨b, h1, h2⟩ := List.any_eq_true.1 q
      exact ⟨b, h1, Nat.eq_of_beq_eq_true h2⟩
    · have := List.all_eq_true.1 this.2 b hb
      simp only [Bool.or_eq_true, Bool.not_eq_true'] at this
      rcases this with q | q
      · rw [beq_t e] at q; cases q
      · exact Nat.eq_of_beq_eq_true q
  intro e
  rcases look_spec i ρ with ⟨a, a1, a2, a3⟩ | ⟨a1, a2⟩
  · rcases look_spec j ρ with ⟨b, b1, b2, b3⟩ | ⟨b1, b2⟩
    · exact hne (by rw [← a2, ← b2]; exact (spec a a1).2 b b1 (by rw [a3, b3, e]))
    · rcases (spec a a1).1 with ⟨c, c1, c2⟩ | c
      · exact b2 c c1 (by rw [c2, a3, e, b1])
      · rw [a3, e, b1] at c; simp [liveAt, g2, l2] at c
  · rcases look_spec j ρ with ⟨b, b1, b2, b3⟩ | ⟨b1, b2⟩
    · rcases (spec b b1).1 with ⟨c, c1, c2⟩ | c
      · exact a2 c c1 (by rw [c2, b3, ← e, a1])
      · rw [b3, ← e, a1] at c; simp [liveAt, g1, l1] at c
    · exact hne (by rw [← a1, e, b1])
/-- A store that stands for another one is one for its world. -/
theorem inst_ok (hi : instOk he h hk v vk ρ = true) (hkeys : T.allI (fun i _ => (h.get i).isSome) he (fun i => i) = true) (re : ∀ i, he.get i = none → θe i = none) (xe : Ext θe θk) (rk : WR P base θk hk w) (hv : VR θk vk v') :
    ∃ θ, Ext θe θ ∧ WR P base θ h w ∧ VR θ v v' := by
  simp only [instOk, Bool.and_eq_true] at hi
  obtain ⟨⟨⟨i1, i2⟩, i3⟩, i4⟩ := hi
  let θ : Th := fun i => match h.get i with | none => none | some _ => some ((θk (look ρ i)).getD ⟨0, 0, 0⟩)
  have t0 : ∀ i, h.get i = none → θ i = none := fun i e => by show (match h.get i with | none => none | some _ => _) = none; rw [e]
  have t1 : ∀ i ab, h.get i = some ab → θ i = some ((θk (look ρ i)).getD ⟨0, 0, 0⟩) := fun i ab e => by show (match h.get i with | none => none | some _ => _) = _; rw [e]
  have hm : ∀ i j p, ren h ρ i = some j → θk j = some p → θ i = some p := fun i j p hr hp => by
    unfold ren at hr
    split at hr
    · cases hr
    · rename_i ab hg
      cases hr
      rw [t1 i ab hg, hp]; rfl
  have hat : ∀ i ab, h.get i = some ab → live ab = true → ∃ p y, θk (look ρ i) = some p ∧ hk.get (look ρ i) = some y ∧ live y = true ∧ BR P θ base p w ab := fun i ab hg hl => by
    have := T.allI_get _ _ i1 i ab hg
    cases ab with
    | dead => cases hl
    | _ =>
      dsimp only at this
      split at this
      · rename_i x y hx hy
        have e := sameB_eq _ _ this
        subst e
        obtain ⟨p, k1, k2⟩ := rk.at_ _ _ hy
        exact ⟨p, x, k1, hy, rnF_live hx hl, unB hm hx k2⟩
      · cases this
  refine ⟨θ, fun i p hp => ?_, ⟨t0, fun i ab hg => ?_, fun i j p q x y hne g1 g2 l1 l2 e1 e2 => ?_⟩, ?_⟩
  · cases hge : he.get i with
    | none => rw [re i hge] at hp; cases hp
    | some ab =>
      have h1 := T.allI_get _ _ hkeys i ab hge
      obtain ⟨ab2, h2⟩ := Option.isSome_iff_exists.1 h1
      rw [t1 i ab2 h2]
      have : look ρ i = i := by
        rcases look_spec i ρ with ⟨a, a1, a2, a3⟩ | ⟨a1, a2⟩
        · have := List.all_eq_true.1 i3 a a1
          rw [a2, hge] at this
          cases this
        · exact a1
      rw [this, xe _ _ hp]; rfl
  · cases hl : live ab
    · refine ⟨_, t1 i ab hg, ?_⟩
      cases ab <;> first | exact .dead | cases hl
    · obtain ⟨p, y, k1, k2, k3, k4⟩ := hat i ab hg hl
      exact ⟨p, by rw [t1 i ab hg, k1]; rfl, k4⟩
  · obtain ⟨p', y', k1, k2, k3, k4⟩ := hat i x g1 l1
    obtain ⟨q', z', k5, k6, k7, k8⟩ := hat j y g2 l2
    rw [t1 i x g1, k1] at e1
    rw [t1 j y g2, k5] at e2
    cases e1; cases e2
    exact rk.inj _ _ _ _ _ _ (look_inj i2 hne g1 g2 l1 l2) k2 k6 k3 k7 k1 k5
  · split at i4
    · rename_i u hu
      have e := sameV_eq _ _ _ i4
      subst e
      exact unV hm 12 _ _ _ hu hv
    · cases i4
theorem instAll_mem {o : Value × H × Nat} : ∀ {l : List (Value × H × Nat)} {ρs : List (List (Nat × Nat))}, instAll he h v l ρs = true → o ∈ l → ∃ ρ, instOk he h o.2.1 v o.1 ρ = true := by
  intro l
  induction l with
  | nil => intro ρs _ ho; cases ho
  | cons a l ih =>
    intro ρs hi ho
    cases ρs with
    | nil => cases hi
    | cons ρ ρs =>
      simp only [instAll, Bool.and_eq_true] at hi
      rcases List.mem_cons.1 ho with rfl | ho
      · exact ⟨ρ, hi.1⟩
      · exact ih hi.2 ho
theorem mergeA_ok {outs : List (Value × H × Nat)} {hint : Hint} {e : Ending} (hmg : mergeA he outs hint = some (v, h, n)) (re : ∀ i, he.get i = none → θe i = none) (k : ∃ o ∈ outs, Ret P base θe w o.1 o.2.1 e w') : Ret P base θe w v h e w' := by
  obtain ⟨o, ho, v', θk, rfl, k1, k2, k3, k4⟩ := k
  unfold mergeA at hmg
  split at hmg
  · cases ho
  · rename_i o1 l
    rw [Option.bind_eq_some_iff] at hmg
    obtain ⟨h2, e1, hmg⟩ := hmg
    cases hc : (T.allI (fun i _ => (h2.get i).isSome) he (fun i => i) && instAll he h2 o1.1 (o1 :: l) hint.maps)
    · rw [hc] at hmg; cases hmg
    rw [hc] at hmg
    cases hmg
    rw [Bool.and_eq_true] at hc
    obtain ⟨ρ, hρ⟩ := instAll_mem hc.2 ho
    obtain ⟨θ, q1, q2, q3⟩ := inst_ok hρ hc.1 re k1 k3 k2
    exact ⟨v', θ, rfl, q1, q3, q2, k4⟩
theorem outsA_mem {dcall : CallD} {fn : Func} : ∀ {l : List (Ex × St)} {os : List (Value × H × Nat)}, outsA P dcall fn l = some os → ∀ r ∈ l, (r.1 = .normal ∨ r.1 = .ret) ∧ ∃ q vs, defersA dcall r.2.ds r.2.h r.2.n = some q ∧ resA P fn.results.toList ⟨r.2.tm, q.1, q.2, []⟩ = some vs ∧ (oneOr vs, q.1, q.2) ∈ os := by
  intro l
  induction l with
  | nil => intro os _ r hr; cases hr
  | cons a l ih =>
    intro os h r hr
    have key : ∀ x, ((defersA dcall a.2.ds a.2.h a.2.n).bind fun q => (resA P fn.results.toList ⟨a.2.tm, q.1, q.2, []⟩).bind fun vs => (outsA P dcall fn l).map fun o => (oneOr vs, q.1, q.2) :: o) = some x → (∃ q vs, defersA dcall a.2.ds a.2.h a.2.n = some q ∧ resA P fn.results.toList ⟨a.2.tm, q.1, q.2, []⟩ = some vs ∧ (oneOr vs, q.1, q.2) ∈ x) ∧ ∃ o, outsA P dcall fn l = some o ∧ ∀ y ∈ o, y ∈ x := fun x hx => by
      simp only [Option.bind_eq_some_iff, Option.map_eq_some_iff] at hx
      obtain ⟨q, h1, vs, h2, o, h3, rfl⟩ := hx
      exact ⟨⟨q, vs, h1, h2, List.mem_cons_self ..⟩, o, h3, fun y hy => List.mem_cons_of_mem _ hy⟩
    obtain ⟨ex, s⟩ := a
    simp only [outsA] at h
    cases ex with
    | exit j => cases h
    | normal =>
      obtain ⟨⟨q, vs, k1, k2, k3⟩, o, k4, k5⟩ := key _ h
      rcases List.mem_cons.1 hr with rfl | hr
      · exact ⟨.inl rfl, q, vs, k1, k2, k3⟩
      · obtain ⟨m1, q', vs', m2, m3, m4⟩ := ih k4 r hr
        exact ⟨m1, q', vs', m2, m3, k5 _ m4⟩
    | ret =>
      obtain ⟨⟨q, vs, k1, k2, k3⟩, o, k4, k5⟩ := key _ h
      rcases List.mem_cons.1 hr with rfl | hr
      · exact ⟨.inr rfl, q, vs, k1, k2, k3⟩
      · obtain ⟨m1, q', vs', m2, m3, m4⟩ := ih k4 r hr
        exact ⟨m1, q', vs', m2, m3, k5 _ m4⟩
theorem evalBodyN_ok {rg : CallF → Nat → RegF} (hrg : RgOk P h0 G rg) {F : Nat} {dcall : CallD} {g : FuncId} {fn : Func} {c : Code} {args : List Value} {args' : Array Value} {hint : Hint} (hm : P.follows .mixedOrders = true) (hc : CallOk P h0 G call) (hd : LateOk P h0 G dcall) (hf : P.funcs[g]? = some fn) (hbd : fn.body = some c)
    (hev : evalBodyN P G (rg call fn.ntmps) call dcall F fn c args h n hint = some (v, h', n')) (gl : Gl P h0 G base θ w) (r : WR P base θ h w) (hb : base ≤ w.heap.size) (hv : VL θ args args'.toList) : Calls P g args' w (Ret P base θ w v h') := by
  unfold evalBodyN at hev
  simp only [Option.bind_eq_some_iff] at hev
  obtain ⟨tm, ht, l, hl, os, hos, hmg⟩ := hev
  refine Calls.mono (R := fun e w' => ∃ o ∈ os, Ret P base θ w o.1 o.2.1 e w') ?_ fun e w' k => mergeA_ok hmg r.dom k
  refine calls_of_wp_defers hf hbd ?_
  refine evalCodeN_ok hrg hm hc F c ⟨tm, h, n, []⟩ l _ θ w _ hl gl (enter_rel ht hv) r hb fun q hq a' θ' w' x1 x2 x3 x4 => ?_
  obtain ⟨hex, ⟨h1, n1⟩, vs, e2, e3, hmem⟩ := outsA_mem hos q hq
  have key : Leaves P fn a'.tmps (fun e w' => ∃ o ∈ os, Ret P base θ w o.1 o.2.1 e w') a'.defers .returning w' := by
    refine leaves_late hd q.2.ds a'.defers q.2.h h1 q.2.n n1 θ' w' e2 x2.defers (gl.mono x1 x4) x3 (Nat.le_trans hb x4.size) fun θ2 w2 y1 y2 y3 => ?_
    have ar2 : AR θ2 fn.ntmps q.2.tm [] ⟨a'.tmps, []⟩ := ⟨.nil, x2.size, fun x => (x2.val x).mono y1⟩
    obtain ⟨v', m1, m2⟩ := results_run (s := ⟨q.2.tm, h1, n1, []⟩) (a := ⟨a'.tmps, []⟩) y2 ar2 e3
    exact ⟨v', m1, _, hmem, v', θ2, rfl, x1.trans y1, m2, y2, x4.trans y3⟩
  obtain ⟨ex, s⟩ := q
  rcases hex with e | e
  · dsimp only at e; subst e; exact key
  · dsimp only at e; subst e; exact key
theorem ndF_ok {rg : CallF → Nat → RegF} (hrg : RgOk P h0 G rg) {dext : CallD} {F : Nat} {hints : List (FuncId × Nat × Hint)} (hm : P.follows .mixedOrders = true) (hn : Named P) (hd : LateOk P h0 G dext) : ∀ call, CallOk P h0 G call → CallOk P h0 G (ndF P G rg dext F hints call) := by
  intro call hc g args h n v h' n' hev base θ w args' gl r hb hv
  unfold ndF at hev
  split at hev
  · cases hev
  · split at hev
    · cases hev
    · rename_i fn hf
      split at hev
      · cases hev
      · rename_i c hbd
        refine .enter (f := g) (args := args') ?_ (evalBodyN_ok hrg hm hc (lateA_ok hm hn hc hd) hf hbd hev gl r hb hv)
        have := hn g fn c hf hbd
        simpa [callFunc, hf, hbd] using this
end
end Go.Proofs.YthbmnacleneflaaGreatDoor.ae
/-
  A run of one goroutine over known values: a region whose order is drawn, by a plan made of its operations alone: which of them are taken first, which must come next in every order. Conditions: those of the code's evaluator.
-/
set_option linter.unusedVariables false
set_option linter.unusedSimpArgs false
namespace Go.Proofs.YthbmnacleneflaaGreatDoor.ae
open Go

inductive PK where
  | take (i : Nat) : PK
  | force (i : Nat) (keep : List Nat) : PK
def takeable (ops : Array Oper) (listed : Array Bool) (j : Nat) : Bool := match ops[j]? with
  | some o => isRead o.op && Region.free .any ops listed j
  | none => false
def planOf (ops : Array Oper) : Nat → Array Bool → List Nat → Option (List PK)
  | 0, listed, _ => (match Region.ready .any ops listed with | [] => some [] | _ => none)
  | f + 1, listed, tk => match Region.ready .any ops listed with
    | [] => some []
    | i :: rs => match (i :: rs).find? (takeable ops listed) with
      | some j => (planOf ops f (listed.setIfInBounds j true) (j :: tk)).map (.take j :: ·)
      | none => (match rs with
        | [] => (planOf ops f (listed.setIfInBounds i true) (tk.filter fun k => (Region.ready .any ops (listed.setIfInBounds k false)).contains i)).map (.force i (tk.filter fun k => (Region.ready .any ops (listed.setIfInBounds k false)).contains i) :: ·)
        | _ => none)
def noC : CallF := fun _ _ _ _ => none
def pureF (P : Program) (G : Nat) (tm : T Value) (o : Oper) : Option Value := match o.op with
  | .binOp op _ x y _ => bif okO G x && okO G y then fastBin op (evA G tm x) (evA G tm y) else none
  | op => bif isPure op then (opK o P noC G tm .nil 0).map (·.1) else none
def readF (P : Program) (G : Nat) (tm : T Value) (o : Oper) (h : H) : Option Value := bif isRead o.op then (opK o P noC G tm h 0).map (·.1) else none
def heldF (P : Program) (G : Nat) (L : List Entry) (h : H) : Bool := L.all fun e => match readF P G e.tm e.o h with
  | some v => sameV 12 v e.v
  | none => false
def stepD (P : Program) (G : Nat) (call : CallF) (N : Nat) (ops : Array Oper) (n0 i : Nat) (s : St) : Option St := match ops[i]? with
  | none => some s
  | some o => bif Region.wanted o (yieldedA ops s.tm) then
      (bif isCall o.op then (opK o P call G s.tm s.h s.n).bind fun r => (putA N s.tm o.dst r.1).map fun tm => ⟨tm, r.2.1, r.2.2, s.ds⟩
        else (opK o P call G s.tm s.h (n0 + i)).bind fun r => (putA N s.tm o.dst r.1).map fun tm => ⟨tm, r.2.1, s.n, s.ds⟩)
    else (putA N s.tm o.dst undef).map fun tm => ⟨tm, s.h, s.n, s.ds⟩
def evalPlan (P : Program) (G : Nat) (call : CallF) (N : Nat) (ops : Array Oper) (n0 : Nat) : List PK → List Entry → St → Option St
  | [], _, s => some s
  | .take i :: p, L, s => (match ops[i]? with
    | none => none
    | some o => bif Region.wanted o (yieldedA ops s.tm) then (match pureF P G s.tm o with
        | some v => (putA N s.tm o.dst v).bind fun tm => evalPlan P G call N ops n0 p L ⟨tm, s.h, s.n, s.ds⟩
        | none => (readF P G s.tm o s.h).bind fun v => (putA N s.tm o.dst v).bind fun tm => evalPlan P G call N ops n0 p (⟨s.tm, o, v, i⟩ :: L) ⟨tm, s.h, s.n, s.ds⟩)
      else (putA N s.tm o.dst undef).bind fun tm => evalPlan P G call N ops n0 p L ⟨tm, s.h, s.n, s.ds⟩)
  | .force i keep :: p, L, s => (stepD P G call N ops n0 i s).bind fun s1 => bif heldF P G (L.filter fun e => keep.any (Nat.beq e.i)) s1.h then evalPlan P G call N ops n0 p (L.filter fun e => keep.any (Nat.beq e.i)) s1 else none
def regionP (P : Program) (G : Nat) (call : CallF) (N : Nat) : RegF := fun ops draw s =>
  bif draw then (match planOf ops ops.size (Array.replicate ops.size false) [] with
    | some p => evalPlan P G call N ops s.n p [] ⟨s.tm, s.h, s.n + ops.size, s.ds⟩
    | none => regionA P G call N ops true s)
  else evalOpsF P G call N ops (List.range ops.size) s

section
variable {P : Program} {G N n0 base : Nat} {θ θ' : Th} {w w' : World} {h h0 : H} {n : Nat} {call : CallF} {tm : T Value} {o : Oper} {v : Value} {ops : Array Oper} {s s' : St} {a : Act} {L : List Entry}
theorem evalOp_read (hr : isRead o.op = true) (hv : (evalOp P G call tm o h n).map (·.1) = some v) : o.op.operands.toList.all (okO G) = true ∧ (Option.map (fun r : Value × H × Nat => r.1) (match flatOp P (evA G tm) o with | some v => some (v, h, n) | none => opA P (evA G tm) o.op h n) = some v) := by
  unfold evalOp at hv
  cases hk : o.op.operands.toList.all (okO G)
  · rw [hk] at hv; cases hv
  rw [hk, cond_true] at hv
  refine ⟨rfl, ?_⟩
  split at hv
  · rename_i c hop
    split at hv
    · rename_i f hcl
      rw [hop] at hr
      simp [isRead, hcl] at hr
    · exact hv
  · exact hv
theorem readF_ok (hv : readF P G tm o h = some v) : readVal P G tm o h = some v := by
  unfold readF at hv
  cases hr : isRead o.op
  · rw [hr] at hv; cases hv
  rw [hr, cond_true, opK_eq] at hv
  obtain ⟨h1, h2⟩ := evalOp_read hr hv
  unfold readVal
  rw [h1, cond_true]
  revert h2
  cases flatOp P (evA G tm) o with
  | some u => intro h2; simpa using h2
  | none => intro h2; rw [hr, cond_true]; exact h2
theorem isPure_read {op : Op} (h : isPure op = true) : isRead op = true := by
  cases op <;> first | rfl | cases h
theorem pureF_ok (hv : pureF P G tm o = some v) : pureVal P G tm o = some v := by
  have gen : (bif isPure o.op then (opK o P noC G tm .nil 0).map (·.1) else none) = some v → pureVal P G tm o = some v := fun hv => by
    cases hr : isPure o.op
    · rw [hr] at hv; cases hv
    rw [hr, cond_true, opK_eq] at hv
    obtain ⟨h1, h2⟩ := evalOp_read (isPure_read hr) hv
    unfold pureVal
    rw [h1, cond_true]
    revert h2
    cases flatOp P (evA G tm) o with
    | some u => intro h2; simpa using h2
    | none => intro h2; rw [hr, cond_true]; exact h2
  unfold pureF at hv
  split at hv
  · rename_i op t x y yt ho
    cases hk : (okO G x && okO G y)
    · rw [hk] at hv; cases hv
    rw [hk, cond_true] at hv
    have := fastBin_flat (P := P) ho hv
    unfold pureVal
    rw [show o.op.operands.toList.all (okO G) = true by rw [ho]; simpa [Op.operands] using hk, cond_true, this]
  · exact gen hv
theorem heldF_spec (hb : heldF P G L h = true) : Held P G L h := by
  intro e he
  have := List.all_eq_true.1 hb e he
  split at this
  · rename_i u hu; rw [readF_ok hu, sameV_eq _ _ _ this]
  · cases this
theorem stepD_eq (i : Nat) : stepD P G call N ops n0 i s = stepI P G call N ops (some n0) i s := by
  unfold stepD stepI
  simp only [opK_eq]
  rfl
theorem plan_ok : ∀ (f : Nat) (listed : Array Bool) (tk : List Nat) (p : List PK) (L : List Entry) (s s' : St), planOf ops f listed tk = some p → (∀ e ∈ L, e.i ∈ tk) → Held P G L s.h → evalPlan P G call N ops n0 p L s = some s' → AllL P G call N ops n0 f L listed s s' := by
  intro f
  induction f with
  | zero =>
    intro listed tk p L s s' hp hi hh he
    unfold planOf at hp
    split at hp
    · rename_i hr; cases hp; cases he; exact ⟨hr, rfl⟩
    · cases hp
  | succ f ih =>
    intro listed tk p L s s' hp hi hh he
    unfold planOf at hp
    split at hp
    · rename_i hr
      cases hp; cases he
      exact ⟨fun _ => rfl, fun i hm => by rw [hr] at hm; cases hm⟩
    · rename_i i rs hr
      split at hp
      · rename_i j hj
        rw [Option.map_eq_some_iff] at hp
        obtain ⟨p', hp', rfl⟩ := hp
        have hmem : j ∈ Region.ready .any ops listed := by rw [hr]; exact List.mem_of_find?_eq_some hj
        have htk := List.find?_some hj
        unfold takeable at htk
        unfold evalPlan at he
        split at htk
        · rename_i o ho
          rw [Bool.and_eq_true] at htk
          rw [ho] at he
          dsimp only at he
          have hfree := Region.free_spec ho htk.2
          have hi' : ∀ e ∈ L, e.i ∈ j :: tk := fun e hm => List.mem_cons_of_mem _ (hi e hm)
          cases hw : Region.wanted o (yieldedA ops s.tm)
          · rw [hw, cond_false, Option.bind_eq_some_iff] at he
            obtain ⟨tm1, ht, he⟩ := he
            exact AllL_first ho (E := none) (fun e he => by cases he) f L listed s tm1 hfree hmem (.inr ⟨hw, rfl⟩) (fun e he => by cases he) hh ht (ih _ _ _ L _ _ hp' hi' hh he)
          · rw [hw, cond_true] at he
            split at he
            · rename_i v hv
              rw [Option.bind_eq_some_iff] at he
              obtain ⟨tm1, ht, he⟩ := he
              exact AllL_first ho (E := none) (fun e he => by cases he) f L listed s tm1 hfree hmem (.inl ⟨hw, fun h _ => pureVal_ok (pureF_ok hv) h⟩) (fun e he => by cases he) hh ht (ih _ _ _ L _ _ hp' hi' hh he)
            · simp only [Option.bind_eq_some_iff] at he
              obtain ⟨v, hv, tm1, ht, he⟩ := he
              have w2 := readF_ok hv
              have hh' : Held P G (⟨s.tm, o, v, j⟩ :: L) s.h := fun e hm => by
                rcases List.mem_cons.1 hm with rfl | hm
                · exact w2
                · exact hh e hm
              have hi2 : ∀ e ∈ (⟨s.tm, o, v, j⟩ :: L : List Entry), e.i ∈ j :: tk := fun e hm => by
                rcases List.mem_cons.1 hm with rfl | hm
                · exact List.mem_cons_self ..
                · exact hi' e hm
              exact AllL_first ho (E := some ⟨s.tm, o, v, j⟩) (fun e he => by cases he; rfl) f L listed s tm1 hfree hmem (.inl ⟨hw, fun h k => k _ rfl⟩) (fun e he => by cases he; exact w2) hh ht (ih _ _ _ _ _ _ hp' hi2 hh' he)
        · cases htk
      · split at hp
        · rw [Option.map_eq_some_iff] at hp
          obtain ⟨p', hp', rfl⟩ := hp
          unfold evalPlan at he
          rw [Option.bind_eq_some_iff] at he
          obtain ⟨s1, h1, he⟩ := he
          cases hb : heldF P G (L.filter fun e => (tk.filter fun k => (Region.ready .any ops (listed.setIfInBounds k false)).contains i).any (Nat.beq e.i)) s1.h
          · rw [hb] at he; cases he
          rw [hb, cond_true] at he
          rw [stepD_eq] at h1
          have hsub : ∀ e ∈ keepL ops listed i L, e ∈ L.filter fun e => (tk.filter fun k => (Region.ready .any ops (listed.setIfInBounds k false)).contains i).any (Nat.beq e.i) := fun e hm => by
            unfold keepL at hm
            rw [List.mem_filter] at hm ⊢
            refine ⟨hm.1, List.any_eq_true.2 ⟨e.i, List.mem_filter.2 ⟨hi e hm.1, hm.2⟩, beq_t rfl⟩⟩
          have hi2 : ∀ e ∈ L.filter (fun e => (tk.filter fun k => (Region.ready .any ops (listed.setIfInBounds k false)).contains i).any (Nat.beq e.i)), e.i ∈ tk.filter fun k => (Region.ready .any ops (listed.setIfInBounds k false)).contains i := fun e hm => by
            obtain ⟨k, k1, k2⟩ := List.any_eq_true.1 (List.mem_filter.1 hm).2
            rw [Nat.eq_of_beq_eq_true k2]; exact k1
          have hheld := heldF_spec hb
          refine ⟨fun e => (by rw [hr] at e; cases e), fun j hj => ?_⟩
          rw [hr] at hj
          have : j = i := by simpa using hj
          subst this
          exact ⟨s1, h1, hheld.sub hsub, AllL_weaken _ _ _ _ _ hsub (ih _ _ _ _ _ _ hp' hi2 hheld he)⟩
        · cases hp
theorem regionP_rg (hm : P.follows .mixedOrders = true) : RgOk P h0 G (regionP P G) := by
  intro call hc N base ops draw id s s' a θ w Q he gl ar r hb hn
  unfold regionP at he
  cases draw with
  | false =>
    rw [cond_false, evalOpsF_eq] at he
    exact wp_region (evalOps_ok hc _ s s' a θ w he gl ar r hb hn)
  | true =>
    rw [cond_true] at he
    split at he
    · rename_i p hp
      have hall := plan_ok _ _ _ _ [] _ _ hp (fun e he => by cases he) (fun e he => by cases he) he
      refine wp_region_draw fun t => ?_
      have ho := AllL_orders _ t _ _ _ hall
      simp only [Region.schedule, hm, Bool.true_or, if_true]
      exact evalOps_ok hc _ _ s' a θ { w with drawn := w.drawn + 1 } ho (gl.mono (Ext.refl θ) ⟨rfl, rfl, rfl, Nat.le_refl _, fun _ _ => rfl⟩) ar (r.heap rfl) hb fun a' θ' w' x1 x2 x3 x4 => hn a' θ' w' x1 x2 x3 ⟨x4.os, x4.tape, x4.output, x4.size, x4.block⟩
    · exact regionA_ok hm hc he gl ar r hb hn
end
end Go.Proofs.YthbmnacleneflaaGreatDoor.ae
/-
  A run of one goroutine over known values: a call as it stands in a run, looked at by itself: what it is given and what is still wanted of the store are known, all else is dead. Conditions: those of the code's evaluator.
-/
set_option linter.unusedVariables false
set_option linter.unusedSimpArgs false
namespace Go.Proofs.YthbmnacleneflaaGreatDoor.ae
open Go

/-- All numbers below n, and below n + 1: dead. -/
def deadP : Nat → Nat → H × H
  | 0, _ => (.nil, .nil)
  | f + 1, n => bif Nat.beq n 0 then (.nil, .node (some .dead) .nil .nil) else (match deadP f ((n - 1) / 2) with
    | (a, b) => bif Nat.beq (n % 2) 1 then (.node (some .dead) a a, .node (some .dead) b a) else (.node (some .dead) b a, .node (some .dead) b b))
def putsH (h : H) : List (Nat × AB) → Option H
  | [] => some h
  | x :: l => (hput h x.1 x.2).bind fun h => putsH h l
def thin (n : Nat) (l : List (Nat × AB)) : Option H := bif Nat.blt n 500000000 then putsH (deadP 30 n).1 l else none
def subB (h : H) (l : List (Nat × AB)) : Bool := l.all fun x => match h.get x.1 with | some ab => sameB ab x.2 | none => false
def belowB (h : H) (n : Nat) : Bool := T.allI (fun i _ => Nat.blt i n) h (fun i => i)
structure HRow where
  g : FuncId
  args : List Value
  n : Nat
  hp : List (Nat × AB)
  v : Value
  n' : Nat
  hp' : List (Nat × AB)
def rowF (tab : List HRow) : CallF := fun g args h n => match tab.find? (fun s => Nat.beq s.g g && (Nat.beq s.n n && (same2 (sameV 12) s.args args && (subB h s.hp && belowB h s.n)))) with
  | some s => (thin s.n' s.hp').map fun h => (s.v, h, s.n')
  | none => none
def chkRow (P : Program) (G : Nat) (rg : CallF → Nat → RegF) (ext : CallF) (sp : CallF → CallF) (dext : CallD) (F d : Nat) (s : HRow) : Bool := match thin s.n s.hp with
  | some h => (match evalCall P G rg ext sp dext F d s.g s.args h s.n with
    | some (v, h, _) => sameV 12 v s.v && (subB h s.hp' && belowB h s.n')
    | none => false)
  | none => false

section
variable {P : Program} {G n base : Nat} {θ θ' : Th} {w w' : World} {h h' h0 hs : H} {v v' : Value} {l : List (Nat × AB)}
theorem node_get (v : Option AB) (a b : H) (i : Nat) : (T.node v a b).get i = if i = 0 then v else if i % 2 = 1 then a.get (i / 2) else b.get (i / 2 - 1) := by
  simp only [T.get]
  by_cases e : i = 0
  · subst e; rfl
  · rw [beq_f e, cond_false, if_neg e]
    rcases Nat.mod_two_eq_zero_or_one i with hm | hm
    · rw [hm]; rfl
    · rw [hm]; rfl
theorem deadP_get : ∀ (f n : Nat), n < 2 ^ f → ∀ i, (deadP (f + 1) n).1.get i = (if i < n then some .dead else none) ∧ (deadP (f + 1) n).2.get i = (if i < n + 1 then some .dead else none) := by
  intro f
  induction f with
  | zero =>
    intro n hn i
    have : n = 0 := by omega
    subst this
    refine ⟨rfl, ?_⟩
    show (T.node (some AB.dead) .nil .nil).get i = _
    rw [node_get]
    by_cases e : i = 0
    · subst e; rfl
    · have e2 : ¬ i < 0 + 1 := by omega
      rw [if_neg e, if_neg e2]
      split <;> rfl
  | succ f ih =>
    intro n hn i
    by_cases e : n = 0
    · subst e
      refine ⟨rfl, ?_⟩
      show (T.node (some AB.dead) .nil .nil).get i = _
      rw [node_get]
      by_cases e : i = 0
      · subst e; rfl
      · have e2 : ¬ i < 0 + 1 := by omega
        rw [if_neg e, if_neg e2]
        split <;> rfl
    · have hk : (n - 1) / 2 < 2 ^ f := by rw [Nat.pow_succ] at hn; omega
      have k1 := fun i => (ih _ hk i).1
      have k2 := fun i => (ih _ hk i).2
      unfold deadP
      rw [beq_f e, cond_false]
      cases hd : deadP (f + 1) ((n - 1) / 2) with
      | mk a b =>
        rw [hd] at k1 k2
        dsimp only at k1 k2 ⊢
        rcases Nat.mod_two_eq_zero_or_one n with hm | hm
        · rw [hm, show Nat.beq 0 1 = false from rfl, cond_false]
          dsimp only
          rw [node_get, node_get, k1, k2, k2]
          constructor
          · by_cases e0 : i = 0
            · rw [if_pos e0, if_pos (by omega)]
            · rw [if_neg e0]
              rcases Nat.mod_two_eq_zero_or_one i with hi | hi
              · rw [if_neg (by omega)]
                by_cases q : i < n
                · rw [if_pos q, if_pos (by omega)]
                · rw [if_neg q, if_neg (by omega)]
              · rw [if_pos hi]
                by_cases q : i < n
                · rw [if_pos q, if_pos (by omega)]
                · rw [if_neg q, if_neg (by omega)]
          · by_cases e0 : i = 0
            · rw [if_pos e0, if_pos (by omega)]
            · rw [if_neg e0]
              rcases Nat.mod_two_eq_zero_or_one i with hi | hi
              · rw [if_neg (by omega)]
                by_cases q : i < n + 1
                · rw [if_pos q, if_pos (by omega)]
                · rw [if_neg q, if_neg (by omega)]
              · rw [if_pos hi]
                by_cases q : i < n + 1
                · rw [if_pos q, if_pos (by omega)]
                · rw [if_neg q, if_neg (by omega)]
        · rw [hm, show Nat.beq 1 1 = true from rfl, cond_true]
          dsimp only
          rw [node_get, node_get, k1, k1, k2]
          constructor
          · by_cases e0 : i = 0
            · rw [if_pos e0, if_pos (by omega)]
            · rw [if_neg e0]
              rcases Nat.mod_two_eq_zero_or_one i with hi | hi
              · rw [if_neg (by omega)]
                by_cases q : i < n
                · rw [if_pos q, if_pos (by omega)]
                · rw [if_neg q, if_neg (by omega)]
              · rw [if_pos hi]
                by_cases q : i < n
                · rw [if_pos q, if_pos (by omega)]
                · rw [if_neg q, if_neg (by omega)]
          · by_cases e0 : i = 0
            · rw [if_pos e0, if_pos (by omega)]
            · rw [if_neg e0]
              rcases Nat.mod_two_eq_zero_or_one i with hi | hi
              · rw [if_neg (by omega)]
                by_cases q : i < n + 1
                · rw [if_pos q, if_pos (by omega)]
                · rw [if_neg q, if_neg (by omega)]
              · rw [if_pos hi]
                by_cases q : i < n + 1
                · rw [if_pos q, if_pos (by omega)]
                · rw [if_neg q, if_neg (by omega)]
theorem putsH_get : ∀ (l : List (Nat × AB)) (h hs : H), putsH h l = some hs → ∀ i, (h.get i ≠ none → hs.get i ≠ none) ∧ ∀ ab, hs.get i = some ab → h.get i = some ab ∨ (i, ab) ∈ l := by
  intro l
  induction l with
  | nil => intro h hs e i; cases e; exact ⟨id, fun ab => .inl⟩
  | cons x l ih =>
    intro h hs e i
    simp only [putsH, Option.bind_eq_some_iff] at e
    obtain ⟨h1, e1, e2⟩ := e
    obtain ⟨k1, k2⟩ := ih _ _ e2 i
    have g := hput_get e1 i
    by_cases q : i = x.1
    · rw [if_pos q] at g
      refine ⟨fun _ => k1 (by rw [g]; intro c; cases c), fun ab ha => ?_⟩
      rcases k2 ab ha with r | r
      · rw [g] at r; cases r
        exact .inr (by rw [q]; exact .head _)
      · exact .inr (.tail _ r)
    · rw [if_neg q] at g
      rw [g] at k1 k2
      exact ⟨k1, fun ab ha => (k2 ab ha).imp id (.tail _)⟩
theorem subB_mem (hs : subB h l = true) {i : Nat} {ab : AB} (hm : (i, ab) ∈ l) : h.get i = some ab := by
  have := List.all_eq_true.1 hs _ hm
  dsimp only at this
  split at this
  · rename_i c hc
    rw [hc, sameB_eq _ _ this]
  · cases this
theorem belowB_lt (hb : belowB h n = true) {i : Nat} {ab : AB} (hg : h.get i = some ab) : i < n := Nat.le_of_ble_eq_true (T.allI_get _ _ hb _ _ hg)
theorem thin_ok (r : WR P base θ h w) (hb : belowB h n = true) (hp : subB h l = true) (ht : thin n l = some hs) : ∃ θ', Ext θ θ' ∧ WR P base θ' hs w := by
  unfold thin at ht
  cases hn : Nat.blt n 500000000
  · rw [hn] at ht; cases ht
  rw [hn, cond_true] at ht
  have hn := Nat.le_of_ble_eq_true hn
  have dg := fun i => (deadP_get 29 n (by have : (2:Nat) ^ 29 = 536870912 := rfl; omega) i).1
  have pg := putsH_get _ _ _ ht
  have hi : ∀ i ab, hs.get i = some ab → ab = .dead ∧ i < n ∨ h.get i = some ab := fun i ab hg => by
    rcases (pg i).2 ab hg with k | k
    · rw [dg i] at k
      split at k
      · rename_i q; cases k; exact .inl ⟨rfl, q⟩
      · cases k
    · exact .inr (subB_mem hp k)
  have hn2 : ∀ i ab, hs.get i = some ab → i < n := fun i ab hg => (hi i ab hg).elim (·.2) (belowB_lt hb)
  have hex : Ext θ (fun i => if i < n then some ((θ i).getD ⟨0, 0, 0⟩) else none) := fun i p hp => by
    cases hg : h.get i with
    | none => rw [r.dom i hg] at hp; cases hp
    | some ab =>
      dsimp only
      rw [if_pos (belowB_lt hb hg), hp]; rfl
  refine ⟨fun i => if i < n then some ((θ i).getD ⟨0, 0, 0⟩) else none, hex, ⟨fun i hg => ?_, fun i ab hg => ?_, fun i j p q x y hne g1 g2 l1 l2 e1 e2 => ?_⟩⟩
  · rw [if_neg]
    intro q
    exact (pg i).1 (by rw [dg i, if_pos q]; intro c; cases c) hg
  · rw [if_pos (hn2 i ab hg)]
    refine ⟨_, rfl, ?_⟩
    rcases hi i ab hg with ⟨rfl, _⟩ | k
    · exact .dead
    · obtain ⟨p, k1, k2⟩ := r.at_ i ab k
      rw [k1]
      exact k2.mono hex fun _ => rfl
  · rw [if_pos (hn2 i x g1)] at e1
    rw [if_pos (hn2 j y g2)] at e2
    rcases hi i x g1 with ⟨rfl, _⟩ | k1
    · cases l1
    rcases hi j y g2 with ⟨rfl, _⟩ | k2
    · cases l2
    obtain ⟨p', m1, _⟩ := r.at_ i x k1
    obtain ⟨q', m2, _⟩ := r.at_ j y k2
    rw [m1] at e1; cases e1
    rw [m2] at e2; cases e2
    exact r.inj i j _ _ _ _ hne k1 k2 l1 l2 m1 m2
/-- What is said of a call as it stands in a run. -/
def RowOk (P : Program) (h0 : H) (G : Nat) (s : HRow) : Prop := (thin s.n s.hp).isSome = true ∧ ∃ h', subB h' s.hp' = true ∧ belowB h' s.n' = true ∧ ∀ hs, thin s.n s.hp = some hs → ∀ (base : Nat) (θ : Th) (w : World) (args' : Array Value), Gl P h0 G base θ w → WR P base θ hs w → base ≤ w.heap.size → VL θ s.args args'.toList →
  Ans P base θ w (callFunc s.g args') s.v h'
theorem row_of_chk {rg : CallF → Nat → RegF} {ext : CallF} {sp : CallF → CallF} {dext : CallD} {F d : Nat} {s : HRow} (hc : CallOk P h0 G (evalCall P G rg ext sp dext F d)) (hk : chkRow P G rg ext sp dext F d s = true) : RowOk P h0 G s := by
  unfold chkRow at hk
  split at hk
  · rename_i h ht
    split at hk
    · rename_i v h' n' he
      simp only [Bool.and_eq_true] at hk
      obtain ⟨k1, k2, k3⟩ := hk
      have e1 := sameV_eq _ _ _ k1
      subst e1
      refine ⟨by rw [ht]; rfl, h', k2, k3, fun hs hs' base θ w args' gl r hb hv => ?_⟩
      rw [ht] at hs'; cases hs'
      exact hc _ _ _ _ _ _ _ he base θ w args' gl r hb hv
    · cases hk
  · cases hk
theorem rowF_ok {tab : List HRow} (ht : ∀ s ∈ tab, RowOk P h0 G s) : CallOk P h0 G (rowF tab) := by
  intro g args h n v h' n' he base θ w args' gl r hb hv
  unfold rowF at he
  split at he
  · rename_i s hf
    have hmem := List.mem_of_find?_eq_some hf
    have hp := List.find?_some hf
    simp only [Bool.and_eq_true] at hp
    obtain ⟨p1, p2, p3, p4, p5⟩ := hp
    have e1 := Nat.eq_of_beq_eq_true p1
    have e2 := same2_eq (sameV_eq 12) _ _ p3
    subst e1; subst e2
    simp only [Option.map_eq_some_iff] at he
    obtain ⟨h2, h3, e⟩ := he
    cases e
    obtain ⟨hth, hx, q2, q3, q4⟩ := ht s hmem
    obtain ⟨hs, hhs⟩ := Option.isSome_iff_exists.1 hth
    obtain ⟨θ1, x1, r1⟩ := thin_ok r p5 p4 hhs
    have gl1 : Gl P h0 G base θ1 w := by
      obtain ⟨θ0, g1, g2⟩ := gl
      exact ⟨θ0, g1.trans x1, g2⟩
    have ans := q4 hs hhs base θ1 w args' gl1 r1 hb (hv.mono x1)
    have fin : ∀ θs w' v', Ext θ1 θs → VR θs s.v v' → WR P base θs hx w' → ∃ θ2, Ext θ θ2 ∧ VR θ2 s.v v' ∧ WR P base θ2 h' w' := fun θs w' v' xs hvr rs => by
      obtain ⟨θ2, x2, r2⟩ := thin_ok rs q3 q2 h3
      exact ⟨θ2, (x1.trans xs).trans x2, hvr.mono x2, r2⟩
    cases ans with
    | op k =>
      obtain ⟨nx, θs, w', v', m1, m2, m3, m4, m5, m6⟩ := k
      obtain ⟨θ2, q1, q2, q3⟩ := fin θs w' v' m3 m4 m5
      exact .op ⟨nx, θ2, w', v', m1, m2, q1, q2, q3, m6⟩
    | enter hm k =>
      refine .enter hm (k.mono fun e w' he => ?_)
      obtain ⟨v', θs, rfl, m3, m4, m5, m6⟩ := he
      obtain ⟨θ2, q1, q2, q3⟩ := fin θs w' v' m3 m4 m5
      exact ⟨v', θ2, rfl, q1, q2, q3, m6⟩
  · cases he
end
end Go.Proofs.YthbmnacleneflaaGreatDoor.ae
