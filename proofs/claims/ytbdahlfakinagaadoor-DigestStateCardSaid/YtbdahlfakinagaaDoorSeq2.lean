/- Reading a slot of the frame behind the operations of a head, without the frame. -/
import Derived.Test.YtbdahlfakinagaaDoorSeq
set_option linter.unusedVariables false
namespace Go.Rg
open Go.RowKit
variable {P : Program}

/-- The last operation that yields slot t. -/
def dstAt : List Oper → Nat → Nat → Option Nat
  | [], _, _ => none
  | o :: l, k, t => match dstAt l (k + 1) t with
    | some j => some j
    | none => if o.dst = some t then some k else none
theorem put_sz (a : Act) (d : Option Tmp) (v : Value) : (a.put d v).tmps.size = a.tmps.size := by
  cases d <;> simp [Act.put]
theorem putAll_get (vs : Nat → Value) (t : Nat) (l : List Oper) : ∀ (k : Nat) (a : Act), t < a.tmps.size → (putAll vs l k a).tmps.getD t undef = match dstAt l k t with | some j => vs j | none => a.tmps.getD t undef := by
  induction l with
  | nil => intro k a _; rfl
  | cons o l ih =>
    intro k a ht
    rw [putAll, ih (k + 1) _ (by rw [put_sz]; exact ht), dstAt]
    cases dstAt l (k + 1) t with
    | some j => rfl
    | none =>
      simp only
      by_cases h : o.dst = some t
      · rw [if_pos h, h]
        simp [Act.put, Array.getD, ht]
      · rw [if_neg h]
        cases ho : o.dst with
        | none => rfl
        | some d =>
          have hd : d ≠ t := fun e => h (by rw [ho, e])
          simp only [Act.put]
          rw [Array.getD_eq_getD_getElem?, Array.getElem?_setIfInBounds_ne hd, Array.getD_eq_getD_getElem?]
theorem putAll_size (vs : Nat → Value) (l : List Oper) : ∀ (k : Nat) (a : Act), (putAll vs l k a).tmps.size = a.tmps.size := by
  induction l with
  | nil => intro k a; rfl
  | cons o l ih =>
    intro k a
    rw [putAll, ih, put_sz]
theorem getV {vs : Nat → Value} {l : List Oper} {a : Act} (t j : Nat) (h : dstAt l 0 t = some j) (ht : t < a.tmps.size) : (putAll vs l 0 a).tmps.getD t undef = vs j := by rw [putAll_get vs t l 0 a ht, h]
theorem getA {vs : Nat → Value} {l : List Oper} {a : Act} (t : Nat) (h : dstAt l 0 t = none) (ht : t < a.tmps.size) : (putAll vs l 0 a).tmps.getD t undef = a.tmps.getD t undef := by rw [putAll_get vs t l 0 a ht, h]
theorem yieldV {vs : Nat → Value} {ops : Array Oper} {l : List Oper} {a : Act} {b : Bool} (g t j : Nat) (hg : (ops[g]?).bind (·.dst) = some t) (h : dstAt l 0 t = some j) (ht : t < a.tmps.size) (hv : vs j = .bool b) : yielded ops (putAll vs l 0 a).tmps g = some b := by
  have h1 := getV (vs := vs) (a := a) t j h ht
  have h2 : t < (putAll vs l 0 a).tmps.size := by rw [putAll_size]; exact ht
  rw [Array.getD_eq_getD_getElem?, Array.getElem?_eq_getElem h2] at h1
  simp only [Option.getD_some] at h1
  unfold yielded
  rw [hg]
  simp only [Option.bind_some]
  rw [Array.getElem?_eq_getElem h2, h1, hv]
/-- The fact of an edge. -/
theorem dep_at {Ts : List (Value → World → Prop)} {vs : Nat → Value} {w : World} : ∀ {es : List Edge}, depFacts Ts vs w es → ∀ (i j : Nat) (T : Value → World → Prop), (es[i]?).map (fun e => (e.on, dataE e)) = some (j, true) → Ts[j]? = some T → T (vs j) w
  | e :: r, h, 0, j, T, he, hT => by
    simp only [List.getElem?_cons_zero, Option.map_some, Option.some.injEq, Prod.mk.injEq] at he
    obtain ⟨h1, h2⟩ := he
    have := h.1
    rw [if_pos h2, h1, hT] at this
    exact this
  | e :: r, h, i + 1, j, T, he, hT => by
    rw [List.getElem?_cons_succ] at he
    exact dep_at h.2 i j T he hT
  | [], _, i, j, T, he, _ => by simp at he
/-- Where p holds the value is c. -/
def isIf (p : Bool) (c : Value) : Value → World → Prop := fun v _ => p = true → v = c
theorem isIf.st (p : Bool) (c : Value) : Stable (isIf p c) := fun _ _ _ _ h => h
theorem act_at {c : Code} {Q : Exit → Act → World → Prop} {a : Act} {w : World} (h : ∀ A, A = a → Code.wp P c Q A w) : Code.wp P c Q a w := h a rfl
theorem xOps_cons {ops : Array Oper} {head : List Oper} {Ts : List (Value → World → Prop)} {a : Act} {w : World} {o : Oper} {l : List Oper} {T : Value → World → Prop} {R : List (Value → World → Prop)} (h1 : xOp P ops head Ts a w o T) (h2 : xOps P ops head Ts a w l R) : xOps P ops head Ts a w (o :: l) (T :: R) := ⟨h1, h2⟩
theorem xOps_nil {ops : Array Oper} {head : List Oper} {Ts : List (Value → World → Prop)} {a : Act} {w : World} {R : List (Value → World → Prop)} : xOps P ops head Ts a w [] R := by simp [xOps]
/-- A frame that answers as the one behind the head does. -/
structure FrB (vs : Nat → Value) (head : List Oper) (a F : Act) : Prop where
  v : ∀ (t j : Nat), dstAt head 0 t = some j → Nat.ble (t + 1) a.tmps.size = true → F.tmps.getD t undef = vs j
  a : ∀ (t : Nat), dstAt head 0 t = none → Nat.ble (t + 1) a.tmps.size = true → F.tmps.getD t undef = a.tmps.getD t undef
theorem FrB.self (vs : Nat → Value) (head : List Oper) (a : Act) : FrB vs head a (putAll vs head 0 a) := ⟨fun t j h hb => getV t j h (Nat.le_of_ble_eq_true hb), fun t h hb => getA t h (Nat.le_of_ble_eq_true hb)⟩
/-- An operation under a guard whose Boolean is a variable. -/
theorem xop_if {ops : Array Oper} {head : List Oper} {Ts : List (Value → World → Prop)} {a : Act} {w : World} {o : Oper} {p : Bool} {c : Value} (g t j i : Nat) (hg : o.guard = some (g, true)) (h1 : (ops[g]?).bind (·.dst) = some t) (h2 : dstAt head 0 t = some j) (hb : Nat.ble (t + 1) a.tmps.size = true)
    (he : (o.after.toList[i]?).map (fun e => (e.on, dataE e)) = some (j, true)) (hT : Ts[j]? = some (is (.bool p)))
    (h : p = true → ∀ (vs : Nat → Value) (x : Array Obj × Nat) (F : Act), FrB vs head a F → depFacts Ts vs (w.plus x) o.after.toList → comes P o F (w.plus x) (fun v w' => Ext (w.plus x) w' ∧ v = c)) : xOp P ops head Ts a w o (isIf p c) := fun vs x hd => by
  have hv : vs j = .bool p := dep_at hd i j _ he hT
  have hy := yieldV (vs := vs) (a := a) g t j h1 h2 (Nat.le_of_ble_eq_true hb) hv
  have hwt : Region.wanted o (yielded ops (putAll vs head 0 a).tmps) = p := by
    unfold Region.wanted
    rw [hg]
    simp only [hy]
    cases p <;> rfl
  cases p
  · rw [if_neg (by rw [hwt]; simp)]
    intro q
    cases q
  · rw [if_pos hwt]
    have hc := h rfl vs x _ (FrB.self vs head a) hd
    refine Eq.mp (congrArg (comes P o (putAll vs head 0 a) (w.plus x)) (funext fun v => funext fun w' => propext ⟨fun ⟨q, r⟩ => ⟨q, fun _ => r⟩, fun ⟨q, r⟩ => ⟨q, r rfl⟩⟩)) hc
/-- An operation without a guard. -/
theorem xop_un {ops : Array Oper} {head : List Oper} {Ts : List (Value → World → Prop)} {a : Act} {w : World} {o : Oper} {T : Value → World → Prop} (hg : o.guard = none)
    (h : ∀ (vs : Nat → Value) (x : Array Obj × Nat) (F : Act), FrB vs head a F → depFacts Ts vs (w.plus x) o.after.toList → comes P o F (w.plus x) (fun v w' => Ext (w.plus x) w' ∧ T v w')) : xOp P ops head Ts a w o T := fun vs x hd => by
  have hwt : Region.wanted o (yielded ops (putAll vs head 0 a).tmps) = true := by
    unfold Region.wanted
    rw [hg]
  rw [if_pos hwt]
  exact h vs x _ (FrB.self vs head a) hd
end Go.Rg
