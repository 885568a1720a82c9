/- A region that draws its order, walked once: every operation's value meets a predicate of its own, and the world goes on by a relation under which these predicates stay true. Then the order does not matter. -/
import Derived.StillTail
import Derived.WalkKit
import Derived.Test.YtbdahlfakinagaaDoorPlus
set_option linter.unusedVariables false
namespace Go.Rg
open Go
/-- A goal that waits. -/
structure Lock (p : Prop) : Prop where
  out : p
  tag : True
section
variable {P : Program} {ops : Array Oper}

def comesUpon (P : Program) (R : Value → World → Prop) : Result Next → Prop
  | .ok (.value v) w' => R v w'
  | .ok .skip w' => R undef w'
  | .ok (.enter f args) w' => Calls P f args w' fun e w'' => ∃ v, e = .returned v ∧ R v w''
  | _ => False
/-- What one operation comes to. -/
def comes (P : Program) (o : Oper) (a : Act) (w : World) (R : Value → World → Prop) : Prop := comesUpon P R ((execOp a.eval o).run P w)

theorem wp_of_comes {o : Oper} {a : Act} {w : World} {K : Act → World → Prop} {Q : Exit → Act → World → Prop} {R : Value → World → Prop}
    (hK : ∀ v w', R v w' → K (a.put o.dst v) w') (h : comes P o a w R) : o.wp P a w K Q := by
  unfold comes at h
  unfold Oper.wp
  generalize (execOp a.eval o).run P w = r at *
  cases r with
  | ok n w' =>
    cases n <;> simp only [comesUpon] at h <;> simp only [Oper.upon]
    case enter f args =>
      refine Calls.mono h fun e w'' ⟨v, he, hr⟩ => ?_
      subst he
      exact hK _ _ hr
    all_goals exact hK _ _ h
  | halt x w' => simp only [comesUpon] at h

/-- The frame in which all operations of l have yielded. -/
def putAll (vs : Nat → Value) : List Oper → Nat → Act → Act
  | [], _, a => a
  | o :: l, i, a => putAll vs l (i + 1) (a.put o.dst (vs i))
/-- The frame in which those that are listed have yielded. -/
def putL (vs : Nat → Value) (L : Array Bool) : List Oper → Nat → Act → Act
  | [], _, a => a
  | o :: l, i, a => putL vs L l (i + 1) (if L.getD i false then a.put o.dst (vs i) else a)

def upd (vs : Nat → Value) (i : Nat) (v : Value) : Nat → Value := fun j => if j = i then v else vs j

/-- No operation of l writes to d. -/
def freeOf (d : Option Tmp) (l : List Oper) : Prop := ∀ o ∈ l, ∀ t, d = some t → o.dst ≠ some t

theorem putL_put (vs : Nat → Value) (L : Array Bool) (d : Option Tmp) (v : Value) : ∀ (l : List Oper) (i : Nat) (a : Act), freeOf d l → (putL vs L l i a).put d v = putL vs L l i (a.put d v)
  | [], _, _, _ => rfl
  | o :: l, i, a, h => by
    simp only [putL]
    rw [putL_put vs L d v l (i + 1) _ (fun o' ho' => h o' (List.mem_cons_of_mem _ ho'))]
    congr 1
    split
    · exact Act.put_comm a (x := o.dst) (y := d) (vs i) v (fun t ht hd => h o (List.mem_cons_self ..) t hd ht)
    · rfl
theorem putL_congr (vs vs' : Nat → Value) (L L' : Array Bool) : ∀ (l : List Oper) (i : Nat) (a : Act), (∀ j, i ≤ j → vs j = vs' j ∧ L.getD j false = L'.getD j false) → putL vs L l i a = putL vs' L' l i a
  | [], _, _, _ => rfl
  | o :: l, i, a, h => by
    simp only [putL]
    rw [(h i (Nat.le_refl _)).1, (h i (Nat.le_refl _)).2]
    exact putL_congr vs vs' L L' l (i + 1) _ (fun j hj => h j (by omega))
theorem putL_set (vs : Nat → Value) (L : Array Bool) (v : Value) (k : Nat) (hkL : k < L.size) (hun : L.getD k false = false) : ∀ (l : List Oper) (i : Nat) (a : Act) (o : Oper), i ≤ k → l[k - i]? = some o →
    (∀ (x y : Nat) (ox oy : Oper), x < y → l[x]? = some ox → l[y]? = some oy → ∀ t, ox.dst = some t → oy.dst ≠ some t) →
    (putL vs L l i a).put o.dst v = putL (upd vs k v) (L.setIfInBounds k true) l i a
  | [], _, _, _, _, h, _ => by simp at h
  | o' :: l, i, a, o, hik, ho, hd => by
    simp only [putL]
    by_cases e : i = k
    · subst e
      have : o' = o := by simpa using ho
      subst this
      rw [hun]
      simp only [Bool.false_eq_true, if_false, upd, if_true]
      rw [putL_put vs L _ v l (i + 1) a (fun o'' ho'' t ht => by
        obtain ⟨y, hy⟩ := List.getElem?_of_mem ho''
        exact hd 0 (y + 1) o' o'' (by omega) rfl (by simpa using hy) t ht)]
      rw [show (L.setIfInBounds i true).getD i false = true by simp [hkL]]
      simp only [if_true]
      refine putL_congr _ _ _ _ l (i + 1) _ (fun j hj => ⟨by simp only [upd]; rw [if_neg (by omega)], ?_⟩)
      exact (getD_set_ne false (by omega)).symm
    · have hs : k - i = (k - (i + 1)) + 1 := by omega
      rw [hs] at ho
      rw [putL_set vs L v k hkL hun l (i + 1) _ o (by omega) (by simpa using ho) (fun x y ox oy hxy hx hy => hd (x + 1) (y + 1) ox oy (by omega) (by simpa using hx) (by simpa using hy))]
      congr 1
      rw [getD_set_ne false (fun h => e h.symm)]
      simp only [upd, e, if_false]
theorem putL_all (vs : Nat → Value) (L : Array Bool) : ∀ (l : List Oper) (i : Nat) (a : Act), (∀ j, i ≤ j → j < i + l.length → L.getD j false = true) → putL vs L l i a = putAll vs l i a
  | [], _, _, _ => rfl
  | o :: l, i, a, h => by
    simp only [putL, putAll]
    rw [h i (Nat.le_refl _) (by simp)]
    exact putL_all vs L l (i + 1) _ (fun j hj hj' => h j (by omega) (by simp at *; omega))
theorem putL_none (vs : Nat → Value) (L : Array Bool) : ∀ (l : List Oper) (i : Nat) (a : Act), (∀ j, L.getD j false = false) → putL vs L l i a = a
  | [], _, _, _ => rfl
  | o :: l, i, a, h => by
    simp only [putL]
    rw [h i]
    exact putL_none vs L l (i + 1) _ h
theorem put_size (a : Act) (d : Option Tmp) (v : Value) : (a.put d v).tmps.size = a.tmps.size := by
  cases d <;> simp [Act.put]
theorem put_same (a b : Act) (d : Option Tmp) (v : Value) (t : Tmp) (hs : a.tmps.size = b.tmps.size) (h : a.tmps[t]? = b.tmps[t]?) : (a.put d v).tmps[t]? = (b.put d v).tmps[t]? := by
  cases d with
  | none => exact h
  | some d =>
    simp only [Act.put, Array.getElem?_setIfInBounds]
    rw [hs]
    split <;> simp [h]
theorem put_other (a : Act) (d : Option Tmp) (v : Value) (t : Tmp) (h : d ≠ some t) : (a.put d v).tmps[t]? = a.tmps[t]? := by
  cases d with
  | none => rfl
  | some d =>
    simp only [Act.put]
    exact Array.getElem?_setIfInBounds_ne (fun e => h (by rw [e]))
/-- A slot that only listed operations write reads alike in both frames. -/
theorem putL_read (vs : Nat → Value) (L : Array Bool) (t : Tmp) : ∀ (l : List Oper) (i : Nat) (a b : Act), a.tmps.size = b.tmps.size → a.tmps[t]? = b.tmps[t]? →
    (∀ (j : Nat) (o : Oper), l[j]? = some o → o.dst = some t → L.getD (i + j) false = true) → (putL vs L l i a).tmps[t]? = (putAll vs l i b).tmps[t]?
  | [], _, _, _, _, h, _ => h
  | o :: l, i, a, b, hs, h, hl => by
    simp only [putL, putAll]
    refine putL_read vs L t l (i + 1) _ _ ?_ ?_ (fun j o' ho' ht => by have := hl (j + 1) o' (by simpa using ho') ht; rwa [show i + 1 + j = i + (j + 1) by omega])
    · split <;> simp [put_size, hs]
    · cases hL : L.getD i false with
      | true => simp only [if_true]; exact put_same a b _ _ t hs h
      | false =>
        simp only [Bool.false_eq_true, if_false]
        have hne : o.dst ≠ some t := fun ht => by have := hl 0 o rfl ht; rw [Nat.add_zero, hL] at this; cases this
        rw [put_other b _ _ t hne]
        exact h

/-- What is asked of a region: n operations at its head, the others behind them in one order; each slot that an operation looks at is written by an operation that it waits for; no slot is written twice at the head. -/
def rgB (ops : Array Oper) (n : Nat) : Bool :=
  Region.noSelect ops && decide (n ≤ ops.size) && (decide (n = ops.size) || (Region.sinkB .any ops n && Region.chainB .any ops n)) &&
  Region.seqB .any ops (ops.size - n) n (Array.replicate n true ++ Array.replicate (ops.size - n) false) &&
  ((List.range n).all fun i => match ops[i]? with
    | none => false
    | some o => (o.after.all fun e => !Region.binds .any e || decide (e.on < i)) &&
      (List.range n).all fun j => match ops[j]? with
        | none => false
        | some oj => match oj.dst with
          | none => true
          | some t => (!(o.looksAt ops).contains t || Region.waitsFor .any ops i j) && (decide (i = j) || o.dst != some t))

structure RgOk (ops : Array Oper) (n : Nat) : Prop where
  nosel : Region.noSelect ops = true
  le : n ≤ ops.size
  tail : n = ops.size ∨ (Region.sinkB .any ops n = true ∧ Region.chainB .any ops n = true)
  seq : Region.seqB .any ops (ops.size - n) n (Array.replicate n true ++ Array.replicate (ops.size - n) false) = true
  back : ∀ i o, i < n → ops[i]? = some o → ∀ e ∈ o.after, Region.binds .any e = true → e.on < i
  deps : ∀ i j o oj t, i < n → j < n → ops[i]? = some o → ops[j]? = some oj → oj.dst = some t → t ∈ o.looksAt ops → ∃ e ∈ o.after, Region.binds .any e = true ∧ e.on = j
  once : ∀ i j o oj t, i < n → j < n → i ≠ j → ops[i]? = some o → ops[j]? = some oj → oj.dst = some t → o.dst ≠ some t

theorem rgOk_of {n : Nat} (h : rgB ops n = true) : RgOk ops n := by
  simp only [rgB, Bool.and_eq_true, decide_eq_true_eq, Bool.or_eq_true] at h
  obtain ⟨⟨⟨⟨h1, h2⟩, h3⟩, h4⟩, h5⟩ := h
  have key : ∀ i o, i < n → ops[i]? = some o → (∀ e ∈ o.after, Region.binds .any e = true → e.on < i) ∧ ∀ j oj t, j < n → ops[j]? = some oj → oj.dst = some t →
      (t ∈ o.looksAt ops → Region.waitsFor .any ops i j = true) ∧ (i ≠ j → o.dst ≠ some t) := by
    intro i o hi ho
    have h6 := List.all_eq_true.1 h5 i (List.mem_range.2 hi)
    simp only [ho, Bool.and_eq_true] at h6
    refine ⟨fun e he hb => ?_, fun j oj t hj hoj ht => ?_⟩
    · have h7 := Array.all_eq_true'.1 h6.1 e he
      simpa [hb] using h7
    · have h7 := List.all_eq_true.1 h6.2 j (List.mem_range.2 hj)
      simp only [hoj, ht, Bool.and_eq_true] at h7
      refine ⟨fun hm => ?_, fun hij => ?_⟩
      · have := h7.1
        simpa [hm] using this
      · have := h7.2
        simpa [hij] using this
  refine ⟨h1, h2, h3, h4, fun i o hi ho => (key i o hi ho).1, fun i j o oj t hi hj ho hoj ht hm => ?_, fun i j o oj t hi hj hij ho hoj ht => ((key i o hi ho).2 j oj t hj hoj ht).2 hij⟩
  obtain ⟨o', ho', he⟩ := Region.waitsFor_spec (((key i o hi ho).2 j oj t hj hoj ht).1 hm)
  rw [ho] at ho'
  obtain rfl := Option.some.inj ho'
  exact he

/-- How many of the first n are not listed. -/
def left (n : Nat) (L : Array Bool) : Nat := ((List.range n).filter fun i => !L.getD i false).length
theorem filter_drop_one (p q : Nat → Bool) (i : Nat) (hp : p i = true) (hq : q i = false) (hne : ∀ j, j ≠ i → q j = p j) : ∀ (l : List Nat), i ∈ l → l.Nodup → (l.filter q).length + 1 = (l.filter p).length
  | [], h, _ => by cases h
  | x :: l, h, hn => by
    have hn' := List.nodup_cons.1 hn
    by_cases e : x = i
    · subst e
      have : l.filter q = l.filter p := List.filter_congr fun y hy => hne y (fun e => by subst e; exact hn'.1 hy)
      simp [hp, hq, this]
    · have hi : i ∈ l := by
        cases h with
        | head => exact absurd rfl e
        | tail _ h => exact h
      have ih := filter_drop_one p q i hp hq hne l hi hn'.2
      simp only [List.filter_cons, hne x e]
      split
      · simp only [List.length_cons]; omega
      · exact ih
theorem left_set {n i : Nat} {L : Array Bool} (hi : i < n) (hs : i < L.size) (h : L.getD i false = false) : left n (L.setIfInBounds i true) + 1 = left n L := by
  unfold left
  exact filter_drop_one (fun j => !L.getD j false) (fun j => !(L.setIfInBounds i true).getD j false) i (by simp only [h, Bool.not_false])
    (by simp [hs]) (fun j hj => by simp only [getD_set_ne false (Ne.symm hj)]) (List.range n) (List.mem_range.2 hi) List.nodup_range
theorem left_zero {n : Nat} {L : Array Bool} (h : left n L = 0) : ∀ i, i < n → L.getD i false = true := by
  intro i hi
  unfold left at h
  have := List.filter_eq_nil_iff.1 (List.eq_nil_of_length_eq_zero h) i (List.mem_range.2 hi)
  simpa using this
theorem left_all (n m : Nat) : left n (Array.replicate m false) = n := by
  unfold left
  rw [List.filter_eq_self.2 (fun i _ => by rw [getD_replicate_false]; rfl)]
  simp

variable (P)
/-- An edge for a value that is read. -/
def dataE (e : Edge) : Bool := match e.ground with
  | .data => true
  | .guard => true
  | _ => false
/-- The facts on the operations whose values o reads. -/
def depFacts (Ts : List (Value → World → Prop)) (vs : Nat → Value) (w : World) : List Edge → Prop
  | [] => True
  | e :: r => (if dataE e = true then (Ts[e.on]?.getD fun _ _ => True) (vs e.on) w else True) ∧ depFacts Ts vs w r
/-- What is asked of one operation. -/
def rgOp (ops : Array Oper) (head : List Oper) (E : World → World → Prop) (Ts : List (Value → World → Prop)) (a : Act) (w0 : World) (o : Oper) (T : Value → World → Prop) : Prop :=
  ∀ (vs : Nat → Value) (w : World), E w0 w → depFacts Ts vs w o.after.toList →
    if Region.wanted o (yielded ops (putAll vs head 0 a).tmps) = true then comes P o (putAll vs head 0 a) w (fun v w' => E w w' ∧ T v w') else T undef w
def rgOps (ops : Array Oper) (head : List Oper) (E : World → World → Prop) (Ts : List (Value → World → Prop)) (a : Act) (w0 : World) : List Oper → List (Value → World → Prop) → Prop
  | o :: l, T :: R => rgOp P ops head E Ts a w0 o T ∧ rgOps ops head E Ts a w0 l R
  | [], _ => True
  | _ :: _, [] => False
/-- All facts. -/
def facts (vs : Nat → Value) (w : World) : Nat → List (Value → World → Prop) → Prop
  | _, [] => True
  | i, T :: R => T (vs i) w ∧ facts vs w (i + 1) R
variable {P}

theorem rgOps_at {head : List Oper} {E : World → World → Prop} {Ts : List (Value → World → Prop)} {a : Act} {w0 : World} : ∀ {l : List Oper} {R : List (Value → World → Prop)}, rgOps P ops head E Ts a w0 l R →
    ∀ (i : Nat) (o : Oper), l[i]? = some o → ∃ T, R[i]? = some T ∧ rgOp P ops head E Ts a w0 o T
  | [], _, _, i, o, h => by simp at h
  | o' :: l, [], h, _, _, _ => h.elim
  | o' :: l, T :: R, h, 0, o, ho => by
    have : o' = o := by simpa using ho
    subst this
    exact ⟨T, rfl, h.1⟩
  | o' :: l, T :: R, h, i + 1, o, ho => by
    obtain ⟨T', hT, hr⟩ := rgOps_at h.2 i o (by simpa using ho)
    exact ⟨T', by simpa using hT, hr⟩
theorem facts_of {vs : Nat → Value} {w : World} : ∀ {R : List (Value → World → Prop)} {i : Nat}, (∀ (j : Nat) (T : Value → World → Prop), R[j]? = some T → T (vs (i + j)) w) → facts vs w i R
  | [], _, _ => trivial
  | T :: R, i, h => ⟨h 0 T rfl, facts_of fun j T' hT => by have := h (j + 1) T' (by simpa using hT); rwa [show i + 1 + j = i + (j + 1) by omega]⟩

/-- The state between two operations. -/
structure RgInv (ops : Array Oper) (n : Nat) (hl : List Oper) (E : World → World → Prop) (Ts : List (Value → World → Prop)) (a : Act) (w0 : World) (L : Array Bool) (vs : Nat → Value) (a' : Act) (w : World) : Prop where
  head : HeadInv .any ops n L
  go : E w0 w
  frame : a' = putL vs L hl 0 a
  fact : ∀ i T, i < n → L.getD i false = true → Ts[i]? = some T → T (vs i) w

theorem depFacts_of {Ts : List (Value → World → Prop)} {vs : Nat → Value} {w : World} : ∀ (l : List Edge), (∀ e ∈ l, Region.binds .any e = true → ∀ T, Ts[e.on]? = some T → T (vs e.on) w) → depFacts Ts vs w l
  | [], _ => trivial
  | e :: r, h => by
    refine ⟨?_, depFacts_of r fun e' he' => h e' (List.mem_cons_of_mem _ he')⟩
    split
    · rename_i hb0
      have hb : Region.binds .any e = true := by
        unfold dataE at hb0
        unfold Region.binds
        split at hb0 <;> simp_all
      cases hT : Ts[e.on]? with
      | none => simp
      | some T => simpa using h e (List.mem_cons_self ..) hb T hT
    · trivial

theorem noSelect_at (h : Region.noSelect ops = true) {i : Nat} {o : Oper} (ho : ops[i]? = some o) : ∀ cs b, o.op ≠ .select cs b := fun cs b => Region.noSelect_spec h i o cs b ho

theorem rg_main {Q : Exit → Act → World → Prop} {a : Act} {w0 : World} {l : List Oper} {n : Nat} {E : World → World → Prop} {Ts : List (Value → World → Prop)}
    (hok : RgOk l.toArray n) (hrefl : ∀ w, E w w) (htrans : ∀ a b c, E a b → E b c → E a c) (hst : ∀ T ∈ Ts, ∀ v w w', E w w' → T v w → T v w') (hlen : Ts.length = n)
    (hops : rgOps P l.toArray (l.take n) E Ts a w0 (l.take n) Ts)
    (hfin : ∀ vs w', E w0 w' → facts vs w' 0 Ts → wpList P l.toArray Q (l.drop n) (putAll vs (l.take n) 0 a) w') :
    ∀ (f : Nat) (L : Array Bool) (vs : Nat → Value) (a' : Act) (w : World), left n L = f → RgInv l.toArray n (l.take n) E Ts a w0 L vs a' w →
      wpAny P .any l.toArray Q (f + (l.toArray.size - n)) L a' w := by
  have hnl : n ≤ l.length := by simpa using hok.le
  have htk : (l.take n).length = n := by simp; omega
  have hdl : (l.drop n).length = l.toArray.size - n := by simp
  have hat : ∀ i o, i < n → l.toArray[i]? = some o → (l.take n)[i]? = some o := fun i o hi ho => by simpa [hi] using ho
  intro f
  induction f with
  | zero =>
    intro L vs a' w hf inv
    have hall := left_zero hf
    have hL : L = Array.replicate n true ++ Array.replicate (l.toArray.size - n) false := by
      refine Array.ext ?_ ?_
      · simp [inv.head.size]; omega
      · intro i h1 h2
        by_cases hi : i < n
        · have := hall i hi
          simp only [Array.getD_eq_getD_getElem?, Array.getElem?_eq_getElem h1, Option.getD_some] at this
          simp [hi, this]
        · have h3 := inv.head.tail i (by omega) (by rw [← inv.head.size]; exact h1)
          simp only [Array.getD_eq_getD_getElem?, Array.getElem?_eq_getElem h1, Option.getD_some] at h3
          rw [h3, Array.getElem_append_right (by simp; omega)]
          simp
    have hq := hfin vs w inv.go (facts_of fun j T hT => by
      have hj : j < n := by rw [← hlen]; exact (List.getElem?_eq_some_iff.1 hT).1
      rw [Nat.zero_add]
      exact inv.fact j T hj (hall j hj) hT)
    have := wpAny_of_seq (P := P) (ops := l.toArray) (md := .any) (Q' := Q) (l.drop n) n L a' w (fun j => by simp [List.getElem?_drop]) (by rw [hdl, hL]; exact hok.seq)
      (by rw [inv.frame, putL_all vs L _ 0 a (fun j _ hj => hall j (by rw [htk] at hj; omega))]; exact hq)
    rw [Nat.zero_add]
    rwa [hdl] at this
  | succ f ih =>
    intro L vs a' w hf inv
    rw [show f + 1 + (l.toArray.size - n) = (f + (l.toArray.size - n)) + 1 by omega]
    -- one of the head is not listed
    have hex : ∃ i, i < n ∧ L.getD i false = false := by
      rcases Classical.em (∃ i, i < n ∧ L.getD i false = false) with h | h
      · exact h
      · exfalso
        have : left n L = 0 := by
          unfold left
          rw [List.filter_eq_nil_iff.2 (fun i hi => by
            have hi' := List.mem_range.1 hi
            cases hc : L.getD i false with
            | true => simp
            | false => exact absurd ⟨i, hi', hc⟩ h)]
          rfl
        omega
    have hnotail : ∀ t, n ≤ t → t ∉ Region.ready .any l.toArray L := by
      intro t ht
      rcases hok.tail with h | ⟨hs, hc⟩
      · intro hr
        obtain ⟨_, o, ho, _⟩ := mem_ready.1 hr
        have := (Array.getElem?_eq_some_iff.1 ho).1
        omega
      · rcases Nat.lt_or_ge n l.toArray.size with hn | hn
        · obtain ⟨i, hi, hun⟩ := hex
          exact tail_waits hs hc hn inv.head _ i rfl hi (getD_in (by rw [inv.head.size]; omega) hun) t ht
        · intro hr
          obtain ⟨_, o, ho, _⟩ := mem_ready.1 hr
          have := (Array.getElem?_eq_some_iff.1 ho).1
          omega
    refine ⟨fun h0 => ?_, fun i hi => ?_⟩
    · exfalso
      -- the least that is not listed is ready
      have : ∀ k, ∀ i, i ≤ k → i < n → L.getD i false = false → False := by
        intro k
        induction k with
        | zero =>
          intro i hik hi hun
          have hi0 : i = 0 := by omega
          subst hi0
          have hlt : 0 < l.toArray.size := by have := hok.le; omega
          have : (0 : Nat) ∈ Region.ready .any l.toArray L := mem_ready.2 ⟨getD_in (by rw [inv.head.size]; exact hlt) hun, l.toArray[0], Array.getElem?_eq_getElem hlt, fun e he hb => by
            have := hok.back 0 _ hi (Array.getElem?_eq_getElem hlt) e he hb
            omega⟩
          rw [h0] at this
          cases this
        | succ k ihk =>
          intro i hik hi hun
          have hlt : i < l.toArray.size := by have := hok.le; omega
          have : i ∈ Region.ready .any l.toArray L := mem_ready.2 ⟨getD_in (by rw [inv.head.size]; exact hlt) hun, l.toArray[i], Array.getElem?_eq_getElem hlt, fun e he hb => by
            have h1 := hok.back i _ hi (Array.getElem?_eq_getElem hlt) e he hb
            cases hc : L.getD e.on false with
            | true => rfl
            | false => exact (ihk e.on (by omega) (by omega) hc).elim⟩
          rw [h0] at this
          cases this
      obtain ⟨i, hi, hun⟩ := hex
      exact this i i (Nat.le_refl _) hi hun
    · have hin : i < n := by
        rcases Nat.lt_or_ge i n with h | h
        · exact h
        · exact absurd hi (hnotail i h)
      obtain ⟨hun, o, ho, hall⟩ := mem_ready.1 hi
      have hlt : i < L.size := by rw [inv.head.size]; exact (Array.getElem?_eq_some_iff.1 ho).1
      obtain ⟨T, hT, hop⟩ := rgOps_at hops i o (hat i o hin ho)
      have hread : ∀ t, t ∈ o.looksAt l.toArray → a'.tmps[t]? = (putAll vs (l.take n) 0 a).tmps[t]? := by
        intro t ht
        rw [inv.frame]
        refine putL_read vs L t _ 0 a a rfl rfl (fun j oj hoj hd => ?_)
        rw [Nat.zero_add]
        have hjn : j < n := by have := (List.getElem?_eq_some_iff.1 hoj).1; omega
        have hoj' : l.toArray[j]? = some oj := by simpa [hjn] using hoj
        obtain ⟨e, he, hb, hon⟩ := hok.deps i j o oj t hin hjn ho hoj' hd ht
        have := hall e he hb
        rwa [hon] at this
      have hexec : execOp a'.eval o = execOp (putAll vs (l.take n) 0 a).eval o := execOp_congr o (noSelect_at hok.nosel ho) fun x hx => by
        cases x with
        | tmp t =>
          have := hread t (List.mem_append_left _ (List.mem_filterMap.2 ⟨.tmp t, by simpa using hx, rfl⟩))
          simp only [Act.eval, Array.getD_eq_getD_getElem?, this]
        | _ => rfl
      have hwant : Region.wanted o (yielded l.toArray a'.tmps) = Region.wanted o (yielded l.toArray (putAll vs (l.take n) 0 a).tmps) := by
        unfold Region.wanted
        cases hg : o.guard with
        | none => rfl
        | some gw =>
          obtain ⟨g, want⟩ := gw
          have : yielded l.toArray a'.tmps g = yielded l.toArray (putAll vs (l.take n) 0 a).tmps g := by
            unfold yielded
            cases ht : (l.toArray[g]?).bind (·.dst) with
            | none => rfl
            | some t =>
              have := hread t (List.mem_append_right _ (by simp only [hg, ht, Option.toList, List.mem_singleton]))
              simp only [Option.bind_some, this]
          simp only [this]
      have hfacts : depFacts Ts vs w o.after.toList := depFacts_of _ fun e he hb T' hT' => by
        have he' : e ∈ o.after := by simpa using he
        have hlt' := hok.back i o hin ho e he' hb
        exact inv.fact e.on T' (by omega) (hall e he' hb) hT'
      have hrun := hop vs w inv.go hfacts
      have hTmem : T ∈ Ts := List.mem_of_getElem? hT
      -- behind the operation
      have next : ∀ v w', E w w' → T v w' → wpAny P .any l.toArray Q (f + (l.toArray.size - n)) (L.setIfInBounds i true) (a'.put o.dst v) w' := by
        intro v w' hE hv
        refine ih (L.setIfInBounds i true) (upd vs i v) _ w' (by have := left_set hin hlt (getD_both hun); omega) ⟨inv.head.set hi hin, htrans _ _ _ inv.go hE, ?_, fun j T' hj hl hT' => ?_⟩
        · rw [inv.frame]
          exact putL_set vs L v i hlt (getD_both hun) _ 0 a o (Nat.zero_le _) (by rw [Nat.sub_zero]; exact hat i o hin ho) (fun x y ox oy hxy hx hy t ht => by
            have hyn : y < n := by have := (List.getElem?_eq_some_iff.1 hy).1; omega
            exact hok.once y x oy ox t hyn (by omega) (by omega) (by simpa [hyn] using hy) (by simpa [show x < n by omega] using hx) ht)
        · by_cases e : j = i
          · subst e
            have : T' = T := Option.some.inj (hT'.symm.trans hT)
            subst this
            simpa [upd] using hv
          · rw [getD_set_ne false (Ne.symm e)] at hl
            simp only [upd, e, if_false]
            exact hst T' (List.mem_of_getElem? hT') _ _ _ hE (inv.fact j T' hj hl hT')
      unfold wpOp
      simp only [ho]
      rw [hwant]
      by_cases hw : Region.wanted o (yielded l.toArray (putAll vs (l.take n) 0 a).tmps) = true
      · rw [if_pos hw] at hrun ⊢
        refine .inl (wp_of_comes (R := fun v w' => E w w' ∧ T v w') (fun v w' h => next v w' h.1 h.2) ?_)
        unfold comes
        rw [hexec]
        exact hrun
      · rw [if_neg hw] at hrun ⊢
        exact next undef w (hrefl w) hrun

/-- ████ A region that draws its order: n operations at its head in whatever order, the others behind them. -/
theorem wp_region_rg {id : Nat} {Q : Exit → Act → World → Prop} {a : Act} {w : World} {l : List Oper} (n : Nat) (E : World → World → Prop) (Ts : List (Value → World → Prop)) (hm : P.follows .mixedOrders = true)
    (hB : rgB l.toArray n = true) (hrefl : ∀ w, E w w) (htrans : ∀ a b c, E a b → E b c → E a c) (hst : ∀ T ∈ Ts, ∀ v w w', E w w' → T v w → T v w') (hlen : Ts.length = n)
    (hops : rgOps P l.toArray (l.take n) E Ts a { w with drawn := w.drawn + 1 } (l.take n) Ts)
    (hfin : ∀ vs w', E { w with drawn := w.drawn + 1 } w' → facts vs w' 0 Ts → wpList P l.toArray Q (l.drop n) (putAll vs (l.take n) 0 a) w') : (Code.region id l.toArray true).wp P Q a w := by
  have hok := rgOk_of hB
  refine wp_region_any hm ?_
  have inv0 : HeadInv .any l.toArray n (Array.replicate l.toArray.size false) :=
    ⟨by simp, fun j oj _ hl => (by rw [getD_replicate_false] at hl; cases hl), fun t _ ht => getD_in (by simpa using ht) (getD_replicate_false _ _)⟩
  have := rg_main (Q := Q) hok hrefl htrans hst hlen hops hfin n (Array.replicate l.toArray.size false) (fun _ => undef) a { w with drawn := w.drawn + 1 } (left_all _ _)
    ⟨inv0, hrefl _, (putL_none _ _ _ 0 a (fun j => getD_replicate_false _ _)).symm, fun i T _ hl _ => by rw [getD_replicate_false] at hl; cases hl⟩
  rwa [show n + (l.toArray.size - n) = l.toArray.size by have := hok.le; omega] at this

/-- Stable under Ext. -/
def Stable (T : Value → World → Prop) : Prop := ∀ v w w', Ext w w' → T v w → T v w'
def stables : List (Value → World → Prop) → Prop
  | [] => True
  | T :: R => Stable T ∧ stables R
theorem stables_mem : ∀ {Ts : List (Value → World → Prop)}, stables Ts → ∀ T ∈ Ts, ∀ v w w', Ext w w' → T v w → T v w'
  | [], _, _, h => by cases h
  | T :: R, h, T', hm => by
    cases hm with
    | head => exact h.1
    | tail _ hm => exact stables_mem h.2 T' hm
/-- The value is c. -/
def is (c : Value) : Value → World → Prop := fun v _ => v = c
theorem is.st (c : Value) : Stable (is c) := fun _ _ _ _ h => h
/-- Nothing is said. -/
def some_ : Value → World → Prop := fun _ _ => True
theorem some_.st : Stable some_ := fun _ _ _ _ _ => trivial
/-- Block b begins with the cells cs. -/
def Cells (w : World) (b : Nat) (cs : List Value) : Prop := b < w.heap.size ∧ ∀ j u, cs[j]? = some u → w.cell? ⟨b, j, none⟩ = some u
theorem Cells.ext {w w' : World} {b : Nat} {cs : List Value} (h : Cells w b cs) (e : Ext w w') : Cells w' b cs := ⟨Nat.lt_of_lt_of_le h.1 e.size, fun j u hu => e.cell (h.2 j u hu)⟩
theorem Cells.new (w : World) (cs : Array Value) (t : TypeId) (l : List Value) (h : cs.toList = l) : Cells (w.alloc (.cells cs t)) w.heap.size l := by
  subst h
  refine ⟨by simp, fun j u hu => ?_⟩
  rw [World.cell?_alloc_at _ _ _ _ rfl]
  simpa using hu
/-- Block b, one of those from N on, begins with the cells cs, and none of it is frozen. -/
structure Box (N : Nat) (cs : List Value) (b : Nat) (w : World) : Prop where
  base : N ≤ b
  lt : b < w.heap.size
  cell : ∀ j, j < cs.length → w.cell? ⟨b, j, none⟩ = cs[j]?
  free : ∀ j, w.frozen? ⟨b, j, none⟩ = false
theorem Box.ext {N b : Nat} {cs : List Value} {w w' : World} (h : Box N cs b w) (e : Ext w w') : Box N cs b w' :=
  ⟨h.base, Nat.lt_of_lt_of_le h.lt e.size, fun j hj => by rw [RowKit.Below.cell (p := ⟨b, j, none⟩) e h.lt]; exact h.cell j hj, fun j => by rw [RowKit.Below.frozen (p := ⟨b, j, none⟩) e h.lt]; exact h.free j⟩
theorem Box.new {N : Nat} (w : World) (cs : Array Value) (t : TypeId) (l : List Value) (hN : N ≤ w.heap.size) (h : cs.toList = l) : Box N l w.heap.size (w.alloc (.cells cs t)) := by
  subst h
  exact ⟨hN, by simp, fun j hj => by rw [World.cell?_alloc_at _ _ _ _ rfl]; simp, fun j => World.frozen?_alloc_at _ _ _ _ rfl⟩
/-- A pointer to a new variable that holds cs. -/
def isBox (N : Nat) (cs : List Value) : Value → World → Prop := fun v w => ∃ b, v = .pointer (some ⟨b, 0, none⟩) ∧ Box N cs b w
theorem isBox.st (N : Nat) (cs : List Value) : Stable (isBox N cs) := fun _ _ _ e ⟨b, hv, hc⟩ => ⟨b, hv, hc.ext e⟩
/-- A slice of n elements over a new block that holds cs. -/
def isRowN (n : Nat) (cs : List Value) : Value → World → Prop := fun v w => ∃ b, v = .slice (some ⟨b, 0, none⟩) n n ∧ Cells w b cs
theorem isRowN.st (n : Nat) (cs : List Value) : Stable (isRowN n cs) := fun _ _ _ e ⟨b, hv, hc⟩ => ⟨b, hv, hc.ext e⟩
/-- A slice over a new block that holds cs. -/
def isRow (cs : List Value) : Value → World → Prop := fun v w => ∃ b, v = .slice (some ⟨b, 0, none⟩) cs.length cs.length ∧ Cells w b cs
theorem isRow.st (cs : List Value) : Stable (isRow cs) := fun _ _ _ e ⟨b, hv, hc⟩ => ⟨b, hv, hc.ext e⟩

theorem comesUpon_value (R : Value → World → Prop) (v : Value) (w : World) : comesUpon P R (.ok (.value v) w) = R v w := rfl
theorem comesUpon_skip (R : Value → World → Prop) (w : World) : comesUpon P R (.ok .skip w) = R undef w := rfl
theorem comesUpon_enter (R : Value → World → Prop) (f : FuncId) (args : Array Value) (w : World) : comesUpon P R (.ok (.enter f args) w) = Calls P f args w fun e w'' => ∃ v, e = .returned v ∧ R v w'' := rfl

variable (P)
/-- What is asked of one operation, in a world that is w with new blocks. -/
def xOp (ops : Array Oper) (head : List Oper) (Ts : List (Value → World → Prop)) (a : Act) (w : World) (o : Oper) (T : Value → World → Prop) : Prop :=
  ∀ (vs : Nat → Value) (x : Array Obj × Nat), depFacts Ts vs (w.plus x) o.after.toList →
    if Region.wanted o (yielded ops (putAll vs head 0 a).tmps) = true then comes P o (putAll vs head 0 a) (w.plus x) (fun v w' => Ext (w.plus x) w' ∧ T v w') else T undef (w.plus x)
def xOps (ops : Array Oper) (head : List Oper) (Ts : List (Value → World → Prop)) (a : Act) (w : World) : List Oper → List (Value → World → Prop) → Prop
  | o :: l, T :: R => xOp P ops head Ts a w o T ∧ xOps ops head Ts a w l R
  | [], _ => True
  | _ :: _, [] => False
variable {P}
theorem rgOps_of_x {head : List Oper} {Ts : List (Value → World → Prop)} {a : Act} {w : World} : ∀ {l : List Oper} {R : List (Value → World → Prop)}, xOps P ops head Ts a w l R → rgOps P ops head Ext Ts a w.drew l R
  | [], _, _ => by simp [rgOps]
  | o :: l, [], h => h.elim
  | o :: l, T :: R, h => ⟨fun vs w1 hE hd => by
      obtain ⟨x, hx⟩ := hE.plus
      have hx' : w1 = w.plus x := hx
      subst hx'
      exact h.1 vs x hd, rgOps_of_x h.2⟩

/-- ████ A region that draws its order, its head walked once: the world goes on by new blocks alone. -/
theorem wp_region_ext {id : Nat} {Q : Exit → Act → World → Prop} {a : Act} {w : World} {l : List Oper} (n : Nat) (Ts : List (Value → World → Prop)) (hm : P.follows .mixedOrders = true)
    (hB : rgB l.toArray n = true) (hlen : Ts.length = n)
    (hops : xOps P l.toArray (l.take n) Ts a w (l.take n) Ts) (hst : stables Ts)
    (hfin : ∀ vs x, facts vs (w.plus x) 0 Ts → wpList P l.toArray Q (l.drop n) (putAll vs (l.take n) 0 a) (w.plus x)) : (Code.region id l.toArray true).wp P Q a w :=
  wp_region_rg n Ext Ts hm hB Ext.refl (fun _ _ _ => Ext.trans) (stables_mem hst) hlen (rgOps_of_x hops) fun vs w1 hE hf => by
    obtain ⟨x, hx⟩ := hE.plus
    have hx' : w1 = w.plus x := hx
    subst hx'
    exact hfin vs x hf
end
attribute [go_sem] comesUpon_value comesUpon_skip comesUpon_enter
end Go.Rg
