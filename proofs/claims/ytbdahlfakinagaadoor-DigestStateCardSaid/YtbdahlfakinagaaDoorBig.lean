/- A region that draws its order and in which one operation writes into a row of the call's own (an append in place): walked once. -/
import Derived.Test.YtbdahlfakinagaaDoorRg
import Derived.Test.YtbdahlfakinagaaDoorOwn
set_option linter.unusedVariables false
namespace Go.Rg
open Go
section
variable {P : Program} {ops : Array Oper}

/-- What is asked of a region (XRg), but for its tail. -/
structure RgOk0 (ops : Array Oper) (n : Nat) : Prop where
  nosel : Region.noSelect ops = true
  le : n ≤ ops.size
  seq : Region.seqB .any ops (ops.size - n) n (Array.replicate n true ++ Array.replicate (ops.size - n) false) = true
  back : ∀ i o, i < n → ops[i]? = some o → ∀ e ∈ o.after, Region.binds .any e = true → e.on < i
  deps : ∀ i j o oj t, i < n → j < n → ops[i]? = some o → ops[j]? = some oj → oj.dst = some t → t ∈ o.looksAt ops → ∃ e ∈ o.after, Region.binds .any e = true ∧ e.on = j
  once : ∀ i j o oj t, i < n → j < n → i ≠ j → ops[i]? = some o → ops[j]? = some oj → oj.dst = some t → o.dst ≠ some t
theorem RgOk.ok0 {n : Nat} (h : RgOk ops n) : RgOk0 ops n := ⟨h.nosel, h.le, h.seq, h.back, h.deps, h.once⟩
theorem no_tail {n : Nat} (h : RgOk ops n) (L : Array Bool) (hL : HeadInv .any ops n L) (hex : ∃ i, i < n ∧ L.getD i false = false) : ∀ t, n ≤ t → t ∉ Region.ready .any ops L := by
  intro t ht
  rcases h.tail with h1 | ⟨hs, hc⟩
  · intro hr
    obtain ⟨_, o, ho, _⟩ := mem_ready.1 hr
    have := (Array.getElem?_eq_some_iff.1 ho).1
    omega
  · rcases Nat.lt_or_ge n ops.size with hn | hn
    · obtain ⟨i, hi, hun⟩ := hex
      exact tail_waits hs hc hn hL _ i rfl hi (getD_in (by rw [hL.size]; omega) hun) t ht
    · intro hr
      obtain ⟨_, o, ho, _⟩ := mem_ready.1 hr
      have := (Array.getElem?_eq_some_iff.1 ho).1
      omega
/-- The tail waits for all of the head but x. -/
def sinkX (ops : Array Oper) (n x : Nat) : Bool :=
  (List.range n).all fun i => decide (i = x) || (List.range (n + 1)).any fun j => decide (i < j) && Region.waitsFor .any ops j i
theorem tail_waitsX {n x : Nat} {listed : Array Bool} (hs : sinkX ops n x = true) (hc : Region.chainB .any ops n = true) (hn : n < ops.size) (inv : HeadInv .any ops n listed) (hxl : ∀ j, j = x → listed.getD j false = true) :
    ∀ (d i : Nat), n - i = d → i < n → i ≠ x → listed.getD i true = false → ∀ t, n ≤ t → t ∉ Region.ready .any ops listed := by
  intro d
  induction d using Nat.strongRecOn with
  | _ d ih =>
    intro i hd hi hix hun t ht hr
    obtain ⟨_, ot, hot, hall⟩ := mem_ready.1 hr
    have htlt : t < ops.size := (Array.getElem?_eq_some_iff.1 hot).1
    by_cases htn : t = n
    · subst htn
      have h1 := List.all_eq_true.1 hs i (List.mem_range.2 hi)
      simp only [hix, decide_false, Bool.false_or] at h1
      obtain ⟨j, hj, hj2⟩ := List.any_eq_true.1 h1
      simp only [Bool.and_eq_true, decide_eq_true_eq] at hj2
      obtain ⟨oj, hoj, e, he, hb, hon⟩ := Region.waitsFor_spec hj2.2
      have hjle : j ≤ t := by have := List.mem_range.1 hj; omega
      by_cases hjt : j = t
      · subst hjt
        have : oj = ot := Option.some.inj (hoj.symm.trans hot)
        subst this
        have h2 := hall e he hb
        rw [hon, getD_both hun] at h2
        cases h2
      · cases hl : listed.getD j false with
        | true =>
          have h2 := inv.closed j oj hoj hl e he hb
          rw [hon, getD_both hun] at h2
          cases h2
        | false =>
          have hjs : j < listed.size := by rw [inv.size]; omega
          by_cases hjx : j = x
          · exact absurd (hxl j hjx) (by rw [hl]; decide)
          · exact ih (t - j) (by omega) j rfl (by omega) hjx (getD_in hjs hl) t (Nat.le_refl _) hr
    · have h1 := List.all_eq_true.1 hc t (List.mem_range.2 htlt)
      simp only [Bool.or_eq_true, decide_eq_true_eq] at h1
      rcases h1 with h1 | h1
      · omega
      · obtain ⟨o', ho', e, he, hb, hon⟩ := Region.waitsFor_spec h1
        have : o' = ot := Option.some.inj (ho'.symm.trans hot)
        subst this
        have h2 := hall e he hb
        rw [hon, getD_both (inv.tail (t - 1) (by omega) (by omega))] at h2
        cases h2
/-- What is asked of a region whose operation x may come behind others of the tail, too. -/
def rgXB (ops : Array Oper) (n x : Nat) : Bool :=
  Region.noSelect ops && decide (n ≤ ops.size) && (decide (x < n) && decide (n < ops.size) && sinkX ops n x && Region.chainB .any ops n && Region.free .any ops (Array.replicate ops.size false) x && (Region.ready .any ops (Array.replicate ops.size false)).contains x) &&
  Region.seqB .any ops (ops.size - n) n (Array.replicate n true ++ Array.replicate (ops.size - n) false) &&
  ((List.range n).all fun i => match ops[i]? with
    | none => false
    | some o => (o.after.all fun e => !Region.binds .any e || decide (e.on < i)) &&
      (List.range n).all fun j => match ops[j]? with
        | none => false
        | some oj => match oj.dst with
          | none => true
          | some t => (!(o.looksAt ops).contains t || Region.waitsFor .any ops i j) && (decide (i = j) || o.dst != some t))
structure RgOkX (ops : Array Oper) (n x : Nat) : Prop extends RgOk0 ops n where
  lt : x < n
  more : n < ops.size
  sink : sinkX ops n x = true
  chain : Region.chainB .any ops n = true
  free : Region.free .any ops (Array.replicate ops.size false) x = true
  ready : (Region.ready .any ops (Array.replicate ops.size false)).contains x = true
theorem rgOkX_of {n x : Nat} (h : rgXB ops n x = true) : RgOkX ops n x := by
  simp only [rgXB, Bool.and_eq_true, decide_eq_true_eq] at h
  obtain ⟨⟨⟨⟨h1, h2⟩, ⟨⟨⟨⟨g1, g2⟩, g3⟩, g4⟩, g5⟩, g6⟩, h4⟩, h5⟩ := h
  have key : ∀ i o, i < n → ops[i]? = some o → (∀ e ∈ o.after, Region.binds .any e = true → e.on < i) ∧ ∀ j oj t, j < n → ops[j]? = some oj → oj.dst = some t →
      (t ∈ o.looksAt ops → Region.waitsFor .any ops i j = true) ∧ (i ≠ j → o.dst ≠ some t) := by
    intro i o hi ho
    have h6 := List.all_eq_true.1 h5 i (List.mem_range.2 hi)
    simp only [ho, Bool.and_eq_true] at h6
    refine ⟨fun e he hb => ?_, fun j oj t hj hoj ht => ?_⟩
    · have h7 := Array.all_eq_true'.1 h6.1 e he
      simpa [hb] using h7
    · have h7 := List.all_eq_true.1 h6.2 j (List.mem_range.2 hj)
      simp only [hoj, ht, Bool.and_eq_true] at h7
      refine ⟨fun hm => ?_, fun hij => ?_⟩
      · have := h7.1
        simpa [hm] using this
      · have := h7.2
        simpa [hij] using this
  refine ⟨⟨h1, h2, h4, fun i o hi ho => (key i o hi ho).1, fun i j o oj t hi hj ho hoj ht hm => ?_, fun i j o oj t hi hj hij ho hoj ht => ((key i o hi ho).2 j oj t hj hoj ht).2 hij⟩, g1, g2, g3, g4, g5, g6⟩
  obtain ⟨o', ho', he⟩ := Region.waitsFor_spec (((key i o hi ho).2 j oj t hj hoj ht).1 hm)
  rw [ho] at ho'
  obtain rfl := Option.some.inj ho'
  exact he
/-- The frame of it: whatever is kept between two operations (J). -/
theorem rg_gen {Q : Exit → Act → World → Prop} {a : Act} {l : List Oper} {n : Nat} (J : Array Bool → (Nat → Value) → World → Prop)
    (hok : RgOk0 l.toArray n) (G : Array Bool → Prop) (hG : ∀ L i, G L → G (L.setIfInBounds i true))
    (hnt : ∀ L, HeadInv .any l.toArray n L → G L → (∃ i, i < n ∧ L.getD i false = false) → ∀ t, n ≤ t → t ∉ Region.ready .any l.toArray L)
    (hstep : ∀ (L : Array Bool) (vs : Nat → Value) (w : World) (i : Nat) (o : Oper), HeadInv .any l.toArray n L → i ∈ Region.ready .any l.toArray L → i < n → (l.take n)[i]? = some o → J L vs w →
      if Region.wanted o (yielded l.toArray (putAll vs (l.take n) 0 a).tmps) = true then comes P o (putAll vs (l.take n) 0 a) w (fun v w' => J (L.setIfInBounds i true) (upd vs i v) w') else J (L.setIfInBounds i true) (upd vs i undef) w)
    (hfin : ∀ L vs w', (∀ i, i < n → L.getD i false = true) → J L vs w' → wpList P l.toArray Q (l.drop n) (putAll vs (l.take n) 0 a) w') :
    ∀ (f : Nat) (L : Array Bool) (vs : Nat → Value) (a' : Act) (w : World), left n L = f → HeadInv .any l.toArray n L → G L → a' = putL vs L (l.take n) 0 a → J L vs w →
      wpAny P .any l.toArray Q (f + (l.toArray.size - n)) L a' w := by
  have hnl : n ≤ l.length := by simpa using hok.le
  have htk : (l.take n).length = n := by simp; omega
  have hdl : (l.drop n).length = l.toArray.size - n := by simp
  have hat : ∀ i o, i < n → l.toArray[i]? = some o → (l.take n)[i]? = some o := fun i o hi ho => by simpa [hi] using ho
  intro f
  induction f with
  | zero =>
    intro L vs a' w hf ih0 hg hfr hJ
    have hall := left_zero hf
    have hL : L = Array.replicate n true ++ Array.replicate (l.toArray.size - n) false := by
      refine Array.ext ?_ ?_
      · simp [ih0.size]; omega
      · intro i h1 h2
        by_cases hi : i < n
        · have := hall i hi
          simp only [Array.getD_eq_getD_getElem?, Array.getElem?_eq_getElem h1, Option.getD_some] at this
          simp [hi, this]
        · have h3 := ih0.tail i (by omega) (by rw [← ih0.size]; exact h1)
          simp only [Array.getD_eq_getD_getElem?, Array.getElem?_eq_getElem h1, Option.getD_some] at h3
          rw [h3, Array.getElem_append_right (by simp; omega)]
          simp
    have hq := hfin L vs w hall hJ
    have := wpAny_of_seq (P := P) (ops := l.toArray) (md := .any) (Q' := Q) (l.drop n) n L a' w (fun j => by simp [List.getElem?_drop]) (by rw [hdl, hL]; exact hok.seq)
      (by rw [hfr, putL_all vs L _ 0 a (fun j _ hj => hall j (by rw [htk] at hj; omega))]; exact hq)
    rw [Nat.zero_add]
    rwa [hdl] at this
  | succ f ih =>
    intro L vs a' w hf ih0 hg hfr hJ
    rw [show f + 1 + (l.toArray.size - n) = (f + (l.toArray.size - n)) + 1 by omega]
    -- one of the head is not listed
    have hex : ∃ i, i < n ∧ L.getD i false = false := by
      rcases Classical.em (∃ i, i < n ∧ L.getD i false = false) with h | h
      · exact h
      · exfalso
        have : left n L = 0 := by
          unfold left
          rw [List.filter_eq_nil_iff.2 (fun i hi => by
            have hi' := List.mem_range.1 hi
            cases hc : L.getD i false with
            | true => simp
            | false => exact absurd ⟨i, hi', hc⟩ h)]
          rfl
        omega
    have hnotail := hnt L ih0 hg hex
    refine ⟨fun h0 => ?_, fun i hi => ?_⟩
    · exfalso
      -- the least that is not listed is ready
      have : ∀ k, ∀ i, i ≤ k → i < n → L.getD i false = false → False := by
        intro k
        induction k with
        | zero =>
          intro i hik hi hun
          have hi0 : i = 0 := by omega
          subst hi0
          have hlt : 0 < l.toArray.size := by have := hok.le; omega
          have : (0 : Nat) ∈ Region.ready .any l.toArray L := mem_ready.2 ⟨getD_in (by rw [ih0.size]; exact hlt) hun, l.toArray[0], Array.getElem?_eq_getElem hlt, fun e he hb => by
            have := hok.back 0 _ hi (Array.getElem?_eq_getElem hlt) e he hb
            omega⟩
          rw [h0] at this
          cases this
        | succ k ihk =>
          intro i hik hi hun
          have hlt : i < l.toArray.size := by have := hok.le; omega
          have : i ∈ Region.ready .any l.toArray L := mem_ready.2 ⟨getD_in (by rw [ih0.size]; exact hlt) hun, l.toArray[i], Array.getElem?_eq_getElem hlt, fun e he hb => by
            have h1 := hok.back i _ hi (Array.getElem?_eq_getElem hlt) e he hb
            cases hc : L.getD e.on false with
            | true => rfl
            | false => exact (ihk e.on (by omega) (by omega) hc).elim⟩
          rw [h0] at this
          cases this
      obtain ⟨i, hi, hun⟩ := hex
      exact this i i (Nat.le_refl _) hi hun
    · have hin : i < n := by
        rcases Nat.lt_or_ge i n with h | h
        · exact h
        · exact absurd hi (hnotail i h)
      obtain ⟨hun, o, ho, hall⟩ := mem_ready.1 hi
      have hlt : i < L.size := by rw [ih0.size]; exact (Array.getElem?_eq_some_iff.1 ho).1
      have hread : ∀ t, t ∈ o.looksAt l.toArray → a'.tmps[t]? = (putAll vs (l.take n) 0 a).tmps[t]? := by
        intro t ht
        rw [hfr]
        refine putL_read vs L t _ 0 a a rfl rfl (fun j oj hoj hd => ?_)
        rw [Nat.zero_add]
        have hjn : j < n := by have := (List.getElem?_eq_some_iff.1 hoj).1; omega
        have hoj' : l.toArray[j]? = some oj := by simpa [hjn] using hoj
        obtain ⟨e, he, hb, hon⟩ := hok.deps i j o oj t hin hjn ho hoj' hd ht
        have := hall e he hb
        rwa [hon] at this
      have hexec : execOp a'.eval o = execOp (putAll vs (l.take n) 0 a).eval o := execOp_congr o (noSelect_at hok.nosel ho) fun x hx => by
        cases x with
        | tmp t =>
          have := hread t (List.mem_append_left _ (List.mem_filterMap.2 ⟨.tmp t, by simpa using hx, rfl⟩))
          simp only [Act.eval, Array.getD_eq_getD_getElem?, this]
        | _ => rfl
      have hwant : Region.wanted o (yielded l.toArray a'.tmps) = Region.wanted o (yielded l.toArray (putAll vs (l.take n) 0 a).tmps) := by
        unfold Region.wanted
        cases hg : o.guard with
        | none => rfl
        | some gw =>
          obtain ⟨g, want⟩ := gw
          have : yielded l.toArray a'.tmps g = yielded l.toArray (putAll vs (l.take n) 0 a).tmps g := by
            unfold yielded
            cases ht : (l.toArray[g]?).bind (·.dst) with
            | none => rfl
            | some t =>
              have := hread t (List.mem_append_right _ (by simp only [hg, ht, Option.toList, List.mem_singleton]))
              simp only [Option.bind_some, this]
          simp only [this]
      have hrun := hstep L vs w i o ih0 hi hin (hat i o hin ho) hJ
      have next : ∀ v w', J (L.setIfInBounds i true) (upd vs i v) w' → wpAny P .any l.toArray Q (f + (l.toArray.size - n)) (L.setIfInBounds i true) (a'.put o.dst v) w' := by
        intro v w' hJ'
        refine ih (L.setIfInBounds i true) (upd vs i v) _ w' (by have := left_set hin hlt (getD_both hun); omega) (ih0.set hi hin) (hG _ _ hg) ?_ hJ'
        rw [hfr]
        exact putL_set vs L v i hlt (getD_both hun) _ 0 a o (Nat.zero_le _) (by rw [Nat.sub_zero]; exact hat i o hin ho) (fun x y ox oy hxy hx hy t ht => by
          have hyn : y < n := by have := (List.getElem?_eq_some_iff.1 hy).1; omega
          exact hok.once y x oy ox t hyn (by omega) (by omega) (by simpa [hyn] using hy) (by simpa [show x < n by omega] using hx) ht)
      unfold wpOp
      simp only [ho]
      rw [hwant]
      by_cases hw : Region.wanted o (yielded l.toArray (putAll vs (l.take n) 0 a).tmps) = true
      · rw [if_pos hw] at hrun ⊢
        refine .inl (wp_of_comes (R := fun v w' => J (L.setIfInBounds i true) (upd vs i v) w') (fun v w' h => next v w' h) ?_)
        unfold comes
        rw [hexec]
        exact hrun
      · rw [if_neg hw] at hrun ⊢
        exact next undef w hrun

/-- The tail waits for all of the head but x, and not by way of x. -/
def sinkY (ops : Array Oper) (n x : Nat) : Bool :=
  (List.range n).all fun i => decide (i = x) || (List.range (n + 1)).any fun j => decide (i < j) && (decide (j ≠ x) && Region.waitsFor .any ops j i)
theorem tail_waitsY {n x : Nat} {listed : Array Bool} (hs : sinkY ops n x = true) (hc : Region.chainB .any ops n = true) (hn : n < ops.size) (inv : HeadInv .any ops n listed) :
    ∀ (d i : Nat), n - i = d → i < n → i ≠ x → listed.getD i true = false → ∀ t, n ≤ t → t ∉ Region.ready .any ops listed := by
  intro d
  induction d using Nat.strongRecOn with
  | _ d ih =>
    intro i hd hi hix hun t ht hr
    obtain ⟨_, ot, hot, hall⟩ := mem_ready.1 hr
    have htlt : t < ops.size := (Array.getElem?_eq_some_iff.1 hot).1
    by_cases htn : t = n
    · subst htn
      have h1 := List.all_eq_true.1 hs i (List.mem_range.2 hi)
      simp only [hix, decide_false, Bool.false_or] at h1
      obtain ⟨j, hj, hj2⟩ := List.any_eq_true.1 h1
      simp only [Bool.and_eq_true, decide_eq_true_eq] at hj2
      obtain ⟨oj, hoj, e, he, hb, hon⟩ := Region.waitsFor_spec hj2.2.2
      have hjle : j ≤ t := by have := List.mem_range.1 hj; omega
      by_cases hjt : j = t
      · subst hjt
        have : oj = ot := Option.some.inj (hoj.symm.trans hot)
        subst this
        have h2 := hall e he hb
        rw [hon, getD_both hun] at h2
        cases h2
      · cases hl : listed.getD j false with
        | true =>
          have h2 := inv.closed j oj hoj hl e he hb
          rw [hon, getD_both hun] at h2
          cases h2
        | false =>
          have hjs : j < listed.size := by rw [inv.size]; omega
          exact ih (t - j) (by omega) j rfl (by omega) hj2.2.1 (getD_in hjs hl) t (Nat.le_refl _) hr
    · have h1 := List.all_eq_true.1 hc t (List.mem_range.2 htlt)
      simp only [Bool.or_eq_true, decide_eq_true_eq] at h1
      rcases h1 with h1 | h1
      · omega
      · obtain ⟨o', ho', e, he, hb, hon⟩ := Region.waitsFor_spec h1
        have : o' = ot := Option.some.inj (ho'.symm.trans hot)
        subst this
        have h2 := hall e he hb
        rw [hon, getD_both (inv.tail (t - 1) (by omega) (by omega))] at h2
        cases h2
/-- Every other operation waits for x, or x for it, or they have nothing to do with each other. -/
def freeY (ops : Array Oper) (x : Nat) : Bool :=
  match ops[x]? with
  | none => false
  | some ox => (List.range ops.size).all fun j => decide (j = x) || (Region.waitsFor .any ops x j || (match ops[j]? with
      | some oj => (oj.after.any fun e => Region.binds .any e && e.on == x) || ox.apart ops oj
      | none => true))
/-- What is asked of a region whose operation x floats: it yields the same in every world, and it may come behind operations of the tail. -/
def rgYB (ops : Array Oper) (n x : Nat) : Bool :=
  Region.noSelect ops && decide (n ≤ ops.size) && (decide (x < n) && decide (n < ops.size) && sinkY ops n x && Region.chainB .any ops n && freeY ops x) &&
  Region.seqB .any ops (ops.size - n) n (Array.replicate n true ++ Array.replicate (ops.size - n) false) &&
  ((List.range n).all fun i => match ops[i]? with
    | none => false
    | some o => (o.after.all fun e => !Region.binds .any e || decide (e.on < i)) &&
      (List.range n).all fun j => match ops[j]? with
        | none => false
        | some oj => match oj.dst with
          | none => true
          | some t => (!(o.looksAt ops).contains t || Region.waitsFor .any ops i j) && (decide (i = j) || o.dst != some t))
structure RgOkY (ops : Array Oper) (n x : Nat) : Prop extends RgOk0 ops n where
  lt : x < n
  more : n < ops.size
  sink : sinkY ops n x = true
  chain : Region.chainB .any ops n = true
  free : freeY ops x = true
theorem rgOkY_of {n x : Nat} (h : rgYB ops n x = true) : RgOkY ops n x := by
  simp only [rgYB, Bool.and_eq_true, decide_eq_true_eq] at h
  obtain ⟨⟨⟨⟨h1, h2⟩, ⟨⟨⟨g1, g2⟩, g3⟩, g4⟩, g5⟩, h4⟩, h5⟩ := h
  have key : ∀ i o, i < n → ops[i]? = some o → (∀ e ∈ o.after, Region.binds .any e = true → e.on < i) ∧ ∀ j oj t, j < n → ops[j]? = some oj → oj.dst = some t →
      (t ∈ o.looksAt ops → Region.waitsFor .any ops i j = true) ∧ (i ≠ j → o.dst ≠ some t) := by
    intro i o hi ho
    have h6 := List.all_eq_true.1 h5 i (List.mem_range.2 hi)
    simp only [ho, Bool.and_eq_true] at h6
    refine ⟨fun e he hb => ?_, fun j oj t hj hoj ht => ?_⟩
    · have h7 := Array.all_eq_true'.1 h6.1 e he
      simpa [hb] using h7
    · have h7 := List.all_eq_true.1 h6.2 j (List.mem_range.2 hj)
      simp only [hoj, ht, Bool.and_eq_true] at h7
      refine ⟨fun hm => ?_, fun hij => ?_⟩
      · have := h7.1
        simpa [hm] using this
      · have := h7.2
        simpa [hij] using this
  refine ⟨⟨h1, h2, h4, fun i o hi ho => (key i o hi ho).1, fun i j o oj t hi hj ho hoj ht hm => ?_, fun i j o oj t hi hj hij ho hoj ht => ((key i o hi ho).2 j oj t hj hoj ht).2 hij⟩, g1, g2, g3, g4, g5⟩
  obtain ⟨o', ho', he⟩ := Region.waitsFor_spec (((key i o hi ho).2 j oj t hj hoj ht).1 hm)
  rw [ho] at ho'
  obtain rfl := Option.some.inj ho'
  exact he
theorem free_any {x : Nat} {L : Array Bool} (h : freeY ops x = true) (hL : L.size = ops.size) (hall : ∀ o, ops[x]? = some o → ∀ e ∈ o.after, Region.binds .any e = true → L.getD e.on false = true) : Region.free .any ops L x = true := by
  unfold freeY at h
  unfold Region.free
  cases ho : ops[x]? with
  | none => rw [ho] at h; cases h
  | some ox =>
    rw [ho] at h
    simp only at h ⊢
    refine List.all_eq_true.2 fun j hj => ?_
    have h1 := List.all_eq_true.1 h j hj
    have hjs : j < ops.size := List.mem_range.1 hj
    simp only [Bool.or_eq_true, decide_eq_true_eq] at h1
    simp only [Bool.or_eq_true, beq_iff_eq]
    rcases h1 with h1 | h1 | h1
    · exact .inl (.inl h1)
    · obtain ⟨o', ho', e, he, hb, hon⟩ := Region.waitsFor_spec h1
      have hlj := hall o' ho' e he hb
      rw [hon] at hlj
      refine .inl (.inr ?_)
      have hjl : j < L.size := by rw [hL]; exact hjs
      simp only [Array.getD_eq_getD_getElem?, Array.getElem?_eq_getElem hjl, Option.getD_some] at hlj ⊢
      exact hlj
    · refine .inr ?_
      cases hoj : ops[j]? with
      | none => rfl
      | some oj => rw [hoj] at h1; simpa using h1
/-- The frame of it, with an operation x that floats. -/
theorem rg_genx {Q : Exit → Act → World → Prop} {a : Act} {l : List Oper} {n x : Nat} (J : Array Bool → (Nat → Value) → World → Prop)
    (hok : RgOkY l.toArray n x) (ox : Oper) (hox : (l.take n)[x]? = some ox) (hQ : ∀ p (a : Act) w v, Q (.panic p) (a.put ox.dst v) w → Q (.panic p) a w)
    (hxs : ∀ (L : Array Bool) (vs : Nat → Value) (w : World), HeadInv .any l.toArray n L → x ∈ Region.ready .any l.toArray L → J L vs w →
      ∃ v, Region.wanted ox (yielded l.toArray (putAll vs (l.take n) 0 a).tmps) = true ∧ (∀ w', (execOp (putAll vs (l.take n) 0 a).eval ox).run P w' = .ok (.value v) w') ∧ J (L.setIfInBounds x true) (upd vs x v) w)
    (hstep : ∀ (L : Array Bool) (vs : Nat → Value) (w : World) (i : Nat) (o : Oper), HeadInv .any l.toArray n L → i ∈ Region.ready .any l.toArray L → i < n → (l.take n)[i]? = some o → J L vs w →
      if Region.wanted o (yielded l.toArray (putAll vs (l.take n) 0 a).tmps) = true then comes P o (putAll vs (l.take n) 0 a) w (fun v w' => J (L.setIfInBounds i true) (upd vs i v) w') else J (L.setIfInBounds i true) (upd vs i undef) w)
    (hfin : ∀ L vs w', (∀ i, i < n → L.getD i false = true) → J L vs w' → wpList P l.toArray Q (l.drop n) (putAll vs (l.take n) 0 a) w') :
    ∀ (f : Nat) (L : Array Bool) (vs : Nat → Value) (a' : Act) (w : World), left n L = f → HeadInv .any l.toArray n L → a' = putL vs L (l.take n) 0 a → J L vs w →
      wpAny P .any l.toArray Q (f + (l.toArray.size - n)) L a' w := by
  have hnl : n ≤ l.length := by simpa using hok.le
  have htk : (l.take n).length = n := by simp; omega
  have hdl : (l.drop n).length = l.toArray.size - n := by simp
  have hat : ∀ i o, i < n → l.toArray[i]? = some o → (l.take n)[i]? = some o := fun i o hi ho => by simpa [hi] using ho
  intro f
  induction f with
  | zero =>
    intro L vs a' w hf ih0 hfr hJ
    have hall := left_zero hf
    have hL : L = Array.replicate n true ++ Array.replicate (l.toArray.size - n) false := by
      refine Array.ext ?_ ?_
      · simp [ih0.size]; omega
      · intro i h1 h2
        by_cases hi : i < n
        · have := hall i hi
          simp only [Array.getD_eq_getD_getElem?, Array.getElem?_eq_getElem h1, Option.getD_some] at this
          simp [hi, this]
        · have h3 := ih0.tail i (by omega) (by rw [← ih0.size]; exact h1)
          simp only [Array.getD_eq_getD_getElem?, Array.getElem?_eq_getElem h1, Option.getD_some] at h3
          rw [h3, Array.getElem_append_right (by simp; omega)]
          simp
    have hq := hfin L vs w hall hJ
    have := wpAny_of_seq (P := P) (ops := l.toArray) (md := .any) (Q' := Q) (l.drop n) n L a' w (fun j => by simp [List.getElem?_drop]) (by rw [hdl, hL]; exact hok.seq)
      (by rw [hfr, putL_all vs L _ 0 a (fun j _ hj => hall j (by rw [htk] at hj; omega))]; exact hq)
    rw [Nat.zero_add]
    rwa [hdl] at this
  | succ f ih =>
    intro L vs a' w hf ih0 hfr hJ
    rw [show f + 1 + (l.toArray.size - n) = (f + (l.toArray.size - n)) + 1 by omega]
    -- one of the head is not listed
    have hex : ∃ i, i < n ∧ L.getD i false = false := by
      rcases Classical.em (∃ i, i < n ∧ L.getD i false = false) with h | h
      · exact h
      · exfalso
        have : left n L = 0 := by
          unfold left
          rw [List.filter_eq_nil_iff.2 (fun i hi => by
            have hi' := List.mem_range.1 hi
            cases hc : L.getD i false with
            | true => simp
            | false => exact absurd ⟨i, hi', hc⟩ h)]
          rfl
        omega
    have hsame : ∀ i, i < n → i ∈ Region.ready .any l.toArray L → ∃ o, l.toArray[i]? = some o ∧ L.getD i true = false ∧ i < L.size ∧ execOp a'.eval o = execOp (putAll vs (l.take n) 0 a).eval o ∧
        Region.wanted o (yielded l.toArray a'.tmps) = Region.wanted o (yielded l.toArray (putAll vs (l.take n) 0 a).tmps) := by
      intro i hin hi
      obtain ⟨hun, o, ho, hall⟩ := mem_ready.1 hi
      have hlt : i < L.size := by rw [ih0.size]; exact (Array.getElem?_eq_some_iff.1 ho).1
      have hread : ∀ t, t ∈ o.looksAt l.toArray → a'.tmps[t]? = (putAll vs (l.take n) 0 a).tmps[t]? := by
        intro t ht
        rw [hfr]
        refine putL_read vs L t _ 0 a a rfl rfl (fun j oj hoj hd => ?_)
        rw [Nat.zero_add]
        have hjn : j < n := by have := (List.getElem?_eq_some_iff.1 hoj).1; omega
        have hoj' : l.toArray[j]? = some oj := by simpa [hjn] using hoj
        obtain ⟨e, he, hb, hon⟩ := hok.deps i j o oj t hin hjn ho hoj' hd ht
        have := hall e he hb
        rwa [hon] at this
      have hexec : execOp a'.eval o = execOp (putAll vs (l.take n) 0 a).eval o := execOp_congr o (noSelect_at hok.nosel ho) fun x hx => by
        cases x with
        | tmp t =>
          have := hread t (List.mem_append_left _ (List.mem_filterMap.2 ⟨.tmp t, by simpa using hx, rfl⟩))
          simp only [Act.eval, Array.getD_eq_getD_getElem?, this]
        | _ => rfl
      have hwant : Region.wanted o (yielded l.toArray a'.tmps) = Region.wanted o (yielded l.toArray (putAll vs (l.take n) 0 a).tmps) := by
        unfold Region.wanted
        cases hg : o.guard with
        | none => rfl
        | some gw =>
          obtain ⟨g, want⟩ := gw
          have : yielded l.toArray a'.tmps g = yielded l.toArray (putAll vs (l.take n) 0 a).tmps g := by
            unfold yielded
            cases ht : (l.toArray[g]?).bind (·.dst) with
            | none => rfl
            | some t =>
              have := hread t (List.mem_append_right _ (by simp only [hg, ht, Option.toList, List.mem_singleton]))
              simp only [Option.bind_some, this]
          simp only [this]
      exact ⟨o, ho, hun, hlt, hexec, hwant⟩
    have hat' : ∀ i o, i < n → l.toArray[i]? = some o → (l.take n)[i]? = some o := hat
    have next : ∀ i o, i < n → i ∈ Region.ready .any l.toArray L → l.toArray[i]? = some o → L.getD i true = false → i < L.size → ∀ v w', J (L.setIfInBounds i true) (upd vs i v) w' → wpAny P .any l.toArray Q (f + (l.toArray.size - n)) (L.setIfInBounds i true) (a'.put o.dst v) w' := by
      intro i o hin hi ho hun hlt v w' hJ'
      refine ih (L.setIfInBounds i true) (upd vs i v) _ w' (by have := left_set hin hlt (getD_both hun); omega) (ih0.set hi hin) ?_ hJ'
      rw [hfr]
      exact putL_set vs L v i hlt (getD_both hun) _ 0 a o (Nat.zero_le _) (by rw [Nat.sub_zero]; exact hat i o hin ho) (fun x y ox oy hxy hx hy t ht => by
        have hyn : y < n := by have := (List.getElem?_eq_some_iff.1 hy).1; omega
        exact hok.once y x oy ox t hyn (by omega) (by omega) (by simpa [hyn] using hy) (by simpa [show x < n by omega] using hx) ht)
    by_cases hxr : x ∈ Region.ready .any l.toArray L
    · obtain ⟨o, ho, hun, hlt, hexec, hwant⟩ := hsame x hok.lt hxr
      have hoo : o = ox := Option.some.inj ((hat x o hok.lt ho).symm.trans hox)
      subst hoo
      obtain ⟨v, hw, hrun, hJ'⟩ := hxs L vs w ih0 hxr hJ
      exact wpAny_take ho hok.nosel (free_any hok.free ih0.size (fun o2 ho2 e he hb => by obtain ⟨_, o3, ho3, hall3⟩ := mem_ready.1 hxr; rw [ho3] at ho2; obtain rfl := Option.some.inj ho2; exact hall3 e he hb)) (by simpa using hxr) (fun p a w h => hQ p a w v h) (.inl ⟨by rw [hwant]; exact hw, fun w' => by rw [hexec]; exact hrun w'⟩) (next x o hok.lt hxr ho hun hlt v w hJ')
    have hnotail : ∀ t, n ≤ t → t ∉ Region.ready .any l.toArray L := by
      obtain ⟨i, hi, hun⟩ := hex
      have hin' : ∀ j, j < n → L.getD j false = false → L.getD j true = false := fun j hj h => getD_in (by rw [ih0.size]; have := hok.more; omega) h
      by_cases hix : i = x
      · subst hix
        have : ∃ e ∈ ox.after, Region.binds .any e = true ∧ L.getD e.on false = false := by
          rcases Classical.em (∃ e ∈ ox.after, Region.binds .any e = true ∧ L.getD e.on false = false) with h | h
          · exact h
          · exfalso
            have hox' : l.toArray[i]? = some ox := by
              have := hox
              rw [List.getElem?_take, if_pos hi] at this
              simpa using this
            exact hxr (mem_ready.2 ⟨hin' i hi hun, ox, hox', fun e he hb => by
              cases hc : L.getD e.on false with
              | true => rfl
              | false => exact absurd ⟨e, he, hb, hc⟩ h⟩)
        obtain ⟨e, he, hb, hoff⟩ := this
        have hox' : l.toArray[i]? = some ox := by
          have := hox
          rw [List.getElem?_take, if_pos hi] at this
          simpa using this
        have hlt := hok.back i ox hi hox' e he hb
        exact tail_waitsY hok.sink hok.chain hok.more ih0 _ e.on rfl (by omega) (by omega) (hin' _ (by omega) hoff)
      · exact tail_waitsY hok.sink hok.chain hok.more ih0 _ i rfl hi hix (hin' i hi hun)
    refine ⟨fun h0 => ?_, fun i hi => ?_⟩
    · exfalso
      -- the least that is not listed is ready
      have : ∀ k, ∀ i, i ≤ k → i < n → L.getD i false = false → False := by
        intro k
        induction k with
        | zero =>
          intro i hik hi hun
          have hi0 : i = 0 := by omega
          subst hi0
          have hlt : 0 < l.toArray.size := by have := hok.le; omega
          have : (0 : Nat) ∈ Region.ready .any l.toArray L := mem_ready.2 ⟨getD_in (by rw [ih0.size]; exact hlt) hun, l.toArray[0], Array.getElem?_eq_getElem hlt, fun e he hb => by
            have := hok.back 0 _ hi (Array.getElem?_eq_getElem hlt) e he hb
            omega⟩
          rw [h0] at this
          cases this
        | succ k ihk =>
          intro i hik hi hun
          have hlt : i < l.toArray.size := by have := hok.le; omega
          have : i ∈ Region.ready .any l.toArray L := mem_ready.2 ⟨getD_in (by rw [ih0.size]; exact hlt) hun, l.toArray[i], Array.getElem?_eq_getElem hlt, fun e he hb => by
            have h1 := hok.back i _ hi (Array.getElem?_eq_getElem hlt) e he hb
            cases hc : L.getD e.on false with
            | true => rfl
            | false => exact (ihk e.on (by omega) (by omega) hc).elim⟩
          rw [h0] at this
          cases this
      obtain ⟨i, hi, hun⟩ := hex
      exact this i i (Nat.le_refl _) hi hun
    · have hin : i < n := by
        rcases Nat.lt_or_ge i n with h | h
        · exact h
        · exact absurd hi (hnotail i h)
      obtain ⟨o, ho, hun, hlt, hexec, hwant⟩ := hsame i hin hi
      have hrun := hstep L vs w i o ih0 hi hin (hat i o hin ho) hJ
      unfold wpOp
      simp only [ho]
      rw [hwant]
      by_cases hw : Region.wanted o (yielded l.toArray (putAll vs (l.take n) 0 a).tmps) = true
      · rw [if_pos hw] at hrun ⊢
        refine .inl (wp_of_comes (R := fun v w' => J (L.setIfInBounds i true) (upd vs i v) w') (fun v w' h => next i o hin hi ho hun hlt v w' h) ?_)
        unfold comes
        rw [hexec]
        exact hrun
      · rw [if_neg hw] at hrun ⊢
        exact next i o hin hi ho hun hlt undef w hrun

/-- w' is w with new blocks, and with other contents in blocks from N on whose elements are of type e. -/
structure BigE (N : Nat) (e : TypeId) (w w' : World) : Prop where
  os : w'.os = w.os
  tape : w'.tape = w.tape
  output : w'.output = w.output
  size : w.heap.size ≤ w'.heap.size
  block : ∀ k, k < w.heap.size → (k < N ∨ ∀ cs fr, w.heap[k]? ≠ some (.cells cs e fr)) → w'.heap[k]? = w.heap[k]?
theorem BigE.of_ext {N : Nat} {e : TypeId} {w w' : World} (h : Ext w w') : BigE N e w w' := ⟨h.os, h.tape, h.output, h.size, fun k hk _ => h.block k hk⟩
theorem BigE.refl {N : Nat} {e : TypeId} (w : World) : BigE N e w w := BigE.of_ext (Ext.refl w)
theorem BigE.trans {N : Nat} {e : TypeId} {a b c : World} (h : BigE N e a b) (k : BigE N e b c) : BigE N e a c :=
  ⟨k.os.trans h.os, k.tape.trans h.tape, k.output.trans h.output, Nat.le_trans h.size k.size, fun j hj hd => by
    have e1 := h.block j hj hd
    rw [← e1]
    exact k.block j (Nat.lt_of_lt_of_le hj h.size) (hd.imp id fun h2 cs fr => by rw [e1]; exact h2 cs fr)⟩
theorem BigE.of_grown {N n size : Nat} {e : TypeId} {w w' : World} {v : Value} {xs : List Value} (ho : w.ownsRow N e size v n xs) (h : w.grownBy w' v.ownBlock) : BigE N e w w' :=
  ⟨h.os, h.tape, h.output, h.size, fun k hk hd => h.block k hk (fun q => by
    rcases ho.2 with ⟨h1, _⟩ | ⟨g, cap, cur, hv, hb, hg, _⟩
    · rw [h1] at q; simp [Value.ownBlock] at q
    · rw [hv] at q
      simp only [Value.ownBlock] at q
      injection q with q
      subst q
      rcases hd with hd | hd
      · omega
      · exact hd _ _ hg)⟩
theorem BigE.ext {N : Nat} {e : TypeId} {w0 w w' : World} (h : BigE N e w w') (hE : Ext w0 w) (hN : w0.heap.size ≤ N) : Ext w0 w' :=
  ⟨h.os.trans hE.os, h.tape.trans hE.tape, h.output.trans hE.output, Nat.le_trans hE.size h.size, fun k hk => (h.block k (Nat.lt_of_lt_of_le hk hE.size) (.inl (by omega))).trans (hE.block k hk)⟩
theorem BigE.cell {N : Nat} {e : TypeId} {w w' : World} (h : BigE N e w w') {p : Addr} (hp : p.block < N) (hw : p.block < w.heap.size) : w'.cell? p = w.cell? p := World.cell?_of_block (h.block _ hw (.inl hp))
theorem BigE.box {N M : Nat} {e : TypeId} {w w' : World} {b : Nat} {cs : List Value} (h : BigE N e w w') (hB : Box M cs b w) (hb : b < N) : Box M cs b w' :=
  ⟨hB.base, Nat.lt_of_lt_of_le hB.lt h.size, fun j hj => by rw [h.cell (p := ⟨b, j, none⟩) hb hB.lt]; exact hB.cell j hj, fun j => by rw [World.frozen?_of_block (a := ⟨b, j, none⟩) (h.block b hB.lt (.inl hb))]; exact hB.free j⟩
/-- A variable of type t in a block from N on. -/
def BoxT (N : Nat) (t : TypeId) (cs : List Value) (b : Nat) (w : World) : Prop := N ≤ b ∧ w.heap[b]? = some (.cells cs.toArray t (0, 0))
theorem BoxT.box {N : Nat} {t : TypeId} {cs : List Value} {b : Nat} {w : World} (h : BoxT N t cs b w) : Box N cs b w :=
  ⟨h.1, (Array.getElem?_eq_some_iff.1 h.2).1, fun j _ => by simp [World.cell?, h.2], fun j => by simp [World.frozen?, h.2]⟩
theorem BoxT.big {N M : Nat} {t e : TypeId} {cs : List Value} {b : Nat} {w w' : World} (h : BoxT M t cs b w) (k : BigE N e w w') (ht : t ≠ e) : BoxT M t cs b w' :=
  ⟨h.1, by rw [k.block b h.box.lt (.inr (fun c fr q => ht (by rw [h.2] at q; injection q with q; injection q)))]; exact h.2⟩
theorem BoxT.ext {M : Nat} {t : TypeId} {cs : List Value} {b : Nat} {w w' : World} (h : BoxT M t cs b w) (k : Ext w w') : BoxT M t cs b w' :=
  ⟨h.1, by rw [k.block b h.box.lt]; exact h.2⟩
theorem BoxT.new {N : Nat} (w : World) (cs : Array Value) (t : TypeId) (l : List Value) (hN : N ≤ w.heap.size) (h : cs.toList = l) : BoxT N t l w.heap.size (w.alloc (.cells cs t)) := by
  subst h
  exact ⟨hN, Array.getElem?_push_size⟩

/-- An append. -/
theorem comes_app {o : Oper} {a : Act} {w : World} {R : Value → World → Prop} (s x : Operand) (t : TypeId)
    (ho : o.op = .call { callee := .builtin .append, args := #[s, x], argTypes := #[t, t] }) (v u : Value) (hs : a.eval s = v) (hx : a.eval x = u)
    (hr : ∃ v' w', (Builtin.append_ #[t, t] o.type #[v, u]).run P w = .ok v' w' ∧ R v' w') : comes P o a w R := by
  obtain ⟨v', w', hr, hR⟩ := hr
  unfold comes execOp
  simp only [ho, resolve, invoke, builtin, Sem.run_bind, Sem.run_pure, Result.andThen_ok, List.map_toArray, List.map_cons, List.map_nil, hs, hx, hr]
  exact hR
/-- How a fact stands to the one operation: 0 stays whatever happens, 1 is wanted ahead of it, 2 comes behind it. -/
def clsOf (cls : List Nat) (i : Nat) : Nat := cls.getD i 0
def clsB (ops : Array Oper) (n kb : Nat) (cls : List Nat) : Bool :=
  decide (kb < n) && (clsOf cls kb == 2) && (List.range n).all fun i => decide (clsOf cls i ≤ 2) &&
    ((clsOf cls i != 1 || (List.range n).any fun j => decide (i < j) && (decide (j = kb) || clsOf cls j == 1) && (match ops[j]? with
      | none => false
      | some o => o.after.any fun e => Region.binds .any e && decide (e.on = i))) &&
    (clsOf cls i != 2 || decide (i = kb) || (match ops[i]? with
      | none => false
      | some o => o.after.any fun e => Region.binds .any e && (decide (e.on < i) && clsOf cls e.on == 2))))
theorem clsB_one {n kb : Nat} {cls : List Nat} (h : clsB ops n kb cls = true) {L : Array Bool} (hL : HeadInv .any ops n L) (hk : L.getD kb false = true) :
    ∀ (d i : Nat), n - i = d → i < n → clsOf cls i = 1 → L.getD i false = true := by
  intro d
  induction d using Nat.strongRecOn with
  | _ d ih =>
    intro i hd hi hc
    simp only [clsB, Bool.and_eq_true] at h
    have h2 := List.all_eq_true.1 h.2 i (List.mem_range.2 hi)
    simp only [hc, Bool.and_eq_true] at h2
    have h3 := h2.2.1
    simp only [bne_self_eq_false, Bool.false_or, List.any_eq_true, List.mem_range, Bool.and_eq_true, decide_eq_true_eq, Bool.or_eq_true, beq_iff_eq] at h3
    obtain ⟨j, hj, ⟨hij, hjk⟩, hm⟩ := h3
    cases ho : ops[j]? with
    | none => rw [ho] at hm; simp at hm
    | some o =>
      rw [ho] at hm
      simp only [Array.any_eq_true', Bool.and_eq_true, decide_eq_true_eq] at hm
      obtain ⟨e, he, hb, hon⟩ := hm
      have hjl : L.getD j false = true := by
        rcases hjk with rfl | hjk
        · exact hk
        · exact ih (n - j) (by omega) j rfl hj hjk
      have := hL.closed j o ho hjl e he hb
      rwa [hon] at this
theorem clsB_two {n kb : Nat} {cls : List Nat} (h : clsB ops n kb cls = true) {L : Array Bool} (hL : HeadInv .any ops n L) :
    ∀ (i : Nat), i < n → clsOf cls i = 2 → L.getD i false = true → L.getD kb false = true := by
  intro i
  induction i using Nat.strongRecOn with
  | _ i ih =>
    intro hi hc hl
    have h0 := h
    simp only [clsB, Bool.and_eq_true] at h
    have h2 := List.all_eq_true.1 h.2 i (List.mem_range.2 hi)
    simp only [hc, Bool.and_eq_true] at h2
    have h3 := h2.2.2
    simp only [bne_self_eq_false, Bool.false_or, Bool.or_eq_true, decide_eq_true_eq] at h3
    rcases h3 with rfl | hm
    · exact hl
    · cases ho : ops[i]? with
      | none => rw [ho] at hm; simp at hm
      | some o =>
        rw [ho] at hm
        simp only [Array.any_eq_true', Bool.and_eq_true, decide_eq_true_eq, beq_iff_eq] at hm
        obtain ⟨e, he, hb, hlt, hc2⟩ := hm
        exact ih e.on hlt (by omega) hc2 (hL.closed i o ho hl e he hb)

theorem clsRange {n kb : Nat} {cls : List Nat} (h : clsB ops n kb cls = true) {i : Nat} (hi : i < n) : clsOf cls i ≤ 2 := by
  simp only [clsB, Bool.and_eq_true] at h
  have h2 := List.all_eq_true.1 h.2 i (List.mem_range.2 hi)
  simp only [Bool.and_eq_true, decide_eq_true_eq] at h2
  exact h2.1
theorem comes_mono {o : Oper} {a : Act} {w : World} {R R' : Value → World → Prop} (h : ∀ v w', R v w' → R' v w') (hc : comes P o a w R) : comes P o a w R' := by
  unfold comes at hc ⊢
  generalize (execOp a.eval o).run P w = r at *
  cases r with
  | ok n w' =>
    cases n <;> simp only [comesUpon] at hc ⊢
    case enter f args => exact Calls.mono hc fun e w'' ⟨v, he, hr⟩ => ⟨v, he, h _ _ hr⟩
    all_goals exact h _ _ hc
  | halt x w' => simp only [comesUpon] at hc
/-- The facts on the operations whose values operation i reads. -/
def depFactsC (cls : List Nat) (kb i : Nat) (Ts : List (Value → World → Prop)) (vs : Nat → Value) (w : World) : List Edge → Prop
  | [] => True
  | e :: r => (if dataE e = true ∧ (clsOf cls e.on ≠ 1 ∨ clsOf cls i = 1 ∨ i = kb) then (Ts[e.on]?.getD fun _ _ => True) (vs e.on) w else True) ∧ depFactsC cls kb i Ts vs w r
theorem depFactsC_of {cls : List Nat} {kb i : Nat} {Ts : List (Value → World → Prop)} {vs : Nat → Value} {w : World} : ∀ (l : List Edge), (∀ e ∈ l, Region.binds .any e = true → (clsOf cls e.on ≠ 1 ∨ clsOf cls i = 1 ∨ i = kb) → ∀ T, Ts[e.on]? = some T → T (vs e.on) w) → depFactsC cls kb i Ts vs w l
  | [], _ => trivial
  | e :: r, h => by
    refine ⟨?_, depFactsC_of r fun e' he' => h e' (List.mem_cons_of_mem _ he')⟩
    split
    · rename_i hb0
      have hb : Region.binds .any e = true := by
        have hb1 := hb0.1
        unfold dataE at hb1
        unfold Region.binds
        split at hb1 <;> simp_all
      cases hT : Ts[e.on]? with
      | none => simp
      | some T => simpa using h e (List.mem_cons_self ..) hb hb0.2 T hT
    · trivial
/-- The facts that are left behind the region. -/
def factsC (cls : List Nat) (vs : Nat → Value) (w : World) : Nat → List (Value → World → Prop) → Prop
  | _, [] => True
  | i, T :: R => (if clsOf cls i = 1 then True else T (vs i) w) ∧ factsC cls vs w (i + 1) R
theorem factsC_of {cls : List Nat} {vs : Nat → Value} {w : World} : ∀ {R : List (Value → World → Prop)} {i : Nat}, (∀ (j : Nat) (T : Value → World → Prop), R[j]? = some T → clsOf cls (i + j) ≠ 1 → T (vs (i + j)) w) → factsC cls vs w i R
  | [], _, _ => trivial
  | T :: R, i, h => ⟨by
      split
      · trivial
      · rename_i hc; exact h 0 T rfl hc, factsC_of fun j T' hT => by have := h (j + 1) T' (by simpa using hT); rwa [show i + 1 + j = i + (j + 1) by omega]⟩
variable (P)
/-- What is asked of one operation. -/
def bOp (ops : Array Oper) (head : List Oper) (N : Nat) (e : TypeId) (cls : List Nat) (kb : Nat) (S : World → Prop) (Ts : List (Value → World → Prop)) (a : Act) (w0 : World) (i : Nat) (o : Oper) (T : Value → World → Prop) : Prop :=
  ∀ (vs : Nat → Value) (w : World), S w → (clsOf cls i = 1 ∨ i = kb → Ext w0 w) → depFactsC cls kb i Ts vs w o.after.toList →
    if Region.wanted o (yielded ops (putAll vs head 0 a).tmps) = true then comes P o (putAll vs head 0 a) w (fun v w' => (if i = kb then BigE N e w w' else Ext w w') ∧ T v w') else T undef w
def bOps (ops : Array Oper) (head : List Oper) (N : Nat) (e : TypeId) (cls : List Nat) (kb : Nat) (S : World → Prop) (Ts : List (Value → World → Prop)) (a : Act) (w0 : World) : Nat → List Oper → List (Value → World → Prop) → Prop
  | i, o :: l, T :: R => bOp P ops head N e cls kb S Ts a w0 i o T ∧ bOps ops head N e cls kb S Ts a w0 (i + 1) l R
  | _, [], _ => True
  | _, _ :: _, [] => False
variable {P}
theorem bOps_at {head : List Oper} {N : Nat} {e : TypeId} {cls : List Nat} {kb : Nat} {S : World → Prop} {Ts : List (Value → World → Prop)} {a : Act} {w0 : World} : ∀ {l : List Oper} {R : List (Value → World → Prop)} {k : Nat}, bOps P ops head N e cls kb S Ts a w0 k l R →
    ∀ (i : Nat) (o : Oper), l[i]? = some o → ∃ T, R[i]? = some T ∧ bOp P ops head N e cls kb S Ts a w0 (k + i) o T
  | [], _, _, _, i, o, h => by simp at h
  | o' :: l, [], _, h, _, _, _ => h.elim
  | o' :: l, T :: R, k, h, 0, o, ho => by
    have : o' = o := by simpa using ho
    subst this
    exact ⟨T, rfl, h.1⟩
  | o' :: l, T :: R, k, h, i + 1, o, ho => by
    obtain ⟨T', hT, hr⟩ := bOps_at h.2 i o (by simpa using ho)
    exact ⟨T', by simpa using hT, by rwa [show k + (i + 1) = k + 1 + i by omega]⟩
def Stable2 (N : Nat) (e : TypeId) (c : Nat) (T : Value → World → Prop) : Prop := ∀ v w w', (if c = 0 then BigE N e w w' else Ext w w') → T v w → T v w'
def stables2 (N : Nat) (e : TypeId) (cls : List Nat) : Nat → List (Value → World → Prop) → Prop
  | _, [] => True
  | i, T :: R => Stable2 N e (clsOf cls i) T ∧ stables2 N e cls (i + 1) R
theorem stables2_at {N : Nat} {e : TypeId} {cls : List Nat} : ∀ {Ts : List (Value → World → Prop)} {k : Nat}, stables2 N e cls k Ts → ∀ i T, Ts[i]? = some T → Stable2 N e (clsOf cls (k + i)) T
  | [], _, _, i, T, h => by simp at h
  | T' :: R, k, h, 0, T, hT => by
    have : T' = T := by simpa using hT
    subst this; exact h.1
  | T' :: R, k, h, i + 1, T, hT => by
    have := stables2_at h.2 i T (by simpa using hT)
    rwa [show k + 1 + i = k + (i + 1) by omega] at this
theorem Stable2.is {N : Nat} {e : TypeId} {c : Nat} (u : Value) : Stable2 N e c (is u) := fun _ _ _ _ h => h
theorem Stable2.ext {N : Nat} {e : TypeId} {c : Nat} {T : Value → World → Prop} (h : Stable T) (hc : c ≠ 0) : Stable2 N e c T := fun v w w' hE hT => by rw [if_neg hc] at hE; exact h v w w' hE hT

theorem big_core {Q : Exit → Act → World → Prop} {a : Act} {w : World} {l : List Oper} (n kb N : Nat) (e : TypeId) (cls : List Nat) (S : World → Prop) (Ts : List (Value → World → Prop))
    (hok : RgOk0 l.toArray n) (G : Array Bool → Prop) (hG : ∀ L i, G L → G (L.setIfInBounds i true))
    (hnt : ∀ L, HeadInv .any l.toArray n L → G L → (∃ i, i < n ∧ L.getD i false = false) → ∀ t, n ≤ t → t ∉ Region.ready .any l.toArray L)
    (hC : clsB l.toArray n kb cls = true) (hlen : Ts.length = n) (hS : ∀ w', BigE N e w w' → S w')
    (hops : bOps P l.toArray (l.take n) N e cls kb S Ts a w 0 (l.take n) Ts) (hst : stables2 N e cls 0 Ts)
    (hfin : ∀ vs w', BigE N e w w' → S w' → factsC cls vs w' 0 Ts → wpList P l.toArray Q (l.drop n) (putAll vs (l.take n) 0 a) w')
    (L0 : Array Bool) (vs0 : Nat → Value) (a0 : Act) (w0 : World) (h0 : HeadInv .any l.toArray n L0) (g0 : G L0) (f0 : a0 = putL vs0 L0 (l.take n) 0 a) (e0 : BigE N e w w0) (x0 : Ext w w0)
    (t0 : ∀ i T, i < n → L0.getD i false = true → Ts[i]? = some T → T (vs0 i) w0) : wpAny P .any l.toArray Q (left n L0 + (l.toArray.size - n)) L0 a0 w0 := by
  have hkn : kb < n := by simp only [clsB, Bool.and_eq_true, decide_eq_true_eq] at hC; exact hC.1.1
  have hk2 : clsOf cls kb = 2 := by simp only [clsB, Bool.and_eq_true, beq_iff_eq] at hC; exact hC.1.2
  refine rg_gen (P := P) (Q := Q) (a := a) (fun L vs w' => (BigE N e w w' ∧ (L.getD kb false = false → Ext w w')) ∧ ∀ i T, i < n → L.getD i false = true → (clsOf cls i = 1 → L.getD kb false = false) → Ts[i]? = some T → T (vs i) w') hok G hG hnt ?_ ?_ _ L0 vs0 a0 w0 rfl h0 g0 f0 ⟨⟨e0, fun _ => x0⟩, fun i T hi hl _ hT => t0 i T hi hl hT⟩
  · intro L vs w1 i o hh hi hin ho ⟨⟨hE, hX0⟩, hF⟩
    obtain ⟨T, hT, hop⟩ := bOps_at hops i o ho
    rw [Nat.zero_add] at hop
    obtain ⟨hun, o', ho', hall⟩ := mem_ready.1 hi
    have hoo : o' = o := by
      have : l.toArray[i]? = some o := by
        have := ho
        rw [List.getElem?_take, if_pos hin] at this
        simpa using this
      rw [this] at ho'
      exact (Option.some.inj ho').symm
    subst hoo
    have hlt : i < L.size := by rw [hh.size]; exact (Array.getElem?_eq_some_iff.1 ho').1
    have hdep : depFactsC cls kb i Ts vs w1 o'.after.toList := depFactsC_of _ fun e2 he hb hc T' hT' => by
      have he' : e2 ∈ o'.after := by simpa using he
      have hlt' := hok.back i o' hin ho' e2 he' hb
      refine hF e2.on T' (by omega) (hall e2 he' hb) (fun h1 => ?_) hT'
      rcases hc with hc | hc | rfl
      · exact absurd h1 hc
      · cases hk : L.getD kb false with
        | false => rfl
        | true =>
          have := clsB_one hC hh hk (n - i) i rfl hin hc
          rw [getD_both hun] at this; cases this
      · exact getD_both hun
    have hpre : clsOf cls i = 1 ∨ i = kb → Ext w w1 := fun hc => hX0 (by
      rcases hc with hc | rfl
      · cases hk : L.getD kb false with
        | false => rfl
        | true =>
          have := clsB_one hC hh hk (n - i) i rfl hin hc
          rw [getD_both hun] at this; cases this
      · exact getD_both hun)
    have hrun := hop vs w1 (hS w1 hE) hpre hdep
    -- behind it
    have nx : ∀ v w', (if i = kb then BigE N e w1 w' else Ext w1 w') → T v w' → (BigE N e w w' ∧ ((L.setIfInBounds i true).getD kb false = false → Ext w w')) ∧ ∀ j T', j < n → (L.setIfInBounds i true).getD j false = true → (clsOf cls j = 1 → (L.setIfInBounds i true).getD kb false = false) → Ts[j]? = some T' → T' (upd vs i v j) w' := by
      intro v w' hX hv
      have hbig : BigE N e w1 w' := by
        split at hX
        · exact hX
        · exact BigE.of_ext hX
      refine ⟨⟨hE.trans hbig, fun hk => ?_⟩, fun j T' hj hl hc hT' => ?_⟩
      · by_cases eb : i = kb
        · subst eb
          have hkL : (L.setIfInBounds i true).getD i false = true := by simp [hlt]
          rw [hkL] at hk; cases hk
        · rw [if_neg eb] at hX
          rw [getD_set_ne false eb] at hk
          exact (hX0 hk).trans hX
      by_cases ej : j = i
      · subst ej
        have : T' = T := Option.some.inj (hT'.symm.trans hT)
        subst this
        simpa [upd] using hv
      · rw [getD_set_ne false (Ne.symm ej)] at hl
        simp only [upd, ej, if_false]
        have hs := stables2_at hst j T' hT'
        rw [Nat.zero_add] at hs
        by_cases eb : i = kb
        · subst eb
          have hkL : (L.setIfInBounds i true).getD i false = true := by simp [hlt]
          by_cases h1 : clsOf cls j = 1
          · have := hc h1; rw [hkL] at this; cases this
          · by_cases h0 : clsOf cls j = 0
            · rw [h0] at hs
              exact hs _ _ _ (by simpa using hbig) (hF j T' hj hl (fun h => absurd h h1) hT')
            · by_cases h2 : clsOf cls j = 2
              · have := clsB_two hC hh j hj h2 hl
                rw [getD_both hun] at this; cases this
              · have hX' : BigE N e w1 w' := hbig
                exfalso
                exact absurd h2 (by
                  intro _
                  have := clsRange hC hj
                  omega)
        · rw [if_neg eb] at hX
          have hkeep : clsOf cls j = 1 → L.getD kb false = false := fun h1 => by
            have := hc h1
            rwa [getD_set_ne false eb] at this
          have hold := hF j T' hj hl hkeep hT'
          refine hs _ _ _ ?_ hold
          split
          · exact BigE.of_ext hX
          · exact hX
    by_cases hw : Region.wanted o' (yielded l.toArray (putAll vs (l.take n) 0 a).tmps) = true
    · rw [if_pos hw] at hrun ⊢
      refine comes_mono (fun v w' h => nx v w' h.1 h.2) hrun
    · rw [if_neg hw] at hrun ⊢
      exact nx undef w1 (by split <;> first | exact BigE.refl _ | exact Ext.refl _) hrun
  · intro L vs w1 hall ⟨⟨hE, _⟩, hF⟩
    refine hfin vs w1 hE (hS w1 hE) (factsC_of fun j T hT hc => ?_)
    rw [Nat.zero_add] at hc ⊢
    have hj : j < n := by rw [← hlen]; exact (List.getElem?_eq_some_iff.1 hT).1
    exact hF j T hj (hall j hj) (fun h => absurd h hc) hT
/-- ████ A region that draws its order, with one operation that writes in place. -/
theorem wp_region_big {id : Nat} {Q : Exit → Act → World → Prop} {a : Act} {w : World} {l : List Oper} (n kb N : Nat) (e : TypeId) (cls : List Nat) (S : World → Prop) (Ts : List (Value → World → Prop)) (hm : P.follows .mixedOrders = true)
    (hB : rgB l.toArray n = true) (hC : clsB l.toArray n kb cls = true) (hlen : Ts.length = n) (hS : ∀ w', BigE N e w w' → S w')
    (hops : bOps P l.toArray (l.take n) N e cls kb S Ts a w 0 (l.take n) Ts) (hst : stables2 N e cls 0 Ts)
    (hfin : ∀ vs w', BigE N e w w' → S w' → factsC cls vs w' 0 Ts → wpList P l.toArray Q (l.drop n) (putAll vs (l.take n) 0 a) w') : (Code.region id l.toArray true).wp P Q a w := by
  have hok := rgOk_of hB
  refine wp_region_any hm ?_
  have inv0 : HeadInv .any l.toArray n (Array.replicate l.toArray.size false) :=
    ⟨by simp, fun j oj _ hl => (by rw [getD_replicate_false] at hl; cases hl), fun t _ ht => getD_in (by simpa using ht) (getD_replicate_false _ _)⟩
  have e0 : BigE N e w { w with drawn := w.drawn + 1 } := BigE.of_ext ((Ext.refl w).drew)
  have := big_core (P := P) (Q := Q) (a := a) (w := w) n kb N e cls S Ts hok.ok0 (fun _ => True) (fun _ _ h => h) (fun L hL _ => no_tail hok L hL) hC hlen hS hops hst hfin (Array.replicate l.toArray.size false) (fun _ => undef) a { w with drawn := w.drawn + 1 } inv0 trivial
    (putL_none _ _ _ 0 a (fun j => getD_replicate_false _ _)).symm e0 (Ext.refl w).drew (fun i T _ hl _ => by rw [getD_replicate_false] at hl; cases hl)
  rw [left_all] at this
  rwa [show n + (l.toArray.size - n) = l.toArray.size by have := hok.le; omega] at this
/-- ████ The same, where operation x (it yields c whatever the world) may come behind operations of the tail. -/
theorem wp_region_bigx {id : Nat} {Q : Exit → Act → World → Prop} {a : Act} {w : World} {l : List Oper} (n kb N : Nat) (e : TypeId) (cls : List Nat) (S : World → Prop) (Ts : List (Value → World → Prop)) (x : Nat) (c : Value) (ox : Oper) (hm : P.follows .mixedOrders = true)
    (hB : rgXB l.toArray n x = true) (hC : clsB l.toArray n kb cls = true) (hlen : Ts.length = n) (hox : l.toArray[x]? = some ox) (hTx : Ts[x]? = some (is c)) (hQ : ∀ p a w, Q (.panic p) (a.put ox.dst c) w → Q (.panic p) a w) (hy : Yields P l.toArray ox c a) (hS : ∀ w', BigE N e w w' → S w')
    (hops : bOps P l.toArray (l.take n) N e cls kb S Ts a w 0 (l.take n) Ts) (hst : stables2 N e cls 0 Ts)
    (hfin : ∀ vs w', BigE N e w w' → S w' → factsC cls vs w' 0 Ts → wpList P l.toArray Q (l.drop n) (putAll vs (l.take n) 0 a) w') : (Code.region id l.toArray true).wp P Q a w := by
  have hok := rgOkX_of hB
  refine wp_region_any hm ?_
  have inv0 : HeadInv .any l.toArray n (Array.replicate l.toArray.size false) :=
    ⟨by simp, fun j oj _ hl => (by rw [getD_replicate_false] at hl; cases hl), fun t _ ht => getD_in (by simpa using ht) (getD_replicate_false _ _)⟩
  have e0 : BigE N e w { w with drawn := w.drawn + 1 } := BigE.of_ext ((Ext.refl w).drew)
  have hxs : x < (Array.replicate l.toArray.size false).size := by have := hok.lt; have := hok.more; simp at *; omega
  have hrdy := hok.ready
  have hx0 : (Array.replicate l.toArray.size false).getD x false = false := getD_replicate_false _ _
  have hL : left n ((Array.replicate l.toArray.size false).setIfInBounds x true) + 1 = n := by rw [left_set hok.lt hxs hx0, left_all]
  have hat : (l.take n)[x]? = some ox := by
    have := hox
    simp only [List.getElem?_toArray] at this
    rw [List.getElem?_take, if_pos hok.lt]; exact this
  have hsz : l.toArray.size = (left n ((Array.replicate l.toArray.size false).setIfInBounds x true) + (l.toArray.size - n)) + 1 := by have := hok.le; omega
  have hput : a.put ox.dst c = putL (upd (fun _ => undef) x c) ((Array.replicate l.toArray.size false).setIfInBounds x true) (l.take n) 0 a := by
    rw [← putL_set (fun _ => undef) (Array.replicate l.toArray.size false) c x hxs hx0 (l.take n) 0 a ox (Nat.zero_le _) (by rw [Nat.sub_zero]; exact hat) (fun u y ou oy huy hu hyy t ht => by
      have hyn : y < n := by have := (List.getElem?_eq_some_iff.1 hyy).1; simp at this; omega
      exact hok.once y u oy ou t hyn (by omega) (by omega) (by simpa [hyn] using hyy) (by simpa [show u < n by omega] using hu) ht), putL_none _ _ _ 0 a (fun j => getD_replicate_false _ _)]
  have main := big_core (P := P) (Q := Q) (a := a) (w := w) n kb N e cls S Ts hok.toRgOk0 (fun L => L.getD x false = true) (fun L i h => getD_set_true h) (fun L hL hg hex t ht => by
      obtain ⟨i, hi, hun⟩ := hex
      exact tail_waitsX hok.sink hok.chain hok.more hL (fun j hj => by subst hj; exact hg) _ i rfl hi (fun h => by subst h; rw [hg] at hun; cases hun) (getD_in (by rw [hL.size]; have := hok.more; omega) hun) t ht)
    hC hlen hS hops hst hfin ((Array.replicate l.toArray.size false).setIfInBounds x true) (upd (fun _ => undef) x c) (a.put ox.dst c) { w with drawn := w.drawn + 1 } (inv0.set (by simpa using hrdy) hok.lt) (by simp at hxs ⊢; omega) hput e0 (Ext.refl w).drew
    (fun i T hi hl hT => by
      by_cases ei : i = x
      · subst ei
        have : T = is c := Option.some.inj (hT.symm.trans hTx)
        subst this
        simp [upd, is]
      · rw [getD_set_ne false (Ne.symm ei), getD_replicate_false] at hl; cases hl)
  have hp := wpAny_take (P := P) (md := .any) (Q := Q) (fuel := left n ((Array.replicate l.toArray.size false).setIfInBounds x true) + (l.toArray.size - n)) (listed := Array.replicate l.toArray.size false) hox hok.nosel hok.free hrdy hQ hy main
  rw [← hsz] at hp
  exact hp
/-- ████ The same, where operation x floats: it yields the same in every world, and may come behind operations of the tail. -/
theorem wp_region_bigy {id : Nat} {Q : Exit → Act → World → Prop} {a : Act} {w : World} {l : List Oper} (n kb N : Nat) (e : TypeId) (cls : List Nat) (S : World → Prop) (Ts : List (Value → World → Prop)) (x : Nat) (ox : Oper) (hm : P.follows .mixedOrders = true)
    (hB : rgYB l.toArray n x = true) (hC : clsB l.toArray n kb cls = true) (hlen : Ts.length = n) (hox : (l.take n)[x]? = some ox) (hxk : x ≠ kb) (hQ : ∀ p (a : Act) w v, Q (.panic p) (a.put ox.dst v) w → Q (.panic p) a w) (hS : ∀ w', BigE N e w w' → S w')
    (hyo : ∀ (vs : Nat → Value) (w' : World), S w' → depFactsC cls kb x Ts vs w' ox.after.toList → ∃ v, Region.wanted ox (yielded l.toArray (putAll vs (l.take n) 0 a).tmps) = true ∧ (∀ w2, (execOp (putAll vs (l.take n) 0 a).eval ox).run P w2 = .ok (.value v) w2) ∧ ∀ T, Ts[x]? = some T → T v w')
    (hops : bOps P l.toArray (l.take n) N e cls kb S Ts a w 0 (l.take n) Ts) (hst : stables2 N e cls 0 Ts)
    (hfin : ∀ vs w', BigE N e w w' → S w' → factsC cls vs w' 0 Ts → wpList P l.toArray Q (l.drop n) (putAll vs (l.take n) 0 a) w') : (Code.region id l.toArray true).wp P Q a w := by
  have hok := rgOkY_of hB
  have hkn : kb < n := by simp only [clsB, Bool.and_eq_true, decide_eq_true_eq] at hC; exact hC.1.1
  have hk2 : clsOf cls kb = 2 := by simp only [clsB, Bool.and_eq_true, beq_iff_eq] at hC; exact hC.1.2
  refine wp_region_any hm ?_
  have inv0 : HeadInv .any l.toArray n (Array.replicate l.toArray.size false) :=
    ⟨by simp, fun j oj _ hl => (by rw [getD_replicate_false] at hl; cases hl), fun t _ ht => getD_in (by simpa using ht) (getD_replicate_false _ _)⟩
  have e0 : BigE N e w { w with drawn := w.drawn + 1 } := BigE.of_ext ((Ext.refl w).drew)
  have := rg_genx (P := P) (Q := Q) (a := a) (fun L vs w' => (BigE N e w w' ∧ (L.getD kb false = false → Ext w w')) ∧ ∀ i T, i < n → L.getD i false = true → (clsOf cls i = 1 → L.getD kb false = false) → Ts[i]? = some T → T (vs i) w') hok ox hox hQ ?_ ?_ ?_ n (Array.replicate l.toArray.size false) (fun _ => undef) a { w with drawn := w.drawn + 1 } (left_all _ _)
    inv0 (putL_none _ _ _ 0 a (fun j => getD_replicate_false _ _)).symm ⟨⟨e0, fun _ => (Ext.refl w).drew⟩, fun i T _ hl _ => by rw [getD_replicate_false] at hl; cases hl⟩
  · rwa [show n + (l.toArray.size - n) = l.toArray.size by have := hok.le; omega] at this
  · intro L vs w1 hh hi ⟨⟨hE, hX0⟩, hF⟩
    obtain ⟨hun, o', ho', hall⟩ := mem_ready.1 hi
    have hoo : o' = ox := by
      have : l.toArray[x]? = some ox := by
        have := hox
        rw [List.getElem?_take, if_pos hok.lt] at this
        simpa using this
      rw [this] at ho'
      exact (Option.some.inj ho').symm
    subst hoo
    have hdep : depFactsC cls kb x Ts vs w1 o'.after.toList := depFactsC_of _ fun e2 he hb hc T' hT' => by
      have he' : e2 ∈ o'.after := by simpa using he
      have hlt' := hok.back x o' hok.lt ho' e2 he' hb
      have hxl := hok.lt
      refine hF e2.on T' (by omega) (hall e2 he' hb) (fun h1 => ?_) hT'
      rcases hc with hc | hc | rfl
      · exact absurd h1 hc
      · cases hk : L.getD kb false with
        | false => rfl
        | true =>
          have := clsB_one hC hh hk (n - x) x rfl hok.lt hc
          rw [getD_both hun] at this; cases this
      · exact absurd rfl hxk
    obtain ⟨v, hw, hrun, hT⟩ := hyo vs w1 (hS w1 hE) hdep
    refine ⟨v, hw, hrun, ⟨hE, fun hk => hX0 (by rwa [getD_set_ne false hxk] at hk)⟩, fun j T' hj hl hc hT' => ?_⟩
    by_cases ej : j = x
    · subst ej
      simpa [upd] using hT T' hT'
    · rw [getD_set_ne false (Ne.symm ej)] at hl
      simp only [upd, ej, if_false]
      exact hF j T' hj hl (fun h1 => by have := hc h1; rwa [getD_set_ne false hxk] at this) hT'
  · intro L vs w1 i o hh hi hin ho ⟨⟨hE, hX0⟩, hF⟩
    obtain ⟨T, hT, hop⟩ := bOps_at hops i o ho
    rw [Nat.zero_add] at hop
    obtain ⟨hun, o', ho', hall⟩ := mem_ready.1 hi
    have hoo : o' = o := by
      have : l.toArray[i]? = some o := by
        have := ho
        rw [List.getElem?_take, if_pos hin] at this
        simpa using this
      rw [this] at ho'
      exact (Option.some.inj ho').symm
    subst hoo
    have hlt : i < L.size := by rw [hh.size]; exact (Array.getElem?_eq_some_iff.1 ho').1
    have hdep : depFactsC cls kb i Ts vs w1 o'.after.toList := depFactsC_of _ fun e2 he hb hc T' hT' => by
      have he' : e2 ∈ o'.after := by simpa using he
      have hlt' := hok.back i o' hin ho' e2 he' hb
      refine hF e2.on T' (by omega) (hall e2 he' hb) (fun h1 => ?_) hT'
      rcases hc with hc | hc | rfl
      · exact absurd h1 hc
      · cases hk : L.getD kb false with
        | false => rfl
        | true =>
          have := clsB_one hC hh hk (n - i) i rfl hin hc
          rw [getD_both hun] at this; cases this
      · exact getD_both hun
    have hpre : clsOf cls i = 1 ∨ i = kb → Ext w w1 := fun hc => hX0 (by
      rcases hc with hc | rfl
      · cases hk : L.getD kb false with
        | false => rfl
        | true =>
          have := clsB_one hC hh hk (n - i) i rfl hin hc
          rw [getD_both hun] at this; cases this
      · exact getD_both hun)
    have hrun := hop vs w1 (hS w1 hE) hpre hdep
    -- behind it
    have nx : ∀ v w', (if i = kb then BigE N e w1 w' else Ext w1 w') → T v w' → (BigE N e w w' ∧ ((L.setIfInBounds i true).getD kb false = false → Ext w w')) ∧ ∀ j T', j < n → (L.setIfInBounds i true).getD j false = true → (clsOf cls j = 1 → (L.setIfInBounds i true).getD kb false = false) → Ts[j]? = some T' → T' (upd vs i v j) w' := by
      intro v w' hX hv
      have hbig : BigE N e w1 w' := by
        split at hX
        · exact hX
        · exact BigE.of_ext hX
      refine ⟨⟨hE.trans hbig, fun hk => ?_⟩, fun j T' hj hl hc hT' => ?_⟩
      · by_cases eb : i = kb
        · subst eb
          have hkL : (L.setIfInBounds i true).getD i false = true := by simp [hlt]
          rw [hkL] at hk; cases hk
        · rw [if_neg eb] at hX
          rw [getD_set_ne false eb] at hk
          exact (hX0 hk).trans hX
      by_cases ej : j = i
      · subst ej
        have : T' = T := Option.some.inj (hT'.symm.trans hT)
        subst this
        simpa [upd] using hv
      · rw [getD_set_ne false (Ne.symm ej)] at hl
        simp only [upd, ej, if_false]
        have hs := stables2_at hst j T' hT'
        rw [Nat.zero_add] at hs
        by_cases eb : i = kb
        · subst eb
          have hkL : (L.setIfInBounds i true).getD i false = true := by simp [hlt]
          by_cases h1 : clsOf cls j = 1
          · have := hc h1; rw [hkL] at this; cases this
          · by_cases h0 : clsOf cls j = 0
            · rw [h0] at hs
              exact hs _ _ _ (by simpa using hbig) (hF j T' hj hl (fun h => absurd h h1) hT')
            · by_cases h2 : clsOf cls j = 2
              · have := clsB_two hC hh j hj h2 hl
                rw [getD_both hun] at this; cases this
              · have hX' : BigE N e w1 w' := hbig
                exfalso
                exact absurd h2 (by
                  intro _
                  have := clsRange hC hj
                  omega)
        · rw [if_neg eb] at hX
          have hkeep : clsOf cls j = 1 → L.getD kb false = false := fun h1 => by
            have := hc h1
            rwa [getD_set_ne false eb] at this
          have hold := hF j T' hj hl hkeep hT'
          refine hs _ _ _ ?_ hold
          split
          · exact BigE.of_ext hX
          · exact hX
    by_cases hw : Region.wanted o' (yielded l.toArray (putAll vs (l.take n) 0 a).tmps) = true
    · rw [if_pos hw] at hrun ⊢
      refine comes_mono (fun v w' h => nx v w' h.1 h.2) hrun
    · rw [if_neg hw] at hrun ⊢
      exact nx undef w1 (by split <;> first | exact BigE.refl _ | exact Ext.refl _) hrun
  · intro L vs w1 hall ⟨⟨hE, _⟩, hF⟩
    refine hfin vs w1 hE (hS w1 hE) (factsC_of fun j T hT hc => ?_)
    rw [Nat.zero_add] at hc ⊢
    have hj : j < n := by rw [← hlen]; exact (List.getElem?_eq_some_iff.1 hT).1
    exact hF j T hj (hall j hj) (fun h => absurd h hc) hT
end
end Go.Rg
