/- A region that draws its order and makes several new blocks: they are apart. -/
import Derived.Test.YtbdahlfakinagaaDoorRg
set_option linter.unusedVariables false
namespace Go.Rg
open Go.RowKit
section
variable {P : Program} {ops : Array Oper}
/-- v points to a block that is not yet there in w. -/
def New (v : Value) (w : World) : Prop := ∃ b, v = .pointer (some ⟨b, 0, none⟩) ∧ w.heap.size ≤ b
/-- v points to a block that is there. -/
def Old (v : Value) (w : World) : Prop := ∃ b, v = .pointer (some ⟨b, 0, none⟩) ∧ b < w.heap.size

/-- The state between two operations. -/
structure RgInvD (ops : Array Oper) (n : Nat) (hl : List Oper) (E : World → World → Prop) (Ts : List (Value → World → Prop)) (a : Act) (w0 : World) (D : Nat → Bool) (L : Array Bool) (vs : Nat → Value) (a' : Act) (w : World) : Prop where
  head : HeadInv .any ops n L
  go : E w0 w
  frame : a' = putL vs L hl 0 a
  fact : ∀ i T, i < n → L.getD i false = true → Ts[i]? = some T → T (vs i) w
  apart : ∀ i j, i < n → j < n → i ≠ j → D i = true → D j = true → L.getD i false = true → L.getD j false = true → vs i ≠ vs j

theorem rgd_main {Q : Exit → Act → World → Prop} {a : Act} {w0 : World} {l : List Oper} {n : Nat} {E : World → World → Prop} {Ts : List (Value → World → Prop)} {D : Nat → Bool}
    (hok : RgOk l.toArray n) (hrefl : ∀ w, E w w) (htrans : ∀ a b c, E a b → E b c → E a c) (hst : ∀ T ∈ Ts, ∀ v w w', E w w' → T v w → T v w') (hlen : Ts.length = n)
    (hops : rgOps P l.toArray (l.take n) E Ts a w0 (l.take n) Ts)
    (hD : ∀ i o, D i = true → (l.take n)[i]? = some o → o.guard = none ∧ ∀ (vs : Nat → Value) (w : World), E w0 w → depFacts Ts vs w o.after.toList → comes P o (putAll vs (l.take n) 0 a) w (fun v w' => E w w' ∧ (∀ T, Ts[i]? = some T → T v w') ∧ New v w))
    (hDT : ∀ i T, D i = true → Ts[i]? = some T → ∀ v w, T v w → Old v w)
    (hfin : ∀ vs w', E w0 w' → facts vs w' 0 Ts → (∀ i j, i < n → j < n → i ≠ j → D i = true → D j = true → vs i ≠ vs j) → wpList P l.toArray Q (l.drop n) (putAll vs (l.take n) 0 a) w') :
    ∀ (f : Nat) (L : Array Bool) (vs : Nat → Value) (a' : Act) (w : World), left n L = f → RgInvD l.toArray n (l.take n) E Ts a w0 D L vs a' w →
      wpAny P .any l.toArray Q (f + (l.toArray.size - n)) L a' w := by
  have hnl : n ≤ l.length := by simpa using hok.le
  have htk : (l.take n).length = n := by simp; omega
  have hdl : (l.drop n).length = l.toArray.size - n := by simp
  have hat : ∀ i o, i < n → l.toArray[i]? = some o → (l.take n)[i]? = some o := fun i o hi ho => by simpa [hi] using ho
  intro f
  induction f with
  | zero =>
    intro L vs a' w hf inv
    have hall := left_zero hf
    have hL : L = Array.replicate n true ++ Array.replicate (l.toArray.size - n) false := by
      refine Array.ext ?_ ?_
      · simp [inv.head.size]; omega
      · intro i h1 h2
        by_cases hi : i < n
        · have := hall i hi
          simp only [Array.getD_eq_getD_getElem?, Array.getElem?_eq_getElem h1, Option.getD_some] at this
          simp [hi, this]
        · have h3 := inv.head.tail i (by omega) (by rw [← inv.head.size]; exact h1)
          simp only [Array.getD_eq_getD_getElem?, Array.getElem?_eq_getElem h1, Option.getD_some] at h3
          rw [h3, Array.getElem_append_right (by simp; omega)]
          simp
    have hq := hfin vs w inv.go (facts_of fun j T hT => by
      have hj : j < n := by rw [← hlen]; exact (List.getElem?_eq_some_iff.1 hT).1
      rw [Nat.zero_add]
      exact inv.fact j T hj (hall j hj) hT) (fun i j hi hj hij di dj => inv.apart i j hi hj hij di dj (hall i hi) (hall j hj))
    have := wpAny_of_seq (P := P) (ops := l.toArray) (md := .any) (Q' := Q) (l.drop n) n L a' w (fun j => by simp [List.getElem?_drop]) (by rw [hdl, hL]; exact hok.seq)
      (by rw [inv.frame, putL_all vs L _ 0 a (fun j _ hj => hall j (by rw [htk] at hj; omega))]; exact hq)
    rw [Nat.zero_add]
    rwa [hdl] at this
  | succ f ih =>
    intro L vs a' w hf inv
    rw [show f + 1 + (l.toArray.size - n) = (f + (l.toArray.size - n)) + 1 by omega]
    -- one of the head is not listed
    have hex : ∃ i, i < n ∧ L.getD i false = false := by
      rcases Classical.em (∃ i, i < n ∧ L.getD i false = false) with h | h
      · exact h
      · exfalso
        have : left n L = 0 := by
          unfold left
          rw [List.filter_eq_nil_iff.2 (fun i hi => by
            have hi' := List.mem_range.1 hi
            cases hc : L.getD i false with
            | true => simp
            | false => exact absurd ⟨i, hi', hc⟩ h)]
          rfl
        omega
    have hnotail : ∀ t, n ≤ t → t ∉ Region.ready .any l.toArray L := by
      intro t ht
      rcases hok.tail with h | ⟨hs, hc⟩
      · intro hr
        obtain ⟨_, o, ho, _⟩ := mem_ready.1 hr
        have := (Array.getElem?_eq_some_iff.1 ho).1
        omega
      · rcases Nat.lt_or_ge n l.toArray.size with hn | hn
        · obtain ⟨i, hi, hun⟩ := hex
          exact tail_waits hs hc hn inv.head _ i rfl hi (getD_in (by rw [inv.head.size]; omega) hun) t ht
        · intro hr
          obtain ⟨_, o, ho, _⟩ := mem_ready.1 hr
          have := (Array.getElem?_eq_some_iff.1 ho).1
          omega
    refine ⟨fun h0 => ?_, fun i hi => ?_⟩
    · exfalso
      -- the least that is not listed is ready
      have : ∀ k, ∀ i, i ≤ k → i < n → L.getD i false = false → False := by
        intro k
        induction k with
        | zero =>
          intro i hik hi hun
          have hi0 : i = 0 := by omega
          subst hi0
          have hlt : 0 < l.toArray.size := by have := hok.le; omega
          have : (0 : Nat) ∈ Region.ready .any l.toArray L := mem_ready.2 ⟨getD_in (by rw [inv.head.size]; exact hlt) hun, l.toArray[0], Array.getElem?_eq_getElem hlt, fun e he hb => by
            have := hok.back 0 _ hi (Array.getElem?_eq_getElem hlt) e he hb
            omega⟩
          rw [h0] at this
          cases this
        | succ k ihk =>
          intro i hik hi hun
          have hlt : i < l.toArray.size := by have := hok.le; omega
          have : i ∈ Region.ready .any l.toArray L := mem_ready.2 ⟨getD_in (by rw [inv.head.size]; exact hlt) hun, l.toArray[i], Array.getElem?_eq_getElem hlt, fun e he hb => by
            have h1 := hok.back i _ hi (Array.getElem?_eq_getElem hlt) e he hb
            cases hc : L.getD e.on false with
            | true => rfl
            | false => exact (ihk e.on (by omega) (by omega) hc).elim⟩
          rw [h0] at this
          cases this
      obtain ⟨i, hi, hun⟩ := hex
      exact this i i (Nat.le_refl _) hi hun
    · have hin : i < n := by
        rcases Nat.lt_or_ge i n with h | h
        · exact h
        · exact absurd hi (hnotail i h)
      obtain ⟨hun, o, ho, hall⟩ := mem_ready.1 hi
      have hlt : i < L.size := by rw [inv.head.size]; exact (Array.getElem?_eq_some_iff.1 ho).1
      obtain ⟨T, hT, hop⟩ := rgOps_at hops i o (hat i o hin ho)
      have hread : ∀ t, t ∈ o.looksAt l.toArray → a'.tmps[t]? = (putAll vs (l.take n) 0 a).tmps[t]? := by
        intro t ht
        rw [inv.frame]
        refine putL_read vs L t _ 0 a a rfl rfl (fun j oj hoj hd => ?_)
        rw [Nat.zero_add]
        have hjn : j < n := by have := (List.getElem?_eq_some_iff.1 hoj).1; omega
        have hoj' : l.toArray[j]? = some oj := by simpa [hjn] using hoj
        obtain ⟨e, he, hb, hon⟩ := hok.deps i j o oj t hin hjn ho hoj' hd ht
        have := hall e he hb
        rwa [hon] at this
      have hexec : execOp a'.eval o = execOp (putAll vs (l.take n) 0 a).eval o := execOp_congr o (noSelect_at hok.nosel ho) fun x hx => by
        cases x with
        | tmp t =>
          have := hread t (List.mem_append_left _ (List.mem_filterMap.2 ⟨.tmp t, by simpa using hx, rfl⟩))
          simp only [Act.eval, Array.getD_eq_getD_getElem?, this]
        | _ => rfl
      have hwant : Region.wanted o (yielded l.toArray a'.tmps) = Region.wanted o (yielded l.toArray (putAll vs (l.take n) 0 a).tmps) := by
        unfold Region.wanted
        cases hg : o.guard with
        | none => rfl
        | some gw =>
          obtain ⟨g, want⟩ := gw
          have : yielded l.toArray a'.tmps g = yielded l.toArray (putAll vs (l.take n) 0 a).tmps g := by
            unfold yielded
            cases ht : (l.toArray[g]?).bind (·.dst) with
            | none => rfl
            | some t =>
              have := hread t (List.mem_append_right _ (by simp only [hg, ht, Option.toList, List.mem_singleton]))
              simp only [Option.bind_some, this]
          simp only [this]
      have hfacts : depFacts Ts vs w o.after.toList := depFacts_of _ fun e he hb T' hT' => by
        have he' : e ∈ o.after := by simpa using he
        have hlt' := hok.back i o hin ho e he' hb
        exact inv.fact e.on T' (by omega) (hall e he' hb) hT'
      have hrun := hop vs w inv.go hfacts
      have hTmem : T ∈ Ts := List.mem_of_getElem? hT
      -- behind the operation
      have next : ∀ v w', E w w' → T v w' → (D i = true → New v w) → wpAny P .any l.toArray Q (f + (l.toArray.size - n)) (L.setIfInBounds i true) (a'.put o.dst v) w' := by
        intro v w' hE hv hnew
        refine ih (L.setIfInBounds i true) (upd vs i v) _ w' (by have := left_set hin hlt (getD_both hun); omega) ⟨inv.head.set hi hin, htrans _ _ _ inv.go hE, ?_, fun j T' hj hl hT' => ?_, fun p q hp hq hpq dp dq lp lq => ?_⟩
        · rw [inv.frame]
          exact putL_set vs L v i hlt (getD_both hun) _ 0 a o (Nat.zero_le _) (by rw [Nat.sub_zero]; exact hat i o hin ho) (fun x y ox oy hxy hx hy t ht => by
            have hyn : y < n := by have := (List.getElem?_eq_some_iff.1 hy).1; omega
            exact hok.once y x oy ox t hyn (by omega) (by omega) (by simpa [hyn] using hy) (by simpa [show x < n by omega] using hx) ht)
        · by_cases e : j = i
          · subst e
            have : T' = T := Option.some.inj (hT'.symm.trans hT)
            subst this
            simpa [upd] using hv
          · rw [getD_set_ne false (Ne.symm e)] at hl
            simp only [upd, e, if_false]
            exact hst T' (List.mem_of_getElem? hT') _ _ _ hE (inv.fact j T' hj hl hT')
        · have old : D i = true → ∀ j, j < n → j ≠ i → D j = true → (L.setIfInBounds i true).getD j false = true → vs j ≠ v := fun di j hj hji dj lj e => by
            rw [getD_set_ne false (Ne.symm hji)] at lj
            obtain ⟨Tj, hTj⟩ : ∃ T, Ts[j]? = some T := ⟨_, List.getElem?_eq_getElem (by omega)⟩
            obtain ⟨b, hb, hlt⟩ := hDT j Tj dj hTj _ _ (inv.fact j Tj hj lj hTj)
            obtain ⟨b', hb', hge⟩ := hnew di
            rw [hb, hb'] at e
            simp only [Value.pointer.injEq, Option.some.injEq, Addr.mk.injEq] at e
            omega
          by_cases e1 : p = i
          · have e2 : q ≠ i := fun h => hpq (e1.trans h.symm)
            rw [upd, upd, if_pos e1, if_neg e2]
            exact (old (e1 ▸ dp) q hq e2 dq lq).symm
          · by_cases e2 : q = i
            · rw [upd, upd, if_neg e1, if_pos e2]
              exact old (e2 ▸ dq) p hp e1 dp lp
            · rw [upd, upd, if_neg e1, if_neg e2]
              rw [getD_set_ne false (Ne.symm e1)] at lp
              rw [getD_set_ne false (Ne.symm e2)] at lq
              exact inv.apart p q hp hq hpq dp dq lp lq
      unfold wpOp
      simp only [ho]
      rw [hwant]
      by_cases di : D i = true
      · obtain ⟨hg, hc⟩ := hD i o di (hat i o hin ho)
        have hw : Region.wanted o (yielded l.toArray (putAll vs (l.take n) 0 a).tmps) = true := by
          unfold Region.wanted
          rw [hg]
        have hrun2 := hc vs w inv.go hfacts
        rw [if_pos hw]
        refine .inl (wp_of_comes (R := fun v w' => E w w' ∧ (∀ T, Ts[i]? = some T → T v w') ∧ New v w) (fun v w' h => next v w' h.1 (h.2.1 T hT) fun _ => h.2.2) ?_)
        unfold comes
        rw [hexec]
        exact hrun2
      by_cases hw : Region.wanted o (yielded l.toArray (putAll vs (l.take n) 0 a).tmps) = true
      · rw [if_pos hw] at hrun ⊢
        refine .inl (wp_of_comes (R := fun v w' => E w w' ∧ T v w') (fun v w' h => next v w' h.1 h.2 fun h => absurd h di) ?_)
        unfold comes
        rw [hexec]
        exact hrun
      · rw [if_neg hw] at hrun ⊢
        exact next undef w (hrefl w) hrun fun h => absurd h di

/-- ████ A region that draws its order: n operations at its head in whatever order, the others behind them. -/
theorem wp_region_rgd {id : Nat} {Q : Exit → Act → World → Prop} {a : Act} {w : World} {l : List Oper} (n : Nat) (E : World → World → Prop) (Ts : List (Value → World → Prop)) (hm : P.follows .mixedOrders = true)
    (hB : rgB l.toArray n = true) (hrefl : ∀ w, E w w) (htrans : ∀ a b c, E a b → E b c → E a c) (hst : ∀ T ∈ Ts, ∀ v w w', E w w' → T v w → T v w') (hlen : Ts.length = n)
    (hops : rgOps P l.toArray (l.take n) E Ts a { w with drawn := w.drawn + 1 } (l.take n) Ts)
    (D : Nat → Bool) (hD : ∀ i o, D i = true → (l.take n)[i]? = some o → o.guard = none ∧ ∀ (vs : Nat → Value) (w1 : World), E { w with drawn := w.drawn + 1 } w1 → depFacts Ts vs w1 o.after.toList → comes P o (putAll vs (l.take n) 0 a) w1 (fun v w' => E w1 w' ∧ (∀ T, Ts[i]? = some T → T v w') ∧ New v w1))
    (hDT : ∀ i T, D i = true → Ts[i]? = some T → ∀ v w, T v w → Old v w)
    (hfin : ∀ vs w', E { w with drawn := w.drawn + 1 } w' → facts vs w' 0 Ts → (∀ i j, i < n → j < n → i ≠ j → D i = true → D j = true → vs i ≠ vs j) → wpList P l.toArray Q (l.drop n) (putAll vs (l.take n) 0 a) w') : (Code.region id l.toArray true).wp P Q a w := by
  have hok := rgOk_of hB
  refine wp_region_any hm ?_
  have inv0 : HeadInv .any l.toArray n (Array.replicate l.toArray.size false) :=
    ⟨by simp, fun j oj _ hl => (by rw [getD_replicate_false] at hl; cases hl), fun t _ ht => getD_in (by simpa using ht) (getD_replicate_false _ _)⟩
  have := rgd_main (Q := Q) hok hrefl htrans hst hlen hops hD hDT hfin n (Array.replicate l.toArray.size false) (fun _ => undef) a { w with drawn := w.drawn + 1 } (left_all _ _)
    ⟨inv0, hrefl _, (putL_none _ _ _ 0 a (fun j => getD_replicate_false _ _)).symm, fun i T _ hl _ => (by rw [getD_replicate_false] at hl; cases hl), fun i j _ _ _ _ _ hl _ => (by rw [getD_replicate_false] at hl; cases hl)⟩
  rwa [show n + (l.toArray.size - n) = l.toArray.size by have := hok.le; omega] at this


/-- The same: the world goes on by new blocks alone. -/
theorem wp_region_extd {id : Nat} {Q : Exit → Act → World → Prop} {a : Act} {w : World} {l : List Oper} (n : Nat) (Ts : List (Value → World → Prop)) (D : Nat → Bool) (hm : P.follows .mixedOrders = true)
    (hB : rgB l.toArray n = true) (hlen : Ts.length = n)
    (hops : xOps P l.toArray (l.take n) Ts a w (l.take n) Ts) (hst : stables Ts)
    (hD : ∀ i o, D i = true → (l.take n)[i]? = some o → o.guard = none ∧ ∀ (vs : Nat → Value) (x : Array Obj × Nat), comes P o (putAll vs (l.take n) 0 a) (w.plus x) (fun v w' => Ext (w.plus x) w' ∧ (∀ T, Ts[i]? = some T → T v w') ∧ New v (w.plus x)))
    (hDT : ∀ i T, D i = true → Ts[i]? = some T → ∀ v w, T v w → Old v w)
    (hfin : ∀ vs x, facts vs (w.plus x) 0 Ts → (∀ i j, i < n → j < n → i ≠ j → D i = true → D j = true → vs i ≠ vs j) → wpList P l.toArray Q (l.drop n) (putAll vs (l.take n) 0 a) (w.plus x)) : (Code.region id l.toArray true).wp P Q a w :=
  wp_region_rgd n Ext Ts hm hB Ext.refl (fun _ _ _ => Ext.trans) (stables_mem hst) hlen (rgOps_of_x hops) D (fun i o di ho => ⟨(hD i o di ho).1, fun vs w1 hE _ => by
    obtain ⟨x, hx⟩ := hE.plus
    have hx' : w1 = w.plus x := hx
    subst hx'
    exact (hD i o di ho).2 vs x⟩) hDT fun vs w1 hE hf hap => by
    obtain ⟨x, hx⟩ := hE.plus
    have hx' : w1 = w.plus x := hx
    subst hx'
    exact hfin vs x hf hap
theorem isBox.old {N : Nat} {cs : List Value} {v : Value} {w : World} (h : isBox N cs v w) : Old v w := by
  obtain ⟨b, e, hb⟩ := h
  exact ⟨b, e, hb.lt⟩
end
end Go.Rg
