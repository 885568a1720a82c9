/- Queues: Take. -/
import Derived.Test.YtphbmibgnnobcaaQueue7
set_option linter.unusedVariables false
namespace Go.Proofs.Ytphbmibgnnobcaa
open Go.RowKit Go.Rg

theorem Row.drop {w : World} {B n : Nat} {b o : Nat} {xs : List Value} (h : Row w B 1 (some ⟨b, o, none⟩) n xs) (q m : Nat) (hm : q + m = n) : Row w B 1 (some ⟨b, o + q, none⟩) m (xs.drop q) := by
  have hl := h.len
  refine ⟨by simp; omega, fun hn => ?_⟩
  obtain ⟨b', o', e, hb, hc⟩ := h.2 (by omega)
  injection e with e
  injection e with e1 e2
  subst e1 e2
  refine ⟨b, o + q, rfl, hb, fun j u hu => ?_⟩
  rw [List.getElem?_drop] at hu
  have := hc (q + j) u hu
  rwa [Nat.add_assoc]
theorem QS.drop {w : World} {base g n c q : Nat} {k : Int} {l : List Int} (h : w.ownsRow base 5 1 (.slice (some ⟨g, 0, none⟩) n c) n (bytes l)) (hq : q ≤ n) (hc : n ≤ c) (hm : c ≤ 9223372036854775807) :
    QS w (.agg #[.int .i64 k, .slice (some ⟨g, q, none⟩) (n - q) (c - q)]) k (l.drop q) := by
  have hr := (own_row h).drop q (n - q) (by omega)
  rw [Nat.zero_add, show (bytes l).drop q = bytes (l.drop q) by simp] at hr
  exact ⟨_, _, _, rfl, hr, by omega, by omega, fun h => by cases h⟩
/-- What Take leaves. -/
def TakePost (w : World) (k : Int) (l : List Int) (q : Nat) (e : Ending) (w' : World) : Prop :=
  ∃ v1 v2, e = .returned (.tuple #[v1, v2]) ∧ BS w' v1 (l.take q) ∧ QS w' v2 k (l.drop q) ∧ Ext w w'

def TakePostF (w : World) (k : Int) (l : List Int) (q : Nat) (e : Ending) (w' : World) : Prop :=
  ∃ v1 v2, e = .returned (.tuple #[v1, v2]) ∧ BS w' v1 (l.take q) ∧ QS w' v2 k (l.drop q) ∧ Ext w w' ∧ FQ w.heap.size v2
theorem FQ.of_own' {w : World} {base N n c q d z : Nat} {e : TypeId} {g : Nat} {xs : List Value} {k : Int} (h : w.ownsRow base e 1 (.slice (some ⟨g, 0, none⟩) n c) n xs) (hN : N ≤ base) : FQ N (.agg #[.int .i64 k, .slice (some ⟨g, q, none⟩) d z]) := by
  intro k' A' n' c' e a ha
  have e1 : some ⟨g, q, none⟩ = A' := by injection e with e; simp at e; exact e.2.1
  subst e1
  injection ha with ha
  subst ha
  exact Nat.le_trans hN (own_base h ⟨g, 0, none⟩ rfl)

set_option maxHeartbeats 2000000 in
theorem take_fresh (k : Int) (A : Option Addr) (n c : Nat) (l : List Int) (m : Int) (w : World) (hr : Row w w.heap.size 1 A n (bytes l)) (hA : A = none → n = 0 ∧ c = 0) (hn : n ≤ 140737488355328) :
    Calls Try.prog 42 #[qu k A n c, .int .i64 m] w (TakePostF w k l (qfirst k n m).toNat) := by
  obtain ⟨q, hq⟩ := Int.eq_ofNat_of_zero_le (qfirst_bd k n m).1
  have hqn : q ≤ n := by have := (qfirst_bd k n m).2; omega
  have C := Lib.hid (fun w => first_any k A n c m w (by omega))
  rw [hq] at C ⊢
  clear hq
  rw [show ((q : Int)).toNat = q by simp]
  have HA := Lib.hid hA
  have HL := Lib.hid (show l.length = n by have := hr.len; simpa using this)
  have HR := Lib.hid hr
  clear hA hr
  go_enter Try.func42, Try.ntmps42
  go_wp2_with fail
  refine (C.out _).mono ?_
  rintro e w1 ⟨rfl, hE1⟩
  obtain ⟨N, hN⟩ : ∃ N, N = w.heap.size := ⟨_, rfl⟩
  have hB0 : Box w.heap.size [.int .i64 k, .slice A n c] N w1 := by rw [hN]; exact ((Box.new w #[.int .i64 k, .slice A n c] 28 _ (Nat.le_refl _) rfl).ext ((Ext.refl _).alloc _)).ext hE1
  have hB1 : Box w.heap.size [.int .i64 0, .slice none 0 0] (N + 1) w1 := by
    have := (Box.new (N := w.heap.size) (w.alloc (.cells #[.int .i64 k, .slice A n c] 28)) #[.int .i64 0, .slice none 0 0] 28 _ (by simp) rfl).ext hE1
    rw [hN]; simpa using this
  have hE : Ext w w1 := (((Ext.refl w).alloc _).alloc _).trans hE1
  have HN := Lib.hid hN
  rw [← hN]
  clear hE1 hN
  have hc0 := hB0.cell
  have hf0 := hB0.free
  have hc1 := hB1.cell
  have hf1 := hB1.free
  have hl0 := hB0.lt
  have hl1 := hB1.lt
  simp only [List.length_cons, List.length_nil, Nat.zero_add, Nat.reduceAdd] at hc0 hc1
  have hNs := hB0.base
  have H1 := Lib.hid (And.intro hB0 (And.intro hB1 hE))
  clear hB0 hB1 hE
  go_wp2_with fail
  refine (copied_any k A n c l _ (HR.out.lift H1.out.2.2) HA.out hn).mono ?_
  rintro e w2 ⟨A2, c2, rfl, hO2, hE2⟩
  obtain ⟨A9, c9, e2, hnc, hcm⟩ := own_form hO2
  injection e2 with e2 e3 e4
  rw [← e4] at hnc hcm
  clear e2 e3 e4 A9 c9
  obtain ⟨hB0, hB1, hE⟩ := H1.out
  have hB02 := hB0.ext hE2
  have hB12 := hB1.ext hE2
  have hEE := hE.trans hE2
  have hO := own_lower_ hO2 (show N + 2 ≤ _ by omega)
  clear H1 hB0 hB1 hE hc0 hf0 hc1 hf1 hl0 hl1 hE2 hO2
  have hc02 := hB02.cell
  have hf02 := hB02.free
  have hc12 := hB12.cell
  have hf12 := hB12.free
  have hl02 := hB02.lt
  have hl12 := hB12.lt
  simp only [List.length_cons, List.length_nil, Nat.zero_add, Nat.reduceAdd] at hc02 hc12
  have H2 := Lib.hid (And.intro hB02 (And.intro hB12 (And.intro hEE hO)))
  clear hB02 hB12 hEE hO
  have hqc0 : (0 : Int) ≤ (q : Int) := by omega
  have hqc1 : (q : Int) ≤ (c2 : Int) := by omega
  have hqn1 : (q : Int) ≤ (n : Int) := by omega
  go_wp2_with fail
  obtain ⟨hB02, hB12, hEE, hO⟩ := H2.out
  have hB03 := (hB02.set_ 0 (.int .i64 k) (by simp)).set_ 1 (.slice A2 n c2) (by simp)
  simp only [List.set_cons_zero, List.set_cons_succ] at hB03
  have hB13 := (hB12.other (p := ⟨N, 0, none⟩) (by simp) (.int .i64 k)).other (p := ⟨N, 1, none⟩) (by simp) (.slice A2 n c2)
  have hE3 := (hEE.setCell (p := ⟨N, 0, none⟩) hNs (.int .i64 k)).setCell (p := ⟨N, 1, none⟩) hNs (.slice A2 n c2)
  have hO3 := own_setCell (own_setCell hO (p := ⟨N, 0, none⟩) (show N < N + 2 by omega) (.int .i64 k)) (p := ⟨N, 1, none⟩) (show N < N + 2 by omega) (.slice A2 n c2)
  obtain ⟨w3, hw3⟩ : ∃ w3, w3 = (w2.setCell ⟨N, 0, none⟩ (.int .i64 k)).setCell ⟨N, 1, none⟩ (.slice A2 n c2) := ⟨_, rfl⟩
  rw [← hw3] at hB03 hB13 hE3 hO3 ⊢
  clear hB02 hB12 hEE hO H2 hw3 hc02 hf02 hc12 hf12 hl02 hl12
  have hR3 := (own_row hO3).take q hqn
  rw [show (bytes l).take q = bytes (l.take q) by simp] at hR3
  have hnil : A2 = none → q = 0 ∧ c2 = 0 := fun h => by
    obtain ⟨h1, h2⟩ := own_nil hO3 h
    omega
  refine (clone_any A2 q c2 (l.take q) _ hR3 hnil (by omega)).mono ?_
  rintro e w4 ⟨v4, rfl, hO4, hE4⟩
  have hB04 := hB03.ext hE4
  have hB14 := hB13.ext hE4
  have hO5 := own_ext hO3 hE4
  have hE5 := hE3.trans hE4
  have hBS := BS.of_own hO4
  have hN4 := own_lower_ hO4 (show N + 2 ≤ _ by have := hB13.lt; omega)
  clear hB03 hB13 hE3 hO3 hR3 hO4 hE4 hnil
  rcases Nat.lt_or_ge q c2 with hqc | hqc
  · obtain ⟨g, rfl⟩ : ∃ g, A2 = some ⟨g, 0, none⟩ := by
      rcases hO5.2 with ⟨h1, _⟩ | ⟨g, _, _, h1, _⟩
      · injection h1 with _ _ h1
        omega
      · injection h1 with h1 _ _
        exact ⟨g, h1⟩
    have hc04 := hB04.cell
    have hf04 := hB04.free
    have hc14 := hB14.cell
    have hf14 := hB14.free
    have hl04 := hB04.lt
    have hl14 := hB14.lt
    have hc10 := hB14.cell 0 (by simp)
    have hc11 := hB14.cell 1 (by simp)
    simp only [List.length_cons, List.length_nil, Nat.zero_add, Nat.reduceAdd] at hc04 hc14
    simp only [List.getElem?_cons_zero, List.getElem?_cons_succ] at hc10 hc11
    have H5 := Lib.hid (And.intro hB04 (And.intro hB14 (And.intro hE5 (And.intro hO5 (And.intro hN4 hBS)))))
    clear hB04 hB14 hE5 hO5 hN4 hBS
    go_wp2
    obtain ⟨hB04, hB14, hE5, hO5, hN4, hBS⟩ := H5.out
    have b1 := hB14.base
    have hB05 := hB04.set_ 1 (.slice (some ⟨g, q, none⟩) (n - q) (c2 - q)) (by simp)
    simp only [List.set_cons_zero, List.set_cons_succ] at hB05
    have hB15 := hB14.other (p := ⟨N, 1, none⟩) (by simp) (.slice (some ⟨g, q, none⟩) (n - q) (c2 - q))
    have hO6 := own_setCell hO5 (p := ⟨N, 1, none⟩) (show N < N + 2 by omega) (.slice (some ⟨g, q, none⟩) (n - q) (c2 - q))
    have hN6 := own_setCell hN4 (p := ⟨N, 1, none⟩) (show N < N + 2 by omega) (.slice (some ⟨g, q, none⟩) (n - q) (c2 - q))
    have hE6 := hE5.setCell (p := ⟨N, 1, none⟩) hNs (.slice (some ⟨g, q, none⟩) (n - q) (c2 - q))
    obtain ⟨w5, hw5⟩ : ∃ w5, w5 = w4.setCell ⟨N, 1, none⟩ (.slice (some ⟨g, q, none⟩) (n - q) (c2 - q)) := ⟨_, rfl⟩
    rw [← hw5] at hB05 hB15 hO6 hN6 hE6 ⊢
    clear hw5 hB04 hB14 hE5 hO5 hN4 hBS H5 hc04 hf04 hc14 hf14 hc10 hc11
    have hc05 := hB05.cell
    have hf15 := hB15.free
    have hl05 := hB05.lt
    have hl15 := hB15.lt
    have hc00 := hB05.cell 0 (by simp)
    have hc01 := hB05.cell 1 (by simp)
    have hc10 := hB15.cell 0 (by simp)
    have hc11 := hB15.cell 1 (by simp)
    simp only [List.getElem?_cons_zero, List.getElem?_cons_succ] at hc00 hc01 hc10 hc11
    clear hc05
    have H6 := Lib.hid (And.intro hB15 (And.intro hE6 (And.intro hO6 hN6)))
    clear hB05 hB15 hE6 hO6 hN6
    apply wp_region_ext 3 [is _, is _, is _] (by kernel_rfl) (by kernel_rfl) rfl
    case hops =>
      simp only [List.take_succ_cons, List.take_zero]
      refine ⟨?_, ?_, ?_, trivial⟩
      all_goals
        intro vs x hd
        simp only [putAll, Act.put, List.setIfInBounds_toArray, List.set_cons_succ, List.set_cons_zero, Nat.zero_add, Nat.reduceAdd]
        simp [depFacts, is, isRow, isRowN, isBox, dataE] at hd
        try simp only [World.plus_plus] at hd
        simp only [Region.wanted, if_true, comes]
        try simp [yielded, hd, comes]
        go_simp
        try go_bits
        first
          | exact ⟨Ext.refl _, rfl⟩
          | exact rfl
          | exact ⟨(Ext.refl _).alloc _, _, rfl, Cells.new _ _ _ _ rfl⟩
          | exact ⟨(Ext.refl _).alloc _, _, rfl, Box.new _ _ _ _ (by simp [World.le_plus]) rfl⟩
    case hst => exact ⟨(by apply is.st), (by apply is.st), (by apply is.st), trivial⟩
    case hfin =>
      intro vs x hf
      try simp only [World.plus_plus] at hf ⊢
      simp only [List.take_succ_cons, List.take_zero, List.drop_succ_cons, List.drop_zero, putAll, Act.put, List.setIfInBounds_toArray, List.set_cons_succ, List.set_cons_zero]
      simp only [facts, is, Nat.zero_add, Nat.reduceAdd] at hf
      simp only [Nat.zero_add, Nat.reduceAdd, hf]
      clear hf
      go_wp2
      obtain ⟨hB15, hE6, hO6, hN6⟩ := H6.out
      have hBA := ((hB15.set_ 0 (.int .i64 k) (by simp)).set_ 1 (.slice (some ⟨g, q, none⟩) (n - q) (c2 - q)) (by simp)).ext ((Ext.refl _).plus_ x)
      simp only [List.set_cons_zero, List.set_cons_succ] at hBA
      have hr0 := hBA.cell 0 (by simp)
      have hr1 := hBA.cell 1 (by simp)
      simp only [List.getElem?_cons_zero, List.getElem?_cons_succ] at hr0 hr1
      have hOA := own_ext (own_setCell (own_setCell hO6 (p := ⟨N + 1, 0, none⟩) (show N + 1 < N + 2 by omega) (.int .i64 k)) (p := ⟨N + 1, 1, none⟩) (show N + 1 < N + 2 by omega) (.slice (some ⟨g, q, none⟩) (n - q) (c2 - q))) ((Ext.refl _).plus_ x)
      have hNA := own_ext (own_setCell (own_setCell hN6 (p := ⟨N + 1, 0, none⟩) (show N + 1 < N + 2 by omega) (.int .i64 k)) (p := ⟨N + 1, 1, none⟩) (show N + 1 < N + 2 by omega) (.slice (some ⟨g, q, none⟩) (n - q) (c2 - q))) ((Ext.refl _).plus_ x)
      have hEA := ((hE6.setCell (p := ⟨N + 1, 0, none⟩) b1 (.int .i64 k)).setCell (p := ⟨N + 1, 1, none⟩) b1 (.slice (some ⟨g, q, none⟩) (n - q) (c2 - q))).plus_ x
      refine bodyPost_ret (v := (.tuple #[v4, .agg #[.int .i64 k, .slice (some ⟨g, q, none⟩) (n - q) (c2 - q)]])) (by simp [results, Try.results42, go_sem, hr0, hr1]) rfl ?_
      refine ⟨_, _, rfl, BS.of_own hNA, ?_, hEA, FQ.of_own' hOA (by have := HN.out; omega)⟩
      exact QS.drop hOA hqn hnc hcm
  · obtain rfl : q = c2 := by omega
    obtain rfl : n = q := by omega
    have hc04 := hB04.cell
    have hf04 := hB04.free
    have hc14 := hB14.cell
    have hf14 := hB14.free
    have hl04 := hB04.lt
    have hl14 := hB14.lt
    have hc10 := hB14.cell 0 (by simp)
    have hc11 := hB14.cell 1 (by simp)
    simp only [List.length_cons, List.length_nil, Nat.zero_add, Nat.reduceAdd] at hc04 hc14
    simp only [List.getElem?_cons_zero, List.getElem?_cons_succ] at hc10 hc11
    have H5 := Lib.hid (And.intro hB04 (And.intro hB14 (And.intro hE5 (And.intro hO5 (And.intro hN4 hBS)))))
    clear hB04 hB14 hE5 hO5 hN4 hBS
    go_wp2
    obtain ⟨hB04, hB14, hE5, hO5, hN4, hBS⟩ := H5.out
    have b1 := hB14.base
    have hB05 := hB04.set_ 1 (.slice A2 0 0) (by simp)
    simp only [List.set_cons_zero, List.set_cons_succ] at hB05
    have hB15 := hB14.other (p := ⟨N, 1, none⟩) (by simp) (.slice A2 0 0)
    have hO6 := own_setCell hO5 (p := ⟨N, 1, none⟩) (show N < N + 2 by omega) (.slice A2 0 0)
    have hN6 := own_setCell hN4 (p := ⟨N, 1, none⟩) (show N < N + 2 by omega) (.slice A2 0 0)
    have hE6 := hE5.setCell (p := ⟨N, 1, none⟩) hNs (.slice A2 0 0)
    obtain ⟨w5, hw5⟩ : ∃ w5, w5 = w4.setCell ⟨N, 1, none⟩ (.slice A2 0 0) := ⟨_, rfl⟩
    rw [← hw5] at hB05 hB15 hO6 hN6 hE6 ⊢
    clear hw5 hB04 hB14 hE5 hO5 hN4 hBS H5 hc04 hf04 hc14 hf14 hc10 hc11
    have hc05 := hB05.cell
    have hf15 := hB15.free
    have hl05 := hB05.lt
    have hl15 := hB15.lt
    have hc00 := hB05.cell 0 (by simp)
    have hc01 := hB05.cell 1 (by simp)
    have hc10 := hB15.cell 0 (by simp)
    have hc11 := hB15.cell 1 (by simp)
    simp only [List.getElem?_cons_zero, List.getElem?_cons_succ] at hc00 hc01 hc10 hc11
    clear hc05
    have H6 := Lib.hid (And.intro hB15 (And.intro hE6 (And.intro hO6 hN6)))
    clear hB05 hB15 hE6 hO6 hN6
    apply wp_region_ext 3 [is _, is _, is _] (by kernel_rfl) (by kernel_rfl) rfl
    case hops =>
      simp only [List.take_succ_cons, List.take_zero]
      refine ⟨?_, ?_, ?_, trivial⟩
      all_goals
        intro vs x hd
        simp only [putAll, Act.put, List.setIfInBounds_toArray, List.set_cons_succ, List.set_cons_zero, Nat.zero_add, Nat.reduceAdd]
        simp [depFacts, is, isRow, isRowN, isBox, dataE] at hd
        try simp only [World.plus_plus] at hd
        simp only [Region.wanted, if_true, comes]
        try simp [yielded, hd, comes]
        go_simp
        try go_bits
        first
          | exact ⟨Ext.refl _, rfl⟩
          | exact rfl
          | exact ⟨(Ext.refl _).alloc _, _, rfl, Cells.new _ _ _ _ rfl⟩
          | exact ⟨(Ext.refl _).alloc _, _, rfl, Box.new _ _ _ _ (by simp [World.le_plus]) rfl⟩
    case hst => exact ⟨(by apply is.st), (by apply is.st), (by apply is.st), trivial⟩
    case hfin =>
      intro vs x hf
      try simp only [World.plus_plus] at hf ⊢
      simp only [List.take_succ_cons, List.take_zero, List.drop_succ_cons, List.drop_zero, putAll, Act.put, List.setIfInBounds_toArray, List.set_cons_succ, List.set_cons_zero]
      simp only [facts, is, Nat.zero_add, Nat.reduceAdd] at hf
      simp only [Nat.zero_add, Nat.reduceAdd, hf]
      clear hf
      go_wp2
      obtain ⟨hB15, hE6, hO6, hN6⟩ := H6.out
      have hBA := ((hB15.set_ 0 (.int .i64 k) (by simp)).set_ 1 (.slice A2 0 0) (by simp)).ext ((Ext.refl _).plus_ x)
      simp only [List.set_cons_zero, List.set_cons_succ] at hBA
      have hr0 := hBA.cell 0 (by simp)
      have hr1 := hBA.cell 1 (by simp)
      simp only [List.getElem?_cons_zero, List.getElem?_cons_succ] at hr0 hr1
      have hOA := own_ext (own_setCell (own_setCell hO6 (p := ⟨N + 1, 0, none⟩) (show N + 1 < N + 2 by omega) (.int .i64 k)) (p := ⟨N + 1, 1, none⟩) (show N + 1 < N + 2 by omega) (.slice A2 0 0)) ((Ext.refl _).plus_ x)
      have hNA := own_ext (own_setCell (own_setCell hN6 (p := ⟨N + 1, 0, none⟩) (show N + 1 < N + 2 by omega) (.int .i64 k)) (p := ⟨N + 1, 1, none⟩) (show N + 1 < N + 2 by omega) (.slice A2 0 0)) ((Ext.refl _).plus_ x)
      have hEA := ((hE6.setCell (p := ⟨N + 1, 0, none⟩) b1 (.int .i64 k)).setCell (p := ⟨N + 1, 1, none⟩) b1 (.slice A2 0 0)).plus_ x
      refine bodyPost_ret (v := (.tuple #[v4, .agg #[.int .i64 k, .slice A2 0 0]])) (by simp [results, Try.results42, go_sem, hr0, hr1]) rfl ?_
      refine ⟨_, _, rfl, BS.of_own hNA, ?_, hEA, FQ.of_base (own_base hOA) (by have := HN.out; omega)⟩
      exact ⟨A2, 0, 0, rfl, by rw [show l.drop n = [] from List.drop_of_length_le (by rw [HL.out]; exact Nat.le_refl _)]; exact Row.nil, by omega, by omega, fun _ => ⟨rfl, rfl⟩⟩
theorem take_any (k : Int) (A : Option Addr) (n c : Nat) (l : List Int) (m : Int) (w : World) (hr : Row w w.heap.size 1 A n (bytes l)) (hA : A = none → n = 0 ∧ c = 0) (hn : n ≤ 140737488355328) :
    Calls Try.prog 42 #[qu k A n c, .int .i64 m] w (TakePost w k l (qfirst k n m).toNat) :=
  (take_fresh k A n c l m w hr hA hn).mono fun _ _ ⟨v1, v2, h1, h2, h3, h4, _⟩ => ⟨v1, v2, h1, h2, h3, h4⟩
end Go.Proofs.Ytphbmibgnnobcaa
