/- Queues: Put. -/
import Derived.Test.YtphbmibgnnobcaaQueue5
import Derived.Test.YtphbmibgnnobcaaBig
set_option linter.unusedVariables false
namespace Go.Proofs.Ytphbmibgnnobcaa
open Go.RowKit Go.Rg
attribute [local go_sem ↓] Go.wp_at_zero Go.wp_at_succ

theorem bytes_one (l : List Int) : ∀ u ∈ bytes l, u.oneCell' = true := by
  intro u hu
  obtain ⟨z, _, rfl⟩ := List.mem_map.1 hu
  rfl
/-- The value is a queue of the bytes l with the bound k. -/
def QS (w : World) (v : Value) (k : Int) (l : List Int) : Prop := ∃ A n c, v = qu k A n c ∧ Row w w.heap.size 1 A n (bytes l) ∧ n ≤ c ∧ c ≤ 9223372036854775807 ∧ (A = none → n = 0 ∧ c = 0)
theorem QS.lift {w W : World} {v : Value} {k : Int} {l : List Int} (h : QS w v k l) (e : Ext w W) : QS W v k l := by
  obtain ⟨A, n, c, h1, h2, h3⟩ := h
  exact ⟨A, n, c, h1, h2.lift e, h3⟩
theorem QS.of_own {w : World} {k : Int} {base : Nat} {v : Value} {l : List Int} (h : w.ownsRow base 5 1 v l.length (bytes l)) : ∃ A c, v = .slice A l.length c ∧ QS w (qu k A l.length c) k l := by
  obtain ⟨A, c, rfl, h1, h2⟩ := own_form h
  exact ⟨A, c, rfl, A, l.length, c, rfl, own_row h, h1, h2, own_nil h⟩
theorem BS.of_own {w : World} {base n : Nat} {v : Value} {l : List Int} (h : w.ownsRow base 5 1 v n (bytes l)) : BS w v l := by
  obtain ⟨A, c, rfl, h1, h2⟩ := own_form h
  exact ⟨A, n, c, rfl, own_row h, h1, h2, own_nil h⟩

/-- An append onto an own row of bytes. -/
theorem app_big (w : World) (B n q : Nat) (v : Value) (A1 : Option Addr) (c1 : Nat) (l b : List Int) (i0 : TypeInfo) (hi : Try.prog.info? 5 = some i0) (hz0 : i0.zero = some (.int .u8 0)) (hz1 : i0.size = 1) (hz2 : i0.bytes = 1)
    {B' : Nat} (hO : w.ownsRow B 5 1 v n (bytes l)) (hR : Row w B' 1 A1 q (bytes b)) (hb : n + q ≤ 140737488355328) (hsz : B ≤ w.heap.size) (ty : TypeId) :
    ∃ v' w', (Builtin.append_ #[26, 26] ty #[v, .slice A1 q c1]).run Try.prog w = .ok v' w' ∧ BigE B 5 w w' ∧ isOwn B (l ++ b).length (bytes (l ++ b)) v' w' := by
  obtain ⟨v', w', hrun, h1, h2, h3⟩ := app_own w B 26 ty 5 i0 (.int .u8 0) 1 Try.underlying26 hi hz0 hz1 hz2 rfl _ _ _ hO B' A1 q c1 (bytes b) hR (bytes_one b) (by unfold maxLen; omega) (by omega) hsz
  have hn : n + q = (l ++ b).length := by
    have e1 := hR.len
    have e2 := hO.1
    simp at e1 e2 ⊢
    omega
  rw [hn] at h1
  exact ⟨v', w', hrun, BigE.of_grown hO h2, by unfold isOwn; simpa using h1⟩
/-- How many of b bytes go into a queue. -/
def qput (k : Int) (n b : Nat) : Nat := min b (qroom k n).toNat
theorem qroom_bd (k : Int) (n : Nat) : 0 ≤ qroom k n ∧ qroom k n ≤ 1000000 := by
  unfold qroom; split
  · rename_i h; obtain ⟨h1, h2, h3⟩ := h; omega
  · omega
/-- What Put leaves. -/
def PutPost (w : World) (k : Int) (l b : List Int) (e : Ending) (w' : World) : Prop :=
  ∃ v, e = .returned (.tuple #[v, .int .i64 (qput k l.length b.length : Nat)]) ∧ QS w' v k (l ++ b.take (qput k l.length b.length)) ∧ Ext w w'

/-- The queue's bytes lie in a block from N on. -/
def FQ (N : Nat) (v : Value) : Prop := ∀ k A n c, v = qu k A n c → ∀ a, A = some a → N ≤ a.block
theorem own_base {w : World} {base n c : Nat} {e : TypeId} {A : Option Addr} {xs : List Value} (h : w.ownsRow base e 1 (.slice A n c) n xs) : ∀ a, A = some a → base ≤ a.block := by
  rintro a rfl
  rcases h.2 with ⟨h1, _⟩ | ⟨g, _, _, h1, h2, _⟩
  · cases h1
  · injection h1 with h1 _ _
    injection h1 with h1
    rw [h1]; exact h2
theorem FQ.of_base {N base n c : Nat} {A : Option Addr} {k : Int} (h : ∀ a, A = some a → base ≤ a.block) (hN : N ≤ base) : FQ N (qu k A n c) := by
  intro k' A' n' c' e a ha
  have e1 : A = A' := by injection e with e; simp at e; exact e.2.1
  subst e1
  exact Nat.le_trans hN (h a ha)
def PutPostF (w : World) (k : Int) (l b : List Int) (e : Ending) (w' : World) : Prop :=
  ∃ v, e = .returned (.tuple #[v, .int .i64 (qput k l.length b.length : Nat)]) ∧ QS w' v k (l ++ b.take (qput k l.length b.length)) ∧ Ext w w' ∧ FQ w.heap.size v

set_option maxHeartbeats 2000000 in
theorem put_fresh (k : Int) (A : Option Addr) (n c : Nat) (l : List Int) (V : Option Addr) (m vc : Nat) (vs : List Value) (ls : List (List Int)) (w : World) (hr : Row w w.heap.size 1 A n (bytes l)) (hA : A = none → n = 0 ∧ c = 0) (hn : n ≤ 140737488355328)
    (hv : Row w w.heap.size 1 V m vs) (hvb : VB w vs ls) (hm : m ≤ 9223372036854775807) (hs : ls.flatten.length ≤ 140737488355328) (hn2 : n + 1000000 ≤ 140737488355328) :
    Calls Try.prog 38 #[qu k A n c, .slice V m vc] w (PutPostF w k l ls.flatten) := by
  obtain ⟨i0, hi, hz0, hz1, hz2⟩ := info_parts Try.infoByte
  have HA := Lib.hid hA
  obtain ⟨b, hb⟩ : ∃ b, b = ls.flatten := ⟨_, rfl⟩
  have hln : l.length = n := by have := hr.len; simpa using this
  have HL := Lib.hid hln
  have HV := Lib.hid hvb
  have HR := Lib.hid hr
  have HW := Lib.hid hv
  have hqb := qroom_bd k n
  rw [← hb] at hs ⊢
  have HB := Lib.hid hb
  have CC := Lib.hid (fun w' (e : Ext w w') => concat_any V m vc vs ls w' (hv.lift e) (hvb.lift e) hm (by rw [← hb]; omega))
  rw [← hb] at CC
  clear hA hr hv hvb hln hb
  go_enter Try.func38, Try.ntmps38
  go_wp2_with fail
  refine (CC.out _ (by repeat (first | exact Ext.refl _ | assumption | apply Ext.plus_ | apply Ext.alloc | apply Ext.drew))).mono ?_
  rintro e w1 ⟨v1, rfl, hown1, hE1⟩
  obtain ⟨A1, c1, rfl, hc1, hc2⟩ := own_form hown1
  obtain ⟨N, hN⟩ : ∃ N, N = w.heap.size := ⟨_, rfl⟩
  have hB0 : Box w.heap.size [.int .i64 k, .slice A n c] N w1 := by rw [hN]; exact ((Box.new w #[.int .i64 k, .slice A n c] 28 _ (Nat.le_refl _) rfl).ext ((Ext.refl _).alloc _)).ext hE1
  have hB1 : Box w.heap.size [.int .i64 0, .slice none 0 0] (N + 1) w1 := by
    have := (Box.new (N := w.heap.size) (w.alloc (.cells #[.int .i64 k, .slice A n c] 28)) #[.int .i64 0, .slice none 0 0] 28 _ (by simp) rfl).ext hE1
    rw [hN]; simpa using this
  have hE : Ext w w1 := (((Ext.refl w).alloc _).alloc _).trans hE1
  have hO1 : w1.ownsRow (N + 2) 5 1 (.slice A1 b.length c1) b.length (bytes b) := by rw [hN]; simpa using hown1
  have HN := Lib.hid hN
  rw [← hN]
  clear hown1 hE1 CC hN
  have hl0 := hB0.lt
  have hl1 := hB1.lt
  have hc0 := hB0.cell
  have hf0 := hB0.free
  have hc1 := hB1.cell
  have hf1 := hB1.free
  simp only [List.length_cons, List.length_nil, Nat.zero_add, Nat.reduceAdd] at hc0 hc1
  have H1 := Lib.hid (And.intro hB0 (And.intro hB1 (And.intro hE hO1)))
  clear hB0 hB1 hE hO1
  go_wp2_with fail
  refine (room_any k A n c _ (by omega)).mono ?_
  rintro e w2 ⟨rfl, hE2⟩
  obtain ⟨hB0, hB1, hE, hO1⟩ := H1.out
  have hB02 := hB0.ext hE2
  have hB12 := hB1.ext hE2
  have hO2 := own_ext hO1 hE2
  have hEE := hE.trans hE2
  clear H1 hB0 hB1 hE hO1 hc0 hf0 hc1 hf1 hl0 hl1 hE2
  have hl0 := hB02.lt
  have hl1 := hB12.lt
  have hc02 := hB02.cell
  have hf02 := hB02.free
  have hc12 := hB12.cell
  have hf12 := hB12.free
  simp only [List.length_cons, List.length_nil, Nat.zero_add, Nat.reduceAdd] at hc02 hc12
  have H2 := Lib.hid (And.intro hB02 (And.intro hB12 (And.intro hEE hO2)))
  clear hB02 hB12 hEE hO2
  obtain ⟨r, hr⟩ := Int.eq_ofNat_of_zero_le hqb.1
  rw [hr] at hqb ⊢
  have hr1 : r ≤ 1000000 := by omega
  have HQ := Lib.hid hr
  clear hr hqb
  obtain ⟨bl, hbl⟩ : ∃ bl, bl = b.length := ⟨_, rfl⟩
  rw [← hbl] at hs H2 hc1 ⊢
  have HBL := Lib.hid hbl
  obtain ⟨q, hq⟩ : ∃ q, q = min bl r := ⟨_, rfl⟩
  have hqr : q ≤ r := by omega
  have hqb : q ≤ bl := by omega
  have hqc : q ≤ c1 := by omega
  have HP := Lib.hid (show q = qput k l.length b.length by unfold qput; rw [HL.out, HQ.out, ← hbl]; simpa using hq)
  clear hbl
  rcases Nat.lt_or_ge r bl with hlt | hlt
  · obtain rfl : q = r := by omega
    clear hq
    go_wp2_with fail
    refine (copied_any k A n c l _ (HR.out.lift H2.out.2.2.1) HA.out (by omega)).mono ?_
    rintro e w3 ⟨A3, c3, rfl, hO3, hE3⟩
    obtain ⟨hB02, hB12, hEE, hO2⟩ := H2.out
    have hB03 := hB02.ext hE3
    have hB13 := hB12.ext hE3
    have hO3' := own_lower_ hO3 (show N + 2 ≤ _ by omega)
    have hEE3 := hEE.trans hE3
    have hOb := own_ext hO2 hE3
    clear hc02 hf02 hc12 hf12 hB02 hB12 hEE hO2 hO3 hE3 H2
    have hc03 := hB03.cell
    have hf03 := hB03.free
    have hc13 := hB13.cell
    have hf13 := hB13.free
    simp only [List.length_cons, List.length_nil, Nat.zero_add, Nat.reduceAdd] at hc03 hc13
    have hl03 := hB03.lt
    have H3 := Lib.hid (And.intro hB03 (And.intro hB13 (And.intro hEE3 (And.intro hO3' hOb))))
    clear hB03 hB13 hEE3 hO3' hOb
    go_wp2_with fail
    obtain ⟨hB03, hB13, hEE3, hO3, hOb⟩ := H3.out
    have hNs := hB03.base
    have hB04 := (hB03.set_ 0 (.int .i64 k) (by simp)).set_ 1 (.slice A3 n c3) (by simp)
    simp only [List.set_cons_zero, List.set_cons_succ] at hB04
    have hB14 := (hB13.other (p := ⟨N, 0, none⟩) (by simp) (.int .i64 k)).other (p := ⟨N, 1, none⟩) (by simp) (.slice A3 n c3)
    have hE4 := (hEE3.setCell (p := ⟨N, 0, none⟩) hNs (.int .i64 k)).setCell (p := ⟨N, 1, none⟩) hNs (.slice A3 n c3)
    have hO4 := own_setCell (own_setCell hO3 (p := ⟨N, 0, none⟩) (show N < N + 2 by omega) (.int .i64 k)) (p := ⟨N, 1, none⟩) (show N < N + 2 by omega) (.slice A3 n c3)
    have hOb4 := own_setCell (own_setCell hOb (p := ⟨N, 0, none⟩) (show N < N + 2 by omega) (.int .i64 k)) (p := ⟨N, 1, none⟩) (show N < N + 2 by omega) (.slice A3 n c3)
    obtain ⟨w4, hw4⟩ : ∃ w4, w4 = (w3.setCell ⟨N, 0, none⟩ (.int .i64 k)).setCell ⟨N, 1, none⟩ (.slice A3 n c3) := ⟨_, rfl⟩
    rw [← hw4] at hB04 hB14 hE4 hO4 hOb4 ⊢
    clear hB03 hB13 hEE3 hO3 hOb H3 hw4 hc03 hf03 hc13 hf13
    have hcN : w4.cell? ⟨N, 1, none⟩ = some (.slice A3 n c3) := by rw [hB04.cell 1 (by simp)]; rfl
    have hRb := (own_row hOb4).take q hqb
    rw [show (bytes b).take q = bytes (b.take q) by simp] at hRb
    have hsz : N + 2 ≤ w4.heap.size := by have := hB14.lt; omega
    have H4 := Lib.hid (And.intro hB04 (And.intro hB14 (And.intro hE4 (And.intro hO4 hRb))))
    clear hB04 hB14 hE4 hO4 hOb4 hRb
    have hqc0 : (0 : Int) ≤ (q : Int) := by omega
    have hqc1 : (q : Int) ≤ (c1 : Int) := by omega
    obtain ⟨L, hL⟩ : ∃ L, L = l ++ b.take q := ⟨_, rfl⟩
    have HAPP := Lib.hid (fun (W : World) (hX : Ext w4 W) (ty : TypeId) => app_big W (N + 2) n q (.slice A3 n c3) A1 c1 l (b.take q) i0 hi hz0 hz1 hz2 (own_ext H4.out.2.2.2.1 hX) (H4.out.2.2.2.2.lift hX) (by omega) (by have := hX.size; omega) ty)
    rw [← hL] at HAPP
    have HLL := Lib.hid hL
    clear hL
    apply wp_region_big 7 5 (N + 2) 5 [0, 0, 0, 0, 0, 2] (fun W => W.cell? ⟨N, 1, none⟩ = some (.slice A3 n c3)) [is _, is _, is _, is _, is _, isOwn (N + 2) L.length (bytes L), is _] (by kernel_rfl) (by kernel_rfl) (by kernel_rfl) rfl
    case hS =>
      intro W hE
      rw [hE.cell (by simp) (by simp; omega)]; exact hcN
    case hops =>
      simp only [List.take_succ_cons, List.take_zero]
      refine ⟨?_, ?_, ?_, ?_, ?_, ?_, ?_, trivial⟩
      all_goals
        intro vs W hS hX hd
        have hcell := hS
        clear hS
        simp only [putAll, Act.put, List.setIfInBounds_toArray, List.set_cons_succ, List.set_cons_zero, Nat.zero_add, Nat.reduceAdd]
        simp [depFactsC, clsOf, is, isRow, isRowN, isBox, dataE] at hd
        simp [clsOf] at hX
        simp only [Region.wanted, if_true, Nat.reduceEqDiff, if_false, reduceIte, Nat.reduceAdd, Nat.zero_ne_one, Nat.one_ne_zero, Nat.zero_add]
        try simp [yielded, hd]
      rotate_left 5
      refine Lock.out ?_
      rotate_left 2
      all_goals
        try (
        with_reducible show comes _ _ _ _ _
        simp only [comes]
        try simp [yielded, hd, comes]
        go_simp
        try go_bits
        first
          | exact ⟨Ext.refl _, rfl⟩
          | exact rfl
          | exact ⟨(Ext.refl _).alloc _, _, rfl, Cells.new _ _ _ _ rfl⟩
        )
      · refine ⟨?_, trivial⟩
        exact comes_app (.tmp 18) (.tmp 21) 26 rfl (.slice A3 n c3) (.slice A1 q c1) rfl rfl (HAPP.out W hX _)
    case hst => exact ⟨(by first | exact Stable2.is _ | exact Stable2.ext (by apply is.st) (by decide) | exact is.st2), (by first | exact Stable2.is _ | exact Stable2.ext (by apply is.st) (by decide) | exact is.st2), (by first | exact Stable2.is _ | exact Stable2.ext (by apply is.st) (by decide) | exact is.st2), (by first | exact Stable2.is _ | exact Stable2.ext (by apply is.st) (by decide) | exact is.st2), (by first | exact Stable2.is _ | exact Stable2.ext (by apply is.st) (by decide) | exact is.st2), (by first | exact Stable2.is _ | exact Stable2.ext (by apply isOwn.st) (by decide) | exact isOwn.st2), (by first | exact Stable2.is _ | exact Stable2.ext (by apply is.st) (by decide) | exact is.st2), trivial⟩
    case hfin =>
      intro vs W hE hS hf
      simp only [List.take_succ_cons, List.take_zero, List.drop_succ_cons, List.drop_zero, putAll, Act.put, List.setIfInBounds_toArray, List.set_cons_succ, List.set_cons_zero]
      simp [factsC, clsOf, is] at hf
      simp only [Nat.zero_add, Nat.reduceAdd, hf]
      obtain ⟨h0, h1, h2, h3, h4, h5, h6⟩ := hf
      obtain ⟨A5, c5, e5, hc51, hc52⟩ := own_form h5
      rw [e5] at h5 ⊢
      obtain ⟨hB04, hB14, hE4, hO4, hRb⟩ := H4.out
      have hB05 := hE.box hB04 (by omega)
      have hB15 := hE.box hB14 (by omega)
      have hE5 := hE.ext hE4 (by omega)
      have hcA := hB05.cell
      have hfA := hB05.free
      have hcB := hB15.cell
      have hfB := hB15.free
      simp only [List.length_cons, List.length_nil, Nat.zero_add, Nat.reduceAdd] at hcA hcB
      have hl5 := hB05.lt
      have hl6 := hB15.lt
      have H5 := Lib.hid (And.intro hB05 (And.intro hB15 (And.intro hE5 h5)))
      clear h0 h1 h2 h3 h4 h5 h6 e5 hB04 hB14 hE4 hO4 hRb hB05 hB15 hE5 hS hE hcN
      go_wp2
      have hc10 := hcB 0 (by decide)
      have hc11 := hcB 1 (by decide)
      refine bodyPost_ret (v := (.tuple #[qu k A5 L.length c5, .int .i64 (q : Nat)])) (by simp [results, Try.results38, go_sem, hc10, hc11]) rfl ?_
      obtain ⟨hB05, hB15, hE5, h5⟩ := H5.out
      have b0 := hB05.base
      have b1 := hB15.base
      have hO := own_setCell (own_setCell (own_setCell h5 (p := ⟨N, 1, none⟩) (show N < N + 2 by omega) (.slice A5 L.length c5)) (p := ⟨N + 1, 0, none⟩) (show N + 1 < N + 2 by omega) (.int .i64 k)) (p := ⟨N + 1, 1, none⟩) (show N + 1 < N + 2 by omega) (.slice A5 L.length c5)
      refine ⟨_, by rw [← HP.out], ?_, ((hE5.setCell (p := ⟨N, 1, none⟩) b0 _).setCell (p := ⟨N + 1, 0, none⟩) b1 _).setCell (p := ⟨N + 1, 1, none⟩) b1 _, FQ.of_base (own_base hO) (by have := HN.out; omega)⟩
      rw [← HP.out, ← HLL.out]
      exact ⟨A5, L.length, c5, rfl, own_row hO, hc51, hc52, own_nil hO⟩
  · obtain rfl : q = bl := by omega
    clear hq
    go_wp2_with fail
    refine (copied_any k A n c l _ (HR.out.lift H2.out.2.2.1) HA.out (by omega)).mono ?_
    rintro e w3 ⟨A3, c3, rfl, hO3, hE3⟩
    obtain ⟨hB02, hB12, hEE, hO2⟩ := H2.out
    have hB03 := hB02.ext hE3
    have hB13 := hB12.ext hE3
    have hO3' := own_lower_ hO3 (show N + 2 ≤ _ by omega)
    have hEE3 := hEE.trans hE3
    have hOb := own_ext hO2 hE3
    clear hc02 hf02 hc12 hf12 hB02 hB12 hEE hO2 hO3 hE3 H2
    have hc03 := hB03.cell
    have hf03 := hB03.free
    have hc13 := hB13.cell
    have hf13 := hB13.free
    simp only [List.length_cons, List.length_nil, Nat.zero_add, Nat.reduceAdd] at hc03 hc13
    have hl03 := hB03.lt
    have H3 := Lib.hid (And.intro hB03 (And.intro hB13 (And.intro hEE3 (And.intro hO3' hOb))))
    clear hB03 hB13 hEE3 hO3' hOb
    go_wp2_with fail
    obtain ⟨hB03, hB13, hEE3, hO3, hOb⟩ := H3.out
    have hNs := hB03.base
    have hB04 := (hB03.set_ 0 (.int .i64 k) (by simp)).set_ 1 (.slice A3 n c3) (by simp)
    simp only [List.set_cons_zero, List.set_cons_succ] at hB04
    have hB14 := (hB13.other (p := ⟨N, 0, none⟩) (by simp) (.int .i64 k)).other (p := ⟨N, 1, none⟩) (by simp) (.slice A3 n c3)
    have hE4 := (hEE3.setCell (p := ⟨N, 0, none⟩) hNs (.int .i64 k)).setCell (p := ⟨N, 1, none⟩) hNs (.slice A3 n c3)
    have hO4 := own_setCell (own_setCell hO3 (p := ⟨N, 0, none⟩) (show N < N + 2 by omega) (.int .i64 k)) (p := ⟨N, 1, none⟩) (show N < N + 2 by omega) (.slice A3 n c3)
    have hOb4 := own_setCell (own_setCell hOb (p := ⟨N, 0, none⟩) (show N < N + 2 by omega) (.int .i64 k)) (p := ⟨N, 1, none⟩) (show N < N + 2 by omega) (.slice A3 n c3)
    obtain ⟨w4, hw4⟩ : ∃ w4, w4 = (w3.setCell ⟨N, 0, none⟩ (.int .i64 k)).setCell ⟨N, 1, none⟩ (.slice A3 n c3) := ⟨_, rfl⟩
    rw [← hw4] at hB04 hB14 hE4 hO4 hOb4 ⊢
    clear hB03 hB13 hEE3 hO3 hOb H3 hw4 hc03 hf03 hc13 hf13
    have hcN : w4.cell? ⟨N, 1, none⟩ = some (.slice A3 n c3) := by rw [hB04.cell 1 (by simp)]; rfl
    have hRb := (own_row hOb4).take q hqb
    rw [show (bytes b).take q = bytes (b.take q) by simp] at hRb
    have hsz : N + 2 ≤ w4.heap.size := by have := hB14.lt; omega
    have H4 := Lib.hid (And.intro hB04 (And.intro hB14 (And.intro hE4 (And.intro hO4 hRb))))
    clear hB04 hB14 hE4 hO4 hOb4 hRb
    have hqc0 : (0 : Int) ≤ (q : Int) := by omega
    have hqc1 : (q : Int) ≤ (c1 : Int) := by omega
    obtain ⟨L, hL⟩ : ∃ L, L = l ++ b.take q := ⟨_, rfl⟩
    have HAPP := Lib.hid (fun (W : World) (hX : Ext w4 W) (ty : TypeId) => app_big W (N + 2) n q (.slice A3 n c3) A1 c1 l (b.take q) i0 hi hz0 hz1 hz2 (own_ext H4.out.2.2.2.1 hX) (H4.out.2.2.2.2.lift hX) (by omega) (by have := hX.size; omega) ty)
    rw [← hL] at HAPP
    have HLL := Lib.hid hL
    clear hL
    apply wp_region_big 7 5 (N + 2) 5 [0, 0, 0, 0, 0, 2] (fun W => W.cell? ⟨N, 1, none⟩ = some (.slice A3 n c3)) [is _, is _, is _, is _, is _, isOwn (N + 2) L.length (bytes L), is _] (by kernel_rfl) (by kernel_rfl) (by kernel_rfl) rfl
    case hS =>
      intro W hE
      rw [hE.cell (by simp) (by simp; omega)]; exact hcN
    case hops =>
      simp only [List.take_succ_cons, List.take_zero]
      refine ⟨?_, ?_, ?_, ?_, ?_, ?_, ?_, trivial⟩
      all_goals
        intro vs W hS hX hd
        have hcell := hS
        clear hS
        simp only [putAll, Act.put, List.setIfInBounds_toArray, List.set_cons_succ, List.set_cons_zero, Nat.zero_add, Nat.reduceAdd]
        simp [depFactsC, clsOf, is, isRow, isRowN, isBox, dataE] at hd
        simp [clsOf] at hX
        simp only [Region.wanted, if_true, Nat.reduceEqDiff, if_false, reduceIte, Nat.reduceAdd, Nat.zero_ne_one, Nat.one_ne_zero, Nat.zero_add]
        try simp [yielded, hd]
      rotate_left 5
      refine Lock.out ?_
      rotate_left 2
      all_goals
        try (
        with_reducible show comes _ _ _ _ _
        simp only [comes]
        try simp [yielded, hd, comes]
        go_simp
        try go_bits
        first
          | exact ⟨Ext.refl _, rfl⟩
          | exact rfl
          | exact ⟨(Ext.refl _).alloc _, _, rfl, Cells.new _ _ _ _ rfl⟩
        )
      · refine ⟨?_, trivial⟩
        exact comes_app (.tmp 18) (.tmp 21) 26 rfl (.slice A3 n c3) (.slice A1 q c1) rfl rfl (HAPP.out W hX _)
    case hst => exact ⟨(by first | exact Stable2.is _ | exact Stable2.ext (by apply is.st) (by decide) | exact is.st2), (by first | exact Stable2.is _ | exact Stable2.ext (by apply is.st) (by decide) | exact is.st2), (by first | exact Stable2.is _ | exact Stable2.ext (by apply is.st) (by decide) | exact is.st2), (by first | exact Stable2.is _ | exact Stable2.ext (by apply is.st) (by decide) | exact is.st2), (by first | exact Stable2.is _ | exact Stable2.ext (by apply is.st) (by decide) | exact is.st2), (by first | exact Stable2.is _ | exact Stable2.ext (by apply isOwn.st) (by decide) | exact isOwn.st2), (by first | exact Stable2.is _ | exact Stable2.ext (by apply is.st) (by decide) | exact is.st2), trivial⟩
    case hfin =>
      intro vs W hE hS hf
      simp only [List.take_succ_cons, List.take_zero, List.drop_succ_cons, List.drop_zero, putAll, Act.put, List.setIfInBounds_toArray, List.set_cons_succ, List.set_cons_zero]
      simp [factsC, clsOf, is] at hf
      simp only [Nat.zero_add, Nat.reduceAdd, hf]
      obtain ⟨h0, h1, h2, h3, h4, h5, h6⟩ := hf
      obtain ⟨A5, c5, e5, hc51, hc52⟩ := own_form h5
      rw [e5] at h5 ⊢
      obtain ⟨hB04, hB14, hE4, hO4, hRb⟩ := H4.out
      have hB05 := hE.box hB04 (by omega)
      have hB15 := hE.box hB14 (by omega)
      have hE5 := hE.ext hE4 (by omega)
      have hcA := hB05.cell
      have hfA := hB05.free
      have hcB := hB15.cell
      have hfB := hB15.free
      simp only [List.length_cons, List.length_nil, Nat.zero_add, Nat.reduceAdd] at hcA hcB
      have hl5 := hB05.lt
      have hl6 := hB15.lt
      have H5 := Lib.hid (And.intro hB05 (And.intro hB15 (And.intro hE5 h5)))
      clear h0 h1 h2 h3 h4 h5 h6 e5 hB04 hB14 hE4 hO4 hRb hB05 hB15 hE5 hS hE hcN
      go_wp2
      have hc10 := hcB 0 (by decide)
      have hc11 := hcB 1 (by decide)
      refine bodyPost_ret (v := (.tuple #[qu k A5 L.length c5, .int .i64 (q : Nat)])) (by simp [results, Try.results38, go_sem, hc10, hc11]) rfl ?_
      obtain ⟨hB05, hB15, hE5, h5⟩ := H5.out
      have b0 := hB05.base
      have b1 := hB15.base
      have hO := own_setCell (own_setCell (own_setCell h5 (p := ⟨N, 1, none⟩) (show N < N + 2 by omega) (.slice A5 L.length c5)) (p := ⟨N + 1, 0, none⟩) (show N + 1 < N + 2 by omega) (.int .i64 k)) (p := ⟨N + 1, 1, none⟩) (show N + 1 < N + 2 by omega) (.slice A5 L.length c5)
      refine ⟨_, by rw [← HP.out], ?_, ((hE5.setCell (p := ⟨N, 1, none⟩) b0 _).setCell (p := ⟨N + 1, 0, none⟩) b1 _).setCell (p := ⟨N + 1, 1, none⟩) b1 _, FQ.of_base (own_base hO) (by have := HN.out; omega)⟩
      rw [← HP.out, ← HLL.out]
      exact ⟨A5, L.length, c5, rfl, own_row hO, hc51, hc52, own_nil hO⟩
theorem put_any (k : Int) (A : Option Addr) (n c : Nat) (l : List Int) (V : Option Addr) (m vc : Nat) (vs : List Value) (ls : List (List Int)) (w : World) (hr : Row w w.heap.size 1 A n (bytes l)) (hA : A = none → n = 0 ∧ c = 0) (hn : n ≤ 140737488355328)
    (hv : Row w w.heap.size 1 V m vs) (hvb : VB w vs ls) (hm : m ≤ 9223372036854775807) (hs : ls.flatten.length ≤ 140737488355328) (hn2 : n + 1000000 ≤ 140737488355328) :
    Calls Try.prog 38 #[qu k A n c, .slice V m vc] w (PutPost w k l ls.flatten) :=
  (put_fresh k A n c l V m vc vs ls w hr hA hn hv hvb hm hs hn2).mono fun _ _ ⟨v, h1, h2, h3, _⟩ => ⟨v, h1, h2, h3⟩
end Go.Proofs.Ytphbmibgnnobcaa
