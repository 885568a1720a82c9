/- Queues: Put of the reference. -/
import Derived.Test.YtphbmibgnnobcaaQueue6
set_option linter.unusedVariables false
namespace Go.Proofs.Ytphbmibgnnobcaa
open Go.RowKit Go.Rg

/-- An empty row of the call's own. -/
def isOwn0 (B : Nat) : Value → World → Prop := fun v w => ∃ b0, v = .slice (some b0) 0 0 ∧ w.ownsRow B 5 1 (.slice (some b0) 0 0) 0 []
theorem isOwn0.st (B : Nat) : Stable (isOwn0 B) := fun _ _ _ e ⟨b0, h1, h2⟩ => ⟨b0, h1, own_ext h2 e⟩
/-- A queue over a row of the call's own. -/
def isQu (B : Nat) (k : Int) (n : Nat) (xs : List Value) : Value → World → Prop := fun v w => ∃ A c, v = .agg #[.int .i64 k, .slice A n c] ∧ w.ownsRow B 5 1 (.slice A n c) n xs
theorem isQu.st (B : Nat) (k : Int) (n : Nat) (xs : List Value) : Stable (isQu B k n xs) := fun _ _ _ e ⟨A, c, h1, h2⟩ => ⟨A, c, h1, own_ext h2 e⟩
theorem isQu.mk {B : Nat} {k : Int} {n : Nat} {xs : List Value} {u : Value} {w : World} (h : isOwn B n xs u w) : isQu B k n xs (.agg #[.int .i64 k, u]) w := by
  obtain ⟨A, c, e, _, _⟩ := own_form h
  exact ⟨A, c, by rw [e], by rw [← e]; exact h⟩
/-- An append onto an empty literal. -/
theorem app_lit (w : World) (B n : Nat) (v : Value) (A1 : Option Addr) (c1 : Nat) (b : List Int) (i0 : TypeInfo) (hi : Try.prog.info? 5 = some i0) (hz0 : i0.zero = some (.int .u8 0)) (hz1 : i0.size = 1) (hz2 : i0.bytes = 1)
    {B' : Nat} (hO : isOwn0 B v w) (hR : Row w B' 1 A1 n (bytes b)) (hb : n ≤ 140737488355328) (hsz : B ≤ w.heap.size) (ty : TypeId) :
    ∃ v' w', (Builtin.append_ #[26, 26] ty #[v, .slice A1 n c1]).run Try.prog w = .ok v' w' ∧ Ext w w' ∧ isOwn B n (bytes b) v' w' := by
  obtain ⟨b0, rfl, hO⟩ := hO
  obtain ⟨v', w', hrun, h1, h2⟩ := app_empty w B 26 ty 5 i0 (.int .u8 0) 1 Try.underlying26 hi hz0 hz1 hz2 rfl b0 hO B' A1 n c1 (bytes b) hR (bytes_one b) (by unfold maxLen; omega) (by omega) hsz
  exact ⟨v', w', hrun, h2, h1⟩

set_option maxHeartbeats 2000000 in
theorem refPut_any (k : Int) (A : Option Addr) (n c : Nat) (l : List Int) (A1 : Option Addr) (m c1 : Nat) (b : List Int) (w : World) (hr : Row w w.heap.size 1 A n (bytes l)) (hA : A = none → n = 0 ∧ c = 0) (hc : n ≤ c) (hcm : c ≤ 9223372036854775807) (hn : n + 1000000 ≤ 140737488355328)
    (hb : Row w w.heap.size 1 A1 m (bytes b)) (hm : m ≤ 9223372036854775807) (hc1 : m ≤ c1) (hcm1 : c1 ≤ 9223372036854775807) :
    Calls Try.prog 39 #[qu k A n c, .slice A1 m c1] w (PutPost w k l b) := by
  obtain ⟨i0, hi, hz0, hz1, hz2⟩ := info_parts Try.infoByte
  have HA := Lib.hid hA
  have HL := Lib.hid (show l.length = n by have := hr.len; simpa using this)
  have HM := Lib.hid (show b.length = m by have := hb.len; simpa using this)
  have HR := Lib.hid hr
  have HB := Lib.hid hb
  clear hA hr hb
  by_cases hv : QOK k n
  · have hqb := qroom_bd k n
    have d : decide (QOK k n) = true := decide_eq_true hv
    have HV := Lib.hid d
    clear hv d
    go_enter Try.func39, Try.ntmps39
    go_wp2_with fail
    refine (refRoom_any k A n c _ (by omega)).mono ?_
    rintro e w1 ⟨rfl, hE1⟩
    obtain ⟨N, hN⟩ : ∃ N, N = w.heap.size := ⟨_, rfl⟩
    have hB0 : Box w.heap.size [.int .i64 k, .slice A n c] N w1 := by rw [hN]; exact ((Box.new w #[.int .i64 k, .slice A n c] 28 _ (Nat.le_refl _) rfl).ext ((Ext.refl _).alloc _)).ext hE1
    have hB1 : Box w.heap.size [.int .i64 0, .slice none 0 0] (N + 1) w1 := by
      have := (Box.new (N := w.heap.size) (w.alloc (.cells #[.int .i64 k, .slice A n c] 28)) #[.int .i64 0, .slice none 0 0] 28 _ (by simp) rfl).ext hE1
      rw [hN]; simpa using this
    have hE : Ext w w1 := (((Ext.refl w).alloc _).alloc _).trans hE1
    have HN := Lib.hid hN
    rw [← hN]
    clear hE1 hN
    obtain ⟨r, hr⟩ := Int.eq_ofNat_of_zero_le hqb.1
    rw [hr] at hqb ⊢
    have hr1 : r ≤ 1000000 := by omega
    have HQ := Lib.hid hr
    clear hr hqb
    obtain ⟨q, hq⟩ : ∃ q, q = min m r := ⟨_, rfl⟩
    have hqr : q ≤ r := by omega
    have hqm : q ≤ m := by omega
    have hqc : q ≤ c1 := by omega
    have HP := Lib.hid (show q = qput k l.length b.length by unfold qput; rw [HL.out, HQ.out, HM.out]; simpa using hq)
    have hc0 := hB0.cell
    have hf0 := hB0.free
    have hc1 := hB1.cell
    have hf1 := hB1.free
    have hl0 := hB0.lt
    have hl1 := hB1.lt
    simp only [List.length_cons, List.length_nil, Nat.zero_add, Nat.reduceAdd] at hc0 hc1
    have H1 := Lib.hid (And.intro hB0 (And.intro hB1 hE))
    clear hB0 hB1 hE
    rcases Nat.lt_or_ge r m with hlt | hlt
    · obtain rfl : q = r := by omega
      clear hq
      go_wp2_with fail
      refine (refValid_any k A n c _ (by omega)).mono ?_
      rw [HV.out]
      rintro e w2 ⟨rfl, hE2⟩
      obtain ⟨hB0, hB1, hE⟩ := H1.out
      have hB02 := hB0.ext hE2
      have hB12 := hB1.ext hE2
      have hEE := hE.trans hE2
      have hNs := hB0.base
      clear H1 hB0 hB1 hE hc0 hf0 hc1 hf1 hl0 hl1 hE2
      have hc02 := hB02.cell
      have hf02 := hB02.free
      have hc12 := hB12.cell
      have hf12 := hB12.free
      have hl02 := hB02.lt
      have hl12 := hB12.lt
      simp only [List.length_cons, List.length_nil, Nat.zero_add, Nat.reduceAdd] at hc02 hc12
      have hRl := HR.out.lift hEE
      have hRb := (HB.out.lift hEE).take q hqm
      rw [show (bytes b).take q = bytes (b.take q) by simp] at hRb
      have H2 := Lib.hid (And.intro hB02 (And.intro hB12 (And.intro hEE (And.intro hRl hRb))))
      clear hB02 hB12 hEE hRl hRb
      go_wp2_with fail
      have hcN0 := hc02 0 (by decide)
      have hcN1 := hc02 1 (by decide)
      simp only [List.getElem?_cons_zero, List.getElem?_cons_succ] at hcN0 hcN1
      obtain ⟨L, hL⟩ : ∃ L, L = l ++ b.take q := ⟨_, rfl⟩
      have hsz : N + 2 ≤ w2.heap.size := by omega
      have HAPP1 := Lib.hid (fun (W : World) (v : Value) (hX : Ext w2 W) (hO : isOwn0 (N + 2) v W) (ty : TypeId) => app_lit W (N + 2) n v A c l i0 hi hz0 hz1 hz2 hO (H2.out.2.2.2.1.lift hX) (by omega) (by have := hX.size; omega) ty)
      have HAPP2 := Lib.hid (fun (W : World) (v : Value) (hX : Ext w2 W) (hO : isOwn (N + 2) n (bytes l) v W) (ty : TypeId) => app_big W (N + 2) n q v A1 c1 l (b.take q) i0 hi hz0 hz1 hz2 hO (H2.out.2.2.2.2.lift hX) (by omega) (by have := hX.size; omega) ty)
      rw [← hL] at HAPP2
      have HLL := Lib.hid hL
      clear hL
      have hqc0 : (0 : Int) ≤ (q : Int) := by omega
      have hqc1 : (q : Int) ≤ (c1 : Int) := by omega
      apply wp_region_bigx 12 9 (N + 2) 5 [0, 0, 1, 0, 0, 1, 0, 0, 0, 2, 2, 0] (fun W => W.cell? ⟨N, 0, none⟩ = some (.int .i64 k) ∧ W.cell? ⟨N, 1, none⟩ = some (.slice A n c)) [is _, is _, isOwn0 (N + 2), is _, is _, isOwn (N + 2) n (bytes l), is _, is _, is _, isOwn (N + 2) L.length (bytes L), isQu (N + 2) k L.length (bytes L), is (.int .i64 (q : Nat))] 11 (.int .i64 (q : Nat)) _ (by kernel_rfl) (by kernel_rfl) (by kernel_rfl) rfl rfl rfl (fun _ _ _ h => h) (.inl ⟨rfl, fun _ => rfl⟩)
      case hS =>
        intro W hE
        exact ⟨(hE.cell (by simp) (by simp; omega)).trans hcN0, (hE.cell (by simp) (by simp; omega)).trans hcN1⟩
      case hops =>
        simp only [List.take_succ_cons, List.take_zero]
        refine ⟨?_, ?_, ?_, ?_, ?_, ?_, ?_, ?_, ?_, ?_, ?_, ?_, trivial⟩
        all_goals
          intro vs W hS hX hd
          have hcell0 := hS.1
          have hcell1 := hS.2
          clear hS
          simp only [putAll, Act.put, List.setIfInBounds_toArray, List.set_cons_succ, List.set_cons_zero, Nat.zero_add, Nat.reduceAdd]
          simp [depFactsC, clsOf, is, isRow, isRowN, isBox, dataE] at hd
          simp [clsOf] at hX
          simp only [Region.wanted, if_true, Nat.reduceEqDiff, if_false, reduceIte, Nat.reduceAdd, Nat.zero_ne_one, Nat.one_ne_zero, Nat.zero_add]
          try simp [yielded, hd]
        rotate_left 2
        refine Lock.out ?_
        rotate_left 3
        refine Lock.out ?_
        rotate_left 4
        refine Lock.out ?_
        rotate_left 1
        refine Lock.out ?_
        rotate_left 2
        all_goals
          try (
          with_reducible show comes _ _ _ _ _
          simp only [comes]
          try simp [yielded, hd, comes]
          go_simp
          try go_bits
          first
            | exact ⟨Ext.refl _, rfl⟩
            | exact rfl
            | exact ⟨(Ext.refl _).alloc _, _, rfl, Cells.new _ _ _ _ rfl⟩
          )
        · refine ⟨?_, trivial⟩
          simp only [comes]; go_simp; exact ⟨(Ext.refl _).alloc _, _, rfl, own_empty W (N + 2) _ (by have := hX.size; omega)⟩
        · refine ⟨?_, trivial⟩
          exact comes_app (.tmp 18) (.tmp 20) 26 rfl (vs 2) (.slice A n c) rfl rfl (HAPP1.out W (vs 2) hX hd.1 _)
        · refine ⟨?_, trivial⟩
          exact comes_app (.tmp 21) (.tmp 24) 26 rfl (vs 5) (.slice A1 q c1) rfl rfl (HAPP2.out W (vs 5) hX hd.1 _)
        · refine ⟨?_, trivial⟩
          (have h9 := hd.2; obtain ⟨A5, c5, e, _, _⟩ := own_form h9; rw [e] at h9 ⊢; simp only [comes]; go_simp; exact ⟨Ext.refl _, A5, c5, rfl, h9⟩)
      case hst => exact ⟨(by first | exact Stable2.is _ | exact Stable2.ext (by apply is.st) (by decide) | exact is.st2), (by first | exact Stable2.is _ | exact Stable2.ext (by apply is.st) (by decide) | exact is.st2), (by first | exact Stable2.is _ | exact Stable2.ext (by apply isOwn0.st) (by decide) | exact isOwn0.st2), (by first | exact Stable2.is _ | exact Stable2.ext (by apply is.st) (by decide) | exact is.st2), (by first | exact Stable2.is _ | exact Stable2.ext (by apply is.st) (by decide) | exact is.st2), (by first | exact Stable2.is _ | exact Stable2.ext (by apply isOwn.st) (by decide) | exact isOwn.st2), (by first | exact Stable2.is _ | exact Stable2.ext (by apply is.st) (by decide) | exact is.st2), (by first | exact Stable2.is _ | exact Stable2.ext (by apply is.st) (by decide) | exact is.st2), (by first | exact Stable2.is _ | exact Stable2.ext (by apply is.st) (by decide) | exact is.st2), (by first | exact Stable2.is _ | exact Stable2.ext (by apply isOwn.st) (by decide) | exact isOwn.st2), (by first | exact Stable2.is _ | exact Stable2.ext (by apply isQu.st) (by decide) | exact isQu.st2), (by first | exact Stable2.is _ | exact Stable2.ext (by apply is.st) (by decide) | exact is.st2), trivial⟩
      case hfin =>
        intro vs W hE hS hf
        simp only [List.take_succ_cons, List.take_zero, List.drop_succ_cons, List.drop_zero, putAll, Act.put, List.setIfInBounds_toArray, List.set_cons_succ, List.set_cons_zero]
        simp [factsC, clsOf, is] at hf
        simp only [Nat.zero_add, Nat.reduceAdd, hf]
        obtain ⟨h0, h1, h3, h4, h6, h7, h8, h9, ⟨A5, c5, h10, hO⟩, h11⟩ := hf
        rw [h10]
        obtain ⟨hB04, hB14, hE4, hO4, hRb⟩ := H2.out
        have hB15 := hE.box hB14 (by omega)
        have hE5 := hE.ext hE4 (by omega)
        obtain ⟨_, _, e5, hc51, hc52⟩ := own_form hO
        injection e5 with e5 e6 e7
        subst e5 e7
        have hc10 := hB15.cell 0 (by decide)
        have hc11 := hB15.cell 1 (by decide)
        have hf1 := hB15.free
        have hl1 := hB15.lt
        simp only [List.getElem?_cons_zero, List.getElem?_cons_succ] at hc10 hc11
        have H5 := Lib.hid (And.intro hB15 (And.intro hE5 hO))
        clear h0 h1 h3 h4 h6 h7 h8 h9 h10 h11 hB04 hB14 hE4 hO4 hRb hB15 hE5 hS hE hcN0 hcN1 hO
        go_wp2
        refine bodyPost_ret (v := (.tuple #[qu k A5 L.length c5, .int .i64 (q : Nat)])) (by simp [results, Try.results39, go_sem, hc10, hc11]) rfl ?_
        obtain ⟨hB15, hE5, hO⟩ := H5.out
        have b1 := hB15.base
        have hO2 := own_setCell (own_setCell hO (p := ⟨N + 1, 0, none⟩) (show N + 1 < N + 2 by omega) (.int .i64 k)) (p := ⟨N + 1, 1, none⟩) (show N + 1 < N + 2 by omega) (.slice A5 L.length c5)
        refine ⟨_, by rw [← HP.out], ?_, (hE5.setCell (p := ⟨N + 1, 0, none⟩) b1 _).setCell (p := ⟨N + 1, 1, none⟩) b1 _⟩
        rw [← HP.out, ← HLL.out]
        exact ⟨A5, L.length, c5, rfl, own_row hO2, hc51, hc52, own_nil hO2⟩
    · obtain rfl : q = m := by omega
      clear hq
      go_wp2_with fail
      refine (refValid_any k A n c _ (by omega)).mono ?_
      rw [HV.out]
      rintro e w2 ⟨rfl, hE2⟩
      obtain ⟨hB0, hB1, hE⟩ := H1.out
      have hB02 := hB0.ext hE2
      have hB12 := hB1.ext hE2
      have hEE := hE.trans hE2
      have hNs := hB0.base
      clear H1 hB0 hB1 hE hc0 hf0 hc1 hf1 hl0 hl1 hE2
      have hc02 := hB02.cell
      have hf02 := hB02.free
      have hc12 := hB12.cell
      have hf12 := hB12.free
      have hl02 := hB02.lt
      have hl12 := hB12.lt
      simp only [List.length_cons, List.length_nil, Nat.zero_add, Nat.reduceAdd] at hc02 hc12
      have hRl := HR.out.lift hEE
      have hRb := (HB.out.lift hEE).take q hqm
      rw [show (bytes b).take q = bytes (b.take q) by simp] at hRb
      have H2 := Lib.hid (And.intro hB02 (And.intro hB12 (And.intro hEE (And.intro hRl hRb))))
      clear hB02 hB12 hEE hRl hRb
      go_wp2_with fail
      have hcN0 := hc02 0 (by decide)
      have hcN1 := hc02 1 (by decide)
      simp only [List.getElem?_cons_zero, List.getElem?_cons_succ] at hcN0 hcN1
      obtain ⟨L, hL⟩ : ∃ L, L = l ++ b.take q := ⟨_, rfl⟩
      have hsz : N + 2 ≤ w2.heap.size := by omega
      have HAPP1 := Lib.hid (fun (W : World) (v : Value) (hX : Ext w2 W) (hO : isOwn0 (N + 2) v W) (ty : TypeId) => app_lit W (N + 2) n v A c l i0 hi hz0 hz1 hz2 hO (H2.out.2.2.2.1.lift hX) (by omega) (by have := hX.size; omega) ty)
      have HAPP2 := Lib.hid (fun (W : World) (v : Value) (hX : Ext w2 W) (hO : isOwn (N + 2) n (bytes l) v W) (ty : TypeId) => app_big W (N + 2) n q v A1 c1 l (b.take q) i0 hi hz0 hz1 hz2 hO (H2.out.2.2.2.2.lift hX) (by omega) (by have := hX.size; omega) ty)
      rw [← hL] at HAPP2
      have HLL := Lib.hid hL
      clear hL
      have hqc0 : (0 : Int) ≤ (q : Int) := by omega
      have hqc1 : (q : Int) ≤ (c1 : Int) := by omega
      apply wp_region_bigx 12 9 (N + 2) 5 [0, 0, 1, 0, 0, 1, 0, 0, 0, 2, 2, 0] (fun W => W.cell? ⟨N, 0, none⟩ = some (.int .i64 k) ∧ W.cell? ⟨N, 1, none⟩ = some (.slice A n c)) [is _, is _, isOwn0 (N + 2), is _, is _, isOwn (N + 2) n (bytes l), is _, is _, is _, isOwn (N + 2) L.length (bytes L), isQu (N + 2) k L.length (bytes L), is (.int .i64 (q : Nat))] 11 (.int .i64 (q : Nat)) _ (by kernel_rfl) (by kernel_rfl) (by kernel_rfl) rfl rfl rfl (fun _ _ _ h => h) (.inl ⟨rfl, fun _ => rfl⟩)
      case hS =>
        intro W hE
        exact ⟨(hE.cell (by simp) (by simp; omega)).trans hcN0, (hE.cell (by simp) (by simp; omega)).trans hcN1⟩
      case hops =>
        simp only [List.take_succ_cons, List.take_zero]
        refine ⟨?_, ?_, ?_, ?_, ?_, ?_, ?_, ?_, ?_, ?_, ?_, ?_, trivial⟩
        all_goals
          intro vs W hS hX hd
          have hcell0 := hS.1
          have hcell1 := hS.2
          clear hS
          simp only [putAll, Act.put, List.setIfInBounds_toArray, List.set_cons_succ, List.set_cons_zero, Nat.zero_add, Nat.reduceAdd]
          simp [depFactsC, clsOf, is, isRow, isRowN, isBox, dataE] at hd
          simp [clsOf] at hX
          simp only [Region.wanted, if_true, Nat.reduceEqDiff, if_false, reduceIte, Nat.reduceAdd, Nat.zero_ne_one, Nat.one_ne_zero, Nat.zero_add]
          try simp [yielded, hd]
        rotate_left 2
        refine Lock.out ?_
        rotate_left 3
        refine Lock.out ?_
        rotate_left 4
        refine Lock.out ?_
        rotate_left 1
        refine Lock.out ?_
        rotate_left 2
        all_goals
          try (
          with_reducible show comes _ _ _ _ _
          simp only [comes]
          try simp [yielded, hd, comes]
          go_simp
          try go_bits
          first
            | exact ⟨Ext.refl _, rfl⟩
            | exact rfl
            | exact ⟨(Ext.refl _).alloc _, _, rfl, Cells.new _ _ _ _ rfl⟩
          )
        · refine ⟨?_, trivial⟩
          simp only [comes]; go_simp; exact ⟨(Ext.refl _).alloc _, _, rfl, own_empty W (N + 2) _ (by have := hX.size; omega)⟩
        · refine ⟨?_, trivial⟩
          exact comes_app (.tmp 18) (.tmp 20) 26 rfl (vs 2) (.slice A n c) rfl rfl (HAPP1.out W (vs 2) hX hd.1 _)
        · refine ⟨?_, trivial⟩
          exact comes_app (.tmp 21) (.tmp 24) 26 rfl (vs 5) (.slice A1 q c1) rfl rfl (HAPP2.out W (vs 5) hX hd.1 _)
        · refine ⟨?_, trivial⟩
          (have h9 := hd.2; obtain ⟨A5, c5, e, _, _⟩ := own_form h9; rw [e] at h9 ⊢; simp only [comes]; go_simp; exact ⟨Ext.refl _, A5, c5, rfl, h9⟩)
      case hst => exact ⟨(by first | exact Stable2.is _ | exact Stable2.ext (by apply is.st) (by decide) | exact is.st2), (by first | exact Stable2.is _ | exact Stable2.ext (by apply is.st) (by decide) | exact is.st2), (by first | exact Stable2.is _ | exact Stable2.ext (by apply isOwn0.st) (by decide) | exact isOwn0.st2), (by first | exact Stable2.is _ | exact Stable2.ext (by apply is.st) (by decide) | exact is.st2), (by first | exact Stable2.is _ | exact Stable2.ext (by apply is.st) (by decide) | exact is.st2), (by first | exact Stable2.is _ | exact Stable2.ext (by apply isOwn.st) (by decide) | exact isOwn.st2), (by first | exact Stable2.is _ | exact Stable2.ext (by apply is.st) (by decide) | exact is.st2), (by first | exact Stable2.is _ | exact Stable2.ext (by apply is.st) (by decide) | exact is.st2), (by first | exact Stable2.is _ | exact Stable2.ext (by apply is.st) (by decide) | exact is.st2), (by first | exact Stable2.is _ | exact Stable2.ext (by apply isOwn.st) (by decide) | exact isOwn.st2), (by first | exact Stable2.is _ | exact Stable2.ext (by apply isQu.st) (by decide) | exact isQu.st2), (by first | exact Stable2.is _ | exact Stable2.ext (by apply is.st) (by decide) | exact is.st2), trivial⟩
      case hfin =>
        intro vs W hE hS hf
        simp only [List.take_succ_cons, List.take_zero, List.drop_succ_cons, List.drop_zero, putAll, Act.put, List.setIfInBounds_toArray, List.set_cons_succ, List.set_cons_zero]
        simp [factsC, clsOf, is] at hf
        simp only [Nat.zero_add, Nat.reduceAdd, hf]
        obtain ⟨h0, h1, h3, h4, h6, h7, h8, h9, ⟨A5, c5, h10, hO⟩, h11⟩ := hf
        rw [h10]
        obtain ⟨hB04, hB14, hE4, hO4, hRb⟩ := H2.out
        have hB15 := hE.box hB14 (by omega)
        have hE5 := hE.ext hE4 (by omega)
        obtain ⟨_, _, e5, hc51, hc52⟩ := own_form hO
        injection e5 with e5 e6 e7
        subst e5 e7
        have hc10 := hB15.cell 0 (by decide)
        have hc11 := hB15.cell 1 (by decide)
        have hf1 := hB15.free
        have hl1 := hB15.lt
        simp only [List.getElem?_cons_zero, List.getElem?_cons_succ] at hc10 hc11
        have H5 := Lib.hid (And.intro hB15 (And.intro hE5 hO))
        clear h0 h1 h3 h4 h6 h7 h8 h9 h10 h11 hB04 hB14 hE4 hO4 hRb hB15 hE5 hS hE hcN0 hcN1 hO
        go_wp2
        refine bodyPost_ret (v := (.tuple #[qu k A5 L.length c5, .int .i64 (q : Nat)])) (by simp [results, Try.results39, go_sem, hc10, hc11]) rfl ?_
        obtain ⟨hB15, hE5, hO⟩ := H5.out
        have b1 := hB15.base
        have hO2 := own_setCell (own_setCell hO (p := ⟨N + 1, 0, none⟩) (show N + 1 < N + 2 by omega) (.int .i64 k)) (p := ⟨N + 1, 1, none⟩) (show N + 1 < N + 2 by omega) (.slice A5 L.length c5)
        refine ⟨_, by rw [← HP.out], ?_, (hE5.setCell (p := ⟨N + 1, 0, none⟩) b1 _).setCell (p := ⟨N + 1, 1, none⟩) b1 _⟩
        rw [← HP.out, ← HLL.out]
        exact ⟨A5, L.length, c5, rfl, own_row hO2, hc51, hc52, own_nil hO2⟩
  · have d : decide (QOK k n) = false := decide_eq_false hv
    have HZ := Lib.hid (show qroom k n = 0 by unfold qroom; rw [if_neg hv])
    have HV := Lib.hid d
    clear hv d
    rcases Nat.eq_zero_or_pos m with h0 | h0
    · subst h0
      go_enter Try.func39, Try.ntmps39
      go_wp2_with fail
      refine (refRoom_any k A n c _ (by omega)).mono ?_
      rw [HZ.out]
      rintro e w1 ⟨rfl, hE1⟩
      obtain ⟨x, rfl⟩ := hE1.plus
      clear hE1
      go_wp2_with fail
      refine (refValid_any k A n c _ (by omega)).mono ?_
      rw [HV.out]
      rintro e w2 ⟨rfl, hE2⟩
      obtain ⟨x2, rfl⟩ := hE2.plus
      clear hE2
      go_wp2
      refine bodyPost_ret (v := (.tuple #[qu k A n c, .int .i64 0])) (by simp [results, Try.results39, go_sem]) rfl ?_
      have HP : 0 = qput k l.length b.length := by unfold qput; rw [HL.out, HZ.out]; simp
      refine ⟨_, by rw [← HP]; rfl, ?_, (by repeat (first | exact Ext.refl _ | assumption | apply Ext.plus_ | apply Ext.alloc | apply Ext.drew))⟩
      rw [← HP, List.take_zero, List.append_nil]
      refine ⟨A, n, c, rfl, HR.out.lift (by repeat (first | exact Ext.refl _ | assumption | apply Ext.plus_ | apply Ext.alloc | apply Ext.drew)), hc, hcm, HA.out⟩
    · go_enter Try.func39, Try.ntmps39
      go_wp2_with fail
      refine (refRoom_any k A n c _ (by omega)).mono ?_
      rw [HZ.out]
      rintro e w1 ⟨rfl, hE1⟩
      obtain ⟨x, rfl⟩ := hE1.plus
      clear hE1
      go_wp2_with fail
      refine (refValid_any k A n c _ (by omega)).mono ?_
      rw [HV.out]
      rintro e w2 ⟨rfl, hE2⟩
      obtain ⟨x2, rfl⟩ := hE2.plus
      clear hE2
      go_wp2
      refine bodyPost_ret (v := (.tuple #[qu k A n c, .int .i64 0])) (by simp [results, Try.results39, go_sem]) rfl ?_
      have HP : 0 = qput k l.length b.length := by unfold qput; rw [HL.out, HZ.out]; simp
      refine ⟨_, by rw [← HP]; rfl, ?_, (by repeat (first | exact Ext.refl _ | assumption | apply Ext.plus_ | apply Ext.alloc | apply Ext.drew))⟩
      rw [← HP, List.take_zero, List.append_nil]
      refine ⟨A, n, c, rfl, HR.out.lift (by repeat (first | exact Ext.refl _ | assumption | apply Ext.plus_ | apply Ext.alloc | apply Ext.drew)), hc, hcm, HA.out⟩
end Go.Proofs.Ytphbmibgnnobcaa
