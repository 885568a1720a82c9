/- WindowNever: the walk -/
import Derived.Test.YtngokfaaaeikoaaLawTick
namespace Go.Proofs.Ytngokfaaaeikoaa
open Go.RowKit Go.Rg

theorem cap2_eq (x y : Int) (hx : 0 ≤ x) (hx' : x ≤ 1000000000) (hy : 0 ≤ y) : cap2 x y = min (x + y) 1000000000 := by
  unfold cap2
  rw [addTo_succ 1000000000 [x, y] 1 y rfl, addTo_succ 1000000000 [x, y] 0 x rfl]
  simp [addTo]
  omega
theorem bit_bd (b : Bool) : 0 ≤ bit b ∧ bit b ≤ 1 := by cases b <;> simp [bit]
theorem Row.bool_at {w : World} {B : Nat} {A : Option Addr} {n : Nat} {l : List Bool} (h : Row w B 1 A n (l.map Value.bool)) {k : Nat} (hk : k < n) :
    ∃ b o z, A = some ⟨b, o, none⟩ ∧ b < B ∧ l[k]? = some z ∧ w.cell? ⟨b, o + k, none⟩ = some (.bool z) := by
  obtain ⟨b, o, e, hb, hc⟩ := h.2 (by omega)
  have hl := h.1
  have hk' : k < l.length := by simp at hl; omega
  exact ⟨b, o, l[k], e, hb, by simp [hk'], hc k _ (by simp [hk'])⟩
theorem Row.cut {w : World} {B m n : Nat} {A : Option Addr} {xs : List Value} (h : Row w B 1 A n xs) (hm : m ≤ n) : Row w B 1 A m (xs.take m) := by
  refine ⟨by have := h.1; simp; omega, fun h0 => ?_⟩
  obtain ⟨b, o, e, hb, hc⟩ := h.2 (by omega)
  exact ⟨b, o, e, hb, fun j u hu => hc j u (by
    rw [List.getElem?_take] at hu
    split at hu
    · exact hu
    · cases hu)⟩

/-- The walk behind the cut of m: n is at most 100. -/
def NeverRel (w : World) (n : Nat) (a : Int) (i : Value) (wr : World) : Prop :=
  ∃ (k : Nat) (t e : Int) (x : Array Obj × Nat), k ≤ n ∧ i = .int .i64 k ∧ 0 ≤ e ∧ e ≤ t ∧ t ≤ 1000000000 ∧ wr = (w.alloc (.cells #[.int .i64 t, .int .i64 e, .int .i64 a] 23)).plus x

set_option maxHeartbeats 1000000 in
theorem never_walk (t e a : Int) (A : Option Addr) (n c : Nat) (l : List Bool) (w : World) (ha : ArgRow w A n c (l.map Value.bool)) :
    Calls Try.prog 4 #[win t e a, .slice A n c] w fun ee w' => ee = .returned (.bool true) ∧ Ext w w' := by
  obtain ⟨hrow, hnc, hcm, hnil⟩ := ha
  obtain ⟨t', ht⟩ : ∃ t', t' = t % 50 := ⟨_, rfl⟩
  have hb1 : 0 ≤ t' := by omega
  have hb2 : t' < 50 := by omega
  have C1 := Lib.hid (fun w => within_any t 50 w (by decide) (by decide))
  rw [← ht] at C1
  clear ht
  by_cases hn : 100 < n
  · have HR := Lib.hid (hrow.cut (show 100 ≤ n by omega))
    rw [← List.map_take] at HR
    have hd : decide ((100 : Int) < (n : Int)) = true := by simp; omega
    clear hrow hnil
    go_enter Try.func4, Try.ntmps4
    go_wp2_with fail
    refine (C1.out _).mono ?_
    rintro e w' ⟨rfl, rfl⟩
    go_wp2_with fail
    clear C1
    go_loopw [5] (fun i wr => NeverRel w 100 a i wr) (fun i _ => 100 - (intOf i).toNat)
    case atStart => exact ⟨0, _, _, _, Nat.zero_le _, rfl, by omega, by omega, by omega, World.plus_self _⟩
    case round =>
      obtain ⟨k, t, e, x, hk, rfl, h0, h1, h2, rfl⟩ := hrel
      by_cases hlt : k < 100
      · obtain ⟨b, o, z, rfl, hb, hz, hcell⟩ := HR.out.bool_at hlt
        have q1 := cap2_eq t 1 (by omega) (by omega) (by omega)
        have q2 := cap2_eq e (bit z) (by omega) (by omega) (bit_bd z).1
        have q3 := bit_bd z
        have r1 : t ≤ cap2 t 1 := by omega
        have r2 : e ≤ cap2 e (bit z) := by omega
        have r3 : cap2 t 1 ≤ 1000000000 := by omega
        have r4 : cap2 e (bit z) ≤ cap2 t 1 := by omega
        clear q1 q2 q3 hz HR
        go_wp2_with fail
        apply wp_region_ext 7 [is _, is _, is _, is _, is _, is (win (cap2 t 1) (cap2 e (bit z)) a), isBox (w.heap.size + 1) [.int .i64 0, .int .i64 0, .int .i64 0]] (by kernel_rfl) (by kernel_rfl) rfl
        case hops =>
          simp only [List.take_succ_cons, List.take_zero]
          refine ⟨?_, ?_, ?_, ?_, ?_, ?_, ?_, trivial⟩
          all_goals
            intro vs x hd
            simp only [putAll, Act.put, List.setIfInBounds_toArray, List.set_cons_succ, List.set_cons_zero, Nat.zero_add, Nat.reduceAdd]
            simp [depFacts, is, isRow, isRowN, isBox, dataE] at hd
            try simp only [World.plus_plus] at hd
            simp only [Region.wanted, if_true, comes]
            try simp [yielded, hd, comes]
            go_simp
            try go_bits
            first
              | exact ⟨Ext.refl _, rfl⟩
              | exact ⟨(Ext.refl _).alloc _, _, rfl, Cells.new _ _ _ _ rfl⟩
              | exact ⟨(Ext.refl _).alloc _, _, rfl, Box.new _ _ _ _ (by simp [World.le_plus]) rfl⟩
              | (refine (count_any t e a z _).mono ?_; rintro e w' ⟨rfl, hE⟩; exact ⟨_, rfl, hE, rfl⟩)
        case hst => exact ⟨(by apply is.st), (by apply is.st), (by apply is.st), (by apply is.st), (by apply is.st), (by apply is.st), (by apply isBox.st), trivial⟩
        case hfin =>
          intro vs x hf
          try simp only [World.plus_plus] at hf ⊢
          simp only [List.take_succ_cons, List.take_zero, List.drop_succ_cons, List.drop_zero, putAll, Act.put, List.setIfInBounds_toArray, List.set_cons_succ, List.set_cons_zero]
          simp only [facts, is, Nat.zero_add, Nat.reduceAdd] at hf
          have f6 := hf.2.2.2.2.2.2.1
          simp only [Nat.zero_add, Nat.reduceAdd, hf]
          clear hf
          obtain ⟨bb, hv, hbox⟩ := f6
          have hbc := hbox.cell
          have hbf := hbox.free
          have hbN := hbox.base
          have hbl := hbox.lt
          simp only [hv]
          clear hv hbox
          go_wp2
          go_roundw
          case rel => exact ⟨k + 1, _, _, _, by omega, by go_num, by omega, by omega, by omega, rfl⟩
          case measure => simp [intOf]; omega
      · go_wp2_with fail
        refine (awake_any _).mono ?_
        rintro e w' ⟨rfl, hE⟩
        obtain ⟨x, rfl⟩ := hE.plus
        clear hE
        go_wp2_with fail
        go_ret
        refine ⟨rfl, ?_⟩
        repeat (first | exact Ext.refl _ | apply Ext.drew | apply Ext.drewN | apply Ext.plus_ | apply Ext.alloc | assumption)
  · have HR := Lib.hid hrow
    have hn' : n ≤ 100 := by omega
    have hd : decide ((100 : Int) < (n : Int)) = false := by simp; omega
    clear hrow hnil hn
    go_enter Try.func4, Try.ntmps4
    go_wp2_with fail
    refine (C1.out _).mono ?_
    rintro e w' ⟨rfl, rfl⟩
    go_wp2_with fail
    clear C1
    go_loopw [5] (fun i wr => NeverRel w n a i wr) (fun i _ => n - (intOf i).toNat)
    case atStart => exact ⟨0, _, _, _, Nat.zero_le _, rfl, by omega, by omega, by omega, World.plus_self _⟩
    case round =>
      obtain ⟨k, t, e, x, hk, rfl, h0, h1, h2, rfl⟩ := hrel
      by_cases hlt : k < n
      · obtain ⟨b, o, z, rfl, hb, hz, hcell⟩ := HR.out.bool_at hlt
        have q1 := cap2_eq t 1 (by omega) (by omega) (by omega)
        have q2 := cap2_eq e (bit z) (by omega) (by omega) (bit_bd z).1
        have q3 := bit_bd z
        have r1 : t ≤ cap2 t 1 := by omega
        have r2 : e ≤ cap2 e (bit z) := by omega
        have r3 : cap2 t 1 ≤ 1000000000 := by omega
        have r4 : cap2 e (bit z) ≤ cap2 t 1 := by omega
        clear q1 q2 q3 hz HR
        go_wp2_with fail
        apply wp_region_ext 7 [is _, is _, is _, is _, is _, is (win (cap2 t 1) (cap2 e (bit z)) a), isBox (w.heap.size + 1) [.int .i64 0, .int .i64 0, .int .i64 0]] (by kernel_rfl) (by kernel_rfl) rfl
        case hops =>
          simp only [List.take_succ_cons, List.take_zero]
          refine ⟨?_, ?_, ?_, ?_, ?_, ?_, ?_, trivial⟩
          all_goals
            intro vs x hd
            simp only [putAll, Act.put, List.setIfInBounds_toArray, List.set_cons_succ, List.set_cons_zero, Nat.zero_add, Nat.reduceAdd]
            simp [depFacts, is, isRow, isRowN, isBox, dataE] at hd
            try simp only [World.plus_plus] at hd
            simp only [Region.wanted, if_true, comes]
            try simp [yielded, hd, comes]
            go_simp
            try go_bits
            first
              | exact ⟨Ext.refl _, rfl⟩
              | exact ⟨(Ext.refl _).alloc _, _, rfl, Cells.new _ _ _ _ rfl⟩
              | exact ⟨(Ext.refl _).alloc _, _, rfl, Box.new _ _ _ _ (by simp [World.le_plus]) rfl⟩
              | (refine (count_any t e a z _).mono ?_; rintro e w' ⟨rfl, hE⟩; exact ⟨_, rfl, hE, rfl⟩)
        case hst => exact ⟨(by apply is.st), (by apply is.st), (by apply is.st), (by apply is.st), (by apply is.st), (by apply is.st), (by apply isBox.st), trivial⟩
        case hfin =>
          intro vs x hf
          try simp only [World.plus_plus] at hf ⊢
          simp only [List.take_succ_cons, List.take_zero, List.drop_succ_cons, List.drop_zero, putAll, Act.put, List.setIfInBounds_toArray, List.set_cons_succ, List.set_cons_zero]
          simp only [facts, is, Nat.zero_add, Nat.reduceAdd] at hf
          have f6 := hf.2.2.2.2.2.2.1
          simp only [Nat.zero_add, Nat.reduceAdd, hf]
          clear hf
          obtain ⟨bb, hv, hbox⟩ := f6
          have hbc := hbox.cell
          have hbf := hbox.free
          have hbN := hbox.base
          have hbl := hbox.lt
          simp only [hv]
          clear hv hbox
          go_wp2
          go_roundw
          case rel => exact ⟨k + 1, _, _, _, by omega, by go_num, by omega, by omega, by omega, rfl⟩
          case measure => simp [intOf]; omega
      · go_wp2_with fail
        refine (awake_any _).mono ?_
        rintro e w' ⟨rfl, hE⟩
        obtain ⟨x, rfl⟩ := hE.plus
        clear hE
        go_wp2_with fail
        go_ret
        refine ⟨rfl, ?_⟩
        repeat (first | exact Ext.refl _ | apply Ext.drew | apply Ext.drewN | apply Ext.plus_ | apply Ext.alloc | assumption)

theorem law_never (v0 v1 : Value) (w : World) (p0 : ∃ t e a, v0 = win t e a ∧ I64 t ∧ I64 e ∧ I64 a) (p1 : ∃ A n c, ∃ l : List Bool, v1 = .slice A n c ∧ ArgRow w A n c (l.map Value.bool)) :
    Calls Try.prog 4 #[v0, v1] w fun ee w' => ee = .returned (.bool true) ∧ Ext w w' := by
  obtain ⟨t, e, a, rfl, _, _, _⟩ := p0
  obtain ⟨A, n, c, l, rfl, h⟩ := p1
  exact never_walk t e a A n c l w h
end Go.Proofs.Ytngokfaaaeikoaa
