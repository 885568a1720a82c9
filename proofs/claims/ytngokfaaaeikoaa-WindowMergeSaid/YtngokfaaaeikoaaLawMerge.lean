/- WindowMerge: the walk -/
import Derived.Test.YtngokfaaaeikoaaMerge
namespace Go.Proofs.Ytngokfaaaeikoaa
open Go.RowKit Go.Rg

theorem count_small (t e a : Int) (bad : Bool) (w : World) (h0 : 0 ≤ t) (h1 : t ≤ 1000) (h2 : 0 ≤ e) (h3 : e ≤ 1000) :
    Calls Try.prog 11 #[win t e a, .bool bad] w fun ee w' => ee = .returned (win (t + 1) (e + bit bad) a) ∧ Ext w w' := by
  have hb := bit_bd bad
  refine (count_any t e a bad w).mono fun ee w' h => ?_
  rw [cap2_eq t 1 h0 (by omega) (by omega), cap2_eq e (bit bad) h2 (by omega) hb.1] at h
  rw [show min (t + 1) 1000000000 = t + 1 by omega, show min (e + bit bad) 1000000000 = e + bit bad by omega] at h
  exact h

theorem merge_two (t1 e1 t2 e2 : Int) (b : Nat) (w : World) (hb : Cells w b [.int .i64 t1, .int .i64 e1, .int .i64 0, .int .i64 t2, .int .i64 e2, .int .i64 0])
    (h0 : 0 ≤ t1) (h1 : t1 ≤ 1000) (h2 : 0 ≤ e1) (h3 : e1 ≤ 1000) (g0 : 0 ≤ t2) (g1 : t2 ≤ 1000) (g2 : 0 ≤ e2) (g3 : e2 ≤ 1000) :
    Calls Try.prog 12 #[.slice (some ⟨b, 0, none⟩) 2 2] w fun ee w' => ee = .returned (win (t1 + t2) (e1 + e2) 0) ∧ Ext w w' := by
  refine (merge_any (some ⟨b, 0, none⟩) 2 2 [(t1, e1, 0), (t2, e2, 0)] w ⟨rfl, fun _ => ⟨b, 0, rfl, hb.1, fun j u hu => by simpa using hb.2 j u hu⟩⟩ (by decide)).mono fun ee w' h => ?_
  rw [mT_succ _ 1 (t2, e2, 0) rfl, mT_succ _ 0 (t1, e1, 0) rfl, mE_succ _ 1 (t2, e2, 0) rfl, mE_succ _ 0 (t1, e1, 0) rfl] at h
  have z1 : mT [(t1, e1, 0), (t2, e2, 0)] 0 = 0 := rfl
  have z2 : mE [(t1, e1, 0), (t2, e2, 0)] 0 = 0 := rfl
  rw [z1, z2, cap2_eq 0 t1 (by omega) (by omega) h0, cap2_eq 0 e1 (by omega) (by omega) h2] at h
  rw [show min (0 + t1) 1000000000 = t1 by omega, show min (0 + e1) 1000000000 = e1 by omega] at h
  rw [cap2_eq t1 t2 (by omega) (by omega) (by omega), cap2_eq e1 e2 (by omega) (by omega) (by omega)] at h
  rw [show min (t1 + t2) 1000000000 = t1 + t2 by omega, show min (e1 + e2) 1000000000 = e1 + e2 by omega] at h
  exact h

theorem Row.cut3 {w : World} {B m n : Nat} {A : Option Addr} {ws : List W3} (h : Row w B 3 A n (wcells ws)) (hm : m ≤ n) : Row w B 3 A m (wcells (ws.take m)) := by
  have hl := h.1
  rw [wcells_len] at hl
  refine ⟨by rw [wcells_len]; simp; omega, fun h0 => ?_⟩
  obtain ⟨b, o, e, hb, hc⟩ := h.2 (by omega)
  refine ⟨b, o, e, hb, fun j u hu => ?_⟩
  have hj : j < (wcells (ws.take m)).length := (List.getElem?_eq_some_iff.1 hu).1
  rw [wcells_len] at hj
  simp only [List.length_take] at hj
  have hk : j / 3 < ws.length := by omega
  have hat : (ws.take m)[j / 3]? = some ws[j / 3] := by
    rw [List.getElem?_take, if_pos (by omega)]; exact List.getElem?_eq_getElem hk
  have e1 := wcells_at (ws.take m) (j / 3) (j % 3) _ hat (by omega)
  have e2 := wcells_at ws (j / 3) (j % 3) _ (List.getElem?_eq_getElem hk) (by omega)
  rw [show j / 3 * 3 + j % 3 = j by omega] at e1 e2
  exact hc j u (by rw [e2, ← e1]; exact hu)

theorem Row.lift {w W : World} {s n : Nat} {A : Option Addr} {xs : List Value} (h : Row w w.heap.size s A n xs) (e : Ext w W) : Row W W.heap.size s A n xs := (h.below e).more e.size

/-- The state of the loop: a has ta samples, b has tb, all of them are in the third. -/
def LoopRel (w : World) (n : Nat) (K : Int) (i : Value) (wr : World) : Prop :=
  ∃ (k : Nat) (ta ea tb eb : Int) (x : Array Obj × Nat), k ≤ n ∧ i = .int .i64 k ∧ Hid (ta + tb = k) ∧ 0 ≤ ta ∧ 0 ≤ tb ∧ 0 ≤ ea ∧ 0 ≤ eb ∧ ea ≤ ta ∧ eb ≤ tb ∧
    wr = (((w.alloc (.cells #[.int .i64 ta, .int .i64 ea, .int .i64 0] 23)).alloc (.cells #[.int .i64 tb, .int .i64 eb, .int .i64 0] 23)).alloc (.cells #[.int .i64 (ta + tb), .int .i64 (ea + eb), .int .i64 0] 23)).plus x


set_option maxHeartbeats 2000000 in
theorem lm_ss (A : Option Addr) (n c : Nat) (l : List Bool) (B : Option Addr) (p d : Nat) (ws : List W3) (t : Int) (w : World) (hA : Row w w.heap.size 1 A n (l.map Value.bool)) (hB : Row w w.heap.size 3 B p (wcells ws)) (hn : n ≤ 100) (hp : p ≤ 30) (hc : n ≤ c) (hcd : p ≤ d) (hcm : c ≤ 9223372036854775807) (hdm : d ≤ 9223372036854775807) :
    Calls Try.prog 6 #[.slice B p d, .slice A n c, .int .i64 t] w fun ee w' => ee = .returned (.bool true) ∧ Ext w w' := by
  have HR := Lib.hid hA
  have HL := Lib.hid hB
  have HN : p ≤ 9223372036854775807 := by omega
  have d1 : decide ((30 : Int) < (p : Int)) = false := by simp; omega
  have d2 : decide ((100 : Int) < (n : Int)) = false := by simp; omega
  obtain ⟨K, hK⟩ : ∃ K, K = t % ((n : Int) + 1) := ⟨_, rfl⟩
  have C1 := Lib.hid (fun w => within_any t ((n : Int) + 1) w (by omega) (by omega))
  rw [← hK] at C1
  clear hK hA hB
  go_enter Try.func6, Try.ntmps6
  go_wp2_with fail
  refine (C1.out _).mono ?_
  rintro e w' ⟨rfl, rfl⟩
  go_wp2_with fail
  clear C1
  go_loopw [11] (fun i wr => LoopRel w n K i wr) (fun i _ => n - (intOf i).toNat)
  case atStart => exact ⟨0, 0, 0, 0, 0, _, Nat.zero_le _, rfl, by rfl, by omega, by omega, by omega, by omega, by omega, by omega, World.plus_self _⟩
  case round =>
    obtain ⟨k, ta, ea, tb, eb, x, hk, rfl, hs, g1, g2, g3, g4, g5, g6, rfl⟩ := hrel
    have hs' := hs.out
    have b1 : ta ≤ 100 := by omega
    have b2 : tb ≤ 100 := by omega
    have b3 : ta + tb ≤ 100 := by omega
    have b4 : 0 ≤ ta + tb := by omega
    have b5 : ea + eb ≤ 100 := by omega
    have b6 : 0 ≤ ea + eb := by omega
    by_cases hlt : k < n
    · obtain ⟨b, o, z, rfl, hb, hz, hcell⟩ := HR.out.bool_at hlt
      have q3 := bit_bd z
      clear hs' hz HR
      by_cases hK : (k : Int) < K
      · go_wp2_with fail
        apply wp_region_ext 6 [is _, is _, is _, is _, is _, is (win (ta + tb + 1) (ea + eb + bit z) 0)] (by kernel_rfl) (by kernel_rfl) rfl
        case hops =>
          simp only [List.take_succ_cons, List.take_zero]
          refine ⟨?_, ?_, ?_, ?_, ?_, ?_, trivial⟩
          all_goals
            intro vs x hd
            simp only [putAll, Act.put, List.setIfInBounds_toArray, List.set_cons_succ, List.set_cons_zero, Nat.zero_add, Nat.reduceAdd]
            simp [depFacts, is, isRow, isRowN, isBox, dataE] at hd
            try simp only [World.plus_plus] at hd
            simp only [Region.wanted, if_true, comes]
            try simp [yielded, hd, comes]
            go_simp
            try go_bits
            first
              | exact ⟨Ext.refl _, rfl⟩
              | exact ⟨(Ext.refl _).alloc _, _, rfl, Cells.new _ _ _ _ rfl⟩
              | exact ⟨(Ext.refl _).alloc _, _, rfl, Box.new _ _ _ _ (by simp [World.le_plus]) rfl⟩
              | (refine (count_small _ _ 0 z _ b4 (by omega) b6 (by omega)).mono ?_; rintro e w' ⟨rfl, hE⟩; exact ⟨_, rfl, hE, rfl⟩)
        case hst => exact ⟨(by apply is.st), (by apply is.st), (by apply is.st), (by apply is.st), (by apply is.st), (by apply is.st), trivial⟩
        case hfin =>
          intro vs x hf
          try simp only [World.plus_plus] at hf ⊢
          simp only [List.take_succ_cons, List.take_zero, List.drop_succ_cons, List.drop_zero, putAll, Act.put, List.setIfInBounds_toArray, List.set_cons_succ, List.set_cons_zero]
          simp only [facts, is, Nat.zero_add, Nat.reduceAdd] at hf
          simp only [Nat.zero_add, Nat.reduceAdd, hf]
          clear hf
          go_wp2_with fail
          apply wp_region_ext 6 [is _, is _, is _, is _, is _, is (win (ta + 1) (ea + bit z) 0)] (by kernel_rfl) (by kernel_rfl) rfl
          case hops =>
            simp only [List.take_succ_cons, List.take_zero]
            refine ⟨?_, ?_, ?_, ?_, ?_, ?_, trivial⟩
            all_goals
              intro vs x hd
              simp only [putAll, Act.put, List.setIfInBounds_toArray, List.set_cons_succ, List.set_cons_zero, Nat.zero_add, Nat.reduceAdd]
              simp [depFacts, is, isRow, isRowN, isBox, dataE] at hd
              try simp only [World.plus_plus] at hd
              simp only [Region.wanted, if_true, comes]
              try simp [yielded, hd, comes]
              go_simp
              try go_bits
              first
                | exact ⟨Ext.refl _, rfl⟩
                | exact ⟨(Ext.refl _).alloc _, _, rfl, Cells.new _ _ _ _ rfl⟩
                | exact ⟨(Ext.refl _).alloc _, _, rfl, Box.new _ _ _ _ (by simp [World.le_plus]) rfl⟩
                | (refine (count_small _ _ 0 z _ g1 (by omega) g3 (by omega)).mono ?_; rintro e w' ⟨rfl, hE⟩; exact ⟨_, rfl, hE, rfl⟩)
          case hst => exact ⟨(by apply is.st), (by apply is.st), (by apply is.st), (by apply is.st), (by apply is.st), (by apply is.st), trivial⟩
          case hfin =>
            intro vs x hf
            try simp only [World.plus_plus] at hf ⊢
            simp only [List.take_succ_cons, List.take_zero, List.drop_succ_cons, List.drop_zero, putAll, Act.put, List.setIfInBounds_toArray, List.set_cons_succ, List.set_cons_zero]
            simp only [facts, is, Nat.zero_add, Nat.reduceAdd] at hf
            simp only [Nat.zero_add, Nat.reduceAdd, hf]
            clear hf
            go_wp2
            go_roundw
            case rel => exact ⟨k + 1, ta + 1, ea + bit z, tb, eb, _, by omega, by go_num, by have := hs.out; show ta + 1 + tb = ((k + 1 : Nat) : Int); omega, by omega, by omega, by omega, by omega, by omega, by omega, by rw [show ta + 1 + tb = ta + tb + 1 by omega, show ea + bit z + eb = ea + eb + bit z by omega]⟩
            case measure => simp [intOf]; omega
      · go_wp2_with fail
        apply wp_region_ext 6 [is _, is _, is _, is _, is _, is (win (ta + tb + 1) (ea + eb + bit z) 0)] (by kernel_rfl) (by kernel_rfl) rfl
        case hops =>
          simp only [List.take_succ_cons, List.take_zero]
          refine ⟨?_, ?_, ?_, ?_, ?_, ?_, trivial⟩
          all_goals
            intro vs x hd
            simp only [putAll, Act.put, List.setIfInBounds_toArray, List.set_cons_succ, List.set_cons_zero, Nat.zero_add, Nat.reduceAdd]
            simp [depFacts, is, isRow, isRowN, isBox, dataE] at hd
            try simp only [World.plus_plus] at hd
            simp only [Region.wanted, if_true, comes]
            try simp [yielded, hd, comes]
            go_simp
            try go_bits
            first
              | exact ⟨Ext.refl _, rfl⟩
              | exact ⟨(Ext.refl _).alloc _, _, rfl, Cells.new _ _ _ _ rfl⟩
              | exact ⟨(Ext.refl _).alloc _, _, rfl, Box.new _ _ _ _ (by simp [World.le_plus]) rfl⟩
              | (refine (count_small _ _ 0 z _ b4 (by omega) b6 (by omega)).mono ?_; rintro e w' ⟨rfl, hE⟩; exact ⟨_, rfl, hE, rfl⟩)
        case hst => exact ⟨(by apply is.st), (by apply is.st), (by apply is.st), (by apply is.st), (by apply is.st), (by apply is.st), trivial⟩
        case hfin =>
          intro vs x hf
          try simp only [World.plus_plus] at hf ⊢
          simp only [List.take_succ_cons, List.take_zero, List.drop_succ_cons, List.drop_zero, putAll, Act.put, List.setIfInBounds_toArray, List.set_cons_succ, List.set_cons_zero]
          simp only [facts, is, Nat.zero_add, Nat.reduceAdd] at hf
          simp only [Nat.zero_add, Nat.reduceAdd, hf]
          clear hf
          go_wp2_with fail
          apply wp_region_ext 6 [is _, is _, is _, is _, is _, is (win (tb + 1) (eb + bit z) 0)] (by kernel_rfl) (by kernel_rfl) rfl
          case hops =>
            simp only [List.take_succ_cons, List.take_zero]
            refine ⟨?_, ?_, ?_, ?_, ?_, ?_, trivial⟩
            all_goals
              intro vs x hd
              simp only [putAll, Act.put, List.setIfInBounds_toArray, List.set_cons_succ, List.set_cons_zero, Nat.zero_add, Nat.reduceAdd]
              simp [depFacts, is, isRow, isRowN, isBox, dataE] at hd
              try simp only [World.plus_plus] at hd
              simp only [Region.wanted, if_true, comes]
              try simp [yielded, hd, comes]
              go_simp
              try go_bits
              first
                | exact ⟨Ext.refl _, rfl⟩
                | exact ⟨(Ext.refl _).alloc _, _, rfl, Cells.new _ _ _ _ rfl⟩
                | exact ⟨(Ext.refl _).alloc _, _, rfl, Box.new _ _ _ _ (by simp [World.le_plus]) rfl⟩
                | (refine (count_small _ _ 0 z _ g2 (by omega) g4 (by omega)).mono ?_; rintro e w' ⟨rfl, hE⟩; exact ⟨_, rfl, hE, rfl⟩)
          case hst => exact ⟨(by apply is.st), (by apply is.st), (by apply is.st), (by apply is.st), (by apply is.st), (by apply is.st), trivial⟩
          case hfin =>
            intro vs x hf
            try simp only [World.plus_plus] at hf ⊢
            simp only [List.take_succ_cons, List.take_zero, List.drop_succ_cons, List.drop_zero, putAll, Act.put, List.setIfInBounds_toArray, List.set_cons_succ, List.set_cons_zero]
            simp only [facts, is, Nat.zero_add, Nat.reduceAdd] at hf
            simp only [Nat.zero_add, Nat.reduceAdd, hf]
            clear hf
            go_wp2
            go_roundw
            case rel => exact ⟨k + 1, ta, ea, tb + 1, eb + bit z, _, by omega, by go_num, by have := hs.out; show ta + (tb + 1) = ((k + 1 : Nat) : Int); omega, by omega, by omega, by omega, by omega, by omega, by omega, by rw [show ta + (tb + 1) = ta + tb + 1 by omega, show ea + (eb + bit z) = ea + eb + bit z by omega]⟩
            case measure => simp [intOf]; omega
    · have e1 : tb + ta = ta + tb := by omega
      have e2 : eb + ea = ea + eb := by omega
      have E1 := Lib.hid e1
      have E2 := Lib.hid e2
      clear hs' HR hs e1 e2
      go_wp2_with fail
      apply wp_region_ext 25 [is _, is _, is _, is _, is _, is _, is _, is _, isRowN 2 [.int .i64 ta, .int .i64 ea, .int .i64 0, .int .i64 tb, .int .i64 eb, .int .i64 0], is (win (ta + tb) (ea + eb) 0), is _, is _, is _, is _, is _, is _, isRowN 2 [.int .i64 tb, .int .i64 eb, .int .i64 0, .int .i64 ta, .int .i64 ea, .int .i64 0], is (win (ta + tb) (ea + eb) 0), is _, is _, is _, is _, is (.bool true), is _, is _] (by kernel_rfl) (by kernel_rfl) rfl
      case hops =>
        simp only [List.take_succ_cons, List.take_zero]
        refine ⟨?_, ?_, ?_, ?_, ?_, ?_, ?_, ?_, ?_, ?_, ?_, ?_, ?_, ?_, ?_, ?_, ?_, ?_, ?_, ?_, ?_, ?_, ?_, ?_, ?_, trivial⟩
        all_goals
          intro vs x hd
          simp only [putAll, Act.put, List.setIfInBounds_toArray, List.set_cons_succ, List.set_cons_zero, Nat.zero_add, Nat.reduceAdd]
          simp [depFacts, is, isRow, isRowN, isBox, dataE] at hd
          try simp only [World.plus_plus] at hd
          simp only [Region.wanted, if_true, comes]
          try simp [yielded, hd, comes]
          go_simp
          try go_bits
          first
            | exact ⟨Ext.refl _, rfl⟩
            | exact ⟨(Ext.refl _).alloc _, _, rfl, Cells.new _ _ _ _ rfl⟩
            | exact ⟨(Ext.refl _).alloc _, _, rfl, Box.new _ _ _ _ (by simp [World.le_plus]) rfl⟩
            | ((go_at_call 10); refine (awake_any _).mono ?_; rintro e w' ⟨rfl, hE⟩; exact ⟨_, rfl, hE, rfl⟩)
            | ((go_at_call 13); refine (refMerge_any _ _ _ _ _ (HL.out.lift (by repeat (first | exact Ext.refl _ | apply Ext.plus_ | apply Ext.alloc))) HN).mono ?_; rintro e w' ⟨rfl, hE⟩; exact ⟨_, rfl, hE, rfl⟩)
            | (obtain ⟨⟨b, hv, hb⟩, _⟩ := hd; rw [hv]; refine (merge_two _ _ _ _ b _ hb (by omega) (by omega) (by omega) (by omega) (by omega) (by omega) (by omega) (by omega)).mono ?_; rintro e w' ⟨rfl, hE⟩; exact ⟨_, rfl, hE, by first | rfl | (rw [E1.out, E2.out]; rfl)⟩)
            | ((go_at_call 12); refine (merge_any _ _ _ _ _ (HL.out.lift (by repeat (first | exact Ext.refl _ | apply Ext.plus_ | apply Ext.alloc))) HN).mono ?_; rintro e w' ⟨rfl, hE⟩; exact ⟨_, rfl, hE, rfl⟩)
      case hst => exact ⟨(by apply is.st), (by apply is.st), (by apply is.st), (by apply is.st), (by apply is.st), (by apply is.st), (by apply is.st), (by apply is.st), (by apply isRowN.st), (by apply is.st), (by apply is.st), (by apply is.st), (by apply is.st), (by apply is.st), (by apply is.st), (by apply is.st), (by apply isRowN.st), (by apply is.st), (by apply is.st), (by apply is.st), (by apply is.st), (by apply is.st), (by apply is.st), (by apply is.st), (by apply is.st), trivial⟩
      case hfin =>
        intro vs x hf
        try simp only [World.plus_plus] at hf ⊢
        simp only [List.take_succ_cons, List.take_zero, List.drop_succ_cons, List.drop_zero, putAll, Act.put, List.setIfInBounds_toArray, List.set_cons_succ, List.set_cons_zero]
        simp only [facts, is, Nat.zero_add, Nat.reduceAdd] at hf
        simp only [Nat.zero_add, Nat.reduceAdd, hf]
        clear hf
        go_wp2
        go_ret
        refine ⟨rfl, ?_⟩
        repeat (first | exact Ext.refl _ | apply Ext.drew | apply Ext.drewN | apply Ext.plus_ | apply Ext.alloc | assumption)

set_option maxHeartbeats 2000000 in
theorem lm_sl (A : Option Addr) (n c : Nat) (l : List Bool) (B : Option Addr) (p d : Nat) (ws : List W3) (t : Int) (w : World) (hA : Row w w.heap.size 1 A n (l.map Value.bool)) (hB : Row w w.heap.size 3 B p (wcells ws)) (hn : n ≤ 100) (hp : 30 < p) (hc : n ≤ c) (hcd : p ≤ d) (hcm : c ≤ 9223372036854775807) (hdm : d ≤ 9223372036854775807) :
    Calls Try.prog 6 #[.slice B p d, .slice A n c, .int .i64 t] w fun ee w' => ee = .returned (.bool true) ∧ Ext w w' := by
  have HR := Lib.hid hA
  have HL := Lib.hid (hB.cut3 (show 30 ≤ p by omega))
  have HN : 30 ≤ 9223372036854775807 := by omega
  have d1 : decide ((30 : Int) < (p : Int)) = true := by simp; omega
  have d2 : decide ((100 : Int) < (n : Int)) = false := by simp; omega
  obtain ⟨K, hK⟩ : ∃ K, K = t % ((n : Int) + 1) := ⟨_, rfl⟩
  have C1 := Lib.hid (fun w => within_any t ((n : Int) + 1) w (by omega) (by omega))
  rw [← hK] at C1
  clear hK hA hB
  go_enter Try.func6, Try.ntmps6
  go_wp2_with fail
  refine (C1.out _).mono ?_
  rintro e w' ⟨rfl, rfl⟩
  go_wp2_with fail
  clear C1
  go_loopw [11] (fun i wr => LoopRel w n K i wr) (fun i _ => n - (intOf i).toNat)
  case atStart => exact ⟨0, 0, 0, 0, 0, _, Nat.zero_le _, rfl, by rfl, by omega, by omega, by omega, by omega, by omega, by omega, World.plus_self _⟩
  case round =>
    obtain ⟨k, ta, ea, tb, eb, x, hk, rfl, hs, g1, g2, g3, g4, g5, g6, rfl⟩ := hrel
    have hs' := hs.out
    have b1 : ta ≤ 100 := by omega
    have b2 : tb ≤ 100 := by omega
    have b3 : ta + tb ≤ 100 := by omega
    have b4 : 0 ≤ ta + tb := by omega
    have b5 : ea + eb ≤ 100 := by omega
    have b6 : 0 ≤ ea + eb := by omega
    by_cases hlt : k < n
    · obtain ⟨b, o, z, rfl, hb, hz, hcell⟩ := HR.out.bool_at hlt
      have q3 := bit_bd z
      clear hs' hz HR
      by_cases hK : (k : Int) < K
      · go_wp2_with fail
        apply wp_region_ext 6 [is _, is _, is _, is _, is _, is (win (ta + tb + 1) (ea + eb + bit z) 0)] (by kernel_rfl) (by kernel_rfl) rfl
        case hops =>
          simp only [List.take_succ_cons, List.take_zero]
          refine ⟨?_, ?_, ?_, ?_, ?_, ?_, trivial⟩
          all_goals
            intro vs x hd
            simp only [putAll, Act.put, List.setIfInBounds_toArray, List.set_cons_succ, List.set_cons_zero, Nat.zero_add, Nat.reduceAdd]
            simp [depFacts, is, isRow, isRowN, isBox, dataE] at hd
            try simp only [World.plus_plus] at hd
            simp only [Region.wanted, if_true, comes]
            try simp [yielded, hd, comes]
            go_simp
            try go_bits
            first
              | exact ⟨Ext.refl _, rfl⟩
              | exact ⟨(Ext.refl _).alloc _, _, rfl, Cells.new _ _ _ _ rfl⟩
              | exact ⟨(Ext.refl _).alloc _, _, rfl, Box.new _ _ _ _ (by simp [World.le_plus]) rfl⟩
              | (refine (count_small _ _ 0 z _ b4 (by omega) b6 (by omega)).mono ?_; rintro e w' ⟨rfl, hE⟩; exact ⟨_, rfl, hE, rfl⟩)
        case hst => exact ⟨(by apply is.st), (by apply is.st), (by apply is.st), (by apply is.st), (by apply is.st), (by apply is.st), trivial⟩
        case hfin =>
          intro vs x hf
          try simp only [World.plus_plus] at hf ⊢
          simp only [List.take_succ_cons, List.take_zero, List.drop_succ_cons, List.drop_zero, putAll, Act.put, List.setIfInBounds_toArray, List.set_cons_succ, List.set_cons_zero]
          simp only [facts, is, Nat.zero_add, Nat.reduceAdd] at hf
          simp only [Nat.zero_add, Nat.reduceAdd, hf]
          clear hf
          go_wp2_with fail
          apply wp_region_ext 6 [is _, is _, is _, is _, is _, is (win (ta + 1) (ea + bit z) 0)] (by kernel_rfl) (by kernel_rfl) rfl
          case hops =>
            simp only [List.take_succ_cons, List.take_zero]
            refine ⟨?_, ?_, ?_, ?_, ?_, ?_, trivial⟩
            all_goals
              intro vs x hd
              simp only [putAll, Act.put, List.setIfInBounds_toArray, List.set_cons_succ, List.set_cons_zero, Nat.zero_add, Nat.reduceAdd]
              simp [depFacts, is, isRow, isRowN, isBox, dataE] at hd
              try simp only [World.plus_plus] at hd
              simp only [Region.wanted, if_true, comes]
              try simp [yielded, hd, comes]
              go_simp
              try go_bits
              first
                | exact ⟨Ext.refl _, rfl⟩
                | exact ⟨(Ext.refl _).alloc _, _, rfl, Cells.new _ _ _ _ rfl⟩
                | exact ⟨(Ext.refl _).alloc _, _, rfl, Box.new _ _ _ _ (by simp [World.le_plus]) rfl⟩
                | (refine (count_small _ _ 0 z _ g1 (by omega) g3 (by omega)).mono ?_; rintro e w' ⟨rfl, hE⟩; exact ⟨_, rfl, hE, rfl⟩)
          case hst => exact ⟨(by apply is.st), (by apply is.st), (by apply is.st), (by apply is.st), (by apply is.st), (by apply is.st), trivial⟩
          case hfin =>
            intro vs x hf
            try simp only [World.plus_plus] at hf ⊢
            simp only [List.take_succ_cons, List.take_zero, List.drop_succ_cons, List.drop_zero, putAll, Act.put, List.setIfInBounds_toArray, List.set_cons_succ, List.set_cons_zero]
            simp only [facts, is, Nat.zero_add, Nat.reduceAdd] at hf
            simp only [Nat.zero_add, Nat.reduceAdd, hf]
            clear hf
            go_wp2
            go_roundw
            case rel => exact ⟨k + 1, ta + 1, ea + bit z, tb, eb, _, by omega, by go_num, by have := hs.out; show ta + 1 + tb = ((k + 1 : Nat) : Int); omega, by omega, by omega, by omega, by omega, by omega, by omega, by rw [show ta + 1 + tb = ta + tb + 1 by omega, show ea + bit z + eb = ea + eb + bit z by omega]⟩
            case measure => simp [intOf]; omega
      · go_wp2_with fail
        apply wp_region_ext 6 [is _, is _, is _, is _, is _, is (win (ta + tb + 1) (ea + eb + bit z) 0)] (by kernel_rfl) (by kernel_rfl) rfl
        case hops =>
          simp only [List.take_succ_cons, List.take_zero]
          refine ⟨?_, ?_, ?_, ?_, ?_, ?_, trivial⟩
          all_goals
            intro vs x hd
            simp only [putAll, Act.put, List.setIfInBounds_toArray, List.set_cons_succ, List.set_cons_zero, Nat.zero_add, Nat.reduceAdd]
            simp [depFacts, is, isRow, isRowN, isBox, dataE] at hd
            try simp only [World.plus_plus] at hd
            simp only [Region.wanted, if_true, comes]
            try simp [yielded, hd, comes]
            go_simp
            try go_bits
            first
              | exact ⟨Ext.refl _, rfl⟩
              | exact ⟨(Ext.refl _).alloc _, _, rfl, Cells.new _ _ _ _ rfl⟩
              | exact ⟨(Ext.refl _).alloc _, _, rfl, Box.new _ _ _ _ (by simp [World.le_plus]) rfl⟩
              | (refine (count_small _ _ 0 z _ b4 (by omega) b6 (by omega)).mono ?_; rintro e w' ⟨rfl, hE⟩; exact ⟨_, rfl, hE, rfl⟩)
        case hst => exact ⟨(by apply is.st), (by apply is.st), (by apply is.st), (by apply is.st), (by apply is.st), (by apply is.st), trivial⟩
        case hfin =>
          intro vs x hf
          try simp only [World.plus_plus] at hf ⊢
          simp only [List.take_succ_cons, List.take_zero, List.drop_succ_cons, List.drop_zero, putAll, Act.put, List.setIfInBounds_toArray, List.set_cons_succ, List.set_cons_zero]
          simp only [facts, is, Nat.zero_add, Nat.reduceAdd] at hf
          simp only [Nat.zero_add, Nat.reduceAdd, hf]
          clear hf
          go_wp2_with fail
          apply wp_region_ext 6 [is _, is _, is _, is _, is _, is (win (tb + 1) (eb + bit z) 0)] (by kernel_rfl) (by kernel_rfl) rfl
          case hops =>
            simp only [List.take_succ_cons, List.take_zero]
            refine ⟨?_, ?_, ?_, ?_, ?_, ?_, trivial⟩
            all_goals
              intro vs x hd
              simp only [putAll, Act.put, List.setIfInBounds_toArray, List.set_cons_succ, List.set_cons_zero, Nat.zero_add, Nat.reduceAdd]
              simp [depFacts, is, isRow, isRowN, isBox, dataE] at hd
              try simp only [World.plus_plus] at hd
              simp only [Region.wanted, if_true, comes]
              try simp [yielded, hd, comes]
              go_simp
              try go_bits
              first
                | exact ⟨Ext.refl _, rfl⟩
                | exact ⟨(Ext.refl _).alloc _, _, rfl, Cells.new _ _ _ _ rfl⟩
                | exact ⟨(Ext.refl _).alloc _, _, rfl, Box.new _ _ _ _ (by simp [World.le_plus]) rfl⟩
                | (refine (count_small _ _ 0 z _ g2 (by omega) g4 (by omega)).mono ?_; rintro e w' ⟨rfl, hE⟩; exact ⟨_, rfl, hE, rfl⟩)
          case hst => exact ⟨(by apply is.st), (by apply is.st), (by apply is.st), (by apply is.st), (by apply is.st), (by apply is.st), trivial⟩
          case hfin =>
            intro vs x hf
            try simp only [World.plus_plus] at hf ⊢
            simp only [List.take_succ_cons, List.take_zero, List.drop_succ_cons, List.drop_zero, putAll, Act.put, List.setIfInBounds_toArray, List.set_cons_succ, List.set_cons_zero]
            simp only [facts, is, Nat.zero_add, Nat.reduceAdd] at hf
            simp only [Nat.zero_add, Nat.reduceAdd, hf]
            clear hf
            go_wp2
            go_roundw
            case rel => exact ⟨k + 1, ta, ea, tb + 1, eb + bit z, _, by omega, by go_num, by have := hs.out; show ta + (tb + 1) = ((k + 1 : Nat) : Int); omega, by omega, by omega, by omega, by omega, by omega, by omega, by rw [show ta + (tb + 1) = ta + tb + 1 by omega, show ea + (eb + bit z) = ea + eb + bit z by omega]⟩
            case measure => simp [intOf]; omega
    · have e1 : tb + ta = ta + tb := by omega
      have e2 : eb + ea = ea + eb := by omega
      have E1 := Lib.hid e1
      have E2 := Lib.hid e2
      clear hs' HR hs e1 e2
      go_wp2_with fail
      apply wp_region_ext 25 [is _, is _, is _, is _, is _, is _, is _, is _, isRowN 2 [.int .i64 ta, .int .i64 ea, .int .i64 0, .int .i64 tb, .int .i64 eb, .int .i64 0], is (win (ta + tb) (ea + eb) 0), is _, is _, is _, is _, is _, is _, isRowN 2 [.int .i64 tb, .int .i64 eb, .int .i64 0, .int .i64 ta, .int .i64 ea, .int .i64 0], is (win (ta + tb) (ea + eb) 0), is _, is _, is _, is _, is (.bool true), is _, is _] (by kernel_rfl) (by kernel_rfl) rfl
      case hops =>
        simp only [List.take_succ_cons, List.take_zero]
        refine ⟨?_, ?_, ?_, ?_, ?_, ?_, ?_, ?_, ?_, ?_, ?_, ?_, ?_, ?_, ?_, ?_, ?_, ?_, ?_, ?_, ?_, ?_, ?_, ?_, ?_, trivial⟩
        all_goals
          intro vs x hd
          simp only [putAll, Act.put, List.setIfInBounds_toArray, List.set_cons_succ, List.set_cons_zero, Nat.zero_add, Nat.reduceAdd]
          simp [depFacts, is, isRow, isRowN, isBox, dataE] at hd
          try simp only [World.plus_plus] at hd
          simp only [Region.wanted, if_true, comes]
          try simp [yielded, hd, comes]
          go_simp
          try go_bits
          first
            | exact ⟨Ext.refl _, rfl⟩
            | exact ⟨(Ext.refl _).alloc _, _, rfl, Cells.new _ _ _ _ rfl⟩
            | exact ⟨(Ext.refl _).alloc _, _, rfl, Box.new _ _ _ _ (by simp [World.le_plus]) rfl⟩
            | ((go_at_call 10); refine (awake_any _).mono ?_; rintro e w' ⟨rfl, hE⟩; exact ⟨_, rfl, hE, rfl⟩)
            | ((go_at_call 13); refine (refMerge_any _ _ _ _ _ (HL.out.lift (by repeat (first | exact Ext.refl _ | apply Ext.plus_ | apply Ext.alloc))) HN).mono ?_; rintro e w' ⟨rfl, hE⟩; exact ⟨_, rfl, hE, rfl⟩)
            | (obtain ⟨⟨b, hv, hb⟩, _⟩ := hd; rw [hv]; refine (merge_two _ _ _ _ b _ hb (by omega) (by omega) (by omega) (by omega) (by omega) (by omega) (by omega) (by omega)).mono ?_; rintro e w' ⟨rfl, hE⟩; exact ⟨_, rfl, hE, by first | rfl | (rw [E1.out, E2.out]; rfl)⟩)
            | ((go_at_call 12); refine (merge_any _ _ _ _ _ (HL.out.lift (by repeat (first | exact Ext.refl _ | apply Ext.plus_ | apply Ext.alloc))) HN).mono ?_; rintro e w' ⟨rfl, hE⟩; exact ⟨_, rfl, hE, rfl⟩)
      case hst => exact ⟨(by apply is.st), (by apply is.st), (by apply is.st), (by apply is.st), (by apply is.st), (by apply is.st), (by apply is.st), (by apply is.st), (by apply isRowN.st), (by apply is.st), (by apply is.st), (by apply is.st), (by apply is.st), (by apply is.st), (by apply is.st), (by apply is.st), (by apply isRowN.st), (by apply is.st), (by apply is.st), (by apply is.st), (by apply is.st), (by apply is.st), (by apply is.st), (by apply is.st), (by apply is.st), trivial⟩
      case hfin =>
        intro vs x hf
        try simp only [World.plus_plus] at hf ⊢
        simp only [List.take_succ_cons, List.take_zero, List.drop_succ_cons, List.drop_zero, putAll, Act.put, List.setIfInBounds_toArray, List.set_cons_succ, List.set_cons_zero]
        simp only [facts, is, Nat.zero_add, Nat.reduceAdd] at hf
        simp only [Nat.zero_add, Nat.reduceAdd, hf]
        clear hf
        go_wp2
        go_ret
        refine ⟨rfl, ?_⟩
        repeat (first | exact Ext.refl _ | apply Ext.drew | apply Ext.drewN | apply Ext.plus_ | apply Ext.alloc | assumption)

set_option maxHeartbeats 2000000 in
theorem lm_ls (A : Option Addr) (n c : Nat) (l : List Bool) (B : Option Addr) (p d : Nat) (ws : List W3) (t : Int) (w : World) (hA : Row w w.heap.size 1 A n (l.map Value.bool)) (hB : Row w w.heap.size 3 B p (wcells ws)) (hn : 100 < n) (hp : p ≤ 30) (hc : n ≤ c) (hcd : p ≤ d) (hcm : c ≤ 9223372036854775807) (hdm : d ≤ 9223372036854775807) :
    Calls Try.prog 6 #[.slice B p d, .slice A n c, .int .i64 t] w fun ee w' => ee = .returned (.bool true) ∧ Ext w w' := by
  have HR := Lib.hid (show Row w w.heap.size 1 A 100 ((l.take 100).map Value.bool) by rw [List.map_take]; exact hA.cut (by omega))
  have HL := Lib.hid hB
  have HN : p ≤ 9223372036854775807 := by omega
  have d1 : decide ((30 : Int) < (p : Int)) = false := by simp; omega
  have d2 : decide ((100 : Int) < (n : Int)) = true := by simp; omega
  obtain ⟨K, hK⟩ : ∃ K, K = t % 101 := ⟨_, rfl⟩
  have C1 := Lib.hid (fun w => within_any t 101 w (by omega) (by omega))
  rw [← hK] at C1
  clear hK hA hB
  go_enter Try.func6, Try.ntmps6
  go_wp2_with fail
  refine (C1.out _).mono ?_
  rintro e w' ⟨rfl, rfl⟩
  go_wp2_with fail
  clear C1
  go_loopw [11] (fun i wr => LoopRel w 100 K i wr) (fun i _ => 100 - (intOf i).toNat)
  case atStart => exact ⟨0, 0, 0, 0, 0, _, Nat.zero_le _, rfl, by rfl, by omega, by omega, by omega, by omega, by omega, by omega, World.plus_self _⟩
  case round =>
    obtain ⟨k, ta, ea, tb, eb, x, hk, rfl, hs, g1, g2, g3, g4, g5, g6, rfl⟩ := hrel
    have hs' := hs.out
    have b1 : ta ≤ 100 := by omega
    have b2 : tb ≤ 100 := by omega
    have b3 : ta + tb ≤ 100 := by omega
    have b4 : 0 ≤ ta + tb := by omega
    have b5 : ea + eb ≤ 100 := by omega
    have b6 : 0 ≤ ea + eb := by omega
    by_cases hlt : k < 100
    · obtain ⟨b, o, z, rfl, hb, hz, hcell⟩ := HR.out.bool_at hlt
      have q3 := bit_bd z
      clear hs' hz HR
      by_cases hK : (k : Int) < K
      · go_wp2_with fail
        apply wp_region_ext 6 [is _, is _, is _, is _, is _, is (win (ta + tb + 1) (ea + eb + bit z) 0)] (by kernel_rfl) (by kernel_rfl) rfl
        case hops =>
          simp only [List.take_succ_cons, List.take_zero]
          refine ⟨?_, ?_, ?_, ?_, ?_, ?_, trivial⟩
          all_goals
            intro vs x hd
            simp only [putAll, Act.put, List.setIfInBounds_toArray, List.set_cons_succ, List.set_cons_zero, Nat.zero_add, Nat.reduceAdd]
            simp [depFacts, is, isRow, isRowN, isBox, dataE] at hd
            try simp only [World.plus_plus] at hd
            simp only [Region.wanted, if_true, comes]
            try simp [yielded, hd, comes]
            go_simp
            try go_bits
            first
              | exact ⟨Ext.refl _, rfl⟩
              | exact ⟨(Ext.refl _).alloc _, _, rfl, Cells.new _ _ _ _ rfl⟩
              | exact ⟨(Ext.refl _).alloc _, _, rfl, Box.new _ _ _ _ (by simp [World.le_plus]) rfl⟩
              | (refine (count_small _ _ 0 z _ b4 (by omega) b6 (by omega)).mono ?_; rintro e w' ⟨rfl, hE⟩; exact ⟨_, rfl, hE, rfl⟩)
        case hst => exact ⟨(by apply is.st), (by apply is.st), (by apply is.st), (by apply is.st), (by apply is.st), (by apply is.st), trivial⟩
        case hfin =>
          intro vs x hf
          try simp only [World.plus_plus] at hf ⊢
          simp only [List.take_succ_cons, List.take_zero, List.drop_succ_cons, List.drop_zero, putAll, Act.put, List.setIfInBounds_toArray, List.set_cons_succ, List.set_cons_zero]
          simp only [facts, is, Nat.zero_add, Nat.reduceAdd] at hf
          simp only [Nat.zero_add, Nat.reduceAdd, hf]
          clear hf
          go_wp2_with fail
          apply wp_region_ext 6 [is _, is _, is _, is _, is _, is (win (ta + 1) (ea + bit z) 0)] (by kernel_rfl) (by kernel_rfl) rfl
          case hops =>
            simp only [List.take_succ_cons, List.take_zero]
            refine ⟨?_, ?_, ?_, ?_, ?_, ?_, trivial⟩
            all_goals
              intro vs x hd
              simp only [putAll, Act.put, List.setIfInBounds_toArray, List.set_cons_succ, List.set_cons_zero, Nat.zero_add, Nat.reduceAdd]
              simp [depFacts, is, isRow, isRowN, isBox, dataE] at hd
              try simp only [World.plus_plus] at hd
              simp only [Region.wanted, if_true, comes]
              try simp [yielded, hd, comes]
              go_simp
              try go_bits
              first
                | exact ⟨Ext.refl _, rfl⟩
                | exact ⟨(Ext.refl _).alloc _, _, rfl, Cells.new _ _ _ _ rfl⟩
                | exact ⟨(Ext.refl _).alloc _, _, rfl, Box.new _ _ _ _ (by simp [World.le_plus]) rfl⟩
                | (refine (count_small _ _ 0 z _ g1 (by omega) g3 (by omega)).mono ?_; rintro e w' ⟨rfl, hE⟩; exact ⟨_, rfl, hE, rfl⟩)
          case hst => exact ⟨(by apply is.st), (by apply is.st), (by apply is.st), (by apply is.st), (by apply is.st), (by apply is.st), trivial⟩
          case hfin =>
            intro vs x hf
            try simp only [World.plus_plus] at hf ⊢
            simp only [List.take_succ_cons, List.take_zero, List.drop_succ_cons, List.drop_zero, putAll, Act.put, List.setIfInBounds_toArray, List.set_cons_succ, List.set_cons_zero]
            simp only [facts, is, Nat.zero_add, Nat.reduceAdd] at hf
            simp only [Nat.zero_add, Nat.reduceAdd, hf]
            clear hf
            go_wp2
            go_roundw
            case rel => exact ⟨k + 1, ta + 1, ea + bit z, tb, eb, _, by omega, by go_num, by have := hs.out; show ta + 1 + tb = ((k + 1 : Nat) : Int); omega, by omega, by omega, by omega, by omega, by omega, by omega, by rw [show ta + 1 + tb = ta + tb + 1 by omega, show ea + bit z + eb = ea + eb + bit z by omega]⟩
            case measure => simp [intOf]; omega
      · go_wp2_with fail
        apply wp_region_ext 6 [is _, is _, is _, is _, is _, is (win (ta + tb + 1) (ea + eb + bit z) 0)] (by kernel_rfl) (by kernel_rfl) rfl
        case hops =>
          simp only [List.take_succ_cons, List.take_zero]
          refine ⟨?_, ?_, ?_, ?_, ?_, ?_, trivial⟩
          all_goals
            intro vs x hd
            simp only [putAll, Act.put, List.setIfInBounds_toArray, List.set_cons_succ, List.set_cons_zero, Nat.zero_add, Nat.reduceAdd]
            simp [depFacts, is, isRow, isRowN, isBox, dataE] at hd
            try simp only [World.plus_plus] at hd
            simp only [Region.wanted, if_true, comes]
            try simp [yielded, hd, comes]
            go_simp
            try go_bits
            first
              | exact ⟨Ext.refl _, rfl⟩
              | exact ⟨(Ext.refl _).alloc _, _, rfl, Cells.new _ _ _ _ rfl⟩
              | exact ⟨(Ext.refl _).alloc _, _, rfl, Box.new _ _ _ _ (by simp [World.le_plus]) rfl⟩
              | (refine (count_small _ _ 0 z _ b4 (by omega) b6 (by omega)).mono ?_; rintro e w' ⟨rfl, hE⟩; exact ⟨_, rfl, hE, rfl⟩)
        case hst => exact ⟨(by apply is.st), (by apply is.st), (by apply is.st), (by apply is.st), (by apply is.st), (by apply is.st), trivial⟩
        case hfin =>
          intro vs x hf
          try simp only [World.plus_plus] at hf ⊢
          simp only [List.take_succ_cons, List.take_zero, List.drop_succ_cons, List.drop_zero, putAll, Act.put, List.setIfInBounds_toArray, List.set_cons_succ, List.set_cons_zero]
          simp only [facts, is, Nat.zero_add, Nat.reduceAdd] at hf
          simp only [Nat.zero_add, Nat.reduceAdd, hf]
          clear hf
          go_wp2_with fail
          apply wp_region_ext 6 [is _, is _, is _, is _, is _, is (win (tb + 1) (eb + bit z) 0)] (by kernel_rfl) (by kernel_rfl) rfl
          case hops =>
            simp only [List.take_succ_cons, List.take_zero]
            refine ⟨?_, ?_, ?_, ?_, ?_, ?_, trivial⟩
            all_goals
              intro vs x hd
              simp only [putAll, Act.put, List.setIfInBounds_toArray, List.set_cons_succ, List.set_cons_zero, Nat.zero_add, Nat.reduceAdd]
              simp [depFacts, is, isRow, isRowN, isBox, dataE] at hd
              try simp only [World.plus_plus] at hd
              simp only [Region.wanted, if_true, comes]
              try simp [yielded, hd, comes]
              go_simp
              try go_bits
              first
                | exact ⟨Ext.refl _, rfl⟩
                | exact ⟨(Ext.refl _).alloc _, _, rfl, Cells.new _ _ _ _ rfl⟩
                | exact ⟨(Ext.refl _).alloc _, _, rfl, Box.new _ _ _ _ (by simp [World.le_plus]) rfl⟩
                | (refine (count_small _ _ 0 z _ g2 (by omega) g4 (by omega)).mono ?_; rintro e w' ⟨rfl, hE⟩; exact ⟨_, rfl, hE, rfl⟩)
          case hst => exact ⟨(by apply is.st), (by apply is.st), (by apply is.st), (by apply is.st), (by apply is.st), (by apply is.st), trivial⟩
          case hfin =>
            intro vs x hf
            try simp only [World.plus_plus] at hf ⊢
            simp only [List.take_succ_cons, List.take_zero, List.drop_succ_cons, List.drop_zero, putAll, Act.put, List.setIfInBounds_toArray, List.set_cons_succ, List.set_cons_zero]
            simp only [facts, is, Nat.zero_add, Nat.reduceAdd] at hf
            simp only [Nat.zero_add, Nat.reduceAdd, hf]
            clear hf
            go_wp2
            go_roundw
            case rel => exact ⟨k + 1, ta, ea, tb + 1, eb + bit z, _, by omega, by go_num, by have := hs.out; show ta + (tb + 1) = ((k + 1 : Nat) : Int); omega, by omega, by omega, by omega, by omega, by omega, by omega, by rw [show ta + (tb + 1) = ta + tb + 1 by omega, show ea + (eb + bit z) = ea + eb + bit z by omega]⟩
            case measure => simp [intOf]; omega
    · have e1 : tb + ta = ta + tb := by omega
      have e2 : eb + ea = ea + eb := by omega
      have E1 := Lib.hid e1
      have E2 := Lib.hid e2
      clear hs' HR hs e1 e2
      go_wp2_with fail
      apply wp_region_ext 25 [is _, is _, is _, is _, is _, is _, is _, is _, isRowN 2 [.int .i64 ta, .int .i64 ea, .int .i64 0, .int .i64 tb, .int .i64 eb, .int .i64 0], is (win (ta + tb) (ea + eb) 0), is _, is _, is _, is _, is _, is _, isRowN 2 [.int .i64 tb, .int .i64 eb, .int .i64 0, .int .i64 ta, .int .i64 ea, .int .i64 0], is (win (ta + tb) (ea + eb) 0), is _, is _, is _, is _, is (.bool true), is _, is _] (by kernel_rfl) (by kernel_rfl) rfl
      case hops =>
        simp only [List.take_succ_cons, List.take_zero]
        refine ⟨?_, ?_, ?_, ?_, ?_, ?_, ?_, ?_, ?_, ?_, ?_, ?_, ?_, ?_, ?_, ?_, ?_, ?_, ?_, ?_, ?_, ?_, ?_, ?_, ?_, trivial⟩
        all_goals
          intro vs x hd
          simp only [putAll, Act.put, List.setIfInBounds_toArray, List.set_cons_succ, List.set_cons_zero, Nat.zero_add, Nat.reduceAdd]
          simp [depFacts, is, isRow, isRowN, isBox, dataE] at hd
          try simp only [World.plus_plus] at hd
          simp only [Region.wanted, if_true, comes]
          try simp [yielded, hd, comes]
          go_simp
          try go_bits
          first
            | exact ⟨Ext.refl _, rfl⟩
            | exact ⟨(Ext.refl _).alloc _, _, rfl, Cells.new _ _ _ _ rfl⟩
            | exact ⟨(Ext.refl _).alloc _, _, rfl, Box.new _ _ _ _ (by simp [World.le_plus]) rfl⟩
            | ((go_at_call 10); refine (awake_any _).mono ?_; rintro e w' ⟨rfl, hE⟩; exact ⟨_, rfl, hE, rfl⟩)
            | ((go_at_call 13); refine (refMerge_any _ _ _ _ _ (HL.out.lift (by repeat (first | exact Ext.refl _ | apply Ext.plus_ | apply Ext.alloc))) HN).mono ?_; rintro e w' ⟨rfl, hE⟩; exact ⟨_, rfl, hE, rfl⟩)
            | (obtain ⟨⟨b, hv, hb⟩, _⟩ := hd; rw [hv]; refine (merge_two _ _ _ _ b _ hb (by omega) (by omega) (by omega) (by omega) (by omega) (by omega) (by omega) (by omega)).mono ?_; rintro e w' ⟨rfl, hE⟩; exact ⟨_, rfl, hE, by first | rfl | (rw [E1.out, E2.out]; rfl)⟩)
            | ((go_at_call 12); refine (merge_any _ _ _ _ _ (HL.out.lift (by repeat (first | exact Ext.refl _ | apply Ext.plus_ | apply Ext.alloc))) HN).mono ?_; rintro e w' ⟨rfl, hE⟩; exact ⟨_, rfl, hE, rfl⟩)
      case hst => exact ⟨(by apply is.st), (by apply is.st), (by apply is.st), (by apply is.st), (by apply is.st), (by apply is.st), (by apply is.st), (by apply is.st), (by apply isRowN.st), (by apply is.st), (by apply is.st), (by apply is.st), (by apply is.st), (by apply is.st), (by apply is.st), (by apply is.st), (by apply isRowN.st), (by apply is.st), (by apply is.st), (by apply is.st), (by apply is.st), (by apply is.st), (by apply is.st), (by apply is.st), (by apply is.st), trivial⟩
      case hfin =>
        intro vs x hf
        try simp only [World.plus_plus] at hf ⊢
        simp only [List.take_succ_cons, List.take_zero, List.drop_succ_cons, List.drop_zero, putAll, Act.put, List.setIfInBounds_toArray, List.set_cons_succ, List.set_cons_zero]
        simp only [facts, is, Nat.zero_add, Nat.reduceAdd] at hf
        simp only [Nat.zero_add, Nat.reduceAdd, hf]
        clear hf
        go_wp2
        go_ret
        refine ⟨rfl, ?_⟩
        repeat (first | exact Ext.refl _ | apply Ext.drew | apply Ext.drewN | apply Ext.plus_ | apply Ext.alloc | assumption)

set_option maxHeartbeats 2000000 in
theorem lm_ll (A : Option Addr) (n c : Nat) (l : List Bool) (B : Option Addr) (p d : Nat) (ws : List W3) (t : Int) (w : World) (hA : Row w w.heap.size 1 A n (l.map Value.bool)) (hB : Row w w.heap.size 3 B p (wcells ws)) (hn : 100 < n) (hp : 30 < p) (hc : n ≤ c) (hcd : p ≤ d) (hcm : c ≤ 9223372036854775807) (hdm : d ≤ 9223372036854775807) :
    Calls Try.prog 6 #[.slice B p d, .slice A n c, .int .i64 t] w fun ee w' => ee = .returned (.bool true) ∧ Ext w w' := by
  have HR := Lib.hid (show Row w w.heap.size 1 A 100 ((l.take 100).map Value.bool) by rw [List.map_take]; exact hA.cut (by omega))
  have HL := Lib.hid (hB.cut3 (show 30 ≤ p by omega))
  have HN : 30 ≤ 9223372036854775807 := by omega
  have d1 : decide ((30 : Int) < (p : Int)) = true := by simp; omega
  have d2 : decide ((100 : Int) < (n : Int)) = true := by simp; omega
  obtain ⟨K, hK⟩ : ∃ K, K = t % 101 := ⟨_, rfl⟩
  have C1 := Lib.hid (fun w => within_any t 101 w (by omega) (by omega))
  rw [← hK] at C1
  clear hK hA hB
  go_enter Try.func6, Try.ntmps6
  go_wp2_with fail
  refine (C1.out _).mono ?_
  rintro e w' ⟨rfl, rfl⟩
  go_wp2_with fail
  clear C1
  go_loopw [11] (fun i wr => LoopRel w 100 K i wr) (fun i _ => 100 - (intOf i).toNat)
  case atStart => exact ⟨0, 0, 0, 0, 0, _, Nat.zero_le _, rfl, by rfl, by omega, by omega, by omega, by omega, by omega, by omega, World.plus_self _⟩
  case round =>
    obtain ⟨k, ta, ea, tb, eb, x, hk, rfl, hs, g1, g2, g3, g4, g5, g6, rfl⟩ := hrel
    have hs' := hs.out
    have b1 : ta ≤ 100 := by omega
    have b2 : tb ≤ 100 := by omega
    have b3 : ta + tb ≤ 100 := by omega
    have b4 : 0 ≤ ta + tb := by omega
    have b5 : ea + eb ≤ 100 := by omega
    have b6 : 0 ≤ ea + eb := by omega
    by_cases hlt : k < 100
    · obtain ⟨b, o, z, rfl, hb, hz, hcell⟩ := HR.out.bool_at hlt
      have q3 := bit_bd z
      clear hs' hz HR
      by_cases hK : (k : Int) < K
      · go_wp2_with fail
        apply wp_region_ext 6 [is _, is _, is _, is _, is _, is (win (ta + tb + 1) (ea + eb + bit z) 0)] (by kernel_rfl) (by kernel_rfl) rfl
        case hops =>
          simp only [List.take_succ_cons, List.take_zero]
          refine ⟨?_, ?_, ?_, ?_, ?_, ?_, trivial⟩
          all_goals
            intro vs x hd
            simp only [putAll, Act.put, List.setIfInBounds_toArray, List.set_cons_succ, List.set_cons_zero, Nat.zero_add, Nat.reduceAdd]
            simp [depFacts, is, isRow, isRowN, isBox, dataE] at hd
            try simp only [World.plus_plus] at hd
            simp only [Region.wanted, if_true, comes]
            try simp [yielded, hd, comes]
            go_simp
            try go_bits
            first
              | exact ⟨Ext.refl _, rfl⟩
              | exact ⟨(Ext.refl _).alloc _, _, rfl, Cells.new _ _ _ _ rfl⟩
              | exact ⟨(Ext.refl _).alloc _, _, rfl, Box.new _ _ _ _ (by simp [World.le_plus]) rfl⟩
              | (refine (count_small _ _ 0 z _ b4 (by omega) b6 (by omega)).mono ?_; rintro e w' ⟨rfl, hE⟩; exact ⟨_, rfl, hE, rfl⟩)
        case hst => exact ⟨(by apply is.st), (by apply is.st), (by apply is.st), (by apply is.st), (by apply is.st), (by apply is.st), trivial⟩
        case hfin =>
          intro vs x hf
          try simp only [World.plus_plus] at hf ⊢
          simp only [List.take_succ_cons, List.take_zero, List.drop_succ_cons, List.drop_zero, putAll, Act.put, List.setIfInBounds_toArray, List.set_cons_succ, List.set_cons_zero]
          simp only [facts, is, Nat.zero_add, Nat.reduceAdd] at hf
          simp only [Nat.zero_add, Nat.reduceAdd, hf]
          clear hf
          go_wp2_with fail
          apply wp_region_ext 6 [is _, is _, is _, is _, is _, is (win (ta + 1) (ea + bit z) 0)] (by kernel_rfl) (by kernel_rfl) rfl
          case hops =>
            simp only [List.take_succ_cons, List.take_zero]
            refine ⟨?_, ?_, ?_, ?_, ?_, ?_, trivial⟩
            all_goals
              intro vs x hd
              simp only [putAll, Act.put, List.setIfInBounds_toArray, List.set_cons_succ, List.set_cons_zero, Nat.zero_add, Nat.reduceAdd]
              simp [depFacts, is, isRow, isRowN, isBox, dataE] at hd
              try simp only [World.plus_plus] at hd
              simp only [Region.wanted, if_true, comes]
              try simp [yielded, hd, comes]
              go_simp
              try go_bits
              first
                | exact ⟨Ext.refl _, rfl⟩
                | exact ⟨(Ext.refl _).alloc _, _, rfl, Cells.new _ _ _ _ rfl⟩
                | exact ⟨(Ext.refl _).alloc _, _, rfl, Box.new _ _ _ _ (by simp [World.le_plus]) rfl⟩
                | (refine (count_small _ _ 0 z _ g1 (by omega) g3 (by omega)).mono ?_; rintro e w' ⟨rfl, hE⟩; exact ⟨_, rfl, hE, rfl⟩)
          case hst => exact ⟨(by apply is.st), (by apply is.st), (by apply is.st), (by apply is.st), (by apply is.st), (by apply is.st), trivial⟩
          case hfin =>
            intro vs x hf
            try simp only [World.plus_plus] at hf ⊢
            simp only [List.take_succ_cons, List.take_zero, List.drop_succ_cons, List.drop_zero, putAll, Act.put, List.setIfInBounds_toArray, List.set_cons_succ, List.set_cons_zero]
            simp only [facts, is, Nat.zero_add, Nat.reduceAdd] at hf
            simp only [Nat.zero_add, Nat.reduceAdd, hf]
            clear hf
            go_wp2
            go_roundw
            case rel => exact ⟨k + 1, ta + 1, ea + bit z, tb, eb, _, by omega, by go_num, by have := hs.out; show ta + 1 + tb = ((k + 1 : Nat) : Int); omega, by omega, by omega, by omega, by omega, by omega, by omega, by rw [show ta + 1 + tb = ta + tb + 1 by omega, show ea + bit z + eb = ea + eb + bit z by omega]⟩
            case measure => simp [intOf]; omega
      · go_wp2_with fail
        apply wp_region_ext 6 [is _, is _, is _, is _, is _, is (win (ta + tb + 1) (ea + eb + bit z) 0)] (by kernel_rfl) (by kernel_rfl) rfl
        case hops =>
          simp only [List.take_succ_cons, List.take_zero]
          refine ⟨?_, ?_, ?_, ?_, ?_, ?_, trivial⟩
          all_goals
            intro vs x hd
            simp only [putAll, Act.put, List.setIfInBounds_toArray, List.set_cons_succ, List.set_cons_zero, Nat.zero_add, Nat.reduceAdd]
            simp [depFacts, is, isRow, isRowN, isBox, dataE] at hd
            try simp only [World.plus_plus] at hd
            simp only [Region.wanted, if_true, comes]
            try simp [yielded, hd, comes]
            go_simp
            try go_bits
            first
              | exact ⟨Ext.refl _, rfl⟩
              | exact ⟨(Ext.refl _).alloc _, _, rfl, Cells.new _ _ _ _ rfl⟩
              | exact ⟨(Ext.refl _).alloc _, _, rfl, Box.new _ _ _ _ (by simp [World.le_plus]) rfl⟩
              | (refine (count_small _ _ 0 z _ b4 (by omega) b6 (by omega)).mono ?_; rintro e w' ⟨rfl, hE⟩; exact ⟨_, rfl, hE, rfl⟩)
        case hst => exact ⟨(by apply is.st), (by apply is.st), (by apply is.st), (by apply is.st), (by apply is.st), (by apply is.st), trivial⟩
        case hfin =>
          intro vs x hf
          try simp only [World.plus_plus] at hf ⊢
          simp only [List.take_succ_cons, List.take_zero, List.drop_succ_cons, List.drop_zero, putAll, Act.put, List.setIfInBounds_toArray, List.set_cons_succ, List.set_cons_zero]
          simp only [facts, is, Nat.zero_add, Nat.reduceAdd] at hf
          simp only [Nat.zero_add, Nat.reduceAdd, hf]
          clear hf
          go_wp2_with fail
          apply wp_region_ext 6 [is _, is _, is _, is _, is _, is (win (tb + 1) (eb + bit z) 0)] (by kernel_rfl) (by kernel_rfl) rfl
          case hops =>
            simp only [List.take_succ_cons, List.take_zero]
            refine ⟨?_, ?_, ?_, ?_, ?_, ?_, trivial⟩
            all_goals
              intro vs x hd
              simp only [putAll, Act.put, List.setIfInBounds_toArray, List.set_cons_succ, List.set_cons_zero, Nat.zero_add, Nat.reduceAdd]
              simp [depFacts, is, isRow, isRowN, isBox, dataE] at hd
              try simp only [World.plus_plus] at hd
              simp only [Region.wanted, if_true, comes]
              try simp [yielded, hd, comes]
              go_simp
              try go_bits
              first
                | exact ⟨Ext.refl _, rfl⟩
                | exact ⟨(Ext.refl _).alloc _, _, rfl, Cells.new _ _ _ _ rfl⟩
                | exact ⟨(Ext.refl _).alloc _, _, rfl, Box.new _ _ _ _ (by simp [World.le_plus]) rfl⟩
                | (refine (count_small _ _ 0 z _ g2 (by omega) g4 (by omega)).mono ?_; rintro e w' ⟨rfl, hE⟩; exact ⟨_, rfl, hE, rfl⟩)
          case hst => exact ⟨(by apply is.st), (by apply is.st), (by apply is.st), (by apply is.st), (by apply is.st), (by apply is.st), trivial⟩
          case hfin =>
            intro vs x hf
            try simp only [World.plus_plus] at hf ⊢
            simp only [List.take_succ_cons, List.take_zero, List.drop_succ_cons, List.drop_zero, putAll, Act.put, List.setIfInBounds_toArray, List.set_cons_succ, List.set_cons_zero]
            simp only [facts, is, Nat.zero_add, Nat.reduceAdd] at hf
            simp only [Nat.zero_add, Nat.reduceAdd, hf]
            clear hf
            go_wp2
            go_roundw
            case rel => exact ⟨k + 1, ta, ea, tb + 1, eb + bit z, _, by omega, by go_num, by have := hs.out; show ta + (tb + 1) = ((k + 1 : Nat) : Int); omega, by omega, by omega, by omega, by omega, by omega, by omega, by rw [show ta + (tb + 1) = ta + tb + 1 by omega, show ea + (eb + bit z) = ea + eb + bit z by omega]⟩
            case measure => simp [intOf]; omega
    · have e1 : tb + ta = ta + tb := by omega
      have e2 : eb + ea = ea + eb := by omega
      have E1 := Lib.hid e1
      have E2 := Lib.hid e2
      clear hs' HR hs e1 e2
      go_wp2_with fail
      apply wp_region_ext 25 [is _, is _, is _, is _, is _, is _, is _, is _, isRowN 2 [.int .i64 ta, .int .i64 ea, .int .i64 0, .int .i64 tb, .int .i64 eb, .int .i64 0], is (win (ta + tb) (ea + eb) 0), is _, is _, is _, is _, is _, is _, isRowN 2 [.int .i64 tb, .int .i64 eb, .int .i64 0, .int .i64 ta, .int .i64 ea, .int .i64 0], is (win (ta + tb) (ea + eb) 0), is _, is _, is _, is _, is (.bool true), is _, is _] (by kernel_rfl) (by kernel_rfl) rfl
      case hops =>
        simp only [List.take_succ_cons, List.take_zero]
        refine ⟨?_, ?_, ?_, ?_, ?_, ?_, ?_, ?_, ?_, ?_, ?_, ?_, ?_, ?_, ?_, ?_, ?_, ?_, ?_, ?_, ?_, ?_, ?_, ?_, ?_, trivial⟩
        all_goals
          intro vs x hd
          simp only [putAll, Act.put, List.setIfInBounds_toArray, List.set_cons_succ, List.set_cons_zero, Nat.zero_add, Nat.reduceAdd]
          simp [depFacts, is, isRow, isRowN, isBox, dataE] at hd
          try simp only [World.plus_plus] at hd
          simp only [Region.wanted, if_true, comes]
          try simp [yielded, hd, comes]
          go_simp
          try go_bits
          first
            | exact ⟨Ext.refl _, rfl⟩
            | exact ⟨(Ext.refl _).alloc _, _, rfl, Cells.new _ _ _ _ rfl⟩
            | exact ⟨(Ext.refl _).alloc _, _, rfl, Box.new _ _ _ _ (by simp [World.le_plus]) rfl⟩
            | ((go_at_call 10); refine (awake_any _).mono ?_; rintro e w' ⟨rfl, hE⟩; exact ⟨_, rfl, hE, rfl⟩)
            | ((go_at_call 13); refine (refMerge_any _ _ _ _ _ (HL.out.lift (by repeat (first | exact Ext.refl _ | apply Ext.plus_ | apply Ext.alloc))) HN).mono ?_; rintro e w' ⟨rfl, hE⟩; exact ⟨_, rfl, hE, rfl⟩)
            | (obtain ⟨⟨b, hv, hb⟩, _⟩ := hd; rw [hv]; refine (merge_two _ _ _ _ b _ hb (by omega) (by omega) (by omega) (by omega) (by omega) (by omega) (by omega) (by omega)).mono ?_; rintro e w' ⟨rfl, hE⟩; exact ⟨_, rfl, hE, by first | rfl | (rw [E1.out, E2.out]; rfl)⟩)
            | ((go_at_call 12); refine (merge_any _ _ _ _ _ (HL.out.lift (by repeat (first | exact Ext.refl _ | apply Ext.plus_ | apply Ext.alloc))) HN).mono ?_; rintro e w' ⟨rfl, hE⟩; exact ⟨_, rfl, hE, rfl⟩)
      case hst => exact ⟨(by apply is.st), (by apply is.st), (by apply is.st), (by apply is.st), (by apply is.st), (by apply is.st), (by apply is.st), (by apply is.st), (by apply isRowN.st), (by apply is.st), (by apply is.st), (by apply is.st), (by apply is.st), (by apply is.st), (by apply is.st), (by apply is.st), (by apply isRowN.st), (by apply is.st), (by apply is.st), (by apply is.st), (by apply is.st), (by apply is.st), (by apply is.st), (by apply is.st), (by apply is.st), trivial⟩
      case hfin =>
        intro vs x hf
        try simp only [World.plus_plus] at hf ⊢
        simp only [List.take_succ_cons, List.take_zero, List.drop_succ_cons, List.drop_zero, putAll, Act.put, List.setIfInBounds_toArray, List.set_cons_succ, List.set_cons_zero]
        simp only [facts, is, Nat.zero_add, Nat.reduceAdd] at hf
        simp only [Nat.zero_add, Nat.reduceAdd, hf]
        clear hf
        go_wp2
        go_ret
        refine ⟨rfl, ?_⟩
        repeat (first | exact Ext.refl _ | apply Ext.drew | apply Ext.drewN | apply Ext.plus_ | apply Ext.alloc | assumption)

theorem law_merge (v0 v1 v2 : Value) (w : World) (p0 : ∃ A n c, ∃ ws : List W3, v0 = .slice A n c ∧ Row w w.heap.size 3 A n (wcells ws) ∧ n ≤ c ∧ c ≤ 9223372036854775807) (p1 : ∃ A n c, ∃ l : List Bool, v1 = .slice A n c ∧ ArgRow w A n c (l.map Value.bool)) (p2 : ∃ n, v2 = .int .i64 n ∧ I64 n) :
    Calls Try.prog 6 #[v0, v1, v2] w fun ee w' => ee = .returned (.bool true) ∧ Ext w w' := by
  obtain ⟨B, p, d, ws, rfl, hB, hd, hdm⟩ := p0
  obtain ⟨A, n, c, l, rfl, hA, hc, hcm, _⟩ := p1
  obtain ⟨t, rfl, _⟩ := p2
  by_cases h1 : 100 < n <;> by_cases h2 : 30 < p
  · exact lm_ll A n c l B p d ws t w hA hB h1 h2 hc hd hcm hdm
  · exact lm_ls A n c l B p d ws t w hA hB h1 (by omega) hc hd hcm hdm
  · exact lm_sl A n c l B p d ws t w hA hB (by omega) h2 hc hd hcm hdm
  · exact lm_ss A n c l B p d ws t w hA hB (by omega) (by omega) hc hd hcm hdm
end Go.Proofs.Ytngokfaaaeikoaa
