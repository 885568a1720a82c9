/- PlanValidate: the walk -/
import Derived.Test.YtmelgjlpeegglaaLawWorse
import Derived.OwnWalk
namespace Go.Proofs.Ytmelgjlpeegglaa
open Go.RowKit Go.Rg

attribute [local irreducible] pv
set_option maxHeartbeats 1000000 in
theorem validate_wild (lv : Value) (A : Option Addr) (n c : Nat) (l : List Int) (mi nu de ho wi at_ q : Int) (w : World) (hr : Row w w.heap.size 1 A n (ints l)) (hc : n ≤ c) (hn : n ≤ 9223372036854775807) (hlv : ∃ B k d, lv = .slice B k d) :
    Calls Try.prog 3 #[lv, pl A n c mi nu de ho wi, .int .i64 at_, .int .i64 q, .bool true] w fun ee w' => ee = .returned (.bool true) ∧ Ext w w' := by
  obtain ⟨B, kk, d, rfl⟩ := hlv
  go_enter Try.func3, Try.ntmps3
  go_wp2_with fail
  apply wp_region_ext 8 [is _, is (.int .i64 (pv l mi nu de ho wi)), is _, is (.int .i64 (pv l mi nu de ho wi)), is _, is _, is (.bool true), is _] (by kernel_rfl) (by kernel_rfl) rfl
  case hops =>
    simp only [List.take_succ_cons, List.take_zero]
    refine ⟨?_, ?_, ?_, ?_, ?_, ?_, ?_, ?_, trivial⟩
    all_goals
      intro vs x hd
      simp only [putAll, Act.put, List.setIfInBounds_toArray, List.set_cons_succ, List.set_cons_zero, Nat.zero_add, Nat.reduceAdd]
      simp [depFacts, is, isRow, isRowN, isBox, dataE] at hd
      try simp only [World.plus_plus] at hd
      simp only [Region.wanted, if_true, comes]
      try simp [yielded, hd, comes]
      go_simp
      try go_bits
      first
        | exact ⟨Ext.refl _, rfl⟩
        | exact rfl
        | exact ⟨(Ext.refl _).alloc _, _, rfl, Cells.new _ _ _ _ rfl⟩
        | exact ⟨(Ext.refl _).alloc _, _, rfl, Box.new _ _ _ _ (by simp [World.le_plus]) rfl⟩
        | ((go_at_call 8); refine (validate_any A n c l mi nu de ho wi _ (hr.lift (by repeat (first | exact Ext.refl _ | assumption | apply Ext.plus_ | apply Ext.alloc | apply Ext.drew))) hc hn).mono ?_; rintro e w' ⟨rfl, hE⟩; exact ⟨_, rfl, hE, rfl⟩)
        | ((go_at_call 10); refine (refPlan_any A n c l mi nu de ho wi _ (hr.lift (by repeat (first | exact Ext.refl _ | assumption | apply Ext.plus_ | apply Ext.alloc | apply Ext.drew))) hc hn).mono ?_; rintro e w' ⟨rfl, hE⟩; exact ⟨_, rfl, hE, rfl⟩)
        | ((go_at_call 11); refine (awake_any _).mono ?_; rintro e w' ⟨rfl, hE⟩; exact ⟨_, rfl, hE, rfl⟩)
  case hst => exact ⟨(by apply is.st), (by apply is.st), (by apply is.st), (by apply is.st), (by apply is.st), (by apply is.st), (by apply is.st), (by apply is.st), trivial⟩
  case hfin =>
    intro vs x hf
    try simp only [World.plus_plus] at hf ⊢
    simp only [List.take_succ_cons, List.take_zero, List.drop_succ_cons, List.drop_zero, putAll, Act.put, List.setIfInBounds_toArray, List.set_cons_succ, List.set_cons_zero]
    simp only [facts, is, Nat.zero_add, Nat.reduceAdd] at hf
    simp only [Nat.zero_add, Nat.reduceAdd, hf]
    clear hf
    go_wp2
    go_ret
    refine ⟨rfl, ?_⟩
    repeat (first | exact Ext.refl _ | apply Ext.drew | apply Ext.drewN | apply Ext.plus_ | apply Ext.alloc | assumption)

set_option maxHeartbeats 1000000 in
theorem validate_made1 (B : Option Addr) (k d : Nat) (ll : List Int) (A0 : Option Addr) (n0 c0 : Nat) (mi0 nu0 de0 ho0 wi0 at_ q : Int) (w : World) (hB : Row w w.heap.size 1 B k (ints ll)) (hk : k ≤ 9223372036854775807) (hat : at_ % 7 = 1) :
    Calls Try.prog 3 #[.slice B k d, pl A0 n0 c0 mi0 nu0 de0 ho0 wi0, .int .i64 at_, .int .i64 q, .bool false] w fun ee w' => ee = .returned (.bool true) ∧ Ext w w' := by
  have CW := Lib.hid (fun w => within_any at_ 7 w (by decide) (by decide))
  rw [hat] at CW
  go_enter Try.func3, Try.ntmps3
  go_wp2_with fail
  refine (srcPlan_any (w.heap.size + 1 + 1) B k d ll 0 _ ?hsrc).mono ?_
  case hsrc => exact src_at hB (by repeat (first | exact Ext.refl _ | assumption | apply Ext.plus_ | apply Ext.alloc | apply Ext.drew)) (by simp) hk
  rintro ee w1 ⟨A, c, wl, mi, nu, de, ho, wi, rfl, hsm, hown, hc, hc2, v, hE⟩
  obtain ⟨x, rfl⟩ := hE.plus
  have hx : RowX x (w.heap.size + 1 + 1 + 1) A wl.length (ints wl) := by
    have := RowX.of_own hown (by simp)
    simpa using this
  have hn3 := hsm.n3
  have hn : wl.length ≤ 9223372036854775807 := by omega
  have hok := Lib.hid hsm.ok
  clear hown hE hsm
  go_wp2_with fail
  refine (validate_ok A wl.length c wl mi nu de ho wi _ (by (repeat (refine Row.up_alloc ?_ _)); apply RowX.row; (repeat (first | exact hx | apply RowX.more | apply RowX.draws)); simp) hok.out hc).mono ?_
  rintro e w' ⟨rfl, hE⟩
  obtain ⟨x, rfl⟩ := hE.plus
  clear hE
  go_wp2_with fail
  refine (CW.out _).mono ?_
  rintro e w' ⟨rfl, rfl⟩
  go_wp2_with fail
  clear CW hok
  apply wp_region_ext 8 [is _, is (.int .i64 (pv wl q nu de ho wi)), is _, is (.int .i64 (pv wl q nu de ho wi)), is _, is _, is (.bool true), is _] (by kernel_rfl) (by kernel_rfl) rfl
  case hops =>
    simp only [List.take_succ_cons, List.take_zero]
    refine ⟨?_, ?_, ?_, ?_, ?_, ?_, ?_, ?_, trivial⟩
    all_goals
      intro vs x hd
      simp only [putAll, Act.put, List.setIfInBounds_toArray, List.set_cons_succ, List.set_cons_zero, Nat.zero_add, Nat.reduceAdd]
      simp [depFacts, is, isRow, isRowN, isBox, dataE] at hd
      try simp only [World.plus_plus] at hd
      simp only [Region.wanted, if_true, comes]
      try simp [yielded, hd, comes]
      go_simp
      try go_bits
      first
        | exact ⟨Ext.refl _, rfl⟩
        | exact rfl
        | exact ⟨(Ext.refl _).alloc _, _, rfl, Cells.new _ _ _ _ rfl⟩
        | exact ⟨(Ext.refl _).alloc _, _, rfl, Box.new _ _ _ _ (by simp [World.le_plus]) rfl⟩
        | ((go_at_call 8); refine (validate_any A wl.length c wl q nu de ho wi _ (by (repeat (refine Row.up_alloc ?_ _)); apply RowX.row; (repeat (first | exact hx | apply RowX.more | apply RowX.draws)); simp) hc hn).mono ?_; rintro e w' ⟨rfl, hE⟩; exact ⟨_, rfl, hE, rfl⟩)
        | ((go_at_call 10); refine (refPlan_any A wl.length c wl q nu de ho wi _ (by (repeat (refine Row.up_alloc ?_ _)); apply RowX.row; (repeat (first | exact hx | apply RowX.more | apply RowX.draws)); simp) hc hn).mono ?_; rintro e w' ⟨rfl, hE⟩; exact ⟨_, rfl, hE, rfl⟩)
        | ((go_at_call 11); refine (awake_any _).mono ?_; rintro e w' ⟨rfl, hE⟩; exact ⟨_, rfl, hE, rfl⟩)
  case hst => exact ⟨(by apply is.st), (by apply is.st), (by apply is.st), (by apply is.st), (by apply is.st), (by apply is.st), (by apply is.st), (by apply is.st), trivial⟩
  case hfin =>
    intro vs x hf
    try simp only [World.plus_plus] at hf ⊢
    simp only [List.take_succ_cons, List.take_zero, List.drop_succ_cons, List.drop_zero, putAll, Act.put, List.setIfInBounds_toArray, List.set_cons_succ, List.set_cons_zero]
    simp only [facts, is, Nat.zero_add, Nat.reduceAdd] at hf
    simp only [Nat.zero_add, Nat.reduceAdd, hf]
    clear hf
    go_wp2
    go_ret
    refine ⟨rfl, ?_⟩
    repeat (first | exact Ext.refl _ | apply Ext.drew | apply Ext.drewN | apply Ext.plus_ | apply Ext.alloc | assumption)
set_option maxHeartbeats 1000000 in
theorem validate_made2 (B : Option Addr) (k d : Nat) (ll : List Int) (A0 : Option Addr) (n0 c0 : Nat) (mi0 nu0 de0 ho0 wi0 at_ q : Int) (w : World) (hB : Row w w.heap.size 1 B k (ints ll)) (hk : k ≤ 9223372036854775807) (hat : at_ % 7 = 2) :
    Calls Try.prog 3 #[.slice B k d, pl A0 n0 c0 mi0 nu0 de0 ho0 wi0, .int .i64 at_, .int .i64 q, .bool false] w fun ee w' => ee = .returned (.bool true) ∧ Ext w w' := by
  have CW := Lib.hid (fun w => within_any at_ 7 w (by decide) (by decide))
  rw [hat] at CW
  go_enter Try.func3, Try.ntmps3
  go_wp2_with fail
  refine (srcPlan_any (w.heap.size + 1 + 1) B k d ll 0 _ ?hsrc).mono ?_
  case hsrc => exact src_at hB (by repeat (first | exact Ext.refl _ | assumption | apply Ext.plus_ | apply Ext.alloc | apply Ext.drew)) (by simp) hk
  rintro ee w1 ⟨A, c, wl, mi, nu, de, ho, wi, rfl, hsm, hown, hc, hc2, v, hE⟩
  obtain ⟨x, rfl⟩ := hE.plus
  have hx : RowX x (w.heap.size + 1 + 1 + 1) A wl.length (ints wl) := by
    have := RowX.of_own hown (by simp)
    simpa using this
  have hn3 := hsm.n3
  have hn : wl.length ≤ 9223372036854775807 := by omega
  have hok := Lib.hid hsm.ok
  clear hown hE hsm
  go_wp2_with fail
  refine (validate_ok A wl.length c wl mi nu de ho wi _ (by (repeat (refine Row.up_alloc ?_ _)); apply RowX.row; (repeat (first | exact hx | apply RowX.more | apply RowX.draws)); simp) hok.out hc).mono ?_
  rintro e w' ⟨rfl, hE⟩
  obtain ⟨x, rfl⟩ := hE.plus
  clear hE
  go_wp2_with fail
  refine (CW.out _).mono ?_
  rintro e w' ⟨rfl, rfl⟩
  go_wp2_with fail
  clear CW hok
  apply wp_region_ext 8 [is _, is (.int .i64 (pv wl mi q de ho wi)), is _, is (.int .i64 (pv wl mi q de ho wi)), is _, is _, is (.bool true), is _] (by kernel_rfl) (by kernel_rfl) rfl
  case hops =>
    simp only [List.take_succ_cons, List.take_zero]
    refine ⟨?_, ?_, ?_, ?_, ?_, ?_, ?_, ?_, trivial⟩
    all_goals
      intro vs x hd
      simp only [putAll, Act.put, List.setIfInBounds_toArray, List.set_cons_succ, List.set_cons_zero, Nat.zero_add, Nat.reduceAdd]
      simp [depFacts, is, isRow, isRowN, isBox, dataE] at hd
      try simp only [World.plus_plus] at hd
      simp only [Region.wanted, if_true, comes]
      try simp [yielded, hd, comes]
      go_simp
      try go_bits
      first
        | exact ⟨Ext.refl _, rfl⟩
        | exact rfl
        | exact ⟨(Ext.refl _).alloc _, _, rfl, Cells.new _ _ _ _ rfl⟩
        | exact ⟨(Ext.refl _).alloc _, _, rfl, Box.new _ _ _ _ (by simp [World.le_plus]) rfl⟩
        | ((go_at_call 8); refine (validate_any A wl.length c wl mi q de ho wi _ (by (repeat (refine Row.up_alloc ?_ _)); apply RowX.row; (repeat (first | exact hx | apply RowX.more | apply RowX.draws)); simp) hc hn).mono ?_; rintro e w' ⟨rfl, hE⟩; exact ⟨_, rfl, hE, rfl⟩)
        | ((go_at_call 10); refine (refPlan_any A wl.length c wl mi q de ho wi _ (by (repeat (refine Row.up_alloc ?_ _)); apply RowX.row; (repeat (first | exact hx | apply RowX.more | apply RowX.draws)); simp) hc hn).mono ?_; rintro e w' ⟨rfl, hE⟩; exact ⟨_, rfl, hE, rfl⟩)
        | ((go_at_call 11); refine (awake_any _).mono ?_; rintro e w' ⟨rfl, hE⟩; exact ⟨_, rfl, hE, rfl⟩)
  case hst => exact ⟨(by apply is.st), (by apply is.st), (by apply is.st), (by apply is.st), (by apply is.st), (by apply is.st), (by apply is.st), (by apply is.st), trivial⟩
  case hfin =>
    intro vs x hf
    try simp only [World.plus_plus] at hf ⊢
    simp only [List.take_succ_cons, List.take_zero, List.drop_succ_cons, List.drop_zero, putAll, Act.put, List.setIfInBounds_toArray, List.set_cons_succ, List.set_cons_zero]
    simp only [facts, is, Nat.zero_add, Nat.reduceAdd] at hf
    simp only [Nat.zero_add, Nat.reduceAdd, hf]
    clear hf
    go_wp2
    go_ret
    refine ⟨rfl, ?_⟩
    repeat (first | exact Ext.refl _ | apply Ext.drew | apply Ext.drewN | apply Ext.plus_ | apply Ext.alloc | assumption)
set_option maxHeartbeats 1000000 in
theorem validate_made3 (B : Option Addr) (k d : Nat) (ll : List Int) (A0 : Option Addr) (n0 c0 : Nat) (mi0 nu0 de0 ho0 wi0 at_ q : Int) (w : World) (hB : Row w w.heap.size 1 B k (ints ll)) (hk : k ≤ 9223372036854775807) (hat : at_ % 7 = 3) :
    Calls Try.prog 3 #[.slice B k d, pl A0 n0 c0 mi0 nu0 de0 ho0 wi0, .int .i64 at_, .int .i64 q, .bool false] w fun ee w' => ee = .returned (.bool true) ∧ Ext w w' := by
  have CW := Lib.hid (fun w => within_any at_ 7 w (by decide) (by decide))
  rw [hat] at CW
  go_enter Try.func3, Try.ntmps3
  go_wp2_with fail
  refine (srcPlan_any (w.heap.size + 1 + 1) B k d ll 0 _ ?hsrc).mono ?_
  case hsrc => exact src_at hB (by repeat (first | exact Ext.refl _ | assumption | apply Ext.plus_ | apply Ext.alloc | apply Ext.drew)) (by simp) hk
  rintro ee w1 ⟨A, c, wl, mi, nu, de, ho, wi, rfl, hsm, hown, hc, hc2, v, hE⟩
  obtain ⟨x, rfl⟩ := hE.plus
  have hx : RowX x (w.heap.size + 1 + 1 + 1) A wl.length (ints wl) := by
    have := RowX.of_own hown (by simp)
    simpa using this
  have hn3 := hsm.n3
  have hn : wl.length ≤ 9223372036854775807 := by omega
  have hok := Lib.hid hsm.ok
  clear hown hE hsm
  go_wp2_with fail
  refine (validate_ok A wl.length c wl mi nu de ho wi _ (by (repeat (refine Row.up_alloc ?_ _)); apply RowX.row; (repeat (first | exact hx | apply RowX.more | apply RowX.draws)); simp) hok.out hc).mono ?_
  rintro e w' ⟨rfl, hE⟩
  obtain ⟨x, rfl⟩ := hE.plus
  clear hE
  go_wp2_with fail
  refine (CW.out _).mono ?_
  rintro e w' ⟨rfl, rfl⟩
  go_wp2_with fail
  clear CW hok
  apply wp_region_ext 8 [is _, is (.int .i64 (pv wl mi nu q ho wi)), is _, is (.int .i64 (pv wl mi nu q ho wi)), is _, is _, is (.bool true), is _] (by kernel_rfl) (by kernel_rfl) rfl
  case hops =>
    simp only [List.take_succ_cons, List.take_zero]
    refine ⟨?_, ?_, ?_, ?_, ?_, ?_, ?_, ?_, trivial⟩
    all_goals
      intro vs x hd
      simp only [putAll, Act.put, List.setIfInBounds_toArray, List.set_cons_succ, List.set_cons_zero, Nat.zero_add, Nat.reduceAdd]
      simp [depFacts, is, isRow, isRowN, isBox, dataE] at hd
      try simp only [World.plus_plus] at hd
      simp only [Region.wanted, if_true, comes]
      try simp [yielded, hd, comes]
      go_simp
      try go_bits
      first
        | exact ⟨Ext.refl _, rfl⟩
        | exact rfl
        | exact ⟨(Ext.refl _).alloc _, _, rfl, Cells.new _ _ _ _ rfl⟩
        | exact ⟨(Ext.refl _).alloc _, _, rfl, Box.new _ _ _ _ (by simp [World.le_plus]) rfl⟩
        | ((go_at_call 8); refine (validate_any A wl.length c wl mi nu q ho wi _ (by (repeat (refine Row.up_alloc ?_ _)); apply RowX.row; (repeat (first | exact hx | apply RowX.more | apply RowX.draws)); simp) hc hn).mono ?_; rintro e w' ⟨rfl, hE⟩; exact ⟨_, rfl, hE, rfl⟩)
        | ((go_at_call 10); refine (refPlan_any A wl.length c wl mi nu q ho wi _ (by (repeat (refine Row.up_alloc ?_ _)); apply RowX.row; (repeat (first | exact hx | apply RowX.more | apply RowX.draws)); simp) hc hn).mono ?_; rintro e w' ⟨rfl, hE⟩; exact ⟨_, rfl, hE, rfl⟩)
        | ((go_at_call 11); refine (awake_any _).mono ?_; rintro e w' ⟨rfl, hE⟩; exact ⟨_, rfl, hE, rfl⟩)
  case hst => exact ⟨(by apply is.st), (by apply is.st), (by apply is.st), (by apply is.st), (by apply is.st), (by apply is.st), (by apply is.st), (by apply is.st), trivial⟩
  case hfin =>
    intro vs x hf
    try simp only [World.plus_plus] at hf ⊢
    simp only [List.take_succ_cons, List.take_zero, List.drop_succ_cons, List.drop_zero, putAll, Act.put, List.setIfInBounds_toArray, List.set_cons_succ, List.set_cons_zero]
    simp only [facts, is, Nat.zero_add, Nat.reduceAdd] at hf
    simp only [Nat.zero_add, Nat.reduceAdd, hf]
    clear hf
    go_wp2
    go_ret
    refine ⟨rfl, ?_⟩
    repeat (first | exact Ext.refl _ | apply Ext.drew | apply Ext.drewN | apply Ext.plus_ | apply Ext.alloc | assumption)
set_option maxHeartbeats 1000000 in
theorem validate_made4 (B : Option Addr) (k d : Nat) (ll : List Int) (A0 : Option Addr) (n0 c0 : Nat) (mi0 nu0 de0 ho0 wi0 at_ q : Int) (w : World) (hB : Row w w.heap.size 1 B k (ints ll)) (hk : k ≤ 9223372036854775807) (hat : at_ % 7 = 4) :
    Calls Try.prog 3 #[.slice B k d, pl A0 n0 c0 mi0 nu0 de0 ho0 wi0, .int .i64 at_, .int .i64 q, .bool false] w fun ee w' => ee = .returned (.bool true) ∧ Ext w w' := by
  have CW := Lib.hid (fun w => within_any at_ 7 w (by decide) (by decide))
  rw [hat] at CW
  go_enter Try.func3, Try.ntmps3
  go_wp2_with fail
  refine (srcPlan_any (w.heap.size + 1 + 1) B k d ll 0 _ ?hsrc).mono ?_
  case hsrc => exact src_at hB (by repeat (first | exact Ext.refl _ | assumption | apply Ext.plus_ | apply Ext.alloc | apply Ext.drew)) (by simp) hk
  rintro ee w1 ⟨A, c, wl, mi, nu, de, ho, wi, rfl, hsm, hown, hc, hc2, v, hE⟩
  obtain ⟨x, rfl⟩ := hE.plus
  have hx : RowX x (w.heap.size + 1 + 1 + 1) A wl.length (ints wl) := by
    have := RowX.of_own hown (by simp)
    simpa using this
  have hn3 := hsm.n3
  have hn : wl.length ≤ 9223372036854775807 := by omega
  have hok := Lib.hid hsm.ok
  clear hown hE hsm
  go_wp2_with fail
  refine (validate_ok A wl.length c wl mi nu de ho wi _ (by (repeat (refine Row.up_alloc ?_ _)); apply RowX.row; (repeat (first | exact hx | apply RowX.more | apply RowX.draws)); simp) hok.out hc).mono ?_
  rintro e w' ⟨rfl, hE⟩
  obtain ⟨x, rfl⟩ := hE.plus
  clear hE
  go_wp2_with fail
  refine (CW.out _).mono ?_
  rintro e w' ⟨rfl, rfl⟩
  go_wp2_with fail
  clear CW hok
  apply wp_region_ext 8 [is _, is (.int .i64 (pv wl mi nu de q wi)), is _, is (.int .i64 (pv wl mi nu de q wi)), is _, is _, is (.bool true), is _] (by kernel_rfl) (by kernel_rfl) rfl
  case hops =>
    simp only [List.take_succ_cons, List.take_zero]
    refine ⟨?_, ?_, ?_, ?_, ?_, ?_, ?_, ?_, trivial⟩
    all_goals
      intro vs x hd
      simp only [putAll, Act.put, List.setIfInBounds_toArray, List.set_cons_succ, List.set_cons_zero, Nat.zero_add, Nat.reduceAdd]
      simp [depFacts, is, isRow, isRowN, isBox, dataE] at hd
      try simp only [World.plus_plus] at hd
      simp only [Region.wanted, if_true, comes]
      try simp [yielded, hd, comes]
      go_simp
      try go_bits
      first
        | exact ⟨Ext.refl _, rfl⟩
        | exact rfl
        | exact ⟨(Ext.refl _).alloc _, _, rfl, Cells.new _ _ _ _ rfl⟩
        | exact ⟨(Ext.refl _).alloc _, _, rfl, Box.new _ _ _ _ (by simp [World.le_plus]) rfl⟩
        | ((go_at_call 8); refine (validate_any A wl.length c wl mi nu de q wi _ (by (repeat (refine Row.up_alloc ?_ _)); apply RowX.row; (repeat (first | exact hx | apply RowX.more | apply RowX.draws)); simp) hc hn).mono ?_; rintro e w' ⟨rfl, hE⟩; exact ⟨_, rfl, hE, rfl⟩)
        | ((go_at_call 10); refine (refPlan_any A wl.length c wl mi nu de q wi _ (by (repeat (refine Row.up_alloc ?_ _)); apply RowX.row; (repeat (first | exact hx | apply RowX.more | apply RowX.draws)); simp) hc hn).mono ?_; rintro e w' ⟨rfl, hE⟩; exact ⟨_, rfl, hE, rfl⟩)
        | ((go_at_call 11); refine (awake_any _).mono ?_; rintro e w' ⟨rfl, hE⟩; exact ⟨_, rfl, hE, rfl⟩)
  case hst => exact ⟨(by apply is.st), (by apply is.st), (by apply is.st), (by apply is.st), (by apply is.st), (by apply is.st), (by apply is.st), (by apply is.st), trivial⟩
  case hfin =>
    intro vs x hf
    try simp only [World.plus_plus] at hf ⊢
    simp only [List.take_succ_cons, List.take_zero, List.drop_succ_cons, List.drop_zero, putAll, Act.put, List.setIfInBounds_toArray, List.set_cons_succ, List.set_cons_zero]
    simp only [facts, is, Nat.zero_add, Nat.reduceAdd] at hf
    simp only [Nat.zero_add, Nat.reduceAdd, hf]
    clear hf
    go_wp2
    go_ret
    refine ⟨rfl, ?_⟩
    repeat (first | exact Ext.refl _ | apply Ext.drew | apply Ext.drewN | apply Ext.plus_ | apply Ext.alloc | assumption)
set_option maxHeartbeats 1000000 in
theorem validate_made5 (B : Option Addr) (k d : Nat) (ll : List Int) (A0 : Option Addr) (n0 c0 : Nat) (mi0 nu0 de0 ho0 wi0 at_ q : Int) (w : World) (hB : Row w w.heap.size 1 B k (ints ll)) (hk : k ≤ 9223372036854775807) (hat : at_ % 7 = 5) :
    Calls Try.prog 3 #[.slice B k d, pl A0 n0 c0 mi0 nu0 de0 ho0 wi0, .int .i64 at_, .int .i64 q, .bool false] w fun ee w' => ee = .returned (.bool true) ∧ Ext w w' := by
  have CW := Lib.hid (fun w => within_any at_ 7 w (by decide) (by decide))
  rw [hat] at CW
  go_enter Try.func3, Try.ntmps3
  go_wp2_with fail
  refine (srcPlan_any (w.heap.size + 1 + 1) B k d ll 0 _ ?hsrc).mono ?_
  case hsrc => exact src_at hB (by repeat (first | exact Ext.refl _ | assumption | apply Ext.plus_ | apply Ext.alloc | apply Ext.drew)) (by simp) hk
  rintro ee w1 ⟨A, c, wl, mi, nu, de, ho, wi, rfl, hsm, hown, hc, hc2, v, hE⟩
  obtain ⟨x, rfl⟩ := hE.plus
  have hx : RowX x (w.heap.size + 1 + 1 + 1) A wl.length (ints wl) := by
    have := RowX.of_own hown (by simp)
    simpa using this
  have hn3 := hsm.n3
  have hn : wl.length ≤ 9223372036854775807 := by omega
  have hok := Lib.hid hsm.ok
  clear hown hE hsm
  go_wp2_with fail
  refine (validate_ok A wl.length c wl mi nu de ho wi _ (by (repeat (refine Row.up_alloc ?_ _)); apply RowX.row; (repeat (first | exact hx | apply RowX.more | apply RowX.draws)); simp) hok.out hc).mono ?_
  rintro e w' ⟨rfl, hE⟩
  obtain ⟨x, rfl⟩ := hE.plus
  clear hE
  go_wp2_with fail
  refine (CW.out _).mono ?_
  rintro e w' ⟨rfl, rfl⟩
  go_wp2_with fail
  clear CW hok
  apply wp_region_ext 8 [is _, is (.int .i64 (pv wl mi nu de ho q)), is _, is (.int .i64 (pv wl mi nu de ho q)), is _, is _, is (.bool true), is _] (by kernel_rfl) (by kernel_rfl) rfl
  case hops =>
    simp only [List.take_succ_cons, List.take_zero]
    refine ⟨?_, ?_, ?_, ?_, ?_, ?_, ?_, ?_, trivial⟩
    all_goals
      intro vs x hd
      simp only [putAll, Act.put, List.setIfInBounds_toArray, List.set_cons_succ, List.set_cons_zero, Nat.zero_add, Nat.reduceAdd]
      simp [depFacts, is, isRow, isRowN, isBox, dataE] at hd
      try simp only [World.plus_plus] at hd
      simp only [Region.wanted, if_true, comes]
      try simp [yielded, hd, comes]
      go_simp
      try go_bits
      first
        | exact ⟨Ext.refl _, rfl⟩
        | exact rfl
        | exact ⟨(Ext.refl _).alloc _, _, rfl, Cells.new _ _ _ _ rfl⟩
        | exact ⟨(Ext.refl _).alloc _, _, rfl, Box.new _ _ _ _ (by simp [World.le_plus]) rfl⟩
        | ((go_at_call 8); refine (validate_any A wl.length c wl mi nu de ho q _ (by (repeat (refine Row.up_alloc ?_ _)); apply RowX.row; (repeat (first | exact hx | apply RowX.more | apply RowX.draws)); simp) hc hn).mono ?_; rintro e w' ⟨rfl, hE⟩; exact ⟨_, rfl, hE, rfl⟩)
        | ((go_at_call 10); refine (refPlan_any A wl.length c wl mi nu de ho q _ (by (repeat (refine Row.up_alloc ?_ _)); apply RowX.row; (repeat (first | exact hx | apply RowX.more | apply RowX.draws)); simp) hc hn).mono ?_; rintro e w' ⟨rfl, hE⟩; exact ⟨_, rfl, hE, rfl⟩)
        | ((go_at_call 11); refine (awake_any _).mono ?_; rintro e w' ⟨rfl, hE⟩; exact ⟨_, rfl, hE, rfl⟩)
  case hst => exact ⟨(by apply is.st), (by apply is.st), (by apply is.st), (by apply is.st), (by apply is.st), (by apply is.st), (by apply is.st), (by apply is.st), trivial⟩
  case hfin =>
    intro vs x hf
    try simp only [World.plus_plus] at hf ⊢
    simp only [List.take_succ_cons, List.take_zero, List.drop_succ_cons, List.drop_zero, putAll, Act.put, List.setIfInBounds_toArray, List.set_cons_succ, List.set_cons_zero]
    simp only [facts, is, Nat.zero_add, Nat.reduceAdd] at hf
    simp only [Nat.zero_add, Nat.reduceAdd, hf]
    clear hf
    go_wp2
    go_ret
    refine ⟨rfl, ?_⟩
    repeat (first | exact Ext.refl _ | apply Ext.drew | apply Ext.drewN | apply Ext.plus_ | apply Ext.alloc | assumption)
set_option maxHeartbeats 1000000 in
theorem validate_made6 (B : Option Addr) (k d : Nat) (ll : List Int) (A0 : Option Addr) (n0 c0 : Nat) (mi0 nu0 de0 ho0 wi0 at_ q : Int) (w : World) (hB : Row w w.heap.size 1 B k (ints ll)) (hk : k ≤ 9223372036854775807) (hat : at_ % 7 = 6) :
    Calls Try.prog 3 #[.slice B k d, pl A0 n0 c0 mi0 nu0 de0 ho0 wi0, .int .i64 at_, .int .i64 q, .bool false] w fun ee w' => ee = .returned (.bool true) ∧ Ext w w' := by
  have CW := Lib.hid (fun w => within_any at_ 7 w (by decide) (by decide))
  rw [hat] at CW
  go_enter Try.func3, Try.ntmps3
  go_wp2_with fail
  refine (srcPlan_any (w.heap.size + 1 + 1) B k d ll 0 _ ?hsrc).mono ?_
  case hsrc => exact src_at hB (by repeat (first | exact Ext.refl _ | assumption | apply Ext.plus_ | apply Ext.alloc | apply Ext.drew)) (by simp) hk
  rintro ee w1 ⟨A, c, wl, mi, nu, de, ho, wi, rfl, hsm, hown, hc, hc2, v, hE⟩
  obtain ⟨x, rfl⟩ := hE.plus
  have hx : RowX x (w.heap.size + 1 + 1 + 1) A wl.length (ints wl) := by
    have := RowX.of_own hown (by simp)
    simpa using this
  have hn3 := hsm.n3
  have hn : wl.length ≤ 9223372036854775807 := by omega
  have hok := Lib.hid hsm.ok
  clear hown hE hsm
  go_wp2_with fail
  refine (validate_ok A wl.length c wl mi nu de ho wi _ (by (repeat (refine Row.up_alloc ?_ _)); apply RowX.row; (repeat (first | exact hx | apply RowX.more | apply RowX.draws)); simp) hok.out hc).mono ?_
  rintro e w' ⟨rfl, hE⟩
  obtain ⟨x, rfl⟩ := hE.plus
  clear hE
  go_wp2_with fail
  refine (CW.out _).mono ?_
  rintro e w' ⟨rfl, rfl⟩
  go_wp2_with fail
  clear CW hok
  apply wp_region_ext 8 [is _, is (.int .i64 (pv wl mi nu de ho wi)), is _, is (.int .i64 (pv wl mi nu de ho wi)), is _, is _, is (.bool true), is _] (by kernel_rfl) (by kernel_rfl) rfl
  case hops =>
    simp only [List.take_succ_cons, List.take_zero]
    refine ⟨?_, ?_, ?_, ?_, ?_, ?_, ?_, ?_, trivial⟩
    all_goals
      intro vs x hd
      simp only [putAll, Act.put, List.setIfInBounds_toArray, List.set_cons_succ, List.set_cons_zero, Nat.zero_add, Nat.reduceAdd]
      simp [depFacts, is, isRow, isRowN, isBox, dataE] at hd
      try simp only [World.plus_plus] at hd
      simp only [Region.wanted, if_true, comes]
      try simp [yielded, hd, comes]
      go_simp
      try go_bits
      first
        | exact ⟨Ext.refl _, rfl⟩
        | exact rfl
        | exact ⟨(Ext.refl _).alloc _, _, rfl, Cells.new _ _ _ _ rfl⟩
        | exact ⟨(Ext.refl _).alloc _, _, rfl, Box.new _ _ _ _ (by simp [World.le_plus]) rfl⟩
        | ((go_at_call 8); refine (validate_any A wl.length c wl mi nu de ho wi _ (by (repeat (refine Row.up_alloc ?_ _)); apply RowX.row; (repeat (first | exact hx | apply RowX.more | apply RowX.draws)); simp) hc hn).mono ?_; rintro e w' ⟨rfl, hE⟩; exact ⟨_, rfl, hE, rfl⟩)
        | ((go_at_call 10); refine (refPlan_any A wl.length c wl mi nu de ho wi _ (by (repeat (refine Row.up_alloc ?_ _)); apply RowX.row; (repeat (first | exact hx | apply RowX.more | apply RowX.draws)); simp) hc hn).mono ?_; rintro e w' ⟨rfl, hE⟩; exact ⟨_, rfl, hE, rfl⟩)
        | ((go_at_call 11); refine (awake_any _).mono ?_; rintro e w' ⟨rfl, hE⟩; exact ⟨_, rfl, hE, rfl⟩)
  case hst => exact ⟨(by apply is.st), (by apply is.st), (by apply is.st), (by apply is.st), (by apply is.st), (by apply is.st), (by apply is.st), (by apply is.st), trivial⟩
  case hfin =>
    intro vs x hf
    try simp only [World.plus_plus] at hf ⊢
    simp only [List.take_succ_cons, List.take_zero, List.drop_succ_cons, List.drop_zero, putAll, Act.put, List.setIfInBounds_toArray, List.set_cons_succ, List.set_cons_zero]
    simp only [facts, is, Nat.zero_add, Nat.reduceAdd] at hf
    simp only [Nat.zero_add, Nat.reduceAdd, hf]
    clear hf
    go_wp2
    go_ret
    refine ⟨rfl, ?_⟩
    repeat (first | exact Ext.refl _ | apply Ext.drew | apply Ext.drewN | apply Ext.plus_ | apply Ext.alloc | assumption)

theorem _root_.Go.Rg.Ext.grown {w w1 w2 : World} {base n size : Nat} {e : TypeId} {v : Value} {xs : List Value} (h : Ext w w1) (hown : w1.ownsRow base e size v n xs) (hb : w.heap.size ≤ base) (hg : w1.grownBy w2 v.ownBlock) : Ext w w2 := by
  refine ⟨hg.os.trans h.os, hg.tape.trans h.tape, hg.output.trans h.output, Nat.le_trans h.size hg.size, fun k hk => ?_⟩
  have hsz := h.size
  refine (hg.block k (by omega) ?_).trans (h.block k hk)
  rcases hown.2 with ⟨h1, _⟩ | ⟨g, cap, cur, hv, hbg, _⟩
  · rw [h1]; simp [Value.ownBlock]
  · rw [hv]; simp only [Value.ownBlock]; intro q; injection q with q; omega
theorem own_empty (X : World) (base : Nat) (e : TypeId) (hb : base ≤ X.heap.size) : (X.alloc (.cells #[] e)).ownsRow base e 1 (.slice (some ⟨X.heap.size, 0, none⟩) 0 0) 0 [] := by
  refine ⟨rfl, .inr ⟨X.heap.size, 0, #[], rfl, hb, ?_, Nat.le_refl _, by simp [maxLen], rfl, rfl⟩⟩
  unfold World.alloc
  exact Array.getElem?_push_size

set_option maxHeartbeats 2000000 in
theorem validate_made0 (B : Option Addr) (k d : Nat) (ll : List Int) (A0 : Option Addr) (n0 c0 : Nat) (mi0 nu0 de0 ho0 wi0 at_ q : Int) (w : World) (hB : Row w w.heap.size 1 B k (ints ll)) (hk : k ≤ 9223372036854775807) (hat : at_ % 7 = 0) :
    Calls Try.prog 3 #[.slice B k d, pl A0 n0 c0 mi0 nu0 de0 ho0 wi0, .int .i64 at_, .int .i64 q, .bool false] w fun ee w' => ee = .returned (.bool true) ∧ Ext w w' := by
  have CW := Lib.hid (fun w => within_any at_ 7 w (by decide) (by decide))
  rw [hat] at CW
  obtain ⟨i0, hi, hz0, hz1, hz2⟩ := info_parts Try.infoInt
  go_enter Try.func3, Try.ntmps3
  go_wp2_with fail
  refine (srcPlan_any (w.heap.size + 1 + 1) B k d ll 0 _ ?hsrc).mono ?_
  case hsrc => exact src_at hB (by repeat (first | exact Ext.refl _ | assumption | apply Ext.plus_ | apply Ext.alloc | apply Ext.drew)) (by simp) hk
  rintro ee w1 ⟨A, c, wl, mi, nu, de, ho, wi, rfl, hsm, hown, hc, hc2, v, hE⟩
  obtain ⟨x, rfl⟩ := hE.plus
  have hx : RowX x (w.heap.size + 1 + 1 + 1) A wl.length (ints wl) := by
    have := RowX.of_own hown (by simp)
    simpa using this
  have hn3 := hsm.n3
  have hn1 := hsm.ok.n1
  have hn : wl.length ≤ 9223372036854775807 := by omega
  have hok := Lib.hid hsm.ok
  clear hown hE hsm
  go_wp2_with fail
  refine (validate_ok A wl.length c wl mi nu de ho wi _ (by (repeat (refine Row.up_alloc ?_ _)); apply RowX.row; (repeat (first | exact hx | apply RowX.more | apply RowX.draws)); simp) hok.out hc).mono ?_
  rintro e X ⟨rfl, hE⟩
  have hR := Row.lift (by (repeat (refine Row.up_alloc ?_ _)); apply RowX.row; (repeat (first | exact hx | apply RowX.more | apply RowX.draws)); simp) hE
  have hE0 : Ext w X := Ext.trans (by repeat (first | exact Ext.refl _ | assumption | apply Ext.plus_ | apply Ext.alloc | apply Ext.drew)) hE
  have hP : Box w.heap.size [.slice A wl.length c, .int .i64 mi, .int .i64 nu, .int .i64 de, .int .i64 ho, .int .i64 wi] (w.heap.size + 1) X := by
    have b0 := Box.new (N := w.heap.size) (w.alloc (.cells #[.slice A0 n0 c0, .int .i64 mi0, .int .i64 nu0, .int .i64 de0, .int .i64 ho0, .int .i64 wi0] 24)) #[.slice A wl.length c, .int .i64 mi, .int .i64 nu, .int .i64 de, .int .i64 ho, .int .i64 wi] 24 _ (by simp) rfl
    have b1 := b0.ext (Ext.trans (by repeat (first | exact Ext.refl _ | assumption | apply Ext.plus_ | apply Ext.alloc | apply Ext.drew)) hE)
    simpa using b1
  clear hE hok hx
  have hlt := hP.lt
  obtain ⟨P, hPe⟩ : ∃ P, P = w.heap.size + 1 := ⟨_, rfl⟩
  rw [← hPe] at hP hlt ⊢
  have hPw : w.heap.size ≤ P := by omega
  have hPw2 : w.heap.size < P := by omega
  clear hPe
  obtain ⟨_, hR2⟩ := hR
  obtain ⟨rb, ro, rfl, hR3, hR4⟩ := hR2 (by omega)
  have hown0 := own_empty X (P + 1) 3 hlt
  have hPc := hP.cell
  have hPf := hP.free
  simp only [List.length_cons, List.length_nil, Nat.zero_add, Nat.reduceAdd] at hPc
  have HP := Lib.hid hP
  have HE := Lib.hid hE0
  have HB := Lib.hid hB
  clear hP hE0 hB
  go_wp2_with fail
  refine (CW.out _).mono ?_
  rintro e w' ⟨rfl, rfl⟩
  clear CW
  go_wp2_with (at_builtin; refine wpList_append_own _ rfl (.tmp 26) (.tmp 28) 22 rfl (P + 1) 3 i0 (.int .i64 0) 1 8 Try.underlying22 hi hz0 hz1 hz2 rfl (by decide) _ _ _ rfl hown0 ⟨rb, ro, none⟩ wl.length c (ints wl) rfl (by simp) ?c1 ?c2 ?c3 ?c4 ?c5 ?_)
  case c1 =>
    intro j u hj
    have eA : Addr.add ⟨rb, ro, none⟩ j = ⟨rb, ro + j, none⟩ := by
      unfold Addr.add
      by_cases h0 : j = 0
      · subst h0; simp
      · simp [h0]
    rw [eA, World.cell?_alloc_lt X _ _ hR3]
    exact hR4 j u hj
  case c2 => intro u hu; unfold ints at hu; simp at hu; obtain ⟨z, _, rfl⟩ := hu; rfl
  case c3 => unfold maxLen; omega
  case c4 => omega
  case c5 => simp; omega
  intro v2 w2 hown2 hg2 _
  have hEA := (Ext.refl X).alloc (.cells #[] 3)
  have hP2 := (HP.out.ext hEA).grown hg2 (own_ne hown0 (by omega))
  have hE2 := Ext.grown (HE.out.trans hEA) hown0 (by omega) hg2
  obtain ⟨A2, c2, rfl, g1, g2⟩ := own_form hown2
  have hbl : P + 1 ≤ w2.heap.size := by have := hP2.lt; omega
  have hPc2 := hP2.cell
  have hPf2 := hP2.free
  simp only [List.length_cons, List.length_nil, Nat.zero_add, Nat.reduceAdd] at hPc2
  have HP2 := Lib.hid hP2
  have HE2 := Lib.hid hE2
  clear hP2 hE2 hEA hg2 hown0 hPc hPf HP HE hR3 hR4 hlt
  go_wp2_with (at_builtin; refine wpList_append_own _ rfl (.tmp 29) (.tmp 31) 22 rfl (P + 1) 3 i0 (.int .i64 0) 1 8 Try.underlying22 hi hz0 hz1 hz2 rfl (by decide) _ _ _ rfl (hown2.alloc _) ⟨w2.heap.size, 0, none⟩ 1 1 [.int .i64 q] rfl rfl ?d1 ?d2 ?d3 ?d4 ?d5 ?_)
  case d1 =>
    intro j u hj
    match j, hj with
    | 0, hj => simp at hj; subst hj; simp [Addr.add]
  case d2 => intro u hu; simp at hu; subst hu; rfl
  case d3 => unfold maxLen; omega
  case d4 => omega
  case d5 => simp; omega
  intro v3 w3 hown3 hg3 _
  have hownB := hown2.alloc (.cells #[.int .i64 q] 3)
  have hEB := (Ext.refl w2).alloc (.cells #[.int .i64 q] 3)
  have hP3 := (HP2.out.ext hEB).grown hg3 (own_ne hownB (by omega))
  have hE3 := Ext.grown (HE2.out.trans hEB) hownB (by omega) hg3
  obtain ⟨A3, c3, rfl, g3, g4⟩ := own_form hown3
  have hPc3 := hP3.cell
  have hPf3 := hP3.free
  simp only [List.length_cons, List.length_nil, Nat.zero_add, Nat.reduceAdd] at hPc3
  have HP3 := Lib.hid hP3
  have HE3 := Lib.hid hE3
  have HO3 := Lib.hid hown3
  clear hP3 hE3 hown3 hown2 hownB hEB hg3 hPc2 hPf2 HP2 HE2 hbl g1 g2
  go_wp2_with fail
  obtain ⟨W, hW⟩ : ∃ W, W = w3.setCell ⟨P, 0, none⟩ (.slice A3 (wl.length + 1) c3) := ⟨_, rfl⟩
  have hPW : Box w.heap.size [.slice A3 (wl.length + 1) c3, .int .i64 mi, .int .i64 nu, .int .i64 de, .int .i64 ho, .int .i64 wi] P W := by
    rw [hW]; simpa using HP3.out.set_ 0 (.slice A3 (wl.length + 1) c3) (by simp)
  have hEW : Ext w W := by rw [hW]; exact HE3.out.setCell hPw _
  have hRW : Row W W.heap.size 1 A3 (wl.length + 1) (ints (wl ++ [q])) := by
    have h1 := own_setCell HO3.out (p := ⟨P, 0, none⟩) (show P < P + 1 by omega) (.slice A3 (wl.length + 1) c3)
    rw [← hW] at h1
    simpa [ints] using own_row h1
  rw [← hW]
  clear hW hPc3 hPf3 HP3 HE3 HO3
  have hPc := hPW.cell
  have hPf := hPW.free
  simp only [List.length_cons, List.length_nil, Nat.zero_add, Nat.reduceAdd] at hPc
  clear hPW
  replace hc := g3
  replace hn : wl.length + 1 ≤ 9223372036854775807 := by omega
  apply wp_region_ext 8 [is _, is (.int .i64 (pv (wl ++ [q]) mi nu de ho wi)), is _, is (.int .i64 (pv (wl ++ [q]) mi nu de ho wi)), is _, is _, is (.bool true), is _] (by kernel_rfl) (by kernel_rfl) rfl
  case hops =>
    simp only [List.take_succ_cons, List.take_zero]
    refine ⟨?_, ?_, ?_, ?_, ?_, ?_, ?_, ?_, trivial⟩
    all_goals
      intro vs x hd
      simp only [putAll, Act.put, List.setIfInBounds_toArray, List.set_cons_succ, List.set_cons_zero, Nat.zero_add, Nat.reduceAdd]
      simp [depFacts, is, isRow, isRowN, isBox, dataE] at hd
      try simp only [World.plus_plus] at hd
      simp only [Region.wanted, if_true, comes]
      try simp [yielded, hd, comes]
      go_simp
      try go_bits
      first
        | exact ⟨Ext.refl _, rfl⟩
        | exact rfl
        | exact ⟨(Ext.refl _).alloc _, _, rfl, Cells.new _ _ _ _ rfl⟩
        | exact ⟨(Ext.refl _).alloc _, _, rfl, Box.new _ _ _ _ (by simp [World.le_plus]) rfl⟩
        | ((go_at_call 8); refine (validate_any A3 (wl.length + 1) c3 (wl ++ [q]) mi nu de ho wi _ (hRW.lift (by repeat (first | exact Ext.refl _ | assumption | apply Ext.plus_ | apply Ext.alloc | apply Ext.drew))) hc hn).mono ?_; rintro e w' ⟨rfl, hE⟩; exact ⟨_, rfl, hE, rfl⟩)
        | ((go_at_call 10); refine (refPlan_any A3 (wl.length + 1) c3 (wl ++ [q]) mi nu de ho wi _ (hRW.lift (by repeat (first | exact Ext.refl _ | assumption | apply Ext.plus_ | apply Ext.alloc | apply Ext.drew))) hc hn).mono ?_; rintro e w' ⟨rfl, hE⟩; exact ⟨_, rfl, hE, rfl⟩)
        | ((go_at_call 11); refine (awake_any _).mono ?_; rintro e w' ⟨rfl, hE⟩; exact ⟨_, rfl, hE, rfl⟩)
  case hst => exact ⟨(by apply is.st), (by apply is.st), (by apply is.st), (by apply is.st), (by apply is.st), (by apply is.st), (by apply is.st), (by apply is.st), trivial⟩
  case hfin =>
    intro vs x hf
    try simp only [World.plus_plus] at hf ⊢
    simp only [List.take_succ_cons, List.take_zero, List.drop_succ_cons, List.drop_zero, putAll, Act.put, List.setIfInBounds_toArray, List.set_cons_succ, List.set_cons_zero]
    simp only [facts, is, Nat.zero_add, Nat.reduceAdd] at hf
    simp only [Nat.zero_add, Nat.reduceAdd, hf]
    clear hf
    go_wp2
    go_ret
    refine ⟨rfl, ?_⟩
    repeat (first | exact Ext.refl _ | apply Ext.drew | apply Ext.drewN | apply Ext.plus_ | apply Ext.alloc | assumption)

theorem law_validate (v0 v1 v2 v3 v4 : Value) (w : World) (p0 : ∃ A n c, ∃ l : List Int, v0 = .slice A n c ∧ ArgRow w A n c (l.map (Value.int .i64)) ∧ ∀ x ∈ l, I64 x)
    (p1 : ∃ A n c, ∃ (l : List Int) (mi nu de ho wi : Int), v1 = .agg #[.slice A n c, .int .i64 mi, .int .i64 nu, .int .i64 de, .int .i64 ho, .int .i64 wi] ∧ ArgRow w A n c (l.map (Value.int .i64)) ∧ I64 mi ∧ I64 nu ∧ I64 de ∧ I64 ho ∧ I64 wi)
    (p2 : ∃ n, v2 = .int .i64 n ∧ I64 n) (p3 : ∃ n, v3 = .int .i64 n ∧ I64 n) (p4 : ∃ b, v4 = .bool b) :
    Calls Try.prog 3 #[v0, v1, v2, v3, v4] w fun ee w' => ee = .returned (.bool true) ∧ Ext w w' := by
  obtain ⟨B, k, d, ll, rfl, ⟨hB, hkd, hdm, _⟩, _⟩ := p0
  obtain ⟨A, n, c, l, mi, nu, de, ho, wi, rfl, ⟨hA, hnc, hcm, _⟩, _⟩ := p1
  obtain ⟨t, rfl, _⟩ := p2
  obtain ⟨q, rfl, _⟩ := p3
  obtain ⟨b, rfl⟩ := p4
  cases b
  · have hk : k ≤ 9223372036854775807 := by omega
    by_cases h0 : t % 7 = 0
    · exact validate_made0 B k d ll A n c mi nu de ho wi t q w hB hk h0
    by_cases h1 : t % 7 = 1
    · exact validate_made1 B k d ll A n c mi nu de ho wi t q w hB hk h1
    by_cases h2 : t % 7 = 2
    · exact validate_made2 B k d ll A n c mi nu de ho wi t q w hB hk h2
    by_cases h3 : t % 7 = 3
    · exact validate_made3 B k d ll A n c mi nu de ho wi t q w hB hk h3
    by_cases h4 : t % 7 = 4
    · exact validate_made4 B k d ll A n c mi nu de ho wi t q w hB hk h4
    by_cases h5 : t % 7 = 5
    · exact validate_made5 B k d ll A n c mi nu de ho wi t q w hB hk h5
    exact validate_made6 B k d ll A n c mi nu de ho wi t q w hB hk (by omega)
  · exact validate_wild _ A n c l mi nu de ho wi t q w hA hnc (by omega) ⟨B, k, d, rfl⟩
end Go.Proofs.Ytmelgjlpeegglaa
