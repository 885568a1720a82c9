/- window.Count, window.Merge and their references. -/
import Derived.Test.YtidndcigloohoaaNum
import Derived.Test.YtidndcigloohoaaWin
import Derived.Test.YtidndcigloohoaaRg
set_option linter.unusedVariables false
namespace Go.Proofs.Ytidndcigloohoaa
open Go.RowKit Go.Rg

theorem add_two (most x y : Int) (b : Nat) (w : World) (hb : Cells w b [.int .i64 x, .int .i64 y]) (hm : most ≤ 9223372036854775807) :
    Calls Try.prog 48 #[.int .i64 most, .slice (some ⟨b, 0, none⟩) 2 2] w fun e w' => e = .returned (.int .i64 (addTo most [x, y] 2)) ∧ w = w' :=
  add_any most _ 2 2 [x, y] w ⟨rfl, fun _ => ⟨b, 0, rfl, hb.1, fun j u hu => by simpa using hb.2 j u hu⟩⟩ hm (by decide)

def cap2 (x y : Int) : Int := addTo 1000000000 [x, y] 2
def bit (b : Bool) : Int := if b then 1 else 0

set_option maxHeartbeats 400000 in
theorem count_any (t e a : Int) (bad : Bool) (w : World) :
    Calls Try.prog 42 #[win t e a, .bool bad] w fun ee w' => ee = .returned (win (cap2 t 1) (cap2 e (bit bad)) a) ∧ Ext w w' := by
  cases bad
  · go_enter Try.func42, Try.ntmps42
    go_wp2
    apply wp_region_ext 10 [is _, is _, isRow (ints [t, 1]), is (.int .i64 (cap2 t 1)), is _, is _, is _, isRow (ints [e, 0]), is (.int .i64 (cap2 e 0)), is _] (by kernel_rfl) (by kernel_rfl) rfl
    case hops =>
      simp only [List.take_succ_cons, List.take_zero]
      refine ⟨?_, ?_, ?_, ?_, ?_, ?_, ?_, ?_, ?_, ?_, trivial⟩
      all_goals
        intro vs x hd
        simp only [putAll, Act.put, List.setIfInBounds_toArray, List.set_cons_succ, List.set_cons_zero, Nat.zero_add, Nat.reduceAdd]
        simp [depFacts, is, isRow, isRowN, isBox, dataE] at hd
        try simp only [World.plus_plus] at hd
        simp only [Region.wanted, if_true, comes]
        try simp [yielded, hd, comes]
        go_simp
        try go_bits
        first
          | exact ⟨Ext.refl _, rfl⟩
          | exact rfl
          | exact ⟨(Ext.refl _).alloc _, _, rfl, Cells.new _ _ _ _ rfl⟩
          | exact ⟨(Ext.refl _).alloc _, _, rfl, Box.new _ _ _ _ (by simp [World.le_plus]) rfl⟩
          | (obtain ⟨b, hv, hb⟩ := hd; rw [hv]; refine (add_two _ _ _ b _ hb (by decide)).mono ?_; rintro e w' ⟨rfl, rfl⟩; exact ⟨_, rfl, Ext.refl _, rfl⟩)
    case hst => exact ⟨(by apply is.st), (by apply is.st), (by apply isRow.st), (by apply is.st), (by apply is.st), (by apply is.st), (by apply is.st), (by apply isRow.st), (by apply is.st), (by apply is.st), trivial⟩
    case hfin =>
      intro vs x hf
      try simp only [World.plus_plus] at hf ⊢
      simp only [List.take_succ_cons, List.take_zero, List.drop_succ_cons, List.drop_zero, putAll, Act.put, List.setIfInBounds_toArray, List.set_cons_succ, List.set_cons_zero]
      simp only [facts, is, Nat.zero_add, Nat.reduceAdd] at hf
      simp only [Nat.zero_add, Nat.reduceAdd, hf]
      clear hf
      go_wp2
      refine bodyPost_ret (v := win (cap2 t 1) (cap2 e 0) a) (by simp [results, Try.results42, go_sem]) rfl ?_
      refine ⟨rfl, ?_⟩
      repeat (first | exact Ext.refl _ | apply Ext.drew | apply Ext.drewN | apply Ext.plus_ | apply Ext.alloc | assumption)
  · go_enter Try.func42, Try.ntmps42
    go_wp2
    apply wp_region_ext 10 [is _, is _, isRow (ints [t, 1]), is (.int .i64 (cap2 t 1)), is _, is _, is _, isRow (ints [e, 1]), is (.int .i64 (cap2 e 1)), is _] (by kernel_rfl) (by kernel_rfl) rfl
    case hops =>
      simp only [List.take_succ_cons, List.take_zero]
      refine ⟨?_, ?_, ?_, ?_, ?_, ?_, ?_, ?_, ?_, ?_, trivial⟩
      all_goals
        intro vs x hd
        simp only [putAll, Act.put, List.setIfInBounds_toArray, List.set_cons_succ, List.set_cons_zero, Nat.zero_add, Nat.reduceAdd]
        simp [depFacts, is, isRow, isRowN, isBox, dataE] at hd
        try simp only [World.plus_plus] at hd
        simp only [Region.wanted, if_true, comes]
        try simp [yielded, hd, comes]
        go_simp
        try go_bits
        first
          | exact ⟨Ext.refl _, rfl⟩
          | exact rfl
          | exact ⟨(Ext.refl _).alloc _, _, rfl, Cells.new _ _ _ _ rfl⟩
          | exact ⟨(Ext.refl _).alloc _, _, rfl, Box.new _ _ _ _ (by simp [World.le_plus]) rfl⟩
          | (obtain ⟨b, hv, hb⟩ := hd; rw [hv]; refine (add_two _ _ _ b _ hb (by decide)).mono ?_; rintro e w' ⟨rfl, rfl⟩; exact ⟨_, rfl, Ext.refl _, rfl⟩)
    case hst => exact ⟨(by apply is.st), (by apply is.st), (by apply isRow.st), (by apply is.st), (by apply is.st), (by apply is.st), (by apply is.st), (by apply isRow.st), (by apply is.st), (by apply is.st), trivial⟩
    case hfin =>
      intro vs x hf
      try simp only [World.plus_plus] at hf ⊢
      simp only [List.take_succ_cons, List.take_zero, List.drop_succ_cons, List.drop_zero, putAll, Act.put, List.setIfInBounds_toArray, List.set_cons_succ, List.set_cons_zero]
      simp only [facts, is, Nat.zero_add, Nat.reduceAdd] at hf
      simp only [Nat.zero_add, Nat.reduceAdd, hf]
      clear hf
      go_wp2
      refine bodyPost_ret (v := win (cap2 t 1) (cap2 e 1) a) (by simp [results, Try.results42, go_sem]) rfl ?_
      refine ⟨rfl, ?_⟩
      repeat (first | exact Ext.refl _ | apply Ext.drew | apply Ext.drewN | apply Ext.plus_ | apply Ext.alloc | assumption)
end Go.Proofs.Ytidndcigloohoaa
