/- Queues: Peek. -/
import Derived.Test.YtlmpicopkbpffaaQueue3
set_option linter.unusedVariables false
namespace Go.Proofs.Ytlmpicopkbpffaa
open Go.RowKit Go.Rg

theorem Row.take {w : World} {B n : Nat} {A : Option Addr} {xs : List Value} (h : Row w B 1 A n xs) (m : Nat) (hm : m ≤ n) : Row w B 1 A m (xs.take m) := by
  have hl := h.len
  refine ⟨by simp; omega, fun hn => ?_⟩
  obtain ⟨b, o, e, hb, hc⟩ := h.2 (by omega)
  refine ⟨b, o, e, hb, fun j u hu => hc j u ?_⟩
  rw [List.getElem?_take] at hu
  split at hu
  · exact hu
  · cases hu
/-- A value that owns a row from block B on. -/
def isOwn (B n : Nat) (xs : List Value) : Value → World → Prop := fun v w => w.ownsRow B 5 1 v n xs
theorem isOwn.st (B n : Nat) (xs : List Value) : Stable (isOwn B n xs) := fun _ _ _ e h => own_ext h e
theorem qfirst_bd (k : Int) (n : Nat) (m : Int) : 0 ≤ qfirst k n m ∧ qfirst k n m ≤ n := by
  unfold qfirst
  split
  · split
    · omega
    · split <;> omega
  · omega

set_option maxHeartbeats 1000000 in
theorem peek_any (k : Int) (A : Option Addr) (n c : Nat) (l : List Int) (m : Int) (w : World) (hr : Row w w.heap.size 1 A n (bytes l)) (hA : A = none → n = 0 ∧ c = 0) (hn : n ≤ 140737488355328) (hc : n ≤ c) (hcm : c ≤ 9223372036854775807) :
    Calls Try.prog 21 #[qu k A n c, .int .i64 m] w (Copied w (l.take (qfirst k n m).toNat) (qfirst k n m).toNat) := by
  obtain ⟨q, hq⟩ := Int.eq_ofNat_of_zero_le (qfirst_bd k n m).1
  have hqn : q ≤ n := by have := (qfirst_bd k n m).2; omega
  have C := Lib.hid (fun w => first_any k A n c m w (by omega))
  rw [hq] at C ⊢
  clear hq
  have hqc : q ≤ c := by omega
  have HA := Lib.hid hA
  have hr2 := hr.take q hqn
  clear hA hr
  rw [show (bytes l).take q = bytes (l.take q) by simp] at hr2
  rw [show ((q : Int)).toNat = q by simp]
  obtain ⟨lq, hlq⟩ : ∃ lq, lq = l.take q := ⟨_, rfl⟩
  rw [← hlq] at hr2 ⊢
  clear hlq
  go_enter Try.func21, Try.ntmps21
  go_wp2_with fail
  apply wp_region_ext 7 [is _, is _, is _, is _, is (.int .i64 q), is _, isOwn w.heap.size q (bytes lq)] (by kernel_rfl) (by kernel_rfl) rfl
  case hops =>
    simp only [List.take_succ_cons, List.take_zero]
    refine ⟨?_, ?_, ?_, ?_, ?_, ?_, ?_, trivial⟩
    all_goals
      intro vs x hd
      simp only [putAll, Act.put, List.setIfInBounds_toArray, List.set_cons_succ, List.set_cons_zero, Nat.zero_add, Nat.reduceAdd]
      simp [depFacts, is, isRow, isRowN, isBox, dataE] at hd
      try simp only [World.plus_plus] at hd
      simp only [Region.wanted, if_true, comes]
      try simp [yielded, hd, comes]
      go_simp
      try go_bits
      first
        | exact ⟨Ext.refl _, rfl⟩
        | exact rfl
        | exact ⟨(Ext.refl _).alloc _, _, rfl, Cells.new _ _ _ _ rfl⟩
        | exact ⟨(Ext.refl _).alloc _, _, rfl, Box.new _ _ _ _ (by simp [World.le_plus]) rfl⟩
        | ((go_at_call 25); refine (C.out _).mono ?_; rintro e w' ⟨rfl, hE⟩; exact ⟨_, rfl, hE, rfl⟩)
        | ((go_at_call 26); refine (clone_any A q c lq _ (hr2.lift (by repeat (first | exact Ext.refl _ | assumption | apply Ext.plus_ | apply Ext.alloc | apply Ext.drew))) (fun h => ⟨by have := HA.out h; omega, (HA.out h).2⟩) (by omega)).mono ?_; rintro e w' ⟨v, rfl, hown, hE⟩; exact ⟨_, rfl, hE, own_lower_ hown (show Ext w _ from (by repeat (first | exact Ext.refl _ | assumption | apply Ext.plus_ | apply Ext.alloc | apply Ext.drew))).size⟩)
  case hst => exact ⟨(by apply is.st), (by apply is.st), (by apply is.st), (by apply is.st), (by apply is.st), (by apply is.st), (by apply isOwn.st), trivial⟩
  case hfin =>
    intro vs x hf
    try simp only [World.plus_plus] at hf ⊢
    simp only [List.take_succ_cons, List.take_zero, List.drop_succ_cons, List.drop_zero, putAll, Act.put, List.setIfInBounds_toArray, List.set_cons_succ, List.set_cons_zero]
    simp only [facts, is, Nat.zero_add, Nat.reduceAdd] at hf
    have f6 := hf.2.2.2.2.2.2.1
    simp only [Nat.zero_add, Nat.reduceAdd, hf]
    clear hf
    go_wp2
    go_ret
    exact ⟨_, rfl, by assumption, (by repeat (first | exact Ext.refl _ | assumption | apply Ext.plus_ | apply Ext.alloc | apply Ext.drew))⟩
end Go.Proofs.Ytlmpicopkbpffaa
