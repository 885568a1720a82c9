/- Ports: copies. -/
import Derived.Test.YtphbmibgnnobcaaPort0
import Derived.Deep.RegionWith
set_option linter.unusedVariables false
namespace Go.Proofs.Ytphbmibgnnobcaa
open Go.RowKit Go.Rg

theorem own_lt {w : World} {base n c size : Nat} {e : TypeId} {a : Addr} {xs : List Value} (h : w.ownsRow base e size (.slice (some a) n c) n xs) : a.block < w.heap.size := by
  rcases h.2 with ⟨h1, _⟩ | ⟨g, cap, cur, h1, _, h3, _⟩
  · cases h1
  · injection h1 with h1 _ _
    injection h1 with h1
    subst h1
    rcases Nat.lt_or_ge g w.heap.size with h | h
    · exact h
    · rw [Array.getElem?_eq_none h] at h3; cases h3
theorem own_up_ {w : World} {base n size : Nat} {e : TypeId} {v : Value} {xs : List Value} (h : w.ownsRow base e size v n xs) (o : Obj) : (w.alloc o).ownsRow base e size v n xs := own_ext h ((Ext.refl w).alloc o)
theorem own_plus_ {w : World} {base n size : Nat} {e : TypeId} {v : Value} {xs : List Value} (h : w.ownsRow base e size v n xs) (x : Array Obj × Nat) : (w.plus x).ownsRow base e size v n xs := own_ext h ((Ext.refl w).plus_ x)
theorem own_drew_ {w : World} {base n size : Nat} {e : TypeId} {v : Value} {xs : List Value} (h : w.ownsRow base e size v n xs) : w.drew.ownsRow base e size v n xs := own_ext h (Ext.refl w).drew
theorem own_put_ {w : World} {base n size b k : Nat} {e : TypeId} {v u : Value} {xs : List Value} (h : w.ownsRow base e size v n xs) (hb : b < base) : (w.setCell ⟨b, k, none⟩ u).ownsRow base e size v n xs := own_setCell h (p := ⟨b, k, none⟩) hb u
set_option maxHeartbeats 4000000 in
theorem pcopied_any (id cl ic : Int) (A : Option Addr) (n c : Nat) (l : List Int) (oc : Int) (B : Option Addr) (m d : Nat) (k : List Int) (bu : Int) (en cg : Bool) (w : World)
    (hA : Row w w.heap.size 1 A n (bytes l)) (hA0 : A = none → n = 0 ∧ c = 0) (hn : n ≤ 140737488355328) (hB : Row w w.heap.size 1 B m (bytes k)) (hB0 : B = none → m = 0 ∧ d = 0) (hm : m ≤ 140737488355328) :
    Calls Try.prog 37 #[pv id cl ic A n c oc B m d bu en cg] w fun e w' => ∃ A' c' B' d', e = .returned (pv id cl ic A' n c' oc B' m d' bu en cg) ∧ w'.ownsRow w.heap.size 5 1 (.slice A' n c') n (bytes l) ∧
      w'.ownsRow w.heap.size 5 1 (.slice B' m d') m (bytes k) ∧ (∀ a b, A' = some a → B' = some b → a.block ≠ b.block) ∧ Ext w w' := by
  have C1 := Lib.hid (fun W h => clone_any A n c l W h hA0 hn)
  have C2 := Lib.hid (fun W h => clone_any B m d k W h hB0 hm)
  have HR := Lib.hid (And.intro hA hB)
  clear hA hB hA0 hB0
  go_enter Try.func37, Try.ntmps37
  go_wp2_with fail
  refine wp_at fun W hW => ?_
  obtain ⟨N, hN⟩ : ∃ N, N = w.heap.size := ⟨_, rfl⟩
  have hB0 : Box N [.int .i64 id, .int .i64 cl, .int .i64 ic, .slice A n c, .int .i64 oc, .slice B m d, .int .i64 bu, .bool en, .bool cg] N W := by
    rw [hW]
    repeat' (first | with_reducible assumption | ((with_reducible refine Box.fresh ?fb ?fn ?fr); (case fb => first | omega | (simp <;> omega)); (case fn => first | omega | (simp <;> omega)); (case fr => rfl)) | with_reducible apply Box.up | with_reducible apply Box.drew_ | with_reducible apply Box.drewN_ | with_reducible apply Box.plus_ | with_reducible apply Box.put | with_reducible refine Box.off ?_ (by omega))
    all_goals first | rfl | (simp; done)
  have hB1 : Box N [.int .i64 0, .int .i64 0, .int .i64 0, .slice none 0 0, .int .i64 0, .slice none 0 0, .int .i64 0, .bool false, .bool false] (N + 1) W := by
    rw [hW]
    repeat' (first | with_reducible assumption | ((with_reducible refine Box.fresh ?fb ?fn ?fr); (case fb => first | omega | (simp <;> omega)); (case fn => first | omega | (simp <;> omega)); (case fr => rfl)) | with_reducible apply Box.up | with_reducible apply Box.drew_ | with_reducible apply Box.drewN_ | with_reducible apply Box.plus_ | with_reducible apply Box.put | with_reducible refine Box.off ?_ (by omega))
    all_goals first | rfl | (simp; done)
  have hE : Ext w W := by
    rw [hW]
    repeat' (first | with_reducible assumption | with_reducible exact Ext.refl _ | with_reducible apply Ext.alloc | with_reducible apply Ext.drew | with_reducible apply Ext.drewN | with_reducible apply Ext.plus_ | with_reducible refine Ext.put ?_ (by omega))
  rw [← hN]
  have HN := Lib.hid hN
  clear hW hN
  have k0 := hB0.cell 0 (by simp)
  have k1 := hB0.cell 1 (by simp)
  have k2 := hB0.cell 2 (by simp)
  have k3 := hB0.cell 3 (by simp)
  have k4 := hB0.cell 4 (by simp)
  have k5 := hB0.cell 5 (by simp)
  have k6 := hB0.cell 6 (by simp)
  have k7 := hB0.cell 7 (by simp)
  have k8 := hB0.cell 8 (by simp)
  simp only [List.getElem?_cons_zero, List.getElem?_cons_succ] at k0 k1 k2 k3 k4 k5 k6 k7 k8
  have kF := hB0.free
  have kL := hB0.lt
  have kB := hB0.base
  have hR0 := hB1
  clear hB1
  go_region_with (go_at_call 46; (first | ((with_reducible refine (C1.out _ (HR.out.1.lift ?_)).mono ?_); (first | exact hE | exact hE.drew | exact hE.drew.drew); (rintro e X1 ⟨v1, rfl, ho1, hX1⟩); (obtain ⟨A1, c1, rfl, _, _⟩ := own_form ho1); (have hE1 : Ext w X1 := by first | exact hE.trans hX1 | exact hE.drew.trans hX1 | exact hE.drew.drew.trans hX1); (have hB1 := (show Box N _ N X1 by first | exact hB0.ext hX1 | exact (Box.drew_ hB0).ext hX1 | exact (Box.drew_ (Box.drew_ hB0)).ext hX1)); (have hW1 : Ext W X1 := by first | exact hX1 | exact (Ext.refl W).drew.trans hX1 | exact (Ext.refl W).drew.drew.trans hX1); (have m5 : X1.cell? ⟨N, 5, none⟩ = some (.slice B m d) := hB1.cell 5 (by simp))) | ((with_reducible refine (C2.out _ (HR.out.2.lift ?_)).mono ?_); (first | exact hE1 | exact hE1.drew | exact hE1.drew.drew); (rintro e X2 ⟨v2, rfl, ho2, hX2⟩); (obtain ⟨B2, d2, rfl, _, _⟩ := own_form ho2); (have hE2 : Ext w X2 := by first | exact hE1.trans hX2 | exact hE1.drew.trans hX2 | exact hE1.drew.drew.trans hX2); (have hB2 := (show Box N _ N X2 by first | exact hB1.ext hX2 | exact (Box.drew_ hB1).ext hX2 | exact (Box.drew_ (Box.drew_ hB1)).ext hX2)); (have hW2 : Ext W X2 := by first | exact hW1.trans hX2 | exact hW1.drew.trans hX2 | exact hW1.drew.drew.trans hX2); (have n3 : X2.cell? ⟨N, 3, none⟩ = some (.slice A n c) := hB2.cell 3 (by simp)); (have n5 : X2.cell? ⟨N, 5, none⟩ = some (.slice B m d) := hB2.cell 5 (by simp)); (have nF := hB2.free))))
  all_goals
    have hR2 := hR0.ext hW2
    have hN1 : N + 1 < W.heap.size := hR0.lt
    have hX12 : W.heap.size ≤ X1.heap.size := hW1.size
    have HF := Lib.hid (And.intro ho1 (And.intro ho2 (And.intro hX2 hE2)))
    clear k0 k1 k2 k3 k4 k5 k6 k7 k8 kF kL kB
    clear n3 n5 nF m5 ho1 ho2 hX1 hX2 hE1 hE2 hW1 hW2
    have k0 := hB2.cell 0 (by simp)
    have k1 := hB2.cell 1 (by simp)
    have k2 := hB2.cell 2 (by simp)
    have k3 := hB2.cell 3 (by simp)
    have k4 := hB2.cell 4 (by simp)
    have k5 := hB2.cell 5 (by simp)
    have k6 := hB2.cell 6 (by simp)
    have k7 := hB2.cell 7 (by simp)
    have k8 := hB2.cell 8 (by simp)
    simp only [List.getElem?_cons_zero, List.getElem?_cons_succ] at k0 k1 k2 k3 k4 k5 k6 k7 k8
    have kF := hB2.free
    have kL := hB2.lt
    have kB := hB2.base
    have q0 := hR2.cell 0 (by simp)
    have q1 := hR2.cell 1 (by simp)
    have q2 := hR2.cell 2 (by simp)
    have q3 := hR2.cell 3 (by simp)
    have q4 := hR2.cell 4 (by simp)
    have q5 := hR2.cell 5 (by simp)
    have q6 := hR2.cell 6 (by simp)
    have q7 := hR2.cell 7 (by simp)
    have q8 := hR2.cell 8 (by simp)
    simp only [List.getElem?_cons_zero, List.getElem?_cons_succ] at q0 q1 q2 q3 q4 q5 q6 q7 q8
    have qF := hR2.free
    have qL := hR2.lt
    have qB := hR2.base
    clear hR2 hB2 hB1 hR0 hB0
    go_wp2
    refine bodyPost_ret (v := (pv id cl ic A1 n c1 oc B2 m d2 bu en cg)) (by simp [results, Try.results37, go_sem, q0, q1, q2, q3, q4, q5, q6, q7, q8, qL]) rfl ?_
    obtain ⟨ho1, ho2, hX2, hE2⟩ := HF.out
    have hN := HN.out
    have hd : ∀ a b, A1 = some a → B2 = some b → a.block ≠ b.block := by
      rintro a b rfl rfl
      have h1 := own_lt ho1
      have h2 := own_base ho2 b rfl
      omega
    refine ⟨A1, c1, B2, d2, rfl, own_lower_ (base := N + 1 + 1) ?_ (by omega), own_lower_ (base := N + 1 + 1) ?_ (by omega), hd, ?_⟩
    · have h := own_lower_ (base' := N + 1 + 1) ((by first | exact own_ext ho1 hX2 | exact own_ext (own_ext ho1 (Ext.refl X1).drew) hX2 | exact own_ext (own_ext ho1 (Ext.refl X1).drew.drew) hX2 : X2.ownsRow _ _ _ _ _ _)) (by simp; omega)
      repeat' (first | with_reducible exact h | with_reducible refine own_put_ ?_ (by omega))
    · have h := own_lower_ (base' := N + 1 + 1) ho2 (by omega)
      repeat' (first | with_reducible exact h | with_reducible refine own_put_ ?_ (by omega))
    · repeat' (first | with_reducible assumption | with_reducible exact Ext.refl _ | with_reducible apply Ext.alloc | with_reducible apply Ext.drew | with_reducible apply Ext.drewN | with_reducible apply Ext.plus_ | with_reducible refine Ext.put ?_ (by omega))
end Go.Proofs.Ytphbmibgnnobcaa
