/- Ports: flush. -/
import Derived.Test.YtphbmibgnnobcaaPort1
import Derived.Test.YtphbmibgnnobcaaNum
set_option linter.unusedVariables false
namespace Go.Proofs.Ytphbmibgnnobcaa
open Go.RowKit Go.Rg

@[go_sem] theorem as_added (v : Value) (w : World) : (Instr.typeAssert (.iface 57 v) 20 57 true).run Try.prog w = .ok (.tuple #[v, .bool true]) w := by kernel_rfl
@[go_sem] theorem as_other (v : Value) (w : World) : (Instr.typeAssert (.iface 56 v) 20 57 true).run Try.prog w = .ok (.tuple #[.slice none 0 0, .bool false]) w := by kernel_rfl
@[go_sem] theorem as_granted (v : Value) (w : World) : (Instr.typeAssert (.iface 56 v) 20 56 true).run Try.prog w = .ok (.tuple #[v, .bool true]) w := by kernel_rfl
theorem cadd_two (most x y : Int) (b : Nat) (w : World) (hb : Cells w b [.int .i64 x, .int .i64 y]) (hm : most ≤ 9223372036854775807) :
    Calls Try.prog 45 #[.int .i64 most, .slice (some ⟨b, 0, none⟩) 2 2] w fun e w' => e = .returned (.int .i64 (addTo most [x, y] 2)) ∧ w = w' :=
  add_any most _ 2 2 [x, y] w ⟨rfl, fun _ => ⟨b, 0, rfl, hb.1, fun j u hu => by simpa using hb.2 j u hu⟩⟩ hm (by decide)
/-- A slice of bytes that can be read. -/
structure RB (w : World) (A : Option Addr) (n c : Nat) (l : List Int) : Prop where
  row : Row w w.heap.size 1 A n (bytes l)
  le : n ≤ c
  most : c ≤ 9223372036854775807
  nil : A = none → n = 0 ∧ c = 0
theorem RB.lift {w W : World} {A : Option Addr} {n c : Nat} {l : List Int} (h : RB w A n c l) (e : Ext w W) : RB W A n c l := ⟨h.row.lift e, h.le, h.most, h.nil⟩
theorem RB.bs {w : World} {A : Option Addr} {n c : Nat} {l : List Int} (h : RB w A n c l) : BS w (.slice A n c) l := ⟨A, n, c, rfl, h.row, h.le, h.most, h.nil⟩
theorem RB.of_own {w : World} {base n c : Nat} {A : Option Addr} {l : List Int} (h : w.ownsRow base 5 1 (.slice A n c) n (bytes l)) : RB w A n c l := by
  obtain ⟨A9, c9, e2, hnc, hcm⟩ := own_form h
  injection e2 with e2 e3 e4
  rw [← e4] at hnc hcm
  exact ⟨own_row h, hnc, hcm, own_nil h⟩
/-- The rest of an own row. -/
theorem RB.drop {w : World} {base g n c q : Nat} {l : List Int} (h : w.ownsRow base 5 1 (.slice (some ⟨g, 0, none⟩) n c) n (bytes l)) (hq : q ≤ n) : RB w (some ⟨g, q, none⟩) (n - q) (c - q) (l.drop q) := by
  have hb := RB.of_own h
  have hr := (own_row h).drop q (n - q) (by omega)
  rw [Nat.zero_add, show (bytes l).drop q = bytes (l.drop q) by simp] at hr
  exact ⟨hr, by have := hb.le; omega, by have := hb.most; omega, fun h => by cases h⟩
theorem RB.drop0 {w : World} {base g n c : Nat} {l : List Int} (hl : l.length = n) (h : w.ownsRow base 5 1 (.slice (some ⟨g, 0, none⟩) n c) n (bytes l)) : RB w (some ⟨g, n, none⟩) 0 (c - n) (l.drop n) := by
  have := RB.drop (q := n) h (Nat.le_refl n)
  rwa [Nat.sub_self] at this
theorem RB.put {w : World} {A : Option Addr} {n c M b q : Nat} {l : List Int} {v : Value} (h : RB w A n c l) (hf : ∀ a, A = some a → M ≤ a.block) (hb : b < M) : RB (w.setCell ⟨b, q, none⟩ v) A n c l := by
  refine ⟨⟨h.row.1, fun hn => ?_⟩, h.le, h.most, h.nil⟩
  obtain ⟨g, o, e, hg, hc⟩ := h.row.2 hn
  have h9 : M ≤ g := hf _ e
  refine ⟨g, o, e, by simpa using hg, fun j u hu => ?_⟩
  rw [World.cell?_setCell_other _ _ _ _ (fun e2 => by injection e2 with e2; omega)]
  exact hc j u hu
/-- Bytes that can be read, in a block from N on. -/
def BF (N : Nat) (w : World) (v : Value) (l : List Int) : Prop := ∃ A n c, v = .slice A n c ∧ RB w A n c l ∧ ∀ a, A = some a → N ≤ a.block
theorem BF.lift {N : Nat} {w W : World} {v : Value} {l : List Int} (h : BF N w v l) (e : Ext w W) : BF N W v l := by
  obtain ⟨A, n, c, hv, h1, h2⟩ := h
  exact ⟨A, n, c, hv, h1.lift e, h2⟩
theorem BF.of_own {w : World} {N base n : Nat} {v : Value} {l : List Int} (h : w.ownsRow base 5 1 v n (bytes l)) (hN : N ≤ base) : BF N w v l := by
  obtain ⟨A, c, rfl, _, _⟩ := own_form h
  exact ⟨A, n, c, rfl, RB.of_own h, fun a ha => Nat.le_trans hN (own_base h a ha)⟩
/-- A port that can be read, its bytes in blocks from N on. -/
def PS (N : Nat) (w : World) (v : Value) (id cl ic : Int) (l : List Int) (oc : Int) (k : List Int) (bu : Int) (en cg : Bool) : Prop :=
  ∃ A n c B m d, v = pv id cl ic A n c oc B m d bu en cg ∧ RB w A n c l ∧ RB w B m d k ∧ (∀ a, A = some a → N ≤ a.block) ∧ (∀ a, B = some a → N ≤ a.block)
theorem PS.lift {N : Nat} {w W : World} {v : Value} {id cl ic : Int} {l : List Int} {oc : Int} {k : List Int} {bu : Int} {en cg : Bool} (h : PS N w v id cl ic l oc k bu en cg) (e : Ext w W) : PS N W v id cl ic l oc k bu en cg := by
  obtain ⟨A, n, c, B, m, d, hv, h1, h2, h3, h4⟩ := h
  exact ⟨A, n, c, B, m, d, hv, h1.lift e, h2.lift e, h3, h4⟩
/-- What flush leaves: q bytes of k are sent. -/
def FlPost (w : World) (id cl ic : Int) (l : List Int) (oc : Int) (k : List Int) (bu : Int) (en cg : Bool) (e : Ending) (w' : World) : Prop :=
  ∃ v1 v2, e = .returned (.tuple #[v1, v2]) ∧ PS w.heap.size w' v1 id cl ic l oc (k.drop (min bu k.length).toNat) (bu - min bu k.length) en cg ∧ BF w.heap.size w' v2 (k.take (min bu k.length).toNat) ∧ Ext w w'

set_option maxHeartbeats 4000000 in
theorem pflush_granted (id cl ic : Int) (A : Option Addr) (n c : Nat) (l : List Int) (oc : Int) (B : Option Addr) (m d : Nat) (k : List Int) (bu : Int) (en cg : Bool) (g : Int) (w : World)
    (hA : RB w A n c l) (hn : n ≤ 140737488355328) (hB : RB w B m d k) (hm : m ≤ 140737488355328) :
    Calls Try.prog 34 #[pv id cl ic A n c oc B m d bu en cg, .iface 56 (.int .i64 g)] w (FlPost w id cl ic l oc k (addTo 1000000 [bu, g] 2) en cg) := by
  go_enter Try.func34, Try.ntmps34
  go_wp2_with fail
  refine calls_at fun W hW => ?_
  obtain ⟨N, hN⟩ : ∃ N, N = w.heap.size := ⟨_, rfl⟩
  have hB1 : Box N [.int .i64 0, .int .i64 0, .int .i64 0, .slice none 0 0, .int .i64 0, .slice none 0 0, .int .i64 0, .bool false, .bool false] (N + 1) W := by
    rw [hW]
    repeat' (first | with_reducible assumption | ((with_reducible refine Box.fresh ?fb ?fn ?fr); (case fb => first | omega | (simp <;> omega)); (case fn => first | omega | (simp <;> omega)); (case fr => rfl)) | with_reducible apply Box.up | with_reducible apply Box.drew_ | with_reducible apply Box.drewN_ | with_reducible apply Box.plus_ | with_reducible apply Box.put | with_reducible refine Box.off ?_ (by omega))
    all_goals first | rfl | (simp; done)
  have hB0 : Box N [.int .i64 id, .int .i64 cl, .int .i64 ic, .slice A n c, .int .i64 oc, .slice B m d, .int .i64 bu, .bool en, .bool cg] N W := by
    rw [hW]
    repeat' (first | with_reducible assumption | ((with_reducible refine Box.fresh ?fb ?fn ?fr); (case fb => first | omega | (simp <;> omega)); (case fn => first | omega | (simp <;> omega)); (case fr => rfl)) | with_reducible apply Box.up | with_reducible apply Box.drew_ | with_reducible apply Box.drewN_ | with_reducible apply Box.plus_ | with_reducible apply Box.put | with_reducible refine Box.off ?_ (by omega))
    all_goals first | rfl | (simp; done)
  have hE : Ext w W := by
    rw [hW]
    repeat' (first | with_reducible assumption | with_reducible exact Ext.refl _ | with_reducible apply Ext.alloc | with_reducible apply Ext.drew | with_reducible apply Ext.drewN | with_reducible apply Ext.plus_ | with_reducible refine Ext.put ?_ (by omega))
  rw [← hN]
  have HN := Lib.hid hN
  clear hW hN
  refine (pcopied_any id cl ic A n c l oc B m d k bu en cg W (hA.lift hE).row hA.nil hn (hB.lift hE).row hB.nil hm).mono ?_
  rintro e X ⟨A1, c1, B1, d1, rfl, ho1, ho2, hdis, hEX⟩
  have hN2 : N + 2 ≤ W.heap.size := hB1.lt
  replace ho1 := own_lower_ ho1 hN2
  replace ho2 := own_lower_ ho2 hN2
  replace hB0 := hB0.ext hEX
  replace hB1 := hB1.ext hEX
  replace hE := hE.trans hEX
  clear hEX hA hB hN2
  have p0 := hB0.cell 0 (by simp)
  have p1 := hB0.cell 1 (by simp)
  have p2 := hB0.cell 2 (by simp)
  have p3 := hB0.cell 3 (by simp)
  have p4 := hB0.cell 4 (by simp)
  have p5 := hB0.cell 5 (by simp)
  have p6 := hB0.cell 6 (by simp)
  have p7 := hB0.cell 7 (by simp)
  have p8 := hB0.cell 8 (by simp)
  simp only [List.getElem?_cons_zero, List.getElem?_cons_succ] at p0 p1 p2 p3 p4 p5 p6 p7 p8
  have pF := hB0.free
  have pL := hB0.lt
  have pB := hB0.base
  have r0 := hB1.cell 0 (by simp)
  have r1 := hB1.cell 1 (by simp)
  have r2 := hB1.cell 2 (by simp)
  have r3 := hB1.cell 3 (by simp)
  have r4 := hB1.cell 4 (by simp)
  have r5 := hB1.cell 5 (by simp)
  have r6 := hB1.cell 6 (by simp)
  have r7 := hB1.cell 7 (by simp)
  have r8 := hB1.cell 8 (by simp)
  simp only [List.getElem?_cons_zero, List.getElem?_cons_succ] at r0 r1 r2 r3 r4 r5 r6 r7 r8
  have rF := hB1.free
  have rL := hB1.lt
  have rB := hB1.base
  have H := Lib.hid (And.intro hB0 (And.intro hB1 (And.intro hE (And.intro ho1 (And.intro ho2 hdis)))))
  clear hB0 hB1 hE ho1 ho2 hdis
  go_wp2_with fail
  refine calls_at fun Y hY => ?_
  obtain ⟨hB0, hB1, hE, ho1, ho2, hdis⟩ := H.out
  have hC : Cells Y X.heap.size [.int .i64 bu, .int .i64 g] := by
    rw [hY]
    exact Cells.fresh (by simp) rfl
  have hN := HN.out
  replace hB0 : Box N [.int .i64 id, .int .i64 cl, .int .i64 ic, .slice A1 n c1, .int .i64 oc, .slice B1 m d1, .int .i64 bu, .bool en, .bool cg] N Y := by
    rw [hY]
    repeat' (first | with_reducible assumption | ((with_reducible refine Box.fresh ?fb ?fn ?fr); (case fb => first | omega | (simp <;> omega)); (case fn => first | omega | (simp <;> omega)); (case fr => rfl)) | with_reducible apply Box.up | with_reducible apply Box.drew_ | with_reducible apply Box.drewN_ | with_reducible apply Box.plus_ | with_reducible apply Box.put | with_reducible refine Box.off ?_ (by omega))
    all_goals first | rfl | (simp; done)
  replace hB1 : Box N [.int .i64 0, .int .i64 0, .int .i64 0, .slice none 0 0, .int .i64 0, .slice none 0 0, .int .i64 0, .bool false, .bool false] (N + 1) Y := by
    rw [hY]
    repeat' (first | with_reducible assumption | ((with_reducible refine Box.fresh ?fb ?fn ?fr); (case fb => first | omega | (simp <;> omega)); (case fn => first | omega | (simp <;> omega)); (case fr => rfl)) | with_reducible apply Box.up | with_reducible apply Box.drew_ | with_reducible apply Box.drewN_ | with_reducible apply Box.plus_ | with_reducible apply Box.put | with_reducible refine Box.off ?_ (by omega))
    all_goals first | rfl | (simp; done)
  replace hE : Ext w Y := by
    rw [hY]
    repeat' (first | with_reducible assumption | with_reducible exact Ext.refl _ | with_reducible apply Ext.alloc | with_reducible apply Ext.drew | with_reducible apply Ext.drewN | with_reducible apply Ext.plus_ | with_reducible refine Ext.put ?_ (by omega))
  replace ho1 : Y.ownsRow (N + 2) 5 1 (.slice A1 n c1) n (bytes l) := by
    rw [hY]
    repeat' (first | with_reducible assumption | with_reducible refine own_put_ ?_ (by omega) | with_reducible apply own_up_ | with_reducible apply own_plus_ | with_reducible apply own_drew_)
  replace ho2 : Y.ownsRow (N + 2) 5 1 (.slice B1 m d1) m (bytes k) := by
    rw [hY]
    repeat' (first | with_reducible assumption | with_reducible refine own_put_ ?_ (by omega) | with_reducible apply own_up_ | with_reducible apply own_plus_ | with_reducible apply own_drew_)
  clear hY H hN
  clear p0 p1 p2 p3 p4 p5 p6 p7 p8 pF pL pB
  clear r0 r1 r2 r3 r4 r5 r6 r7 r8 rF rL rB
  refine (cadd_two 1000000 bu g _ Y hC (by decide)).mono ?_
  have hb1 := addTo_bd 1000000 [bu, g] 2
  obtain ⟨b1, hb⟩ : ∃ b, b = addTo 1000000 [bu, g] 2 := ⟨_, rfl⟩
  rw [← hb] at hb1 ⊢
  have HBQ := Lib.hid hb
  clear hb
  rintro e Z ⟨rfl, rfl⟩
  have p0 := hB0.cell 0 (by simp)
  have p1 := hB0.cell 1 (by simp)
  have p2 := hB0.cell 2 (by simp)
  have p3 := hB0.cell 3 (by simp)
  have p4 := hB0.cell 4 (by simp)
  have p5 := hB0.cell 5 (by simp)
  have p6 := hB0.cell 6 (by simp)
  have p7 := hB0.cell 7 (by simp)
  have p8 := hB0.cell 8 (by simp)
  simp only [List.getElem?_cons_zero, List.getElem?_cons_succ] at p0 p1 p2 p3 p4 p5 p6 p7 p8
  have pF := hB0.free
  have pL := hB0.lt
  have pB := hB0.base
  have r0 := hB1.cell 0 (by simp)
  have r1 := hB1.cell 1 (by simp)
  have r2 := hB1.cell 2 (by simp)
  have r3 := hB1.cell 3 (by simp)
  have r4 := hB1.cell 4 (by simp)
  have r5 := hB1.cell 5 (by simp)
  have r6 := hB1.cell 6 (by simp)
  have r7 := hB1.cell 7 (by simp)
  have r8 := hB1.cell 8 (by simp)
  simp only [List.getElem?_cons_zero, List.getElem?_cons_succ] at r0 r1 r2 r3 r4 r5 r6 r7 r8
  have rF := hB1.free
  have rL := hB1.lt
  have rB := hB1.base
  have H := Lib.hid (And.intro hB0 (And.intro hB1 (And.intro hE (And.intro ho1 (And.intro ho2 hdis)))))
  clear hB0 hB1 hE ho1 ho2 hdis hC
  have hb2 : 0 ≤ b1 := hb1.1
  have hb3 : b1 ≤ 1000000 := by
    have := hb1.2
    omega
  clear hb1
  go_wp2_with (with_reducible show wpList _ _ _ (⟨some 33, _, _, _, _, _⟩ :: _) _ _; refine Lock.out ?_)
  refine ⟨?_, trivial⟩
  refine wl_at fun U hU => ?_
  obtain ⟨hB0, hB1, hE, ho1, ho2, hdis⟩ := H.out
  have hN := HN.out
  replace hB0 : Box N [.int .i64 id, .int .i64 cl, .int .i64 ic, .slice A1 n c1, .int .i64 oc, .slice B1 m d1, .int .i64 b1, .bool en, .bool cg] N U := by
    rw [hU]
    repeat' (first | with_reducible assumption | ((with_reducible refine Box.fresh ?fb ?fn ?fr); (case fb => first | omega | (simp <;> omega)); (case fn => first | omega | (simp <;> omega)); (case fr => rfl)) | with_reducible apply Box.up | with_reducible apply Box.drew_ | with_reducible apply Box.drewN_ | with_reducible apply Box.plus_ | with_reducible apply Box.put | with_reducible refine Box.off ?_ (by omega))
    all_goals first | rfl | (simp; done)
  replace hB1 : Box N [.int .i64 0, .int .i64 0, .int .i64 0, .slice none 0 0, .int .i64 0, .slice none 0 0, .int .i64 0, .bool false, .bool false] (N + 1) U := by
    rw [hU]
    repeat' (first | with_reducible assumption | ((with_reducible refine Box.fresh ?fb ?fn ?fr); (case fb => first | omega | (simp <;> omega)); (case fn => first | omega | (simp <;> omega)); (case fr => rfl)) | with_reducible apply Box.up | with_reducible apply Box.drew_ | with_reducible apply Box.drewN_ | with_reducible apply Box.plus_ | with_reducible apply Box.put | with_reducible refine Box.off ?_ (by omega))
    all_goals first | rfl | (simp; done)
  replace hE : Ext w U := by
    rw [hU]
    repeat' (first | with_reducible assumption | with_reducible exact Ext.refl _ | with_reducible apply Ext.alloc | with_reducible apply Ext.drew | with_reducible apply Ext.drewN | with_reducible apply Ext.plus_ | with_reducible refine Ext.put ?_ (by omega))
  replace ho1 : U.ownsRow (N + 2) 5 1 (.slice A1 n c1) n (bytes l) := by
    rw [hU]
    repeat' (first | with_reducible assumption | with_reducible refine own_put_ ?_ (by omega) | with_reducible apply own_up_ | with_reducible apply own_plus_ | with_reducible apply own_drew_)
  replace ho2 : U.ownsRow (N + 2) 5 1 (.slice B1 m d1) m (bytes k) := by
    rw [hU]
    repeat' (first | with_reducible assumption | with_reducible refine own_put_ ?_ (by omega) | with_reducible apply own_up_ | with_reducible apply own_plus_ | with_reducible apply own_drew_)
  clear hU H hN hdis
  clear p0 p1 p2 p3 p4 p5 p6 p7 p8 pF pL pB
  clear r0 r1 r2 r3 r4 r5 r6 r7 r8 rF rL rB
  have p0 := hB0.cell 0 (by simp)
  have p1 := hB0.cell 1 (by simp)
  have p2 := hB0.cell 2 (by simp)
  have p3 := hB0.cell 3 (by simp)
  have p4 := hB0.cell 4 (by simp)
  have p5 := hB0.cell 5 (by simp)
  have p6 := hB0.cell 6 (by simp)
  have p7 := hB0.cell 7 (by simp)
  have p8 := hB0.cell 8 (by simp)
  simp only [List.getElem?_cons_zero, List.getElem?_cons_succ] at p0 p1 p2 p3 p4 p5 p6 p7 p8
  have pF := hB0.free
  have pL := hB0.lt
  have pB := hB0.base
  have r0 := hB1.cell 0 (by simp)
  have r1 := hB1.cell 1 (by simp)
  have r2 := hB1.cell 2 (by simp)
  have r3 := hB1.cell 3 (by simp)
  have r4 := hB1.cell 4 (by simp)
  have r5 := hB1.cell 5 (by simp)
  have r6 := hB1.cell 6 (by simp)
  have r7 := hB1.cell 7 (by simp)
  have r8 := hB1.cell 8 (by simp)
  simp only [List.getElem?_cons_zero, List.getElem?_cons_succ] at r0 r1 r2 r3 r4 r5 r6 r7 r8
  have rF := hB1.free
  have rL := hB1.lt
  have rB := hB1.base
  have H := Lib.hid (And.intro hB0 (And.intro hB1 (And.intro hE (And.intro ho1 ho2))))
  have hkl : k.length = m := by
    have := ho2.1
    simpa using this
  have hmd : m ≤ d1 := by
    obtain ⟨A9, c9, e2, hnc, hcm⟩ := own_form ho2
    injection e2 with e2 e3 e4
    omega
  clear hB0 hB1 hE ho1 ho2
  by_cases hq : b1 ≤ (m : Int)
  · obtain ⟨q, hbq⟩ := Int.eq_ofNat_of_zero_le hb2
    have hq1 : q ≤ m := by omega
    have hq2 : q ≤ d1 := by omega
    have HP := Lib.hid (show min b1 (k.length : Int) = q by rw [hkl]; omega)
    subst hbq
    go_wp2_with fail
    obtain ⟨hB0, hB1, hE, ho1, ho2⟩ := H.out
    have hnil := own_nil ho2
    have hrow := (own_row ho2).take q hq1
    rw [show (bytes k).take q = bytes ((k).take q) by simp] at hrow
    refine (clone_any B1 q d1 ((k).take q) U hrow (fun h => by have := hnil h; omega) (by omega)).mono ?_
    rintro ee Z ⟨v4, rfl, ho4, hEZ⟩
    have hbs := own_lower_ ho4 (show N + 2 ≤ U.heap.size from hB1.lt)
    replace hB0 := hB0.ext hEZ
    replace hB1 := hB1.ext hEZ
    replace hE := hE.trans hEZ
    replace ho1 := own_ext ho1 hEZ
    replace ho2 := own_ext ho2 hEZ
    clear p0 p1 p2 p3 p4 p5 p6 p7 p8 pF pL pB
    clear r0 r1 r2 r3 r4 r5 r6 r7 r8 rF rL rB
    have p0 := hB0.cell 0 (by simp)
    have p1 := hB0.cell 1 (by simp)
    have p2 := hB0.cell 2 (by simp)
    have p3 := hB0.cell 3 (by simp)
    have p4 := hB0.cell 4 (by simp)
    have p5 := hB0.cell 5 (by simp)
    have p6 := hB0.cell 6 (by simp)
    have p7 := hB0.cell 7 (by simp)
    have p8 := hB0.cell 8 (by simp)
    simp only [List.getElem?_cons_zero, List.getElem?_cons_succ] at p0 p1 p2 p3 p4 p5 p6 p7 p8
    have pF := hB0.free
    have pL := hB0.lt
    have pB := hB0.base
    have r0 := hB1.cell 0 (by simp)
    have r1 := hB1.cell 1 (by simp)
    have r2 := hB1.cell 2 (by simp)
    have r3 := hB1.cell 3 (by simp)
    have r4 := hB1.cell 4 (by simp)
    have r5 := hB1.cell 5 (by simp)
    have r6 := hB1.cell 6 (by simp)
    have r7 := hB1.cell 7 (by simp)
    have r8 := hB1.cell 8 (by simp)
    simp only [List.getElem?_cons_zero, List.getElem?_cons_succ] at r0 r1 r2 r3 r4 r5 r6 r7 r8
    have rF := hB1.free
    have rL := hB1.lt
    have rB := hB1.base
    have HZ := Lib.hid (And.intro hB0 (And.intro hB1 (And.intro hE (And.intro ho1 (And.intro ho2 hbs)))))
    clear hB0 hB1 hEZ H ho4 hrow
    clear hE ho1 hbs hnil
    go_wp2_with fail
    rcases Nat.lt_or_ge q d1 with hqc | hqc
    · obtain ⟨gb, rfl⟩ : ∃ gb, B1 = some ⟨gb, 0, none⟩ := by
        rcases ho2.2 with ⟨h1, _⟩ | ⟨gb, _, _, h1, _⟩
        · injection h1 with _ _ h1
          omega
        · injection h1 with h1 _ _
          exact ⟨gb, h1⟩
      clear ho2
      go_region_with fail
      all_goals
        go_wp2
        refine bodyPost_ret (v := (.tuple #[pv id cl ic A1 n c1 oc (some ⟨gb, q, none⟩) (m - q) (d1 - q) (0) en cg, v4])) (by simp [results, Try.results34, go_sem, r0, r1, r2, r3, r4, r5, r6, r7, r8]) rfl ?_
        obtain ⟨hB0, hB1, hE, ho1, ho2, hbs⟩ := HZ.out
        clear hB0 hB1
        have hN := HN.out
        have hP1 := own_base ho1
        have hP2 := own_base ho2
        unfold FlPost
        rw [← HBQ.out, HP.out, Int.toNat_natCast, Int.sub_self]
        refine ⟨_, v4, rfl, ⟨A1, n, c1, _, _, _, rfl, RB.of_own (base := N + 2) ?_, ?_, fun a ha => ?_, ?_⟩, ?_, ?_⟩
        · repeat' (first | with_reducible assumption | with_reducible refine own_put_ ?_ (by omega) | with_reducible apply own_up_ | with_reducible apply own_plus_ | with_reducible apply own_drew_)
        · skip
          refine RB.drop (base := N + 2) (n := m) (c := d1) ?_ hq1
          repeat' (first | with_reducible assumption | with_reducible refine own_put_ ?_ (by omega) | with_reducible apply own_up_ | with_reducible apply own_plus_ | with_reducible apply own_drew_)
        · have := hP1 a ha
          omega
        · skip
          (intro a ha; injection ha with ha; subst ha; have h9 := hP2 ⟨gb, 0, none⟩ rfl; simp only at h9 ⊢; omega)
        · refine BF.of_own (base := N + 2) (n := q) ?_ (by omega)
          repeat' (first | with_reducible assumption | with_reducible refine own_put_ ?_ (by omega) | with_reducible apply own_up_ | with_reducible apply own_plus_ | with_reducible apply own_drew_)
        · repeat' (first | with_reducible assumption | with_reducible exact Ext.refl _ | with_reducible apply Ext.alloc | with_reducible apply Ext.drew | with_reducible apply Ext.drewN | with_reducible apply Ext.plus_ | with_reducible refine Ext.put ?_ (by omega))
    · obtain rfl : q = d1 := by omega
      obtain rfl : m = q := by omega
      have HK := Lib.hid (show k.drop m = [] from List.drop_of_length_le (by omega))
      clear ho2
      go_region_with fail
      all_goals
        go_wp2
        refine bodyPost_ret (v := (.tuple #[pv id cl ic A1 n c1 oc B1 0 0 (0) en cg, v4])) (by simp [results, Try.results34, go_sem, r0, r1, r2, r3, r4, r5, r6, r7, r8]) rfl ?_
        obtain ⟨hB0, hB1, hE, ho1, ho2, hbs⟩ := HZ.out
        clear hB0 hB1
        have hN := HN.out
        have hP1 := own_base ho1
        have hP2 := own_base ho2
        unfold FlPost
        rw [← HBQ.out, HP.out, Int.toNat_natCast, Int.sub_self]
        refine ⟨_, v4, rfl, ⟨A1, n, c1, _, _, _, rfl, RB.of_own (base := N + 2) ?_, ?_, fun a ha => ?_, ?_⟩, ?_, ?_⟩
        · repeat' (first | with_reducible assumption | with_reducible refine own_put_ ?_ (by omega) | with_reducible apply own_up_ | with_reducible apply own_plus_ | with_reducible apply own_drew_)
        · skip
          (rw [HK.out]; exact ⟨Row.nil, Nat.le_refl _, by omega, fun _ => ⟨rfl, rfl⟩⟩)
        · have := hP1 a ha
          omega
        · skip
          (intro a ha; have := hP2 a ha; omega)
        · refine BF.of_own (base := N + 2) (n := m) ?_ (by omega)
          repeat' (first | with_reducible assumption | with_reducible refine own_put_ ?_ (by omega) | with_reducible apply own_up_ | with_reducible apply own_plus_ | with_reducible apply own_drew_)
        · repeat' (first | with_reducible assumption | with_reducible exact Ext.refl _ | with_reducible apply Ext.alloc | with_reducible apply Ext.drew | with_reducible apply Ext.drewN | with_reducible apply Ext.plus_ | with_reducible refine Ext.put ?_ (by omega))
  · have hq1 : m ≤ m := Nat.le_refl m
    have hqm : (m : Int) ≤ b1 := by omega
    have hqm2 : (m : Int) < b1 := by omega
    have HP := Lib.hid (show min b1 (k.length : Int) = (m : Nat) by rw [hkl]; omega)
    clear hq
    go_wp2_with fail
    obtain ⟨hB0, hB1, hE, ho1, ho2⟩ := H.out
    have hnil := own_nil ho2
    have hrow := (own_row ho2).take m hq1
    rw [show (bytes k).take m = bytes ((k).take m) by simp] at hrow
    refine (clone_any B1 m d1 ((k).take m) U hrow (fun h => by have := hnil h; omega) (by omega)).mono ?_
    rintro ee Z ⟨v4, rfl, ho4, hEZ⟩
    have hbs := own_lower_ ho4 (show N + 2 ≤ U.heap.size from hB1.lt)
    replace hB0 := hB0.ext hEZ
    replace hB1 := hB1.ext hEZ
    replace hE := hE.trans hEZ
    replace ho1 := own_ext ho1 hEZ
    replace ho2 := own_ext ho2 hEZ
    clear p0 p1 p2 p3 p4 p5 p6 p7 p8 pF pL pB
    clear r0 r1 r2 r3 r4 r5 r6 r7 r8 rF rL rB
    have p0 := hB0.cell 0 (by simp)
    have p1 := hB0.cell 1 (by simp)
    have p2 := hB0.cell 2 (by simp)
    have p3 := hB0.cell 3 (by simp)
    have p4 := hB0.cell 4 (by simp)
    have p5 := hB0.cell 5 (by simp)
    have p6 := hB0.cell 6 (by simp)
    have p7 := hB0.cell 7 (by simp)
    have p8 := hB0.cell 8 (by simp)
    simp only [List.getElem?_cons_zero, List.getElem?_cons_succ] at p0 p1 p2 p3 p4 p5 p6 p7 p8
    have pF := hB0.free
    have pL := hB0.lt
    have pB := hB0.base
    have r0 := hB1.cell 0 (by simp)
    have r1 := hB1.cell 1 (by simp)
    have r2 := hB1.cell 2 (by simp)
    have r3 := hB1.cell 3 (by simp)
    have r4 := hB1.cell 4 (by simp)
    have r5 := hB1.cell 5 (by simp)
    have r6 := hB1.cell 6 (by simp)
    have r7 := hB1.cell 7 (by simp)
    have r8 := hB1.cell 8 (by simp)
    simp only [List.getElem?_cons_zero, List.getElem?_cons_succ] at r0 r1 r2 r3 r4 r5 r6 r7 r8
    have rF := hB1.free
    have rL := hB1.lt
    have rB := hB1.base
    have HZ := Lib.hid (And.intro hB0 (And.intro hB1 (And.intro hE (And.intro ho1 (And.intro ho2 hbs)))))
    clear hB0 hB1 hEZ H ho4 hrow
    clear hE ho1 hbs hnil
    go_wp2_with fail
    rcases Nat.lt_or_ge m d1 with hqc | hqc
    · obtain ⟨gb, rfl⟩ : ∃ gb, B1 = some ⟨gb, 0, none⟩ := by
        rcases ho2.2 with ⟨h1, _⟩ | ⟨gb, _, _, h1, _⟩
        · injection h1 with _ _ h1
          omega
        · injection h1 with h1 _ _
          exact ⟨gb, h1⟩
      clear ho2
      go_region_with fail
      all_goals
        go_wp2
        refine bodyPost_ret (v := (.tuple #[pv id cl ic A1 n c1 oc (some ⟨gb, m, none⟩) 0 (d1 - m) (b1 - m) en cg, v4])) (by simp [results, Try.results34, go_sem, r0, r1, r2, r3, r4, r5, r6, r7, r8]) rfl ?_
        obtain ⟨hB0, hB1, hE, ho1, ho2, hbs⟩ := HZ.out
        clear hB0 hB1
        have hN := HN.out
        have hP1 := own_base ho1
        have hP2 := own_base ho2
        unfold FlPost
        rw [← HBQ.out, HP.out, Int.toNat_natCast]
        refine ⟨_, v4, rfl, ⟨A1, n, c1, _, _, _, rfl, RB.of_own (base := N + 2) ?_, ?_, fun a ha => ?_, ?_⟩, ?_, ?_⟩
        · repeat' (first | with_reducible assumption | with_reducible refine own_put_ ?_ (by omega) | with_reducible apply own_up_ | with_reducible apply own_plus_ | with_reducible apply own_drew_)
        · skip
          refine RB.drop0 (base := N + 2) (n := m) (c := d1) (by omega) ?_
          repeat' (first | with_reducible assumption | with_reducible refine own_put_ ?_ (by omega) | with_reducible apply own_up_ | with_reducible apply own_plus_ | with_reducible apply own_drew_)
        · have := hP1 a ha
          omega
        · skip
          (intro a ha; injection ha with ha; subst ha; have h9 := hP2 ⟨gb, 0, none⟩ rfl; simp only at h9 ⊢; omega)
        · refine BF.of_own (base := N + 2) (n := m) ?_ (by omega)
          repeat' (first | with_reducible assumption | with_reducible refine own_put_ ?_ (by omega) | with_reducible apply own_up_ | with_reducible apply own_plus_ | with_reducible apply own_drew_)
        · repeat' (first | with_reducible assumption | with_reducible exact Ext.refl _ | with_reducible apply Ext.alloc | with_reducible apply Ext.drew | with_reducible apply Ext.drewN | with_reducible apply Ext.plus_ | with_reducible refine Ext.put ?_ (by omega))
    · obtain rfl : m = d1 := by omega
      have HK := Lib.hid (show k.drop m = [] from List.drop_of_length_le (by omega))
      clear ho2
      go_region_with fail
      all_goals
        go_wp2
        refine bodyPost_ret (v := (.tuple #[pv id cl ic A1 n c1 oc B1 0 0 (b1 - m) en cg, v4])) (by simp [results, Try.results34, go_sem, r0, r1, r2, r3, r4, r5, r6, r7, r8]) rfl ?_
        obtain ⟨hB0, hB1, hE, ho1, ho2, hbs⟩ := HZ.out
        clear hB0 hB1
        have hN := HN.out
        have hP1 := own_base ho1
        have hP2 := own_base ho2
        unfold FlPost
        rw [← HBQ.out, HP.out, Int.toNat_natCast]
        refine ⟨_, v4, rfl, ⟨A1, n, c1, _, _, _, rfl, RB.of_own (base := N + 2) ?_, ?_, fun a ha => ?_, ?_⟩, ?_, ?_⟩
        · repeat' (first | with_reducible assumption | with_reducible refine own_put_ ?_ (by omega) | with_reducible apply own_up_ | with_reducible apply own_plus_ | with_reducible apply own_drew_)
        · skip
          (rw [HK.out]; exact ⟨Row.nil, Nat.le_refl _, by omega, fun _ => ⟨rfl, rfl⟩⟩)
        · have := hP1 a ha
          omega
        · skip
          (intro a ha; have := hP2 a ha; omega)
        · refine BF.of_own (base := N + 2) (n := m) ?_ (by omega)
          repeat' (first | with_reducible assumption | with_reducible refine own_put_ ?_ (by omega) | with_reducible apply own_up_ | with_reducible apply own_plus_ | with_reducible apply own_drew_)
        · repeat' (first | with_reducible assumption | with_reducible exact Ext.refl _ | with_reducible apply Ext.alloc | with_reducible apply Ext.drew | with_reducible apply Ext.drewN | with_reducible apply Ext.plus_ | with_reducible refine Ext.put ?_ (by omega))
end Go.Proofs.Ytphbmibgnnobcaa
