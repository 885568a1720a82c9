/- Ports: Offer and Eat. -/
import Derived.Test.YtphbmibgnnobcaaPort6
import Derived.Test.YtphbmibgnnobcaaQueue9
set_option linter.unusedVariables false
namespace Go.Proofs.Ytphbmibgnnobcaa
open Go.RowKit Go.Rg

/-- Cells of bytes stay. -/
def U8 (w w' : World) : Prop := w.heap.size ≤ w'.heap.size ∧ ∀ p x, w.cell? p = some (.int .u8 x) → w'.cell? p = some (.int .u8 x)
theorem U8.refl (w : World) : U8 w w := ⟨Nat.le_refl _, fun _ _ h => h⟩
theorem U8.trans {a b c : World} (h : U8 a b) (k : U8 b c) : U8 a c := ⟨Nat.le_trans h.1 k.1, fun p x hp => k.2 p x (h.2 p x hp)⟩
theorem U8.of_ext {w w' : World} (h : Ext w w') : U8 w w' := ⟨h.size, fun _ _ hp => h.cell hp⟩
theorem U8.ext {w w1 w' : World} (k : U8 w w1) (h : Ext w1 w') : U8 w w' := k.trans (U8.of_ext h)
theorem U8.up {w w1 : World} (h : U8 w w1) (o : Obj) : U8 w (w1.alloc o) := h.ext ((Ext.refl _).alloc o)
theorem U8.drew {w w1 : World} (h : U8 w w1) : U8 w w1.drew := h.ext (Ext.refl _).drew
theorem U8.put {w w1 : World} {b k : Nat} {u v : Value} (h : U8 w w1) (hc : w.cell? ⟨b, k, none⟩ = some u) (hu : ∀ x, u ≠ .int .u8 x) : U8 w (w1.setCell ⟨b, k, none⟩ v) := by
  refine ⟨by simpa using h.1, fun p x hp => ?_⟩
  rw [World.cell?_setCell_other _ _ _ _ (fun e => ?_)]
  · exact h.2 p x hp
  · subst e
    rw [hc] at hp
    injection hp with hp
    exact hu x hp
theorem U8.putE {w w1 : World} {b k : Nat} {v : Value} (h : U8 w w1) (hc : ∃ u, w.cell? ⟨b, k, none⟩ = some u ∧ ∀ x, u ≠ .int .u8 x) : U8 w (w1.setCell ⟨b, k, none⟩ v) := by
  obtain ⟨u, h1, h2⟩ := hc
  exact h.put h1 h2
theorem U8.new {w w1 : World} {b k : Nat} {v : Value} (h : U8 w w1) (hb : w.heap.size ≤ b) : U8 w (w1.setCell ⟨b, k, none⟩ v) := by
  refine ⟨by simpa using h.1, fun p x hp => ?_⟩
  rw [World.cell?_setCell_other _ _ _ _ (fun e => ?_)]
  · exact h.2 p x hp
  · subst e
    have := Ext.lt hp
    simp at this
    omega
theorem RB.u8 {w w' : World} {A : Option Addr} {n c : Nat} {l : List Int} (h : RB w A n c l) (k : U8 w w') : RB w' A n c l := by
  refine ⟨⟨h.row.1, fun hn => ?_⟩, h.le, h.most, h.nil⟩
  obtain ⟨g, o, e, hb, hc⟩ := h.row.2 hn
  refine ⟨g, o, e, Nat.lt_of_lt_of_le hb k.1, fun j u hu => ?_⟩
  have h1 := hc j u hu
  rw [List.getElem?_map] at hu
  obtain ⟨x, hx, rfl⟩ := Option.map_eq_some_iff.1 hu
  exact k.2 _ _ h1
/-- A port that can be read. -/
def PR (w : World) (v : Value) (id cl ic : Int) (l : List Int) (oc : Int) (k : List Int) (bu : Int) (en cg : Bool) : Prop :=
  ∃ A n c B m d, v = pv id cl ic A n c oc B m d bu en cg ∧ RB w A n c l ∧ RB w B m d k
theorem PR.u8 {w W : World} {v : Value} {id cl ic : Int} {l : List Int} {oc : Int} {k : List Int} {bu : Int} {en cg : Bool} (h : PR w v id cl ic l oc k bu en cg) (e : U8 w W) : PR W v id cl ic l oc k bu en cg := by
  obtain ⟨A, n, c, B, m, d, hv, h1, h2⟩ := h
  exact ⟨A, n, c, B, m, d, hv, h1.u8 e, h2.u8 e⟩
theorem PR.lift {w W : World} {v : Value} {id cl ic : Int} {l : List Int} {oc : Int} {k : List Int} {bu : Int} {en cg : Bool} (h : PR w v id cl ic l oc k bu en cg) (e : Ext w W) : PR W v id cl ic l oc k bu en cg := h.u8 (U8.of_ext e)
theorem PS.pr {N : Nat} {w : World} {v : Value} {id cl ic : Int} {l : List Int} {oc : Int} {k : List Int} {bu : Int} {en cg : Bool} (h : PS N w v id cl ic l oc k bu en cg) : PR w v id cl ic l oc k bu en cg := by
  obtain ⟨A, n, c, B, m, d, hv, h1, h2, _, _⟩ := h
  exact ⟨A, n, c, B, m, d, hv, h1, h2⟩
theorem QS.rb {w : World} {v : Value} {k : Int} {l : List Int} (h : QS w v k l) : ∃ A c, v = qu k A l.length c ∧ RB w A l.length c l := by
  obtain ⟨A, n, c, hv, h1, h2, h3, h4⟩ := h
  have hl : l.length = n := by have := h1.1; simpa using this
  subst hl
  exact ⟨A, c, hv, h1, h2, h3, h4⟩
theorem put1_any (k : Int) (A : Option Addr) (n c : Nat) (l : List Int) (b : Nat) (sv : Value) (bl : List Int) (w : World) (hr : Row w w.heap.size 1 A n (bytes l)) (hA : A = none → n = 0 ∧ c = 0)
    (hb : Cells w b [sv]) (hs : BS w sv bl) (hn : n + 1000000 ≤ 140737488355328) (hl : bl.length ≤ 140737488355328) :
    Calls Try.prog 38 #[qu k A n c, .slice (some ⟨b, 0, none⟩) 1 1] w (PutPost w k l bl) := by
  have := put_any k A n c l (some ⟨b, 0, none⟩) 1 1 [sv] [bl] w hr hA (by omega) ⟨rfl, fun _ => ⟨b, 0, rfl, hb.1, fun j u hu => by simpa using hb.2 j u hu⟩⟩ ⟨rfl, fun j v l' h1 h2 => by
    match j with
    | 0 => simp at h1 h2; subst h1 h2; exact hs
    | j + 1 => simp at h1⟩ (by omega) (by simpa using hl) hn
  simpa using this
def OffPost (w : World) (id cl ic : Int) (l : List Int) (oc : Int) (k : List Int) (bu : Int) (en cg : Bool) (b : List Int) (e : Ending) (w' : World) : Prop :=
  ∃ v, e = .returned (.tuple #[v, .int .i64 (if en || cg then 0 else qput ic l.length b.length : Nat)]) ∧ PR w' v id cl ic (if en || cg then l else l ++ b.take (qput ic l.length b.length)) oc k bu en cg ∧ Ext w w'
def EatPost (w : World) (id cl ic : Int) (l : List Int) (oc : Int) (k : List Int) (bu : Int) (en cg : Bool) (q : Nat) (e : Ending) (w' : World) : Prop :=
  ∃ v, e = .returned v ∧ PR w' v id cl ic (l.drop q) oc k bu en cg ∧ Ext w w'
set_option maxHeartbeats 4000000 in
theorem poffer_any (id cl ic : Int) (A : Option Addr) (n c : Nat) (l : List Int) (oc : Int) (B : Option Addr) (m d : Nat) (k : List Int) (bu : Int) (en cg : Bool) (V : Option Addr) (vn vc : Nat) (b : List Int) (w : World)
    (hA : RB w A n c l) (hn : n + 1000000 ≤ 140737488355328) (hB : RB w B m d k) (hm : m ≤ 140737488355328) (hV : RB w V vn vc b) (hv : vn ≤ 140737488355328) :
    Calls Try.prog 23 #[pv id cl ic A n c oc B m d bu en cg, .slice V vn vc] w (OffPost w id cl ic l oc k bu en cg b) := by
  have HV := Lib.hid hV
  clear hV
  cases en
  · cases cg
    · go_enter Try.func23, Try.ntmps23
      go_wp2_with fail
      refine calls_at fun W hW => ?_
      obtain ⟨N, hN⟩ : ∃ N, N = w.heap.size := ⟨_, rfl⟩
      have hB1 : Box N [.int .i64 0, .int .i64 0, .int .i64 0, .slice none 0 0, .int .i64 0, .slice none 0 0, .int .i64 0, .bool false, .bool false] (N + 1) W := by
        rw [hW]
        repeat' (first | with_reducible assumption | ((with_reducible refine Box.fresh ?fb ?fn ?fr); (case fb => first | omega | (simp <;> omega)); (case fn => first | omega | (simp <;> omega)); (case fr => rfl)) | with_reducible apply Box.up | with_reducible apply Box.drew_ | with_reducible apply Box.drewN_ | with_reducible apply Box.plus_ | with_reducible apply Box.put | with_reducible refine Box.off ?_ (by omega))
        all_goals first | rfl | (simp; done)
      have hB0 : Box N [.int .i64 id, .int .i64 cl, .int .i64 ic, .slice A n c, .int .i64 oc, .slice B m d, .int .i64 bu, .bool false, .bool false] N W := by
        rw [hW]
        repeat' (first | with_reducible assumption | ((with_reducible refine Box.fresh ?fb ?fn ?fr); (case fb => first | omega | (simp <;> omega)); (case fn => first | omega | (simp <;> omega)); (case fr => rfl)) | with_reducible apply Box.up | with_reducible apply Box.drew_ | with_reducible apply Box.drewN_ | with_reducible apply Box.plus_ | with_reducible apply Box.put | with_reducible refine Box.off ?_ (by omega))
        all_goals first | rfl | (simp; done)
      have hE : Ext w W := by
        rw [hW]
        repeat' (first | with_reducible assumption | with_reducible exact Ext.refl _ | with_reducible apply Ext.alloc | with_reducible apply Ext.drew | with_reducible apply Ext.drewN | with_reducible apply Ext.plus_ | with_reducible refine Ext.put ?_ (by omega))
      rw [← hN]
      have HN := Lib.hid hN
      clear hW hN
      refine (pcopied_any id cl ic A n c l oc B m d k bu false false W (hA.lift hE).row hA.nil (by omega) (hB.lift hE).row hB.nil hm).mono ?_
      rintro e X ⟨A1, c1, B1, d1, rfl, ho1, ho2, -, hEX⟩
      have h1 := RB.of_own ho1
      have h2 := RB.of_own ho2
      replace hB0 := hB0.ext hEX
      replace hB1 := hB1.ext hEX
      replace hE := hE.trans hEX
      clear hEX hA hB ho1 ho2
      have p0 := hB0.cell 0 (by simp)
      have p1 := hB0.cell 1 (by simp)
      have p2 := hB0.cell 2 (by simp)
      have p3 := hB0.cell 3 (by simp)
      have p4 := hB0.cell 4 (by simp)
      have p5 := hB0.cell 5 (by simp)
      have p6 := hB0.cell 6 (by simp)
      have p7 := hB0.cell 7 (by simp)
      have p8 := hB0.cell 8 (by simp)
      simp only [List.getElem?_cons_zero, List.getElem?_cons_succ] at p0 p1 p2 p3 p4 p5 p6 p7 p8
      have pF := hB0.free
      have pL := hB0.lt
      have pB := hB0.base
      have r0 := hB1.cell 0 (by simp)
      have r1 := hB1.cell 1 (by simp)
      have r2 := hB1.cell 2 (by simp)
      have r3 := hB1.cell 3 (by simp)
      have r4 := hB1.cell 4 (by simp)
      have r5 := hB1.cell 5 (by simp)
      have r6 := hB1.cell 6 (by simp)
      have r7 := hB1.cell 7 (by simp)
      have r8 := hB1.cell 8 (by simp)
      simp only [List.getElem?_cons_zero, List.getElem?_cons_succ] at r0 r1 r2 r3 r4 r5 r6 r7 r8
      have rF := hB1.free
      have rL := hB1.lt
      have rB := hB1.base
      have HX := Lib.hid (And.intro hE (And.intro h1 (And.intro h2 (And.intro hB0 hB1))))
      clear hE h1 h2 hB0 hB1
      go_wp2_with fail
      refine calls_at fun Y hY => ?_
      obtain ⟨hE, h1, h2, hB0, hB1⟩ := HX.out
      obtain ⟨Q, hQ⟩ : ∃ N, N = X.heap.size := ⟨_, rfl⟩
      have hC : Cells Y Q [.slice V vn vc] := by
        rw [hY]
        repeat' (first | with_reducible assumption | ((with_reducible refine Cells.fresh ?fb ?fr); (case fb => first | omega | (simp <;> omega)); (case fr => rfl)) | with_reducible apply Cells.up | with_reducible apply Cells.drew_ | with_reducible apply Cells.plus_ | with_reducible refine Cells.off ?_ (by omega))
      have hU : U8 X Y := by
        rw [hY]
        repeat' (first | with_reducible exact U8.refl _ | with_reducible assumption | with_reducible apply U8.up | with_reducible apply U8.drew | ((with_reducible refine U8.putE ?_ ?_); rotate_left; (refine ⟨_, by assumption, ?_⟩); intro _ h; cases h) | ((with_reducible refine U8.new ?_ ?_); rotate_left; first | omega | (simp <;> omega)))
      have hN := HN.out
      have hEY : Ext w Y := by
        rw [hY]
        repeat' (first | with_reducible assumption | with_reducible exact Ext.refl _ | with_reducible apply Ext.alloc | with_reducible apply Ext.drew | with_reducible apply Ext.drewN | with_reducible apply Ext.plus_ | with_reducible refine Ext.put ?_ (by omega))
      replace hB0 : Box N [.int .i64 id, .int .i64 cl, .int .i64 ic, .slice A1 n c1, .int .i64 oc, .slice B1 m d1, .int .i64 bu, .bool false, .bool false] N Y := by
        rw [hY]
        repeat' (first | with_reducible assumption | ((with_reducible refine Box.fresh ?fb ?fn ?fr); (case fb => first | omega | (simp <;> omega)); (case fn => first | omega | (simp <;> omega)); (case fr => rfl)) | with_reducible apply Box.up | with_reducible apply Box.drew_ | with_reducible apply Box.drewN_ | with_reducible apply Box.plus_ | with_reducible apply Box.put | with_reducible refine Box.off ?_ (by omega))
        all_goals first | rfl | (simp; done)
      replace hB1 : Box N [.int .i64 0, .int .i64 0, .int .i64 0, .slice none 0 0, .int .i64 0, .slice none 0 0, .int .i64 0, .bool false, .bool false] (N + 1) Y := by
        rw [hY]
        repeat' (first | with_reducible assumption | ((with_reducible refine Box.fresh ?fb ?fn ?fr); (case fb => first | omega | (simp <;> omega)); (case fn => first | omega | (simp <;> omega)); (case fr => rfl)) | with_reducible apply Box.up | with_reducible apply Box.drew_ | with_reducible apply Box.drewN_ | with_reducible apply Box.plus_ | with_reducible apply Box.put | with_reducible refine Box.off ?_ (by omega))
        all_goals first | rfl | (simp; done)
      have hV3 := (HV.out.lift hE).u8 hU
      rw [← hQ]
      clear hY hQ hE hN HX
      refine (put1_any ic A1 n c1 l Q (.slice V vn vc) b Y (h1.u8 hU).row h1.nil hC hV3.bs hn (by rw [hV3.len] at hv; exact hv)).mono ?_
      rintro e Z ⟨v, rfl, hq, hEZ⟩
      obtain ⟨L, hL⟩ : ∃ L, L = l ++ b.take (qput ic l.length b.length) := ⟨_, rfl⟩
      obtain ⟨q, hq9⟩ : ∃ q, q = qput ic l.length b.length := ⟨_, rfl⟩
      rw [← hL] at hq
      rw [← hq9]
      obtain ⟨A3, c3, rfl, h3⟩ := hq.rb
      replace hB0 := hB0.ext hEZ
      replace hB1 := hB1.ext hEZ
      clear p0 p1 p2 p3 p4 p5 p6 p7 p8 pF pL pB
      clear r0 r1 r2 r3 r4 r5 r6 r7 r8 rF rL rB
      have p0 := hB0.cell 0 (by simp)
      have p1 := hB0.cell 1 (by simp)
      have p2 := hB0.cell 2 (by simp)
      have p3 := hB0.cell 3 (by simp)
      have p4 := hB0.cell 4 (by simp)
      have p5 := hB0.cell 5 (by simp)
      have p6 := hB0.cell 6 (by simp)
      have p7 := hB0.cell 7 (by simp)
      have p8 := hB0.cell 8 (by simp)
      simp only [List.getElem?_cons_zero, List.getElem?_cons_succ] at p0 p1 p2 p3 p4 p5 p6 p7 p8
      have pF := hB0.free
      have pL := hB0.lt
      have pB := hB0.base
      have r0 := hB1.cell 0 (by simp)
      have r1 := hB1.cell 1 (by simp)
      have r2 := hB1.cell 2 (by simp)
      have r3 := hB1.cell 3 (by simp)
      have r4 := hB1.cell 4 (by simp)
      have r5 := hB1.cell 5 (by simp)
      have r6 := hB1.cell 6 (by simp)
      have r7 := hB1.cell 7 (by simp)
      have r8 := hB1.cell 8 (by simp)
      simp only [List.getElem?_cons_zero, List.getElem?_cons_succ] at r0 r1 r2 r3 r4 r5 r6 r7 r8
      have rF := hB1.free
      have rL := hB1.lt
      have rB := hB1.base
      have HZ := Lib.hid (And.intro (hEY.trans hEZ) (And.intro h3 (And.intro ((h2.u8 hU).lift hEZ) (And.intro hL hq9))))
      clear hEY hEZ h3 h1 h2 hU hL hq9 hq hV3 hB0 hB1 hC
      go_wp2_with fail
      refine bodyPost_ret (v := (.tuple #[pv id cl ic A3 L.length c3 oc B1 m d1 bu false false, .int .i64 q])) (by simp [results, Try.results23, go_sem, r0, r1, r2, r3, r4, r5, r6, r7, r8, rL, Nat.ne_of_lt rL]) rfl ?_
      obtain ⟨hE, h3, h2, rfl, rfl⟩ := HZ.out
      have hN := HN.out
      refine ⟨_, rfl, ⟨A3, _, c3, B1, m, d1, rfl, h3.u8 ?_, h2.u8 ?_⟩, ?_⟩
      · repeat' (first | with_reducible exact U8.refl _ | with_reducible assumption | with_reducible apply U8.up | with_reducible apply U8.drew | ((with_reducible refine U8.putE ?_ ?_); rotate_left; (refine ⟨_, by assumption, ?_⟩); intro _ h; cases h) | ((with_reducible refine U8.new ?_ ?_); rotate_left; first | omega | (simp <;> omega)))
      · repeat' (first | with_reducible exact U8.refl _ | with_reducible assumption | with_reducible apply U8.up | with_reducible apply U8.drew | ((with_reducible refine U8.putE ?_ ?_); rotate_left; (refine ⟨_, by assumption, ?_⟩); intro _ h; cases h) | ((with_reducible refine U8.new ?_ ?_); rotate_left; first | omega | (simp <;> omega)))
      · repeat' (first | with_reducible assumption | with_reducible exact Ext.refl _ | with_reducible apply Ext.alloc | with_reducible apply Ext.drew | with_reducible apply Ext.drewN | with_reducible apply Ext.plus_ | with_reducible refine Ext.put ?_ (by omega))
    · go_enter Try.func23, Try.ntmps23
      go_wp2_with fail
      refine calls_at fun W hW => ?_
      obtain ⟨N, hN⟩ : ∃ N, N = w.heap.size := ⟨_, rfl⟩
      have hB1 : Box N [.int .i64 0, .int .i64 0, .int .i64 0, .slice none 0 0, .int .i64 0, .slice none 0 0, .int .i64 0, .bool false, .bool false] (N + 1) W := by
        rw [hW]
        repeat' (first | with_reducible assumption | ((with_reducible refine Box.fresh ?fb ?fn ?fr); (case fb => first | omega | (simp <;> omega)); (case fn => first | omega | (simp <;> omega)); (case fr => rfl)) | with_reducible apply Box.up | with_reducible apply Box.drew_ | with_reducible apply Box.drewN_ | with_reducible apply Box.plus_ | with_reducible apply Box.put | with_reducible refine Box.off ?_ (by omega))
        all_goals first | rfl | (simp; done)
      have hB0 : Box N [.int .i64 id, .int .i64 cl, .int .i64 ic, .slice A n c, .int .i64 oc, .slice B m d, .int .i64 bu, .bool false, .bool true] N W := by
        rw [hW]
        repeat' (first | with_reducible assumption | ((with_reducible refine Box.fresh ?fb ?fn ?fr); (case fb => first | omega | (simp <;> omega)); (case fn => first | omega | (simp <;> omega)); (case fr => rfl)) | with_reducible apply Box.up | with_reducible apply Box.drew_ | with_reducible apply Box.drewN_ | with_reducible apply Box.plus_ | with_reducible apply Box.put | with_reducible refine Box.off ?_ (by omega))
        all_goals first | rfl | (simp; done)
      have hE : Ext w W := by
        rw [hW]
        repeat' (first | with_reducible assumption | with_reducible exact Ext.refl _ | with_reducible apply Ext.alloc | with_reducible apply Ext.drew | with_reducible apply Ext.drewN | with_reducible apply Ext.plus_ | with_reducible refine Ext.put ?_ (by omega))
      rw [← hN]
      have HN := Lib.hid hN
      clear hW hN
      refine (pcopied_any id cl ic A n c l oc B m d k bu false true W (hA.lift hE).row hA.nil (by omega) (hB.lift hE).row hB.nil hm).mono ?_
      rintro e X ⟨A1, c1, B1, d1, rfl, ho1, ho2, -, hEX⟩
      have h1 := RB.of_own ho1
      have h2 := RB.of_own ho2
      replace hB0 := hB0.ext hEX
      replace hB1 := hB1.ext hEX
      replace hE := hE.trans hEX
      clear hEX hA hB ho1 ho2
      have p0 := hB0.cell 0 (by simp)
      have p1 := hB0.cell 1 (by simp)
      have p2 := hB0.cell 2 (by simp)
      have p3 := hB0.cell 3 (by simp)
      have p4 := hB0.cell 4 (by simp)
      have p5 := hB0.cell 5 (by simp)
      have p6 := hB0.cell 6 (by simp)
      have p7 := hB0.cell 7 (by simp)
      have p8 := hB0.cell 8 (by simp)
      simp only [List.getElem?_cons_zero, List.getElem?_cons_succ] at p0 p1 p2 p3 p4 p5 p6 p7 p8
      have pF := hB0.free
      have pL := hB0.lt
      have pB := hB0.base
      have r0 := hB1.cell 0 (by simp)
      have r1 := hB1.cell 1 (by simp)
      have r2 := hB1.cell 2 (by simp)
      have r3 := hB1.cell 3 (by simp)
      have r4 := hB1.cell 4 (by simp)
      have r5 := hB1.cell 5 (by simp)
      have r6 := hB1.cell 6 (by simp)
      have r7 := hB1.cell 7 (by simp)
      have r8 := hB1.cell 8 (by simp)
      simp only [List.getElem?_cons_zero, List.getElem?_cons_succ] at r0 r1 r2 r3 r4 r5 r6 r7 r8
      have rF := hB1.free
      have rL := hB1.lt
      have rB := hB1.base
      have HX := Lib.hid (And.intro hE (And.intro h1 h2))
      clear hE h1 h2 hB0 hB1
      go_wp2_with fail
      refine bodyPost_ret (v := (.tuple #[pv id cl ic A1 n c1 oc B1 m d1 bu false true, .int .i64 0])) (by simp [results, Try.results23, go_sem, r0, r1, r2, r3, r4, r5, r6, r7, r8]) rfl ?_
      obtain ⟨hE, h1, h2⟩ := HX.out
      have hN := HN.out
      refine ⟨_, rfl, ⟨A1, n, c1, B1, m, d1, rfl, h1.u8 ?_, h2.u8 ?_⟩, ?_⟩
      · repeat' (first | with_reducible exact U8.refl _ | with_reducible assumption | with_reducible apply U8.up | with_reducible apply U8.drew | ((with_reducible refine U8.putE ?_ ?_); rotate_left; (refine ⟨_, by assumption, ?_⟩); intro _ h; cases h) | ((with_reducible refine U8.new ?_ ?_); rotate_left; first | omega | (simp <;> omega)))
      · repeat' (first | with_reducible exact U8.refl _ | with_reducible assumption | with_reducible apply U8.up | with_reducible apply U8.drew | ((with_reducible refine U8.putE ?_ ?_); rotate_left; (refine ⟨_, by assumption, ?_⟩); intro _ h; cases h) | ((with_reducible refine U8.new ?_ ?_); rotate_left; first | omega | (simp <;> omega)))
      · repeat' (first | with_reducible assumption | with_reducible exact Ext.refl _ | with_reducible apply Ext.alloc | with_reducible apply Ext.drew | with_reducible apply Ext.drewN | with_reducible apply Ext.plus_ | with_reducible refine Ext.put ?_ (by omega))
  · go_enter Try.func23, Try.ntmps23
    go_wp2_with fail
    refine calls_at fun W hW => ?_
    obtain ⟨N, hN⟩ : ∃ N, N = w.heap.size := ⟨_, rfl⟩
    have hB1 : Box N [.int .i64 0, .int .i64 0, .int .i64 0, .slice none 0 0, .int .i64 0, .slice none 0 0, .int .i64 0, .bool false, .bool false] (N + 1) W := by
      rw [hW]
      repeat' (first | with_reducible assumption | ((with_reducible refine Box.fresh ?fb ?fn ?fr); (case fb => first | omega | (simp <;> omega)); (case fn => first | omega | (simp <;> omega)); (case fr => rfl)) | with_reducible apply Box.up | with_reducible apply Box.drew_ | with_reducible apply Box.drewN_ | with_reducible apply Box.plus_ | with_reducible apply Box.put | with_reducible refine Box.off ?_ (by omega))
      all_goals first | rfl | (simp; done)
    have hB0 : Box N [.int .i64 id, .int .i64 cl, .int .i64 ic, .slice A n c, .int .i64 oc, .slice B m d, .int .i64 bu, .bool true, .bool cg] N W := by
      rw [hW]
      repeat' (first | with_reducible assumption | ((with_reducible refine Box.fresh ?fb ?fn ?fr); (case fb => first | omega | (simp <;> omega)); (case fn => first | omega | (simp <;> omega)); (case fr => rfl)) | with_reducible apply Box.up | with_reducible apply Box.drew_ | with_reducible apply Box.drewN_ | with_reducible apply Box.plus_ | with_reducible apply Box.put | with_reducible refine Box.off ?_ (by omega))
      all_goals first | rfl | (simp; done)
    have hE : Ext w W := by
      rw [hW]
      repeat' (first | with_reducible assumption | with_reducible exact Ext.refl _ | with_reducible apply Ext.alloc | with_reducible apply Ext.drew | with_reducible apply Ext.drewN | with_reducible apply Ext.plus_ | with_reducible refine Ext.put ?_ (by omega))
    rw [← hN]
    have HN := Lib.hid hN
    clear hW hN
    refine (pcopied_any id cl ic A n c l oc B m d k bu true cg W (hA.lift hE).row hA.nil (by omega) (hB.lift hE).row hB.nil hm).mono ?_
    rintro e X ⟨A1, c1, B1, d1, rfl, ho1, ho2, -, hEX⟩
    have h1 := RB.of_own ho1
    have h2 := RB.of_own ho2
    replace hB0 := hB0.ext hEX
    replace hB1 := hB1.ext hEX
    replace hE := hE.trans hEX
    clear hEX hA hB ho1 ho2
    have p0 := hB0.cell 0 (by simp)
    have p1 := hB0.cell 1 (by simp)
    have p2 := hB0.cell 2 (by simp)
    have p3 := hB0.cell 3 (by simp)
    have p4 := hB0.cell 4 (by simp)
    have p5 := hB0.cell 5 (by simp)
    have p6 := hB0.cell 6 (by simp)
    have p7 := hB0.cell 7 (by simp)
    have p8 := hB0.cell 8 (by simp)
    simp only [List.getElem?_cons_zero, List.getElem?_cons_succ] at p0 p1 p2 p3 p4 p5 p6 p7 p8
    have pF := hB0.free
    have pL := hB0.lt
    have pB := hB0.base
    have r0 := hB1.cell 0 (by simp)
    have r1 := hB1.cell 1 (by simp)
    have r2 := hB1.cell 2 (by simp)
    have r3 := hB1.cell 3 (by simp)
    have r4 := hB1.cell 4 (by simp)
    have r5 := hB1.cell 5 (by simp)
    have r6 := hB1.cell 6 (by simp)
    have r7 := hB1.cell 7 (by simp)
    have r8 := hB1.cell 8 (by simp)
    simp only [List.getElem?_cons_zero, List.getElem?_cons_succ] at r0 r1 r2 r3 r4 r5 r6 r7 r8
    have rF := hB1.free
    have rL := hB1.lt
    have rB := hB1.base
    have HX := Lib.hid (And.intro hE (And.intro h1 h2))
    clear hE h1 h2 hB0 hB1
    go_wp2_with fail
    refine bodyPost_ret (v := (.tuple #[pv id cl ic A1 n c1 oc B1 m d1 bu true cg, .int .i64 0])) (by simp [results, Try.results23, go_sem, r0, r1, r2, r3, r4, r5, r6, r7, r8]) rfl ?_
    obtain ⟨hE, h1, h2⟩ := HX.out
    have hN := HN.out
    refine ⟨_, rfl, ⟨A1, n, c1, B1, m, d1, rfl, h1.u8 ?_, h2.u8 ?_⟩, ?_⟩
    · repeat' (first | with_reducible exact U8.refl _ | with_reducible assumption | with_reducible apply U8.up | with_reducible apply U8.drew | ((with_reducible refine U8.putE ?_ ?_); rotate_left; (refine ⟨_, by assumption, ?_⟩); intro _ h; cases h) | ((with_reducible refine U8.new ?_ ?_); rotate_left; first | omega | (simp <;> omega)))
    · repeat' (first | with_reducible exact U8.refl _ | with_reducible assumption | with_reducible apply U8.up | with_reducible apply U8.drew | ((with_reducible refine U8.putE ?_ ?_); rotate_left; (refine ⟨_, by assumption, ?_⟩); intro _ h; cases h) | ((with_reducible refine U8.new ?_ ?_); rotate_left; first | omega | (simp <;> omega)))
    · repeat' (first | with_reducible assumption | with_reducible exact Ext.refl _ | with_reducible apply Ext.alloc | with_reducible apply Ext.drew | with_reducible apply Ext.drewN | with_reducible apply Ext.plus_ | with_reducible refine Ext.put ?_ (by omega))
end Go.Proofs.Ytphbmibgnnobcaa
