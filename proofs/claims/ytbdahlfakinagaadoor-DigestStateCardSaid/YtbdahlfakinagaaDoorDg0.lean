/- Digests as values; boxes by parts. -/
import Derived.Test.YtbdahlfakinagaaDoorD8
import Derived.Test.YtbdahlfakinagaaDoorD9
import Derived.Test.YtbdahlfakinagaaDoorByg
set_option linter.unusedVariables false
namespace Go.Proofs.YtbdahlfakinagaaDoor
open Go.RowKit Go.Rg

theorem own_nil_ {w : World} {base n n' c : Nat} {A : Option Addr} {xs : List Value} {e : TypeId} (h : w.ownsRow base e 1 (.slice A n' c) n xs) : A = none → n' = 0 ∧ c = 0 := by
  intro e
  subst e
  rcases h.2 with ⟨h1, h2⟩ | ⟨g, cap, cur, h1, _⟩
  · injection h1 with _ h3 h4
    exact ⟨h3, h4⟩
  · cases h1
theorem BS.of_own {w : World} {base n : Nat} {v : Value} {l : List Int} (h : w.ownsRow base 5 1 v n (bytes l)) : BS w v l := by
  obtain ⟨A, c, rfl, h1, h2⟩ := own_form h
  exact ⟨A, n, c, rfl, own_row h, h1, h2, own_nil_ h⟩
/-- A box whose first part is stored anew. -/
theorem Box.preSet {N b : Nat} {cs vs rest : List Value} {w : World} (h : Box N (cs ++ rest) b w) (hl : cs.length = vs.length) : Box N (vs ++ rest) b (w.setCells b 0 vs) := by
  refine ⟨h.base, by rw [size_setCells_]; exact h.lt, fun j hj => ?_, fun j => by rw [World.frozen?_setCells]; exact h.free j⟩
  have hj' : j < (cs ++ rest).length := by rw [List.length_append] at hj ⊢; omega
  have h0 := h.cell j hj'
  by_cases hv : j < vs.length
  · have := World.cell?_setCells_in b vs 0 w (fun i hi => by
      have hi' : i < (cs ++ rest).length := by rw [List.length_append]; omega
      rw [Nat.zero_add, h.cell i hi', List.getElem?_eq_getElem hi']
      rfl) j hv
    rw [Nat.zero_add] at this
    rw [this, List.getElem?_append_left hv, List.getElem?_eq_getElem hv]
  · rw [World.cell?_setCells_out b vs 0 w ⟨b, j, none⟩ (fun _ _ => .inr (by show 0 + vs.length ≤ j; omega)), h0, List.getElem?_append_right (by omega), List.getElem?_append_right (by omega), hl]
theorem Box.preThere {N b : Nat} {cs rest : List Value} {w : World} (h : Box N (cs ++ rest) b w) : w.there b 0 cs.length := fun j hj => by
  have hj' : j < (cs ++ rest).length := by rw [List.length_append]; omega
  rw [Nat.zero_add, h.cell j hj', List.getElem?_eq_getElem hj']
  exact ⟨rfl, h.free j⟩
theorem Box.preRange {N b : Nat} {cs rest : List Value} {w : World} (h : Box N (cs ++ rest) b w) : w.rangeAt b 0 cs := fun j v hv => by
  have hj : j < cs.length := (List.getElem?_eq_some_iff.1 hv).1
  rw [Nat.zero_add, h.cell j (by rw [List.length_append]; omega), List.getElem?_append_left hj]
  exact hv
variable {P : Program}
theorem wl_store_pre {ops : Array Oper} {rest : List Oper} {op : Oper} {a : Act} {w : World} {Q : Exit → Act → World → Prop} (hgd : op.guard = none) (ty : TypeId) (x y : Operand) (ho : op.op = .store ty x y)
    {N b : Nat} {old more : List Value} (h : Box N (old ++ more) b w) (vs : List Value) (hx : a.eval x = .pointer (some ⟨b, 0, none⟩)) (hy : a.eval y = .agg vs.toArray) (hl : old.length = vs.length)
    (hi : (P.info? ty).map (·.size) = some vs.length) (h1 : vs.all (·.oneCell') = true)
    (k : ∀ W, Box N (vs ++ more) b W → StB b w W → wpList P ops Q rest (a.put op.dst undef) W) : wpList P ops Q (op :: rest) a w := by
  refine wpList_store_mid hgd ty x y ho b 0 vs.toArray hx hy (by simpa [hl] using Box.preThere h) (by simpa using hi) (all_oneCell_toArray (fun v hv => List.all_eq_true.1 h1 v hv)) ?_
  rw [List.toList_toArray]
  exact k _ (Box.preSet h hl) ⟨fun w0 e hb => ext_setCells_ b hb _ _ _ e, fun q hne => Box.cellsOff q hne, fun p hp => World.cell?_setCells_out b vs 0 w p (fun e _ => absurd e hp), fun p => World.frozen?_setCells b vs 0 w p, size_setCells_ b vs 0 w⟩
theorem own_setCells {base n size b : Nat} {e : TypeId} {v : Value} {xs : List Value} (hb : b < base) : ∀ (vs : List Value) (o : Nat) (w : World), w.ownsRow base e size v n xs → (w.setCells b o vs).ownsRow base e size v n xs
  | [], _, _, h => h
  | u :: vs, o, w, h => by
    rw [World.setCells]
    exact own_setCells hb vs _ _ (own_setCell h (p := ⟨b, o, none⟩) hb u)
/-- A store into a whole box: own rows elsewhere stay. -/
theorem wl_storeO {ops : Array Oper} {rest : List Oper} {op : Oper} {a : Act} {w : World} {Q : Exit → Act → World → Prop} (hgd : op.guard = none) (ty : TypeId) (x y : Operand) (ho : op.op = .store ty x y)
    {N b : Nat} {old : List Value} (h : Box N old b w) (vs : List Value) (hx : a.eval x = .pointer (some ⟨b, 0, none⟩)) (hy : a.eval y = .agg vs.toArray) (hl : old.length = vs.length)
    (hi : (P.info? ty).map (·.size) = some vs.length) (h1 : vs.all (·.oneCell') = true)
    (k : ∀ W, Box N vs b W → StB b w W → (∀ {base n size e v xs}, b < base → w.ownsRow base e size v n xs → W.ownsRow base e size v n xs) → wpList P ops Q rest (a.put op.dst undef) W) : wpList P ops Q (op :: rest) a w := by
  refine wpList_store_mid hgd ty x y ho b 0 vs.toArray hx hy (by simpa [hl] using Box.there h) (by simpa using hi) (all_oneCell_toArray (fun v hv => List.all_eq_true.1 h1 v hv)) ?_
  rw [List.toList_toArray]
  exact k _ (Box.cellsSet h hl) ⟨fun w0 e hb => ext_setCells_ b hb _ _ _ e, fun q hne => Box.cellsOff q hne, fun p hp => World.cell?_setCells_out b vs 0 w p (fun e _ => absurd e hp), fun p => World.frozen?_setCells b vs 0 w p, size_setCells_ b vs 0 w⟩ fun hb ho => own_setCells hb vs 0 w ho
theorem own_ge {w : World} {base n n' c : Nat} {a : Addr} {e : TypeId} {xs : List Value} (h : w.ownsRow base e 1 (.slice (some a) n' c) n xs) : base ≤ a.block := by
  rcases h.2 with ⟨h1, _⟩ | ⟨g, cap, cur, h1, hb, _⟩
  · cases h1
  · injection h1 with h1
    injection h1 with h1
    rw [h1]
    exact hb
theorem Row.ofBox {N b : Nat} {cs : List Value} {w : World} (h : Box N cs b w) : Row w w.heap.size 1 (some ⟨b, 0, none⟩) cs.length cs := ⟨by simp, fun _ => ⟨b, 0, rfl, h.lt, fun j u hu => by
  have hj : j < cs.length := (List.getElem?_eq_some_iff.1 hu).1
  rw [Nat.zero_add, h.cell j hj]
  exact hu⟩⟩
theorem comes_load_at {o : Oper} {F : Act} {W : World} (ty : TypeId) (x : Operand) (ho : o.op = .load ty x) {b k : Nat} {cs : List Value} (h : W.rangeAt b k cs) (hx : F.eval x = .pointer (some ⟨b, k, none⟩)) {d : TypeDesc}
    (hu : P.underlying ty = some d) (hd : d.isRow = true) (hi : (P.info? ty).map (·.size) = some cs.length) : comes P o F W (fun v w' => Ext W w' ∧ v = .agg cs.toArray) := by
  unfold comes execOp
  simp only [ho, hx, Instr.loadAt, Instr.sureAddr, Sem.run_bind, Sem.run_pure, Result.andThen_ok, run_loadVar_mid W b k ty cs d h hu hd hi, comesUpon_value]
  exact ⟨Ext.refl _, trivial⟩
/-- A digest's state: the words, the length, the tail. -/
abbrev dcs (s : List W32) (n : Nat) (A : Option Addr) (m c : Nat) : List Value := s.map bw ++ [nw n, .slice A m c]
abbrev dgv (s : List W32) (n : Nat) (A : Option Addr) (m c : Nat) : Value := .agg (dcs s n A m c).toArray
/-- The value is the digest of state s, length n, tail tl, its tail in blocks of the call's own. -/
def IsD (base : Nat) (w : World) (v : Value) (s : List W32) (n : Nat) (tl : List Int) : Prop := ∃ A c, v = dgv s n A tl.length c ∧ w.ownsRow base 5 1 (.slice A tl.length c) tl.length (bytes tl)
theorem IsD.ext {base : Nat} {w w' : World} {v : Value} {s : List W32} {n : Nat} {tl : List Int} (h : IsD base w v s n tl) (e : Ext w w') : IsD base w' v s n tl := by
  obtain ⟨A, c, h1, h2⟩ := h
  exact ⟨A, c, h1, own_ext h2 e⟩
def By (l : List Int) : Prop := ∀ x ∈ l, 0 ≤ x ∧ x ≤ 255
theorem Glob.range0 {w : World} (h : Glob w) : w.rangeAt 0 0 (IL.map bw) := fun j v hv => by
  have hj : j < IL.length := by
    have := (List.getElem?_eq_some_iff.1 hv).1
    simpa using this
  rw [List.getElem?_map, List.getElem?_eq_getElem hj] at hv
  rw [Nat.zero_add, h.ini j hj, List.getD_eq_getElem?_getD, List.getElem?_eq_getElem hj]
  exact hv
def zeroD : List Value := zero8.map bw ++ [nw 0, .slice none 0 0]
set_option maxRecDepth 100000 in
set_option maxHeartbeats 4000000 in
theorem start_any (w : World) (hg : Glob w) : Calls Tryd.prog 15 #[] w fun e w' => e = .returned (dgv IL 0 none 0 0) ∧ Ext w w' := by
  go_enter Tryd.func15, Tryd.ntmps15
  go_wp2_with (with_reducible show wpList _ _ _ (⟨some 1, _, _, _, _, _⟩ :: _) _ _; refine Lock.out ?_)
  refine ⟨?_, trivial⟩
  refine wl_at fun Z hZ => ?_
  obtain ⟨R, hR⟩ : ∃ V, V = w.heap.size := ⟨_, rfl⟩
  have hB0 : Box 0 (zero8.map bw ++ [nw 0, .slice none 0 0]) R Z := by
    rw [hZ, hR]
    repeat' (first | with_reducible assumption | ((with_reducible refine Box.fresh ?fb ?fn ?fr); (case fb => first | omega | (simp <;> omega)); (case fn => first | omega | (simp <;> omega)); (case fr => rfl)) | with_reducible apply Box.up | with_reducible apply Box.drew_ | with_reducible apply Box.drewN_ | with_reducible apply Box.plus_ | with_reducible apply Box.put | with_reducible refine Box.off ?_ (by omega))
    all_goals first | rfl | (simp; done)
  have hE1 : Ext w Z := by
    rw [hZ]
    repeat' (first | with_reducible assumption | with_reducible exact Ext.refl _ | with_reducible apply Ext.alloc | with_reducible apply Ext.drew | with_reducible apply Ext.drewN | with_reducible apply Ext.plus_ | with_reducible refine Ext.put ?_ (by omega))
  have hRl : w.heap.size ≤ R := by omega
  rw [← hR]
  clear hZ hR
  refine wpList_load_mid rfl 32 (.global 0) rfl 0 0 rfl (IL.map bw) _ (hg.ext hE1).range0 Tryd.underlying32 rfl (by kernel_rfl) ?_
  have HB := Lib.hid hB0
  have HE := Lib.hid hE1
  clear hB0 hE1 hg
  go_wp2_with (with_reducible show wpList _ _ _ (⟨none, _, _, _, _, _⟩ :: _) _ _; refine Lock.out ?_)
  refine ⟨?_, trivial⟩
  refine wl_store rfl 34 (.tmp 0) (.tmp 2) rfl HB.out (dcs IL 0 none 0 0) rfl rfl rfl (by kernel_rfl) rfl fun W hW hx => ?_
  have HX := Lib.hid (hx.ext _ HE.out hRl)
  have HR := Lib.hid hW
  clear hW hx HB HE hRl
  go_wp2
  refine bodyPost_ret (results_cell Tryd.results15 HR.out rfl Tryd.underlying34 rfl (by kernel_rfl)) rfl ?_
  exact ⟨rfl, HX.out⟩
end Go.Proofs.YtbdahlfakinagaaDoor
