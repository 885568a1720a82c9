/- PortOrder: what its loop keeps. -/
import Derived.Test.YtphbmibgnnobcaaPort7
set_option linter.unusedVariables false
namespace Go.Proofs.Ytphbmibgnnobcaa
open Go.RowKit Go.Rg

theorem RB.nil1 {w w' : World} {A : Option Addr} {n c : Nat} {l : List Int} (h : RB w A n c l) (hl : l = []) : RB w' A n c l := by
  subst hl
  have := h.len
  simp at this
  subst this
  exact ⟨Row.nil, h.le, h.most, h.nil⟩
theorem RB.se {s M : Nat} {w w' : World} {A : Option Addr} {n c : Nat} {l : List Int} (h : RB w A n c l) (k : SE s w w') (hf : l ≠ [] → ∀ a, A = some a → M ≤ a.block) (hs : s < M) : RB w' A n c l := by
  obtain ⟨v, hv⟩ := k
  by_cases hl : l = []
  · exact h.nil1 hl
  · exact (h.put (b := s) (q := 1) (v := v) (hf hl) hs).lift hv
theorem RB.grown {w w' : World} {row : Option Nat} {A : Option Addr} {n c : Nat} {l : List Int} (h : RB w A n c l) (hg : w.grownBy w' row) (hf : l ≠ [] → ∀ a, A = some a → row ≠ some a.block) : RB w' A n c l := by
  by_cases hl : l = []
  · exact h.nil1 hl
  refine ⟨⟨h.row.1, fun hn => ?_⟩, h.le, h.most, h.nil⟩
  obtain ⟨g, o, e, hb, hc⟩ := h.row.2 hn
  refine ⟨g, o, e, Nat.lt_of_lt_of_le hb hg.size, fun j u hu => ?_⟩
  rw [World.cell?_of_block (a := ⟨g, o + j, none⟩) (hg.block g hb (fun e2 => hf hl _ e e2.symm))]
  exact hc j u hu
theorem RB.lt {w : World} {A : Option Addr} {n c : Nat} {l : List Int} (h : RB w A n c l) (hl : l ≠ []) : ∀ a, A = some a → a.block < w.heap.size := by
  have h1 : 0 < l.length := List.length_pos_iff.2 hl
  obtain ⟨g, o, e, hb, _⟩ := h.row.2 (by have := h.len; omega)
  rintro a rfl
  injection e with e
  subst e
  exact hb
/-- The port of PortOrder. -/
abbrev opv (A0 : Option Addr) (c0 : Nat) (oc : Int) (B0 : Option Addr) (n d0 : Nat) (bu : Int) : Value := pv 3 1 5 A0 0 c0 oc B0 n d0 bu false false
abbrev ocells (A0 : Option Addr) (c0 : Nat) (oc : Int) (B0 : Option Addr) (n d0 : Nat) (bu : Int) : List Value := [.int .i64 3, .int .i64 1, .int .i64 5, .slice A0 0 c0, .int .i64 oc, .slice B0 n d0, .int .i64 bu, .bool false, .bool false]
/-- The memory: the source at s, the port at P, the lists in v8 (all that was put) and v9 (all that was sent). -/
structure OSt (w wr : World) (s P : Nat) (A : Option Addr) (m c : Nat) (l : List Int) (i : Nat) (v8 v9 : Value) (I S k : List Int) (bu oc : Int) (A0 : Option Addr) (c0 : Nat) (B0 : Option Addr) (d0 : Nat) : Prop where
  e : Ext w wr
  sp : s < P
  ws : w.heap.size ≤ s
  src : SrcAt wr s A m c l i
  box : Box s (ocells A0 c0 oc B0 k.length d0 bu) P wr
  oi : wr.ownsRow (P + 1) 5 1 v8 I.length (bytes I)
  os : wr.ownsRow (P + 1) 5 1 v9 S.length (bytes S)
  ra : RB wr A0 0 c0 []
  rb : RB wr B0 k.length d0 k
  fb : k ≠ [] → ∀ a, B0 = some a → P + 1 ≤ a.block ∧ v8.ownBlock ≠ some a.block ∧ v9.ownBlock ≠ some a.block
  sep : ∀ b, v8.ownBlock = some b → v9.ownBlock ≠ some b
theorem RB.nil0 {w w' : World} {A : Option Addr} {c : Nat} (h : RB w A 0 c []) : RB w' A 0 c [] := ⟨Row.nil, h.le, h.most, h.nil⟩
section
variable {w wr : World} {s P : Nat} {A : Option Addr} {m c : Nat} {l : List Int} {i : Nat} {v8 v9 : Value} {I S k : List Int} {bu oc : Int} {A0 : Option Addr} {c0 : Nat} {B0 : Option Addr} {d0 : Nat}
theorem OSt.ext {wr' : World} (h : OSt w wr s P A m c l i v8 v9 I S k bu oc A0 c0 B0 d0) (x : Ext wr wr') : OSt w wr' s P A m c l i v8 v9 I S k bu oc A0 c0 B0 d0 :=
  ⟨h.e.trans x, h.sp, h.ws, h.src.ext x, h.box.ext x, own_ext h.oi x, own_ext h.os x, h.ra.lift x, h.rb.lift x, h.fb, h.sep⟩
theorem OSt.se {wr' : World} {i' : Nat} (h : OSt w wr s P A m c l i v8 v9 I S k bu oc A0 c0 B0 d0) (x : SE s wr wr') (hs : SrcAt wr' s A m c l i') : OSt w wr' s P A m c l i' v8 v9 I S k bu oc A0 c0 B0 d0 :=
  ⟨h.e.se x h.ws, h.sp, h.ws, hs, SE.box h.box x (by have := h.sp; omega), x.own h.oi (by have := h.sp; omega), x.own h.os (by have := h.sp; omega), h.ra.nil0, h.rb.se x (fun hk a ha => (h.fb hk a ha).1) (by have := h.sp; omega), h.fb, h.sep⟩
theorem own_block_lt {w : World} {base n size b : Nat} {e : TypeId} {v : Value} {xs : List Value} (h : w.ownsRow base e size v n xs) (hb : v.ownBlock = some b) : b < w.heap.size := by
  rcases h.2 with ⟨h1, _⟩ | ⟨g, cap, cur, hv, _, hg, _⟩
  · rw [h1] at hb; cases hb
  · rw [hv] at hb
    have hb2 : g = b := by simpa [Value.ownBlock] using hb
    subst hb2
    rcases Nat.lt_or_ge g w.heap.size with h | h
    · exact h
    · rw [Array.getElem?_eq_none h] at hg; cases hg
/-- The port's cells are written anew: rows that a call has just made. -/
theorem OSt.stored {wr' : World} {M : Nat} {k' : List Int} {bu' : Int} {A1 : Option Addr} {c1 : Nat} {B1 : Option Addr} {d1 : Nat} (h : OSt w wr s P A m c l i v8 v9 I S k bu oc A0 c0 B0 d0)
    (hM : P + 1 ≤ M) (hv8 : ∀ b, v8.ownBlock = some b → b < M) (hv9 : ∀ b, v9.ownBlock = some b → b < M)
    (he : Ext w wr') (hsrc : SrcAt wr' s A m c l i) (hbox : Box s (ocells A1 c1 oc B1 k'.length d1 bu') P wr') (hoi : wr'.ownsRow (P + 1) 5 1 v8 I.length (bytes I)) (hos : wr'.ownsRow (P + 1) 5 1 v9 S.length (bytes S))
    (ha : RB wr' A1 0 c1 []) (hb : RB wr' B1 k'.length d1 k') (hf : ∀ a, B1 = some a → M ≤ a.block) : OSt w wr' s P A m c l i v8 v9 I S k' bu' oc A1 c1 B1 d1 :=
  ⟨he, h.sp, h.ws, hsrc, hbox, hoi, hos, ha, hb, fun _ a e => ⟨by have := hf a e; omega, fun q => by have := hv8 _ q; have := hf a e; omega, fun q => by have := hv9 _ q; have := hf a e; omega⟩, h.sep⟩
end
theorem OSt.stored2 {w wr wr' : World} {s P : Nat} {A : Option Addr} {m c : Nat} {l : List Int} {i : Nat} {v8 v9 : Value} {I S k k' : List Int} {bu bu' oc : Int} {A0 A1 : Option Addr} {c0 c1 : Nat} {B0 B1 : Option Addr} {d0 d1 : Nat} (h : OSt w wr s P A m c l i v8 v9 I S k bu oc A0 c0 B0 d0)
    (hf : k' ≠ [] → ∀ a, B1 = some a → P + 1 ≤ a.block ∧ v8.ownBlock ≠ some a.block ∧ v9.ownBlock ≠ some a.block)
    (he : Ext w wr') (hsrc : SrcAt wr' s A m c l i) (hbox : Box s (ocells A1 c1 oc B1 k'.length d1 bu') P wr') (hoi : wr'.ownsRow (P + 1) 5 1 v8 I.length (bytes I)) (hos : wr'.ownsRow (P + 1) 5 1 v9 S.length (bytes S))
    (ha : RB wr' A1 0 c1 []) (hb : RB wr' B1 k'.length d1 k') : OSt w wr' s P A m c l i v8 v9 I S k' bu' oc A1 c1 B1 d1 :=
  ⟨he, h.sp, h.ws, hsrc, hbox, hoi, hos, ha, hb, hf, h.sep⟩
theorem own_off {w w' : World} {base n : Nat} {e : TypeId} {v : Value} {xs : List Value} {row : Option Nat} (h : w.ownsRow base e 1 v n xs) (hg : w.grownBy w' row) (hne : ∀ b, row = some b → v.ownBlock ≠ some b) : w'.ownsRow base e 1 v n xs := by
  obtain ⟨A, c, rfl, _, _⟩ := own_form h
  refine own_kept h hg fun a ha hr => ?_
  subst ha
  exact hne _ hr rfl
theorem OSt.addI {w wr wr' : World} {s P : Nat} {A : Option Addr} {m c : Nat} {l : List Int} {i : Nat} {v8 v9 v' : Value} {I S k x : List Int} {bu oc : Int} {A0 : Option Addr} {c0 : Nat} {B0 : Option Addr} {d0 : Nat} (h : OSt w wr s P A m c l i v8 v9 I S k bu oc A0 c0 B0 d0)
    (ha : Apped (P + 1) 5 (I ++ x).length (bytes (I ++ x)) v8.ownBlock wr v' wr') : OSt w wr' s P A m c l i v' v9 (I ++ x) S k bu oc A0 c0 B0 d0 := by
  obtain ⟨h1, hg, h3⟩ := ha
  have hsp := h.sp
  have hws := h.ws
  refine ⟨h.e.grown h.oi (by omega) hg, h.sp, h.ws, h.src.grown hg (fun b hb => ?_), h.box.grown hg (fun e => own_ne h.oi (Nat.lt_succ_self P) e), h1, own_off h.os hg h.sep, h.ra.nil0, h.rb.grown hg (fun hk a e => (h.fb hk a e).2.1), fun hk a e => ⟨(h.fb hk a e).1, ?_, (h.fb hk a e).2.2⟩, fun b hb => ?_⟩
  · rcases Nat.lt_or_ge s b with h9 | h9
    · exact h9
    · exact absurd hb (own_ne h.oi (by omega))
  · rcases h3 with h3 | h3
    · rw [h3]; exact (h.fb hk a e).2.1
    · rw [h3]
      intro e2
      injection e2 with e2
      have := h.rb.lt hk a e
      omega
  · rcases h3 with h3 | h3
    · rw [h3] at hb; exact h.sep b hb
    · rw [h3] at hb
      injection hb with hb
      intro e2
      have := own_block_lt h.os e2
      omega
theorem OSt.addS {w wr wr' : World} {s P : Nat} {A : Option Addr} {m c : Nat} {l : List Int} {i : Nat} {v8 v9 v' : Value} {I S k x : List Int} {bu oc : Int} {A0 : Option Addr} {c0 : Nat} {B0 : Option Addr} {d0 : Nat} (h : OSt w wr s P A m c l i v8 v9 I S k bu oc A0 c0 B0 d0)
    (ha : Apped (P + 1) 5 (S ++ x).length (bytes (S ++ x)) v9.ownBlock wr v' wr') : OSt w wr' s P A m c l i v8 v' I (S ++ x) k bu oc A0 c0 B0 d0 := by
  obtain ⟨h1, hg, h3⟩ := ha
  have hsp := h.sp
  have hws := h.ws
  refine ⟨h.e.grown h.os (by omega) hg, h.sp, h.ws, h.src.grown hg (fun b hb => ?_), h.box.grown hg (fun e => own_ne h.os (Nat.lt_succ_self P) e), own_off h.oi hg (fun b hb e => h.sep b e hb), h1, h.ra.nil0, h.rb.grown hg (fun hk a e => (h.fb hk a e).2.2), fun hk a e => ⟨(h.fb hk a e).1, (h.fb hk a e).2.1, ?_⟩, fun b hb => ?_⟩
  · rcases Nat.lt_or_ge s b with h9 | h9
    · exact h9
    · exact absurd hb (own_ne h.os (by omega))
  · rcases h3 with h3 | h3
    · rw [h3]; exact (h.fb hk a e).2.2
    · rw [h3]
      intro e2
      injection e2 with e2
      have := h.rb.lt hk a e
      omega
  · rcases h3 with h3 | h3
    · rw [h3]; exact h.sep b hb
    · rw [h3]
      intro e2
      injection e2 with e2
      have := own_block_lt h.oi hb
      omega
/-- What an append has left, some steps later. -/
def isApd (w0 : World) (B n : Nat) (xs : List Value) (row : Option Nat) : Value → World → Prop := fun v w => ∃ wa wb, Ext w0 wa ∧ Apped B 5 n xs row wa v wb ∧ Ext wb w
theorem isApd.st (w0 : World) (B n : Nat) (xs : List Value) (row : Option Nat) : Stable (isApd w0 B n xs row) := fun _ _ _ e ⟨wa, wb, h1, h2, h3⟩ => ⟨wa, wb, h1, h2, h3.trans e⟩
theorem app_apd (w0 w : World) (B n q : Nat) (v : Value) (A1 : Option Addr) (c1 : Nat) (l b : List Int) (i0 : TypeInfo) (hi : Try.prog.info? 5 = some i0) (hz0 : i0.zero = some (.int .u8 0)) (hz1 : i0.size = 1) (hz2 : i0.bytes = 1)
    {B' : Nat} (hO : w.ownsRow B 5 1 v n (bytes l)) (hR : Row w B' 1 A1 q (bytes b)) (hb : n + q ≤ 140737488355328) (hsz : B ≤ w.heap.size) (hX : Ext w0 w) (ty : TypeId) :
    ∃ v' w', (Builtin.append_ #[26, 26] ty #[v, .slice A1 q c1]).run Try.prog w = .ok v' w' ∧ BigE B 5 w w' ∧ isApd w0 B (l ++ b).length (bytes (l ++ b)) v.ownBlock v' w' := by
  obtain ⟨v', w', hrun, h1, h2, h3⟩ := app_own w B 26 ty 5 i0 (.int .u8 0) 1 Try.underlying26 hi hz0 hz1 hz2 rfl _ _ _ hO B' A1 q c1 (bytes b) hR (bytes_one b) (by unfold maxLen; omega) (by omega) hsz
  have hn : n + q = (l ++ b).length := by
    have e1 := hR.len
    have e2 := hO.1
    simp at e1 e2 ⊢
    omega
  rw [hn] at h1
  exact ⟨v', w', hrun, BigE.of_grown hO h2, w, w', hX, ⟨by simpa using h1, h2, h3⟩, Ext.refl _⟩
/-- The numbers. -/
structure OAr (i : Nat) (I S k : List Int) (bu oc : Int) : Prop where
  cat : I = S ++ k
  b0 : 0 ≤ bu
  idle : 0 < bu → k = []
  fits : (k.length : Int) ≤ oc
  most : (S.length : Int) + bu ≤ 12 * i
  li : I.length ≤ 12 * i
theorem add2 (x y : Int) (hx : 0 ≤ x) (hy : 0 ≤ y) (h : x + y ≤ 1000000) : addTo 1000000 [x, y] 2 = x + y := by
  have h1 := addTo_succ 1000000 [x, y] 0 x rfl
  have h2 := addTo_succ 1000000 [x, y] 1 y rfl
  have h0 : addTo 1000000 [x, y] 0 = 0 := rfl
  simp only [Nat.zero_add, Nat.reduceAdd] at h1 h2
  rw [h2, h1, h0]
  omega
/-- A grant: q bytes of what waits are sent. -/
theorem OAr.grant {i : Nat} {I S k : List Int} {bu oc n : Int} (h : OAr i I S k bu oc) (h0 : 0 ≤ n) (h1 : n ≤ 11) :
    OAr (i + 1) I (S ++ k.take (min (bu + n) k.length).toNat) (k.drop (min (bu + n) k.length).toNat) (bu + n - min (bu + n) k.length) oc := by
  obtain ⟨hc, hb, hi, hf, hm, hl⟩ := h
  have hq : (min (bu + n) (k.length : Int)).toNat ≤ k.length := by omega
  refine ⟨?_, by omega, fun hp => ?_, ?_, ?_, by omega⟩
  · rw [hc, List.append_assoc, List.take_append_drop]
  · exact List.drop_of_length_le (by omega)
  · rw [List.length_drop]; omega
  · rw [List.length_append, List.length_take]; omega
/-- Bytes are put: q bytes are sent at once. -/
theorem OAr.put {i : Nat} {I S k x : List Int} {bu oc : Int} (h : OAr i I S k bu oc) (hx : x.length ≤ 12) (hr : (k.length : Int) + x.length ≤ oc + bu) :
    OAr (i + 1) (I ++ x) (S ++ (k ++ x).take (min bu (k ++ x).length).toNat) ((k ++ x).drop (min bu (k ++ x).length).toNat) (bu - min bu (k ++ x).length) oc := by
  obtain ⟨hc, hb, hi, hf, hm, hl⟩ := h
  have hkx : (k ++ x).length = k.length + x.length := List.length_append ..
  refine ⟨?_, by omega, fun hp => ?_, ?_, ?_, ?_⟩
  · rw [hc, List.append_assoc, List.append_assoc, List.take_append_drop]
  · exact List.drop_of_length_le (by omega)
  · rw [List.length_drop]; omega
  · rw [List.length_append, List.length_take]; omega
  · rw [List.length_append]; omega
theorem strOfNums_append (a b : List Int) : strOfNums a ++ strOfNums b = strOfNums (a ++ b) := by
  unfold strOfNums
  apply ByteArray.ext
  simp
end Go.Proofs.Ytphbmibgnnobcaa
