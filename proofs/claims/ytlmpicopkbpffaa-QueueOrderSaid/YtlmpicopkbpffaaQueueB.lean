/- Queues: the laws' small check. -/
import Derived.Test.YtlmpicopkbpffaaQueueA
import Derived.Lib.SlBytesConst
import Derived.Lib.SmallJoins
set_option linter.unusedVariables false
namespace Go.Proofs.Ytlmpicopkbpffaa
open Go.RowKit Go.Rg

theorem _root_.Go.Rg.Cells.row1 {w : World} {b : Nat} {vs : List Value} (h : Cells w b vs) : Row w w.heap.size 1 (some ⟨b, 0, none⟩) vs.length vs :=
  ⟨by simp, fun _ => ⟨b, 0, rfl, h.1, fun j u hu => by simpa using h.2 j u hu⟩⟩
theorem put1_any (k : Int) (A : Option Addr) (n c : Nat) (l : List Int) (b : Nat) (sv : Value) (bl : List Int) (w : World) (hr : Row w w.heap.size 1 A n (bytes l)) (hA : A = none → n = 0 ∧ c = 0)
    (hb : Cells w b [sv]) (hs : BS w sv bl) (hn : n + 1000000 ≤ 140737488355328) (hl : bl.length ≤ 140737488355328) :
    Calls Try.prog 17 #[qu k A n c, .slice (some ⟨b, 0, none⟩) 1 1] w (PutPost w k l bl) := by
  have := put_any k A n c l (some ⟨b, 0, none⟩) 1 1 [sv] [bl] w hr hA (by omega) (Cells.row1 hb) ⟨rfl, fun j v l' h1 h2 => by
    match j with
    | 0 => simp at h1 h2; subst h1 h2; exact hs
    | j + 1 => simp at h1⟩ (by omega) (by simpa using hl) hn
  simpa using this
/-- A literal's bytes. -/
theorem BS.lit (w : World) (C : Array Value) (l : List Int) (t : TypeId) (fr : Nat × Nat) (n : Nat) (h : C.toList = bytes l) (hn : l.length = n) (h63 : n ≤ 9223372036854775807) : BS (w.alloc (.cells C t fr)) (.slice (some ⟨w.heap.size, 0, none⟩) n n) l := by
  refine ⟨_, n, n, rfl, ⟨by simpa using hn, fun _ => ⟨w.heap.size, 0, rfl, by simp, fun j u hu => ?_⟩⟩, Nat.le_refl _, h63, fun h => by cases h⟩
  rw [Nat.zero_add, World.cell?_alloc_mark, ← hu, ← h]
  simp

/-- Put of a literal's bytes. -/
theorem put_lit (k : Int) (A : Option Addr) (n c : Nat) (l : List Int) (C : Array Value) (bl : List Int) (fr : Nat × Nat) (m : Nat) (w : World) (hr : Row w w.heap.size 1 A n (bytes l)) (hA : A = none → n = 0 ∧ c = 0)
    (hC : C.toList = bytes bl) (hm : bl.length = m) (hn : n + 1000000 ≤ 140737488355328) (hl : m ≤ 140737488355328) :
    Calls Try.prog 17 #[qu k A n c, .slice (some ⟨w.heap.size + 1, 0, none⟩) 1 1] ((w.alloc (.cells C 5 fr)).alloc (.cells #[.slice (some ⟨w.heap.size, 0, none⟩) m m] 22)) (PutPost w k l bl) := by
  have hE1 := (Ext.refl w).alloc (.cells C 5 fr)
  have hE := hE1.alloc (.cells #[.slice (some ⟨w.heap.size, 0, none⟩) m m] 22)
  have hcs := Cells.new (w.alloc (.cells C 5 fr)) #[.slice (some ⟨w.heap.size, 0, none⟩) m m] 22 _ rfl
  rw [show (w.alloc (.cells C 5 fr)).heap.size = w.heap.size + 1 by simp] at hcs
  refine (put1_any k A n c l _ _ bl _ (hr.lift hE) hA hcs ((BS.lit w C bl _ fr m hC hm (by omega)).lift ((Ext.refl _).alloc _)) hn (by omega)).mono ?_
  rintro e w' ⟨v, h1, h2, h3⟩
  exact ⟨v, h1, h2, hE.trans h3⟩

theorem Row.set_ne {w : World} {B n : Nat} {A : Option Addr} {l : List Int} (h : Row w B 1 A n (bytes l)) {p : Addr} {v : Value} (hp : w.cell? p = some v) (hv : ∀ x, v ≠ .int .u8 x) (u : Value) : Row (w.setCell p u) B 1 A n (bytes l) := by
  refine ⟨h.1, fun hn => ?_⟩
  obtain ⟨b, o, e, hb, hc⟩ := h.2 hn
  refine ⟨b, o, e, hb, fun j y hy => ?_⟩
  have h1 := hc j y hy
  rw [World.cell?_setCell_other _ _ _ _ (fun e => ?_)]
  · exact h1
  · rw [e, h1] at hp
    injection hp with hp
    have : y ∈ bytes l := List.mem_of_getElem? hy
    obtain ⟨z, _, rfl⟩ := List.mem_map.1 this
    exact hv z hp.symm
theorem Row.stored {w : World} {n a : Nat} {A : Option Addr} {l : List Int} (h : Row w w.heap.size 1 A n (bytes l)) {M N : Nat} {i : Int} {D : Option Addr} {m c : Nat} (hB : Box M [.int .i64 i, .slice D m c] N w) (x y : Value) :
    Row ((w.setCell ⟨N, 0, none⟩ x).setCell ⟨N, 1, none⟩ y) ((w.setCell ⟨N, 0, none⟩ x).setCell ⟨N, 1, none⟩ y).heap.size 1 A n (bytes l) := by
  have h1 := h.set_ne (p := ⟨N, 0, none⟩) (v := .int .i64 i) (by rw [hB.cell 0 (by simp)]; rfl) (fun x e => by injection e with e; cases e) x
  have h2 := h1.set_ne (p := ⟨N, 1, none⟩) (v := .slice D m c) (by rw [World.cell?_setCell_other _ _ _ _ (by simp), hB.cell 1 (by simp)]; rfl) (fun x e => by cases e) y
  simpa using h2
theorem BS.stored {w : World} {v : Value} {l : List Int} (h : BS w v l) {M N : Nat} {i : Int} {D : Option Addr} {m c : Nat} (hB : Box M [.int .i64 i, .slice D m c] N w) (x y : Value) : BS ((w.setCell ⟨N, 0, none⟩ x).setCell ⟨N, 1, none⟩ y) v l := by
  obtain ⟨A, n, c, h1, h2, h3⟩ := h
  exact ⟨A, n, c, h1, h2.stored (a := 0) hB x y, h3⟩
theorem Box.stored {w : World} {M N : Nat} {i : Int} {D : Option Addr} {m c : Nat} (hB : Box M [.int .i64 i, .slice D m c] N w) (x y : Value) : Box M [x, y] N ((w.setCell ⟨N, 0, none⟩ x).setCell ⟨N, 1, none⟩ y) := by
  have := (hB.set_ 0 x (by simp)).set_ 1 y (by simp)
  simpa using this

set_option maxHeartbeats 2000000 in
theorem awake_any (w : World) : Calls Try.prog 15 #[] w fun e w' => e = .returned (.bool true) ∧ Ext w w' := by
  have kc := fun (w : World) (C : Array Value) (n c : Nat) => Lib.run_convert_bytes_const (P := Try.prog) w 22 5 C n c Try.underlying22 Try.underlying5
  go_enter Try.func15, Try.ntmps15
  go_wp2_with fail
  refine (new_any 3 _).mono ?_
  rintro e w1 ⟨rfl, hE1⟩
  rw [show qcap 3 = 3 from by decide]
  go_wp2_with fail
  refine (put_lit 3 none 0 0 [] #[.int .u8 97] [97] _ 1 w1 (by simpa using Row.nil) (fun _ => ⟨rfl, rfl⟩) rfl rfl (by omega) (by omega)).mono ?_
  rintro e w2 ⟨v, rfl, ⟨A2, n2, c2, rfl, hr2, hcb2, hcm2, hnil2⟩, hE2⟩
  rw [show qput 3 ([] : List Int).length ([97] : List Int).length = 1 from by decide] at hr2 ⊢
  obtain rfl : n2 = 1 := by have := hr2.len; simpa using this.symm
  simp only [List.take_succ_cons, List.take_zero, List.take_nil, List.nil_append, List.cons_append, List.append_nil] at hr2
  have hE := hE1.trans hE2
  have H2 := Lib.hid (And.intro hr2 (And.intro hnil2 hE))
  clear hE hE1 hE2 hr2 hnil2
  have kc2 := Joins.run_convert_bytes_const_at (P := Try.prog) (w2.alloc (.cells #[.int .i64 3, .slice A2 1 c2] 24)) 22 5 #[.int .u8 98, .int .u8 99, .int .u8 100] 3 3 (w2.heap.size + 1) (by simp) Try.underlying22 Try.underlying5
  go_wp2_with fail
  clear kc2
  have hB3 := Box.new (N := w.heap.size) w2 #[.int .i64 3, .slice A2 1 c2] 24 _ H2.out.2.2.size rfl
  obtain ⟨N, hN⟩ : ∃ N, N = w2.heap.size := ⟨_, rfl⟩
  have hs3 : (w2.alloc (.cells #[.int .i64 3, .slice A2 1 c2] 24)).heap.size = N + 1 := by rw [hN]; simp
  have hr3 := H2.out.1.lift ((Ext.refl _).alloc (.cells #[.int .i64 3, .slice A2 1 c2] 24))
  have hE3 := H2.out.2.2.alloc (.cells #[.int .i64 3, .slice A2 1 c2] 24)
  rw [← hN] at hB3 ⊢
  obtain ⟨w3, hw3⟩ : ∃ w3, w3 = w2.alloc (.cells #[.int .i64 3, .slice A2 1 c2] 24) := ⟨_, rfl⟩
  rw [← hw3] at hB3 hs3 hr3 hE3 ⊢
  have HS3 := Lib.hid hs3
  have C3 := put_lit 3 A2 1 c2 [97] #[.int .u8 98, .int .u8 99, .int .u8 100] [98, 99, 100] (3, 4) 3 w3 hr3 H2.out.2.1 rfl rfl (by omega) (by omega)
  rw [hs3] at C3
  have H3 := Lib.hid (And.intro hB3 hE3)
  clear hs3 hB3 hr3 hE3 hw3 hN H2
  refine C3.mono ?_
  clear C3
  rintro e w4 ⟨v, rfl, ⟨A4, n4, c4, rfl, hr4, hcb4, hcm4, hnil4⟩, hE4⟩
  rw [show qput 3 ([97] : List Int).length ([98, 99, 100] : List Int).length = 2 from by decide] at hr4 ⊢
  obtain rfl : n4 = 3 := by have := hr4.len; simpa using this.symm
  simp only [List.take_succ_cons, List.take_zero, List.take_nil, List.nil_append, List.cons_append, List.append_nil] at hr4
  have hB4 := H3.out.1.ext hE4
  have hEE := H3.out.2.trans hE4
  have hc04 := hB4.cell
  have hf04 := hB4.free
  simp only [List.length_cons, List.length_nil, Nat.zero_add, Nat.reduceAdd] at hc04
  have hbs := hB4.base
  have H4 := Lib.hid (And.intro hB4 (And.intro hEE (And.intro hr4 hnil4)))
  clear hB4 hEE hr4 hnil4 hE4 H3
  go_wp2_with fail
  obtain ⟨hB4, hEE, hr4, hnil4⟩ := H4.out
  have hB5 := Box.stored hB4 (.int .i64 3) (.slice A4 3 c4)
  have hr5 := hr4.stored (a := 0) hB4 (.int .i64 3) (.slice A4 3 c4)
  have hE5 := (hEE.setCell (p := ⟨N, 0, none⟩) hbs (.int .i64 3)).setCell (p := ⟨N, 1, none⟩) hbs (.slice A4 3 c4)
  obtain ⟨w5, hw5⟩ : ∃ w5, w5 = (w4.setCell ⟨N, 0, none⟩ (.int .i64 3)).setCell ⟨N, 1, none⟩ (.slice A4 3 c4) := ⟨_, rfl⟩
  rw [← hw5] at hB5 hr5 hE5 ⊢
  clear hw5 hB4 hEE hr4 H4 hc04 hf04
  refine (take_any 3 A4 3 c4 [97, 98, 99] 2 w5 hr5 hnil4 (by omega)).mono ?_
  rw [show (qfirst 3 3 2).toNat = 2 from by decide]
  rintro e w6 ⟨v6, v7, rfl, ⟨A6, n6, c6, rfl, hr6, hcb6, hcm6, hnil6⟩, ⟨A7, n7, c7, rfl, hr7, hcb7, hcm7, hnil7⟩, hE6⟩
  have hB6 := hB5.ext hE6
  have hEE := hE5.trans hE6
  clear hB5 hr5 hE5 hE6 hnil4 hnil6
  simp only [List.take_succ_cons, List.take_zero, List.drop_succ_cons, List.drop_zero] at hr6 hr7
  obtain rfl : n6 = 2 := by have := hr6.len; simpa using this.symm
  obtain rfl : n7 = 1 := by have := hr7.len; simpa using this.symm
  have hc06 := hB6.cell
  have hf06 := hB6.free
  simp only [List.length_cons, List.length_nil, Nat.zero_add, Nat.reduceAdd] at hc06
  have s6 := bs_str (c := c6) (hr6.stored (a := 0) hB6 (.int .i64 3) (.slice A7 1 c7))
  rw [show strOfNums [97, 98] = ⟨#[97, 98]⟩ from rfl] at s6
  have H6 := Lib.hid (And.intro hB6 (And.intro hEE (And.intro hr7 hnil7)))
  clear hB6 hEE hr6 hr7 hnil7
  go_wp2_with fail
  obtain ⟨hB6, hEE, hr7, hnil7⟩ := H6.out
  have hB8 := Box.stored hB6 (.int .i64 3) (.slice A7 1 c7)
  have hr8 := hr7.stored (a := 0) hB6 (.int .i64 3) (.slice A7 1 c7)
  have hE8 := (hEE.setCell (p := ⟨N, 0, none⟩) hbs (.int .i64 3)).setCell (p := ⟨N, 1, none⟩) hbs (.slice A7 1 c7)
  obtain ⟨w8, hw8⟩ : ∃ w8, w8 = (w6.setCell ⟨N, 0, none⟩ (.int .i64 3)).setCell ⟨N, 1, none⟩ (.slice A7 1 c7) := ⟨_, rfl⟩
  rw [← hw8] at hB8 hr8 hE8 s6 ⊢
  clear hw8 hB6 hEE hr7 H6 hc06 hf06 s6
  refine (peek_any 3 A7 1 c7 [99] 9 w8 hr8 hnil7 (by omega) hcb7 hcm7).mono ?_
  rw [show (qfirst 3 1 9).toNat = 1 from by decide]
  rintro e w9 ⟨v9, rfl, hown9, hE9⟩
  obtain ⟨A9, n9, c9, rfl, hr9, _, _, _⟩ := BS.of_own hown9
  have s9 := bs_str (c := c9) hr9
  rw [show strOfNums ([99].take 1) = ⟨#[99]⟩ from rfl] at s9
  have hB9 := hB8.ext hE9
  have hE10 := hE8.trans hE9
  clear hB8 hr8 hE8 hE9 hown9 hr9 hnil7
  have hc09 := hB9.cell
  have hf09 := hB9.free
  simp only [List.length_cons, List.length_nil, Nat.zero_add, Nat.reduceAdd] at hc09
  have H9 := Lib.hid hE10
  clear hE10 hB9
  go_wp2_with fail
  refine (room_any 3 A7 1 c7 _ (by omega)).mono ?_
  rw [show qroom 3 1 = 2 from by decide]
  rintro e w10 ⟨rfl, hE11⟩
  have H10 := Lib.hid (H9.out.trans hE11)
  clear hE11 hc09 hf09 s9
  go_wp2
  go_ret
  exact ⟨rfl, H10.out⟩
end Go.Proofs.Ytlmpicopkbpffaa
