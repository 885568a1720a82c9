/- PortUse: what the loop of made keeps. -/
import Derived.Test.YtphbmibgnnobcaaPortC
import Derived.Test.YtphbmibgnnobcaaOpen
import Derived.Deep.CutRange
set_option linter.unusedVariables false
namespace Go.Proofs.Ytphbmibgnnobcaa
open Go.RowKit Go.Rg

abbrev mcells (ic : Int) (A0 : Option Addr) (n0 c0 : Nat) (oc : Int) (B0 : Option Addr) (m0 d0 : Nat) (bu : Int) : List Value := [.int .i64 7, .int .i64 1, .int .i64 ic, .slice A0 n0 c0, .int .i64 oc, .slice B0 m0 d0, .int .i64 bu, .bool false, .bool false]
/-- The memory: the result at N, the source at s, the port at P. -/
structure MSt (w wr : World) (N s P : Nat) (A : Option Addr) (m c : Nat) (lm : List Int) (i : Nat) (ic : Int) (l : List Int) (oc : Int) (k : List Int) (bu : Int) (A0 : Option Addr) (n0 c0 : Nat) (B0 : Option Addr) (m0 d0 : Nat) : Prop where
  e : Ext w wr
  sp : s < P
  ws : N < s
  wn : w.heap.size ≤ N
  src : SrcAt wr s A m c lm i
  box : Box s (mcells ic A0 n0 c0 oc B0 m0 d0 bu) P wr
  res : Box N pz N wr
  ra : RB wr A0 n0 c0 l
  rb : RB wr B0 m0 d0 k
/-- The numbers. -/
structure MAr (i : Nat) (l k : List Int) (bu : Int) : Prop where
  hl : l.length ≤ 9 * i
  hk : k.length ≤ 9 * i
  b0 : 0 ≤ bu
  b1 : bu ≤ 1000000
section
variable {w wr : World} {N s P : Nat} {A : Option Addr} {m c : Nat} {lm : List Int} {i : Nat} {ic : Int} {l : List Int} {oc : Int} {k : List Int} {bu : Int} {A0 : Option Addr} {n0 c0 : Nat} {B0 : Option Addr} {m0 d0 : Nat}
theorem MSt.ext {wr' : World} (h : MSt w wr N s P A m c lm i ic l oc k bu A0 n0 c0 B0 m0 d0) (x : Ext wr wr') : MSt w wr' N s P A m c lm i ic l oc k bu A0 n0 c0 B0 m0 d0 :=
  ⟨h.e.trans x, h.sp, h.ws, h.wn, h.src.ext x, h.box.ext x, h.res.ext x, h.ra.lift x, h.rb.lift x⟩
theorem SE.u8 {w' : World} {i : Nat} (h : SE s w w') (hs : SrcAt w s A m c lm i) : U8 w w' := by
  obtain ⟨v, hv⟩ := h
  exact ((U8.refl w).put hs.c1 (fun x h => by cases h)).ext hv
theorem MSt.se {wr' : World} {i' : Nat} (h : MSt w wr N s P A m c lm i ic l oc k bu A0 n0 c0 B0 m0 d0) (x : SE s wr wr') (hs : SrcAt wr' s A m c lm i') : MSt w wr' N s P A m c lm i' ic l oc k bu A0 n0 c0 B0 m0 d0 :=
  ⟨h.e.se x (by have := h.ws; have := h.wn; omega), h.sp, h.ws, h.wn, hs, SE.box h.box x (by have := h.sp; omega), SE.box h.res x (by have := h.ws; omega), h.ra.u8 (x.u8 h.src), h.rb.u8 (x.u8 h.src)⟩
/-- A number from the source. -/
theorem next_m (n : Int) (h : MSt w wr N s P A m c lm i ic l oc k bu A0 n0 c0 B0 m0 d0) (hn : 0 < n) (hn' : n ≤ 1000000) :
    Calls Try.prog 15 #[.pointer (some ⟨s, 0, none⟩), .int .i64 n] wr fun e w' => ∃ (y : Int) (j : Nat), e = .returned (.int .i64 y) ∧ 0 ≤ y ∧ y < n ∧ i ≤ j ∧ j ≤ m ∧ (i < m → i < j) ∧ SE s wr w' ∧ MSt w w' N s P A m c lm j ic l oc k bu A0 n0 c0 B0 m0 d0 := by
  have hlm : lm.length = m := by have := h.src.row.1; simpa using this
  refine (next_any s A m c lm i n wr h.src hn hn').mono ?_
  rintro e w2 ⟨rfl, hE2⟩
  have hz := nx_bd lm i n hn
  have ha := h.src.after hE2
  exact ⟨_, _, rfl, hz.1, hz.2, nxi_le lm i, ha.hi, nxi_up hlm, ⟨_, hE2⟩, h.se ⟨_, hE2⟩ ha⟩
/-- Bytes from the source. -/
theorem bytes_m (n : Int) (h : MSt w wr N s P A m c lm i ic l oc k bu A0 n0 c0 B0 m0 d0) (hn : 0 ≤ n) (hn' : n ≤ 1000) :
    Calls Try.prog 17 #[.pointer (some ⟨s, 0, none⟩), .int .i64 n] wr fun e w' => ∃ (V : Option Addr) (vn vc : Nat) (bl : List Int) (j : Nat), e = .returned (.slice V vn vc) ∧ RB w' V vn vc bl ∧ vn = bl.length ∧ (vn : Int) ≤ n ∧ i ≤ j ∧ j ≤ m ∧ SE s wr w' ∧ MSt w w' N s P A m c lm j ic l oc k bu A0 n0 c0 B0 m0 d0 := by
  refine (srcBytes_any s A m c lm i n wr h.src hn hn').mono ?_
  rintro e w3 ⟨v, bl, j, rfl, hsrc, hown, hse, hlen, hj1, _⟩
  obtain ⟨V, vc, rfl, hvc, hvm⟩ := own_form hown
  exact ⟨V, _, vc, bl, j, rfl, RB.of_own hown, rfl, hlen, hj1, hsrc.hi, hse, h.se hse hsrc⟩
end
theorem Box.cells9 {N b : Nat} {a0 a1 a2 a3 a4 a5 a6 a7 a8 : Value} {w : World} (h : Box N [a0, a1, a2, a3, a4, a5, a6, a7, a8] b w) :
    w.cell? ⟨b, 0, none⟩ = some a0 ∧ w.cell? ⟨b, 1, none⟩ = some a1 ∧ w.cell? ⟨b, 2, none⟩ = some a2 ∧ w.cell? ⟨b, 3, none⟩ = some a3 ∧ w.cell? ⟨b, 4, none⟩ = some a4 ∧ w.cell? ⟨b, 5, none⟩ = some a5 ∧ w.cell? ⟨b, 6, none⟩ = some a6 ∧ w.cell? ⟨b, 7, none⟩ = some a7 ∧ w.cell? ⟨b, 8, none⟩ = some a8 :=
  ⟨h.cell 0 (by simp), h.cell 1 (by simp), h.cell 2 (by simp), h.cell 3 (by simp), h.cell 4 (by simp), h.cell 5 (by simp), h.cell 6 (by simp), h.cell 7 (by simp), h.cell 8 (by simp)⟩
/-- What Put answers, in one form. -/
theorem refPput_m (ic : Int) (A : Option Addr) (n c : Nat) (l : List Int) (oc : Int) (B : Option Addr) (m d : Nat) (k : List Int) (bu : Int) (V : Option Addr) (vn vc : Nat) (vl : List Int) (w : World)
    (hA : RB w A n c l) (hB : RB w B m d k) (hm2 : m + vn ≤ 140737488355328) (hV : RB w V vn vc vl) (hb2 : 0 ≤ bu) (hb3 : bu ≤ 1000000) :
    Calls Try.prog 25 #[pv 7 1 ic A n c oc B m d bu false false, .slice V vn vc] w fun e w' => ∃ id1 cl1 ic1 A1 n1 c1 oc1 B1 m1 d1 bu1 A2 n2 c2 er, e = .returned (.tuple #[pv id1 cl1 ic1 A1 n1 c1 oc1 B1 m1 d1 bu1 false false, .slice A2 n2 c2, .int .i64 er]) ∧
      Hid (er = 0 ∧ id1 = 7 ∧ cl1 = 1 ∧ ic1 = ic ∧ oc1 = oc ∧ bu1 = bu - min bu (k ++ vl).length ∧ RB w' A1 n1 c1 l ∧ RB w' B1 m1 d1 ((k ++ vl).drop (min bu (k ++ vl).length).toNat) ∨ er = 9) ∧ Ext w w' := by
  by_cases hr : (vn : Int) ≤ prm oc m bu
  · refine (refPput_yes 7 1 ic A n c l oc B m d k bu false false V vn vc vl w hA hB hm2 hV hb2 hb3 hr).mono ?_
    rintro e w' ⟨v1, v2, rfl, ⟨A1, n1, c1, B1, m1, d1, rfl, h1, h2⟩, ⟨A2, n2, c2, rfl, h3⟩, hE⟩
    exact ⟨7, 1, ic, A1, n1, c1, oc, B1, m1, d1, _, A2, n2, c2, 0, rfl, Lib.hid (.inl ⟨rfl, rfl, rfl, rfl, rfl, rfl, h1, h2⟩), hE⟩
  · refine (refPput_no 7 1 ic A n c oc B m d bu false false V vn vc w (by omega) hb2 hb3 (by omega) (by omega)).mono ?_
    rintro e w' ⟨rfl, hE⟩
    exact ⟨0, 0, 0, none, 0, 0, 0, none, 0, 0, 0, none, 0, 0, 9, rfl, Lib.hid (.inr rfl), hE⟩
theorem MAr.offer {i j : Nat} {l k : List Int} {bu : Int} {b : List Int} {ic : Int} (h : MAr i l k bu) (hj : i < j) (hb : b.length ≤ 9) : MAr j (l ++ b.take (qput ic l.length b.length)) k bu := by
  obtain ⟨h1, h2, h3, h4⟩ := h
  refine ⟨?_, by omega, h3, h4⟩
  rw [List.length_append, List.length_take]
  omega
theorem MAr.eat {i j : Nat} {l k : List Int} {bu : Int} {q : Nat} (h : MAr i l k bu) (hj : i ≤ j) : MAr j (l.drop q) k bu := by
  obtain ⟨h1, h2, h3, h4⟩ := h
  refine ⟨?_, by omega, h3, h4⟩
  rw [List.length_drop]
  omega
theorem MAr.put {i j : Nat} {l k : List Int} {bu : Int} {b : List Int} (h : MAr i l k bu) (hj : i < j) (hb : b.length ≤ 9) : MAr j l ((k ++ b).drop (min bu (k ++ b).length).toNat) (bu - min bu (k ++ b).length) := by
  obtain ⟨h1, h2, h3, h4⟩ := h
  refine ⟨by omega, ?_, by omega, by omega⟩
  rw [List.length_drop, List.length_append]
  omega
theorem MAr.grant {i j : Nat} {l k : List Int} {b1 : Int} {bu : Int} (h : MAr i l k bu) (hj : i ≤ j) (g0 : 0 ≤ b1) (g1 : b1 ≤ 1000000) : MAr j l (k.drop (min b1 k.length).toNat) (b1 - min b1 k.length) := by
  obtain ⟨h1, h2, h3, h4⟩ := h
  refine ⟨by omega, ?_, by omega, by omega⟩
  rw [List.length_drop]
  omega
theorem MAr.mono {i j : Nat} {l k : List Int} {bu : Int} (h : MAr i l k bu) (hj : i ≤ j) : MAr j l k bu := ⟨by have := h.hl; omega, by have := h.hk; omega, h.b0, h.b1⟩
theorem refOffer_m (ic : Int) (A : Option Addr) (n c : Nat) (l : List Int) (oc : Int) (B : Option Addr) (m d : Nat) (k : List Int) (bu : Int) (V : Option Addr) (vn vc : Nat) (b : List Int) (w : World)
    (hA : RB w A n c l) (hn : n ≤ 1000) (hB : RB w B m d k) (hm : m ≤ 1000) (hV : RB w V vn vc b) (hv : (vn : Int) ≤ 9) :
    Calls Try.prog 24 #[pv 7 1 ic A n c oc B m d bu false false, .slice V vn vc] w fun e w' => ∃ A1 n1 c1 B1 m1 d1 q, e = .returned (.tuple #[pv 7 1 ic A1 n1 c1 oc B1 m1 d1 bu false false, .int .i64 q]) ∧ RB w' A1 n1 c1 (l ++ b.take (qput ic l.length b.length)) ∧ RB w' B1 m1 d1 k ∧ Ext w w' := by
  refine (refOffer_any 7 1 ic A n c l oc B m d k bu false false V vn vc b w hA (by omega) hB (by omega) hV (by omega)).mono ?_
  rintro e w' ⟨v, rfl, ⟨A1, n1, c1, B1, m1, d1, rfl, h1, h2⟩, hE⟩
  exact ⟨A1, n1, c1, B1, m1, d1, _, rfl, h1, h2, hE⟩
theorem refEat_m (ic : Int) (A : Option Addr) (n c : Nat) (l : List Int) (oc : Int) (B : Option Addr) (m d : Nat) (k : List Int) (bu : Int) (g : Int) (w : World)
    (hA : RB w A n c l) (hn : n ≤ 1000) (hB : RB w B m d k) (hm : m ≤ 1000) :
    Calls Try.prog 28 #[pv 7 1 ic A n c oc B m d bu false false, .int .i64 g] w fun e w' => ∃ A1 n1 c1 B1 m1 d1, e = .returned (pv 7 1 ic A1 n1 c1 oc B1 m1 d1 bu false false) ∧ RB w' A1 n1 c1 (l.drop (qfirst ic n g).toNat) ∧ RB w' B1 m1 d1 k ∧ Ext w w' := by
  refine (refEat_any 7 1 ic A n c l oc B m d k bu false false g w hA (by omega) hB (by omega)).mono ?_
  rintro e w' ⟨v, rfl, ⟨A1, n1, c1, B1, m1, d1, rfl, h1, h2⟩, hE⟩
  exact ⟨A1, n1, c1, B1, m1, d1, rfl, h1, h2, hE⟩
theorem refGrant_m (ic : Int) (A : Option Addr) (n c : Nat) (l : List Int) (oc : Int) (B : Option Addr) (m d : Nat) (k : List Int) (bu : Int) (g : Int) (w : World)
    (hA : RB w A n c l) (hB : RB w B m d k) (hm : m ≤ 1000) :
    Calls Try.prog 26 #[pv 7 1 ic A n c oc B m d bu false false, .int .i64 g] w fun e w' => ∃ A1 n1 c1 B1 m1 d1 A2 n2 c2 bq, e = .returned (.tuple #[pv 7 1 ic A1 n1 c1 oc B1 m1 d1 bq false false, .slice A2 n2 c2]) ∧ Hid (bq = addTo 1000000 [bu, g] 2 - min (addTo 1000000 [bu, g] 2) k.length) ∧ RB w' A1 n1 c1 l ∧ RB w' B1 m1 d1 (k.drop (min (addTo 1000000 [bu, g] 2) k.length).toNat) ∧ Ext w w' := by
  refine (refGrant_any 7 1 ic A n c l oc B m d k bu false false g w hA hB (by omega)).mono ?_
  rintro e w' ⟨v, v2, rfl, ⟨A1, n1, c1, B1, m1, d1, rfl, h1, h2⟩, ⟨A2, n2, c2, rfl, _⟩, hE⟩
  exact ⟨A1, n1, c1, B1, m1, d1, A2, n2, c2, _, rfl, Lib.hid rfl, h1, h2, hE⟩
/-- Behind Put: the answer in a box at Q. -/
def PutCut (w : World) (N s P : Nat) (A : Option Addr) (m c : Nat) (lm : List Int) (j : Nat) (ic : Int) (l : List Int) (oc : Int) (k : List Int) (bu : Int) (A0 : Option Addr) (n0 c0 : Nat) (B0 : Option Addr) (m0 d0 : Nat) (s9 s11 : Value) (wx : World) : Prop :=
  ∃ (j2 : Nat) (bl : List Int) (id1 cl1 ic1 : Int) (A1 : Option Addr) (n1 c1 : Nat) (oc1 : Int) (B1 : Option Addr) (m1 d1 : Nat) (bu1 er : Int) (Q : Nat), s9 = .pointer (some ⟨Q, 0, none⟩) ∧ s11 = .int .i64 er ∧ j ≤ j2 ∧ j2 ≤ m ∧ P < Q ∧ bl.length ≤ 9 ∧ Hid (MSt w wx N s P A m c lm j2 ic l oc k bu A0 n0 c0 B0 m0 d0) ∧
    Hid (Box s [.int .i64 id1, .int .i64 cl1, .int .i64 ic1, .slice A1 n1 c1, .int .i64 oc1, .slice B1 m1 d1, .int .i64 bu1, .bool false, .bool false] Q wx) ∧
    Hid (er = 0 ∧ id1 = 7 ∧ cl1 = 1 ∧ ic1 = ic ∧ oc1 = oc ∧ bu1 = bu - min bu (k ++ bl).length ∧ RB wx A1 n1 c1 l ∧ RB wx B1 m1 d1 ((k ++ bl).drop (min bu (k ++ bl).length).toNat) ∨ er = 9)
theorem PutCut.mk {w w4 wx : World} {N s P : Nat} {A : Option Addr} {m c : Nat} {lm : List Int} {j : Nat} {ic : Int} {l : List Int} {oc : Int} {k : List Int} {bu : Int} {A0 : Option Addr} {n0 c0 : Nat} {B0 : Option Addr} {m0 d0 : Nat} {j2 : Nat} {bl : List Int} {id1 cl1 ic1 : Int} {A1 : Option Addr} {n1 c1 : Nat} {oc1 : Int} {B1 : Option Addr} {m1 d1 : Nat} {bu1 er : Int} {Q : Nat}
    (hT : MSt w w4 N s P A m c lm j2 ic l oc k bu A0 n0 c0 B0 m0 d0)
    (hor : er = 0 ∧ id1 = 7 ∧ cl1 = 1 ∧ ic1 = ic ∧ oc1 = oc ∧ bu1 = bu - min bu (k ++ bl).length ∧ RB w4 A1 n1 c1 l ∧ RB w4 B1 m1 d1 ((k ++ bl).drop (min bu (k ++ bl).length).toNat) ∨ er = 9)
    (h1 : j ≤ j2) (h2 : j2 ≤ m) (h3 : bl.length ≤ 9) (hQ : P < Q) (hE : Ext w wx) (hS : SrcAt wx s A m c lm j2) (hB : Box s (mcells ic A0 n0 c0 oc B0 m0 d0 bu) P wx) (hR : Box N pz N wx)
    (hBQ : Box s [.int .i64 id1, .int .i64 cl1, .int .i64 ic1, .slice A1 n1 c1, .int .i64 oc1, .slice B1 m1 d1, .int .i64 bu1, .bool false, .bool false] Q wx) (hU : U8 w4 wx) :
    PutCut w N s P A m c lm j ic l oc k bu A0 n0 c0 B0 m0 d0 (.pointer (some ⟨Q, 0, none⟩)) (.int .i64 er) wx :=
  ⟨j2, bl, id1, cl1, ic1, A1, n1, c1, oc1, B1, m1, d1, bu1, er, Q, rfl, rfl, h1, h2, hQ, h3, Lib.hid ⟨hE, hT.sp, hT.ws, hT.wn, hS, hB, hR, hT.ra.u8 hU, hT.rb.u8 hU⟩, Lib.hid hBQ, Lib.hid (hor.imp (fun ⟨a, b, c, d, e, f, g, h⟩ => ⟨a, b, c, d, e, f, g.u8 hU, h.u8 hU⟩) id)⟩
def MRel (w : World) (N s P : Nat) (A : Option Addr) (m c : Nat) (lm : List Int) (ic oc : Int) (gk : Nat) (wr : World) : Prop :=
  ∃ (i : Nat) (l k : List Int) (bu : Int) (A0 : Option Addr) (n0 c0 : Nat) (B0 : Option Addr) (m0 d0 : Nat), gk = m - i ∧ i ≤ m ∧ Hid (MSt w wr N s P A m c lm i ic l oc k bu A0 n0 c0 B0 m0 d0) ∧ Hid (MAr i l k bu)
/-- What made makes. -/
def MdPost (w : World) (ic oc : Int) (e : Ending) (w' : World) : Prop :=
  ∃ v l k bu, e = .returned v ∧ PR w' v 7 1 ic l oc k bu false false ∧ l.length ≤ 400 ∧ k.length ≤ 400 ∧ 0 ≤ bu ∧ bu ≤ 1000000 ∧ Ext w w'
end Go.Proofs.Ytphbmibgnnobcaa
