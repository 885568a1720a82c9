/- The plan that a source makes: it is valid, and small. -/
import Derived.Test.YtlcopiepcpangaaSource
import Derived.Test.YtlcopiepcpangaaPlan
import Derived.OwnWalk
set_option linter.unusedVariables false
namespace Go.Proofs.Ytlcopiepcpangaa
open Go.RowKit Go.Rg

theorem Try.infoInt : (Try.prog.info? 3).map (fun i => (i.zero, i.size, i.bytes)) = some (some (.int .i64 0), 1, 8) := by kernel_rfl

/-- A new source. -/
theorem src_at {w W : World} {s : Nat} {B : Option Addr} {k d : Nat} {ll : List Int} {T : TypeId} (hB : Row w w.heap.size 1 B k (ints ll)) (hE : Ext w W) (hs : s = W.heap.size) (hk : k ≤ 9223372036854775807) : SrcAt (W.alloc (.cells #[.slice B k d, .int .i64 0] T)) s B k d ll 0 := by
  subst hs
  have hB := hB.lift hE
  exact ⟨by rw [World.cell?_alloc_at _ _ _ _ rfl]; rfl, by rw [World.cell?_alloc_at _ _ _ _ rfl]; rfl, World.frozen?_alloc_at _ _ _ _ rfl, hB.keep fun p hp => World.cell?_alloc_lt W _ p hp, Nat.zero_le _, hk⟩

theorem own_lower {w : World} {base base' n size : Nat} {e : TypeId} {v : Value} {xs : List Value} (h : w.ownsRow base e size v n xs) (hb : base' ≤ base) : w.ownsRow base' e size v n xs := by
  refine ⟨h.1, ?_⟩
  rcases h.2 with h1 | ⟨g, cap, cur, hv, hbg, r⟩
  · exact .inl h1
  · exact .inr ⟨g, cap, cur, hv, by omega, r⟩
/-- What a source's plan is. -/
structure Small (wl : List Int) (mi nu de ho wi : Int) : Prop where
  ok : PlanOK wl mi nu de ho wi
  n3 : wl.length ≤ 3
  mi3 : mi ≤ 3
  nu2 : nu ≤ 2
  de4 : de ≤ 4
  ho3 : ho ≤ 3
  wi4 : wi ≤ 4

theorem SrcAt.put_ {w : World} {s b k : Nat} {v : Value} {A : Option Addr} {m c : Nat} {l : List Int} {i : Nat} (h : SrcAt w s A m c l i) (hb : s < b) : SrcAt (w.setCell ⟨b, k, none⟩ v) s A m c l i := by
  obtain ⟨c0, c1, f1, row, q1, q2⟩ := h
  have hne : ∀ p : Addr, p.block ≤ s → (w.setCell ⟨b, k, none⟩ v).cell? p = w.cell? p := fun p hp => World.cell?_setCell_other _ _ _ _ (fun e => by rw [← e] at hp; simp at hp; omega)
  exact ⟨by rw [hne _ (Nat.le_refl _)]; exact c0, by rw [hne _ (Nat.le_refl _)]; exact c1, by simpa using f1, row.keep fun p hp => hne p (Nat.le_of_lt hp), q1, q2⟩
def SrcPost (s : Nat) (A : Option Addr) (m c : Nat) (l : List Int) (w : World) (e : Ending) (w' : World) : Prop :=
  ∃ (A' : Option Addr) (c' : Nat) (wl : List Int) (mi nu de ho wi : Int), e = .returned (pl A' wl.length c' mi nu de ho wi) ∧ Small wl mi nu de ho wi ∧ w'.ownsRow w.heap.size 3 1 (.slice A' wl.length c') wl.length (ints wl) ∧ wl.length ≤ c' ∧ c' ≤ 9223372036854775807 ∧ SE s w w' ∧ ∃ j, SrcAt w' s A m c l j

theorem okTo_snoc (wl : List Int) (z last : Int) (h : okTo wl wl.length) (h1 : 1 ≤ z) (h2 : z ≤ 10000) (hl : ∀ k, k + 1 = wl.length → wl.getD k 0 = last) (h3 : last < z) : okTo (wl ++ [z]) (wl ++ [z]).length := by
  intro j hj
  simp only [List.length_append, List.length_cons, List.length_nil] at hj
  have eL : ∀ i, i < wl.length → (wl ++ [z]).getD i 0 = wl.getD i 0 := fun i hi => by simp [List.getElem?_append_left hi]
  have eZ : (wl ++ [z]).getD wl.length 0 = z := by simp
  rcases Nat.lt_or_ge j wl.length with hj' | hj'
  · obtain ⟨q1, q2, q3⟩ := h j hj'
    refine ⟨by rw [eL j hj']; exact q1, by rw [eL j hj']; exact q2, ?_⟩
    rcases q3 with q3 | q3
    · exact .inl q3
    · exact .inr (by rw [eL j hj', eL (j - 1) (by omega)]; exact q3)
  · have : j = wl.length := by omega
    subst this
    refine ⟨by rw [eZ]; exact h1, by rw [eZ]; exact h2, ?_⟩
    rcases Nat.eq_zero_or_pos wl.length with h0 | h0
    · exact .inl h0
    · exact .inr (by rw [eZ, eL _ (by omega), hl _ (by omega)]; exact h3)

/-- The loop: r weights are still to come. -/
def PlanRel (w : World) (s : Nat) (A : Option Addr) (m c : Nat) (l : List Int) (P : Nat) (mi nu de ho wi : Int) (wv nv : Value) (wr : World) : Prop :=
  ∃ (r : Nat) (wl : List Int) (last : Int) (v : Value) (i : Nat), nv = .int .i64 r ∧ wv = .int .i64 last ∧ wl.length + r ≤ 3 ∧ 1 ≤ wl.length + r ∧ okTo wl wl.length ∧ 0 ≤ last ∧ last ≤ 3300 * wl.length ∧ (∀ k, k + 1 = wl.length → wl.getD k 0 = last) ∧
    wr.ownsRow (P + 1) 3 1 v wl.length (ints wl) ∧ Box w.heap.size [v, .int .i64 mi, .int .i64 nu, .int .i64 de, .int .i64 ho, .int .i64 wi] P wr ∧
    Box w.heap.size [.slice none 0 0, .int .i64 0, .int .i64 0, .int .i64 0, .int .i64 0, .int .i64 0] w.heap.size wr ∧ SrcAt wr s A m c l i ∧ SE s w wr

set_option maxHeartbeats 1000000 in
theorem srcPlan_any (s : Nat) (A : Option Addr) (m c : Nat) (l : List Int) (i : Nat) (w : World) (h : SrcAt w s A m c l i) :
    Calls Try.prog 18 #[.pointer (some ⟨s, 0, none⟩)] w (SrcPost s A m c l w) := by
  have hsl : s < w.heap.size := Ext.lt h.c0
  have hsee : SE s w w := SE.start h.c1
  obtain ⟨i0, hi, hz0, hz1, hz2⟩ := info_parts Try.infoInt
  go_enter Try.func18, Try.ntmps18
  go_wp2_with fail
  obtain ⟨w0, hw0⟩ : ∃ w0, w0 = w.alloc (.cells #[.slice none 0 0, .int .i64 0, .int .i64 0, .int .i64 0, .int .i64 0, .int .i64 0] 24) := ⟨_, rfl⟩
  have hs0 : SrcAt w0 s A m c l i := by rw [hw0]; exact h.ext ((Ext.refl _).alloc _)
  have hse0 : SE s w w0 := by rw [hw0]; exact hsee.ext ((Ext.refl _).alloc _)
  have hB0 : Box w.heap.size [.slice none 0 0, .int .i64 0, .int .i64 0, .int .i64 0, .int .i64 0, .int .i64 0] w.heap.size w0 := by rw [hw0]; exact Box.new w _ _ _ (Nat.le_refl _) rfl
  rw [← hw0]
  clear hw0 hsee h
  refine (next_ex s A m c l _ 3 _ hs0 (by decide) (by decide)).mono ?_
  rintro e w1 ⟨a1, i1, rfl, p1, q1, hs1, hE⟩
  have hB1 := hB0.after (by omega) hE
  have hse1 := hse0.next hsl hE
  clear hs0 hB0 hse0 hE
  go_wp2_with fail
  refine (next_ex s A m c l _ 3 _ hs1 (by decide) (by decide)).mono ?_
  rintro e w2 ⟨a2, i2, rfl, p2, q2, hs2, hE⟩
  have hB2 := hB1.after (by omega) hE
  have hse2 := hse1.next hsl hE
  clear hs1 hB1 hse1 hE
  go_wp2_with fail
  refine (next_ex s A m c l _ 4 _ hs2 (by decide) (by decide)).mono ?_
  rintro e w3 ⟨a3, i3, rfl, p3, q3, hs3, hE⟩
  have hB3 := hB2.after (by omega) hE
  have hse3 := hse2.next hsl hE
  clear hs2 hB2 hse2 hE
  go_wp2_with fail
  refine (next_ex s A m c l _ 3 _ hs3 (by decide) (by decide)).mono ?_
  rintro e w4 ⟨a4, i4, rfl, p4, q4, hs4, hE⟩
  have hB4 := hB3.after (by omega) hE
  have hse4 := hse3.next hsl hE
  clear hs3 hB3 hse3 hE
  go_wp2_with fail
  refine (next_ex s A m c l _ 4 _ hs4 (by decide) (by decide)).mono ?_
  rintro e w5 ⟨a5, i5, rfl, p5, q5, hs5, hE⟩
  have hB5 := hB4.after (by omega) hE
  have hse5 := hse4.next hsl hE
  clear hs4 hB4 hse4 hE
  go_wp2_with fail
  obtain ⟨P, hP⟩ : ∃ P, P = w5.heap.size := ⟨_, rfl⟩
  have hPs : w.heap.size < P := by have := hB5.lt; omega
  have hP6 : Box w.heap.size [.slice none 0 0, .int .i64 (1 + a1), .int .i64 a2, .int .i64 (1 + a3), .int .i64 (1 + a4), .int .i64 (1 + a5)] P (w5.alloc (.cells #[.slice none 0 0, .int .i64 (1 + a1), .int .i64 a2, .int .i64 (1 + a3), .int .i64 (1 + a4), .int .i64 (1 + a5)] 24)) := by
    rw [hP]; exact Box.new w5 _ _ _ hse5.size rfl
  have hB6 := hB5.ext ((Ext.refl w5).alloc (.cells #[.slice none 0 0, .int .i64 (1 + a1), .int .i64 a2, .int .i64 (1 + a3), .int .i64 (1 + a4), .int .i64 (1 + a5)] 24))
  have hs6 := hs5.ext ((Ext.refl w5).alloc (.cells #[.slice none 0 0, .int .i64 (1 + a1), .int .i64 a2, .int .i64 (1 + a3), .int .i64 (1 + a4), .int .i64 (1 + a5)] 24))
  have hse6 := hse5.ext ((Ext.refl w5).alloc (.cells #[.slice none 0 0, .int .i64 (1 + a1), .int .i64 a2, .int .i64 (1 + a3), .int .i64 (1 + a4), .int .i64 (1 + a5)] 24))
  obtain ⟨w6, hw6⟩ : ∃ w6, w6 = w5.alloc (.cells #[.slice none 0 0, .int .i64 (1 + a1), .int .i64 a2, .int .i64 (1 + a3), .int .i64 (1 + a4), .int .i64 (1 + a5)] 24) := ⟨_, rfl⟩
  rw [← hw6] at hP6 hB6 hs6 hse6 ⊢
  rw [← hP]
  clear hw6 hP hB5 hs5 hse5
  refine (next_ex s A m c l _ 3 _ hs6 (by decide) (by decide)).mono ?_
  rintro e w7 ⟨a7, i7, rfl, p7, q7, hs7, hE⟩
  have hB7 := hB6.after (by omega) hE
  have hP7 := hP6.after (by omega) hE
  have hse7 := hse6.next hsl hE
  clear hs6 hB6 hse6 hP6 hE
  go_wp2_with fail
  obtain ⟨r7, hr7⟩ := Int.eq_ofNat_of_zero_le (show 0 ≤ 1 + a7 by omega)
  rw [hr7]
  have hr8 : 1 ≤ r7 := by omega
  have hr9 : r7 ≤ 3 := by omega
  clear hr7
  have hlt7 : P < w7.heap.size := hP7.lt
  go_loopw [4, 5] (fun wv nv wr => PlanRel w s A m c l P (1 + a1) a2 (1 + a3) (1 + a4) (1 + a5) wv nv wr) (fun _ nv _ => (intOf nv).toNat)
  case atStart => exact ⟨r7, [], 0, .slice none 0 0, i7, rfl, rfl, by simpa using hr9, by simpa using hr8, fun j hj => absurd hj (by simp), by omega, by simp, fun k hk => by simp at hk, ⟨rfl, .inl ⟨rfl, rfl⟩⟩, hP7, hB7, hs7, hse7⟩
  case round =>
    obtain ⟨r, wl, last, v, i8, rfl, rfl, g1, g2, g3, g4, g5, g6, hown, hPb, hBb, hsb, hseb⟩ := hrel
    by_cases hr0 : 0 < r
    · have hd0 : decide ((0 : Int) < (r : Int)) = true := by simp; omega
      have hlen : (wl.length : Int) ≤ 3 := by omega
      go_wp2_with fail
      refine (next_ex s A m c l _ 3300 _ hsb (by decide) (by decide)).mono ?_
      rintro e w8 ⟨a8, i9, rfl, p8, q8, hs8, hE⟩
      have hB8 := hBb.after (by omega) hE
      have hP8 := hPb.after (by omega) hE
      have hse8 := hseb.next hsl hE
      have hown8 := own_ext (own_setCell hown (p := ⟨s, 1, none⟩) (show s < P + 1 by omega) _) hE
      clear hsb hBb hseb hPb hE hown
      have hPc := hP8.cell
      have hPf := hP8.free
      simp only [List.length_cons, List.length_nil, Nat.zero_add, Nat.reduceAdd] at hPc
      have hN : okTo (wl ++ [last + 1 + a8]) (wl ++ [last + 1 + a8]).length := okTo_snoc wl _ last g3 (by omega) (by omega) g6 (by omega)
      have HN := Lib.hid hN
      have HG := Lib.hid (And.intro g3 g6)
      have H8 := Lib.hid (And.intro hP8 (And.intro hB8 (And.intro hs8 hse8)))
      have hbl : P + 1 ≤ w8.heap.size := by have := hP8.lt; omega
      clear hN g3 g6 hP8 hB8 hs8 hse8
      go_wp2_with (at_builtin; refine wpList_append_own _ rfl (.tmp 34) (.tmp 36) 22 rfl (P + 1) 3 i0 (.int .i64 0) 1 8 Try.underlying22 hi hz0 hz1 hz2 rfl (by decide) _ _ _ rfl (hown8.alloc _) ⟨w8.heap.size, 0, none⟩ 1 1 [.int .i64 (last + 1 + a8)] rfl rfl ?c1 ?c2 ?c3 ?c4 ?c5 ?_)
      case c1 =>
        intro j u hj
        match j, hj with
        | 0, hj => simp at hj; subst hj; simp [Addr.add]
      case c2 => intro u hu; simp at hu; subst hu; rfl
      case c3 => unfold maxLen; omega
      case c4 => omega
      case c5 => simp; omega
      intro v' w9 hown9 hgrow _
      obtain ⟨hP8, hB8, hs8, hse8⟩ := H8.out
      have hownA := hown8.alloc (.cells #[.int .i64 (last + 1 + a8)] 3)
      have hEA := (Ext.refl w8).alloc (.cells #[.int .i64 (last + 1 + a8)] 3)
      have hP9 := (hP8.ext hEA).grown hgrow (own_ne hownA (by omega))
      have hB9 := (hB8.ext hEA).grown hgrow (own_ne hownA (by omega))
      have hs9 := (hs8.ext hEA).grown hgrow (fun k hk => by
        rcases Nat.lt_or_ge s k with h | h
        · exact h
        · exact absurd hk (own_ne hownA (by omega)))
      have hse9 := (hse8.ext hEA).grown hownA (by omega) hgrow
      obtain ⟨A', c', rfl, hc1, hc2⟩ := own_form hown9
      have hPc9 := hP9.cell
      have hPf9 := hP9.free
      simp only [List.length_cons, List.length_nil, Nat.zero_add, Nat.reduceAdd] at hPc9
      have H9 := Lib.hid (And.intro hP9 (And.intro hB9 (And.intro hs9 (And.intro hse9 hown9))))
      clear hP8 hB8 hs8 hse8 hownA hEA hP9 hB9 hs9 hse9 hgrow hown9 hown8 H8 hPc hPf
      go_wp2
      go_roundw
      case rel =>
        obtain ⟨hP9, hB9, hs9, hse9, hown9⟩ := H9.out
        refine ⟨r - 1, wl ++ [last + 1 + a8], last + 1 + a8, _, i9, by rw [show ((r - 1 : Nat) : Int) = (r : Int) - 1 by omega], rfl, by simp; omega, by simp; omega, HN.out, by omega, by simp; omega, fun k hk => ?_, ?_, hP9.set_ 0 _ (by simp), hB9.other (by simp; omega) _, ?_, hse9.setCell (by simp; omega) _⟩
        · simp at hk
          subst hk
          simp
        · have := own_setCell hown9 (p := ⟨P, 0, none⟩) (show P < P + 1 by omega) (.slice A' (wl.length + 1) c')
          simpa using this
        · obtain ⟨c0, c1, f1, row, q1, q2⟩ := hs9
          have hne : ∀ p : Addr, p.block ≤ s → (w9.setCell ⟨P, 0, none⟩ (.slice A' (wl.length + 1) c')).cell? p = w9.cell? p := fun p hp => World.cell?_setCell_other _ _ _ _ (fun e => by rw [← e] at hp; simp at hp; omega)
          exact ⟨by rw [hne _ (Nat.le_refl _)]; exact c0, by rw [hne _ (Nat.le_refl _)]; exact c1, by simpa using f1, row.keep fun p hp => hne p (Nat.le_of_lt hp), q1, q2⟩
      case measure => simp [intOf]; omega
    · have hr1 : r = 0 := by omega
      subst hr1
      have hPc := hPb.cell
      have hBc := hBb.cell
      have hPf := hPb.free
      have hBf := hBb.free
      have hbs := hBb.lt
      simp only [List.length_cons, List.length_nil, Nat.zero_add, Nat.reduceAdd] at hPc hBc
      obtain ⟨A', c', rfl, hc1, hc2⟩ := own_form hown
      have HE := Lib.hid (And.intro g3 (And.intro hown (And.intro hseb hsb)))
      have hne1 : ¬ w.heap.size = P := by omega
      have hne2 : ¬ P = w.heap.size := by omega
      clear g3 g6 hown hseb hsb hPb hBb hB7 hP7 hs7 hse7
      go_wp2
      refine bodyPost_ret (v := pl A' wl.length c' (1 + a1) a2 (1 + a3) (1 + a4) (1 + a5)) (by simp [results, Try.results18, go_sem, hBc]) rfl ?_
      obtain ⟨g3, hown, hseb, hsb⟩ := HE.out
      refine ⟨A', c', wl, _, _, _, _, _, rfl, ⟨⟨g3, by omega, by omega, by omega, by omega, by omega, by omega, by omega, by omega, by omega, by omega, by omega, by omega⟩, by omega, by omega, by omega, by omega, by omega, by omega⟩, ?_, hc1, hc2, ?_, i8, ?_⟩
      · refine own_lower (base := P + 1) ?_ (by omega)
        iterate 6 (refine own_setCell ?_ (by simp; omega) _)
        exact hown
      · iterate 6 (refine SE.setCell ?_ (by simp) _)
        exact hseb
      · iterate 6 (refine SrcAt.put_ ?_ hsl)
        exact hsb
end Go.Proofs.Ytlcopiepcpangaa
