/- Sources: bytes. -/
import Derived.Test.YtphbmibgnnobcaaSrcMore
import Derived.Test.YtphbmibgnnobcaaApp
set_option linter.unusedVariables false
namespace Go.Proofs.Ytphbmibgnnobcaa
open Go.RowKit Go.Rg

theorem row_lit (Y : World) (x : Value) (t : TypeId) : Row (Y.alloc (.cells #[x] t)) (Y.alloc (.cells #[x] t)).heap.size 1 (some ⟨Y.heap.size, 0, none⟩) 1 [x] :=
  ⟨rfl, fun _ => ⟨Y.heap.size, 0, rfl, by simp, fun j u hu => by simpa using (Cells.new Y #[x] t [x] rfl).2 j u hu⟩⟩
def SByRel (w : World) (s : Nat) (A : Option Addr) (m c : Nat) (l : List Int) (i0 : Nat) (most : Int) (v n : Value) (wr : World) : Prop :=
  ∃ (r : Nat) (bl : List Int) (i : Nat), n = .int .i64 r ∧ Hid (SrcAt wr s A m c l i ∧ wr.ownsRow w.heap.size 5 1 v bl.length (bytes bl) ∧ SE s w wr) ∧ (bl.length + r : Nat) ≤ most ∧ i0 ≤ i ∧ Hid (i0 < m → i0 < i)
def SByPost (w : World) (s : Nat) (A : Option Addr) (m c : Nat) (l : List Int) (i0 : Nat) (most : Int) (e : Ending) (w' : World) : Prop :=
  ∃ (v : Value) (bl : List Int) (i : Nat), e = .returned v ∧ SrcAt w' s A m c l i ∧ w'.ownsRow w.heap.size 5 1 v bl.length (bytes bl) ∧ SE s w w' ∧ (bl.length : Int) ≤ most ∧ i0 ≤ i ∧ (i0 < m → i0 < i)
set_option maxHeartbeats 4000000 in
theorem srcBytes_any (s : Nat) (A : Option Addr) (m c : Nat) (l : List Int) (i : Nat) (most : Int) (w : World) (h : SrcAt w s A m c l i) (hm0 : 0 ≤ most) (hm1 : most ≤ 1000) :
    Calls Try.prog 17 #[.pointer (some ⟨s, 0, none⟩), .int .i64 most] w (SByPost w s A m c l i most) := by
  have hsl : s < w.heap.size := Ext.lt h.c0
  have hl : l.length = m := by have := h.row.1; simpa using this
  have hse := SE.start h.c1
  obtain ⟨i9, hi, hz0, hz1, hz2⟩ := info_parts Try.infoByte
  go_enter Try.func17, Try.ntmps17
  go_wp2_with fail
  refine (next_any s A m c l i (most + 1) w h (by omega) (by omega)).mono ?_
  rintro e X ⟨rfl, hE⟩
  have hb := nx_bd l i (most + 1) (by omega)
  obtain ⟨r0, hr0⟩ : ∃ r : Nat, nx l i (most + 1) = r := ⟨(nx l i (most + 1)).toNat, by omega⟩
  rw [hr0] at hb ⊢
  have hs1 := h.after hE
  have hse1 := hse.next hsl hE
  have hup := nxi_up (i := i) hl
  have hle := nxi_le l i
  obtain ⟨i1, hi1⟩ : ∃ j, j = nxi l i := ⟨_, rfl⟩
  rw [← hi1] at hs1 hup hle
  clear hE h hse hr0 hi1
  go_wp2
  go_loopw [5, 6] (fun v n wr => SByRel w s A m c l i most v n wr) (fun _ n _ => (intOf n).toNat)
  case atStart => exact ⟨r0, [], i1, rfl, Lib.hid ⟨hs1, ⟨rfl, .inl ⟨rfl, rfl⟩⟩, hse1⟩, by simp; omega, hle, Lib.hid hup⟩
  case round =>
    clear hs1 hse1 hup hle hb
    obtain ⟨r, bl, i2, rfl, hrl, hbr, hle, hup⟩ := hrel
    obtain ⟨hs, hown, hse⟩ := hrl.out
    by_cases hr : 0 < r
    · have hd0 : decide ((0 : Int) < (r : Int)) = true := by simp; omega
      go_wp2_with fail
      refine (next_any s A m c l i2 7 _ hs (by decide) (by decide)).mono ?_
      rintro e Y ⟨rfl, hE⟩
      have hb := nx_bd l i2 7 (by decide)
      obtain ⟨z, hz⟩ : ∃ z : Int, nx l i2 7 = z := ⟨_, rfl⟩
      rw [hz] at hb ⊢
      obtain ⟨hb1, hb2⟩ := hb
      have hs2 := hs.after hE
      have hse2 := hse.next hsl hE
      have hown2 := own_ext (own_setCell hown (p := ⟨s, 1, none⟩) hsl _) hE
      have hle2 := nxi_le l i2
      obtain ⟨i3, hi3⟩ : ∃ j, j = nxi l i2 := ⟨_, rfl⟩
      rw [← hi3] at hs2 hle2
      clear hE hs hse hown hz hi3 hrl
      have hsz : w.heap.size ≤ Y.heap.size := hse2.size
      have HS := Lib.hid (And.intro hs2 (And.intro hse2 hown2))
      clear hs2 hse2 hown2
      go_wp2_with (at_builtin; refine wpList_app _ rfl (.tmp 15) (.tmp 19) 26 rfl _ _ rfl rfl (app_own _ w.heap.size 26 _ 5 i9 (.int .u8 0) 1 Try.underlying26 hi hz0 hz1 hz2 rfl _ _ _ (HS.out.2.2.alloc _) _ _ 1 1 _ (row_lit Y _ _) ?c1 ?c2 ?c3 ?c4) ?_)
      case c1 =>
        intro u hu
        simp at hu
        subst hu
        rfl
      case c2 => unfold maxLen; omega
      case c3 => omega
      case c4 => simp; omega
      intro v' Z ⟨hown4, hg, _⟩
      obtain ⟨y, hown3⟩ : ∃ y : Int, Z.ownsRow w.heap.size 5 1 v' (bl.length + 1) (bytes bl ++ [.int .u8 y]) := ⟨_, hown4⟩
      clear hown4
      obtain ⟨hs2, hse2, hown2⟩ := HS.out
      have hs3 := (hs2.up _).grown hg (fun q hq => by
        rcases Nat.lt_or_ge s q with h | h
        · exact h
        · exact absurd hq (own_ne hown2 (by omega)))
      have hse3 := (hse2.up _).grown (hown2.alloc _) (Nat.le_refl _) hg
      obtain ⟨A', c', rfl, _, _⟩ := own_form hown3
      have H9 := Lib.hid (And.intro hs3 (And.intro hown3 hse3))
      clear hs2 hse2 hown2 hown3 hg hs3 hse3 HS
      go_wp2
      go_roundw
      case rel =>
        obtain ⟨hs3, hown3, hse3⟩ := H9.out
        refine ⟨r - 1, bl ++ [y], i3, by rw [show ((r - 1 : Nat) : Int) = (r : Int) - 1 by omega], Lib.hid ⟨hs3, ?_, hse3⟩, by simp; omega, by omega, Lib.hid (fun h => Nat.lt_of_lt_of_le (hup.out h) hle2)⟩
        rw [List.length_append, List.length_singleton]
        rw [show bytes (bl ++ [y]) = bytes bl ++ [.int .u8 y] by simp]
        exact hown3
      case measure => simp [intOf]; omega
    · have hr0 : r = 0 := by omega
      subst hr0
      obtain ⟨A', c', rfl, _, _⟩ := own_form hown
      have HS := Lib.hid (And.intro hs (And.intro hown hse))
      clear hs hown hse hrl
      go_wp2
      go_ret
      obtain ⟨hs, hown, hse⟩ := HS.out
      exact ⟨_, bl, i2, rfl, hs, hown, hse, by omega, hle, hup.out⟩
end Go.Proofs.Ytphbmibgnnobcaa
