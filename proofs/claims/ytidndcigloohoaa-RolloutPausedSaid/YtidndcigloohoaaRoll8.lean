/- Inputs of rollouts: the list. -/
import Derived.Test.YtidndcigloohoaaRoll5
set_option linter.unusedVariables false
namespace Go.Proofs.Ytidndcigloohoaa
open Go.RowKit Go.Rg

theorem Try.infoInput : (Try.prog.info? 24).map (fun i => (i.zero, i.size, i.bytes)) = some (some (.agg #[.int .i64 0, .int .i64 0]), 2, 16) := by kernel_rfl
theorem own_rows {w : World} {base n size : Nat} {e : TypeId} {A : Option Addr} {c : Nat} {xs : List Value} (hs : 0 < size) (h : w.ownsRow base e size (.slice A n c) n xs) : Row w w.heap.size size A n xs := by
  refine ⟨h.1, fun hn => ?_⟩
  rcases h.2 with ⟨_, h2⟩ | ⟨g, cap, cur, hv, _, hg, h3, h4, h5, h6⟩
  · omega
  · have hA : A = some ⟨g, 0, none⟩ := by injection hv
    have hlt : g < w.heap.size := by
      rcases Nat.lt_or_ge g w.heap.size with h | h
      · exact h
      · rw [Array.getElem?_eq_none h] at hg; cases hg
    refine ⟨g, 0, hA, hlt, fun j u hu => ?_⟩
    rw [← h6] at hu
    have hj : j < n * size := by
      have := (List.getElem?_eq_some_iff.1 hu).1
      simp at this
      omega
    rw [List.getElem?_take, if_pos (by omega)] at hu
    unfold World.cell?
    simp only [hg, Nat.zero_add]
    simpa using hu
theorem own_forms {w : World} {base n size : Nat} {e : TypeId} {v : Value} {xs : List Value} (h : w.ownsRow base e size v n xs) : ∃ A c, v = .slice A n c ∧ n ≤ c ∧ c ≤ 9223372036854775807 := by
  rcases h.2 with ⟨h1, h2⟩ | ⟨g, cap, cur, hv, _, _, h3, h4, _⟩
  · exact ⟨none, 0, by rw [h1, h2], by omega, by omega⟩
  · exact ⟨_, cap, hv, h3, h4⟩
theorem SE.own {s base n size : Nat} {e : TypeId} {v : Value} {xs : List Value} {w w' : World} (k : SE s w w') (h : w.ownsRow base e size v n xs) (hb : s < base) : w'.ownsRow base e size v n xs := by
  obtain ⟨u, hu⟩ := k
  exact own_ext (own_setCell h (p := ⟨s, 1, none⟩) hb u) hu

theorem Row.take {w : World} {B n : Nat} {A : Option Addr} {xs : List Value} (h : Row w B 1 A n xs) (m : Nat) (hm : m ≤ n) : Row w B 1 A m (xs.take m) := by
  have hl := h.len
  refine ⟨by simp; omega, fun hn => ?_⟩
  obtain ⟨b, o, e, hb, hc⟩ := h.2 (by omega)
  refine ⟨b, o, e, hb, fun j u hu => hc j u ?_⟩
  rw [List.getElem?_take] at hu
  split at hu
  · exact hu
  · cases hu

def InsRel (w : World) (N : Nat) (A : Option Addr) (m c : Nat) (l : List Int) (v : Value) (wr : World) : Prop :=
  ∃ (i : Nat) (il : List I2), Hid (SrcAt wr N A m c l i ∧ wr.ownsRow (N + 1) 24 2 v il.length (icells il) ∧ Ext w wr) ∧ il.length ≤ i
/-- What Inputs gives: a list of the call's own. -/
def InsPost (w : World) (e : Ending) (w' : World) : Prop :=
  ∃ (I : Option Addr) (d : Nat) (il : List I2), e = .returned (.slice I il.length d) ∧ w'.ownsRow w.heap.size 24 2 (.slice I il.length d) il.length (icells il) ∧ il.length ≤ d ∧ il.length ≤ 160 ∧ Ext w w'

set_option maxHeartbeats 2000000 in
theorem inputs_any (A : Option Addr) (n c : Nat) (l : List Int) (w : World) (hr : Row w w.heap.size 1 A n (ints l)) (hn : n ≤ 9223372036854775807) (hc : n ≤ c) :
    Calls Try.prog 22 #[.slice A n c] w (InsPost w) := by
  obtain ⟨i0, hi, hz0, hz1, hz2⟩ := info_parts Try.infoInput
  have C := Lib.hid (fun W => cut_any A n c 160 W hn hc (by omega))
  obtain ⟨m, hm⟩ : ∃ m, m = min n 160 := ⟨_, rfl⟩
  have hm1 : m ≤ 160 := by omega
  rw [← hm] at C
  have hmn : m ≤ n := by omega
  have hr2 := hr.take m hmn
  have hl2 : ((ints l).take m) = ints (l.take m) := by simp
  rw [hl2] at hr2
  obtain ⟨lm, hlm⟩ : ∃ lm, lm = l.take m := ⟨_, rfl⟩
  rw [← hlm] at hr2
  have HR := Lib.hid hr2
  clear hr hr2 hl2 hlm hm hmn hn hc
  go_enter Try.func22, Try.ntmps22
  go_wp2_with fail
  refine (C.out _).mono ?_
  rintro e w' ⟨rfl, rfl⟩
  go_wp2_with fail
  obtain ⟨N, hN⟩ : ∃ N, N = w.heap.size := ⟨_, rfl⟩
  have hS0 : SrcAt (w.alloc (.cells #[.slice A m c, .int .i64 0] 51)) N A m c lm 0 := src_at HR.out (Ext.refl w) hN (by omega)
  have hE0 : Ext w (w.alloc (.cells #[.slice A m c, .int .i64 0] 51)) := (Ext.refl w).alloc _
  rw [← hN]
  have HN := Lib.hid hN
  clear hN
  go_loopw [4] (fun v wr => InsRel w N A m c lm v wr) (fun _ wr => m - (intOf ((wr.cell? ⟨N, 1, none⟩).getD undef)).toNat)
  case atStart => exact ⟨0, [], Lib.hid ⟨hS0, ⟨rfl, .inl ⟨rfl, rfl⟩⟩, hE0⟩, Nat.le_refl _⟩
  case round =>
    obtain ⟨i, il, hrl, hli⟩ := hrel
    obtain ⟨hs, hown, hE⟩ := hrl.out
    have hNw : w.heap.size ≤ N := Nat.le_of_eq HN.out.symm
    have hc1 : wr.cell? ⟨N, 1, none⟩ = some (.int .i64 i) := hs.c1
    have HC := Lib.hid hc1
    have him := hs.hi
    clear hc1 hS0 hE0 hrl
    go_wp2_with fail
    refine (left_any N A m c lm i _ hs).mono ?_
    rintro e X ⟨rfl, hEX⟩
    replace hs := hs.ext hEX
    replace hown := own_ext hown hEX
    replace hE := hE.trans hEX
    clear hEX
    by_cases hlt : i < m
    · rw [decide_eq_true hlt]
      go_wp2_with fail
      refine (input_any N A m c lm i _ hs).mono ?_
      rintro e Y ⟨k, x, j, rfl, hs2, hse, hij⟩
      have hown2 := hse.own hown (by omega)
      have hE2 := hE.se hse hNw
      replace hij := hij hlt
      have hNY : N < Y.heap.size := Ext.lt hs2.c0
      have HS := Lib.hid (And.intro hs2 hE2)
      clear hs hown hE hs2 hse hE2
      go_wp2_with (at_builtin; refine wpList_append_own _ rfl (.tmp 11) (.tmp 14) 31 rfl (N + 1) 24 i0 (.agg #[.int .i64 0, .int .i64 0]) 2 16 Try.underlying31 hi hz0 hz1 hz2 rfl (by decide) _ _ _ rfl (hown2.alloc _) ⟨Y.heap.size, 0, none⟩ 1 1 [.int .i64 k, .int .i64 x] rfl rfl ?c1 ?c2 ?c3 ?c4 ?c5 ?_)
      case c1 =>
        intro q u hq
        match q, hq with
        | 0, hq => simp at hq; subst hq; simp [Addr.add]
        | 1, hq => simp at hq; subst hq; simp [Addr.add]
      case c2 =>
        intro u hu
        simp at hu
        rcases hu with rfl | rfl <;> rfl
      case c3 => unfold maxLen; omega
      case c4 => omega
      case c5 => simp; omega
      intro v' w9 hown9 hgrow _
      obtain ⟨hs2, hE2⟩ := HS.out
      have hownA := hown2.alloc (.cells #[.int .i64 k, .int .i64 x] 24)
      have hEA := (Ext.refl Y).alloc (.cells #[.int .i64 k, .int .i64 x] 24)
      have hs9 := (hs2.ext hEA).grown hgrow (fun q hq => by
        rcases Nat.lt_or_ge N q with h | h
        · exact h
        · exact absurd hq (own_ne hownA (by omega)))
      have hE9 := (hE2.trans hEA).grown hownA (by omega) hgrow
      have H9 := Lib.hid (And.intro hs9 (And.intro hown9 hE9))
      clear hown2 HS hown9 hgrow hs2 hE2 hownA hEA hs9 hE9
      go_wp2
      go_roundw
      case rel =>
        obtain ⟨hs9, hown9, hE9⟩ := H9.out
        rw [icells_snoc] at hown9
        exact ⟨j, il ++ [(k, x)], Lib.hid ⟨hs9, by simpa using hown9, hE9⟩, by simp; omega⟩
      case measure =>
        have h1 := H9.out.1.c1
        have h2 := HC.out
        rw [h1, h2]
        simp [intOf]
        omega
    · rw [decide_eq_false hlt]
      obtain ⟨A', c', rfl, hc1, hc2⟩ := own_forms hown
      have HO := Lib.hid (And.intro hown hE)
      clear hown hE hs
      go_wp2
      go_ret
      exact ⟨A', c', il, rfl, own_lower HO.out.1 (by omega), hc1, by omega, HO.out.2⟩
end Go.Proofs.Ytidndcigloohoaa
