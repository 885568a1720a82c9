/- config.Validate: its parts. -/
import Derived.Test.YtlcopiepcpangaaCfg1
import Derived.Test.YtlcopiepcpangaaBoxes
set_option linter.unusedVariables false
namespace Go.Proofs.Ytlcopiepcpangaa
open Go.RowKit Go.Rg

/-- A configuration, as the machine holds it. -/
structure Cf where
  mh : Int
  mb : Int
  mr : Int
  ci : Int
  co : Int
  cl : Int
  ad : Int
  li : Int
  st : Int
  ca : Int
  sh : Int
  te : Int
  di : Int
  dr : Int
  ds : Int
  rp : Int
  pA : Option Addr
  pn : Nat
  pc : Nat
  mi : Int
  nu : Int
  de : Int
  ho : Int
  wi : Int
  salt : ByteArray
  cook : ByteArray
  mir : Bool
  iA : Option Addr
  im : Nat
  ik : Nat
abbrev Cf.cells (c : Cf) : List Value := [.int .i64 c.mh, .int .i64 c.mb, .int .i64 c.mr, .int .i64 c.ci, .int .i64 c.co, .int .i64 c.cl, .int .i64 c.ad, .int .i64 c.li, .int .i64 c.st, .int .i64 c.ca, .int .i64 c.sh, .int .i64 c.te, .int .i64 c.di, .int .i64 c.dr, .int .i64 c.ds, .int .i64 c.rp,
  .slice c.pA c.pn c.pc, .int .i64 c.mi, .int .i64 c.nu, .int .i64 c.de, .int .i64 c.ho, .int .i64 c.wi, .string c.salt, .string c.cook, .bool c.mir, .slice c.iA c.im c.ik]
abbrev cv (c : Cf) : Value := .agg #[.int .i64 c.mh, .int .i64 c.mb, .int .i64 c.mr, .int .i64 c.ci, .int .i64 c.co, .int .i64 c.cl, .int .i64 c.ad, .int .i64 c.li, .int .i64 c.st, .int .i64 c.ca, .int .i64 c.sh, .int .i64 c.te, .int .i64 c.di, .int .i64 c.dr, .int .i64 c.ds, .int .i64 c.rp,
  .slice c.pA c.pn c.pc, .int .i64 c.mi, .int .i64 c.nu, .int .i64 c.de, .int .i64 c.ho, .int .i64 c.wi, .string c.salt, .string c.cook, .bool c.mir, .slice c.iA c.im c.ik]
/-- What a configuration's rows hold. -/
structure CfOK (c : Cf) (w : World) (wl : List Int) (ig : List ByteArray) : Prop where
  pr : Row w w.heap.size 1 c.pA c.pn (ints wl)
  ir : Row w w.heap.size 1 c.iA c.im (ig.map Value.string)
  pn : c.pn ≤ c.pc
  im : c.im ≤ c.ik
  pm : c.pc ≤ 9223372036854775807
  ikm : c.ik ≤ 9223372036854775807
  si : ∀ s ∈ ig, s.size ≤ 9223372036854775807
  ss : c.salt.size ≤ 9223372036854775807
  cs : c.cook.size ≤ 9223372036854775807
theorem CfOK.lift {c : Cf} {w w' : World} {wl : List Int} {ig : List ByteArray} (h : CfOK c w wl ig) (e : Ext w w') : CfOK c w' wl ig := ⟨h.pr.lift e, h.ir.lift e, h.pn, h.im, h.pm, h.ikm, h.si, h.ss, h.cs⟩
def szB (c : Cf) : Bool := inn 64 16384 c.mh && ((inn 0 100000 c.mb && inn 0 100000 c.mr) && (inn c.mh 100000 c.ci && (inn 1 100000 c.co && (inn 0 500000 c.te && inn 0 10000 c.rp))))
def cnB (c : Cf) : Bool := (inn 1 100 c.cl && (inn 1 100 c.ad && inn 1 100 c.li)) && ((inn 0 100 c.st && (inn 0 100 c.ca && inn 0 100 c.sh)) && (inn 1 1000000 c.di && (inn 1 1000000 c.dr && inn 1 1000000 c.ds)))
def nmB (c : Cf) (ig : List ByteArray) : Bool := ig.all tokB && (decide (c.im ≤ 16) && (decide (c.salt.size ≤ 64) && (decide (c.cook.size ≤ 64) && tokB c.cook)))
set_option maxHeartbeats 2000000 in
theorem sizes_core (c : Cf) (b0 b1 b2 b3 b4 b5 : Bool) (w : World)
    (C0 : Hid (∀ b w, Cells w b [.int .i64 c.mh] → Calls Try.prog 27 #[.int .i64 64, .int .i64 16384, .slice (some ⟨b, 0, none⟩) 1 1] w fun e w' => e = .returned (.bool b0) ∧ w = w'))
    (C1 : Hid (∀ b w, Cells w b [.int .i64 c.mb, .int .i64 c.mr] → Calls Try.prog 27 #[.int .i64 0, .int .i64 100000, .slice (some ⟨b, 0, none⟩) 2 2] w fun e w' => e = .returned (.bool b1) ∧ w = w'))
    (C2 : Hid (∀ b w, Cells w b [.int .i64 c.ci] → Calls Try.prog 27 #[.int .i64 c.mh, .int .i64 100000, .slice (some ⟨b, 0, none⟩) 1 1] w fun e w' => e = .returned (.bool b2) ∧ w = w'))
    (C3 : Hid (∀ b w, Cells w b [.int .i64 c.co] → Calls Try.prog 27 #[.int .i64 1, .int .i64 100000, .slice (some ⟨b, 0, none⟩) 1 1] w fun e w' => e = .returned (.bool b3) ∧ w = w'))
    (C4 : Hid (∀ b w, Cells w b [.int .i64 c.te] → Calls Try.prog 27 #[.int .i64 0, .int .i64 500000, .slice (some ⟨b, 0, none⟩) 1 1] w fun e w' => e = .returned (.bool b4) ∧ w = w'))
    (C5 : Hid (∀ b w, Cells w b [.int .i64 c.rp] → Calls Try.prog 27 #[.int .i64 0, .int .i64 10000, .slice (some ⟨b, 0, none⟩) 1 1] w fun e w' => e = .returned (.bool b5) ∧ w = w'))
    : Calls Try.prog 20 #[cv c] w fun e w' => e = .returned (.bool (b0 && (b1 && (b2 && (b3 && (b4 && b5)))))) ∧ Ext w w' := by
  go_enter Try.func20, Try.ntmps20
  go_wp2_with fail
  refine (C0.out _ _ ?_).mono ?_
  · repeat' (first | with_reducible assumption | ((with_reducible refine Cells.fresh ?fb ?fr); (case fb => first | omega | (simp <;> omega)); (case fr => rfl)) | with_reducible apply Cells.up | with_reducible apply Cells.drew_ | with_reducible apply Cells.plus_ | with_reducible refine Cells.off ?_ (by omega))
  rintro e w' ⟨rfl, rfl⟩
  cases b0
  · go_wp2
    go_ret
    exact ⟨rfl, (by repeat (first | exact Ext.refl _ | assumption | apply Ext.plus_ | apply Ext.alloc | apply Ext.drew))⟩
  clear C0
  go_wp2_with fail
  refine (C1.out _ _ ?_).mono ?_
  · repeat' (first | with_reducible assumption | ((with_reducible refine Cells.fresh ?fb ?fr); (case fb => first | omega | (simp <;> omega)); (case fr => rfl)) | with_reducible apply Cells.up | with_reducible apply Cells.drew_ | with_reducible apply Cells.plus_ | with_reducible refine Cells.off ?_ (by omega))
  rintro e w' ⟨rfl, rfl⟩
  cases b1
  · go_wp2
    go_ret
    exact ⟨rfl, (by repeat (first | exact Ext.refl _ | assumption | apply Ext.plus_ | apply Ext.alloc | apply Ext.drew))⟩
  clear C1
  go_wp2_with fail
  refine (C2.out _ _ ?_).mono ?_
  · repeat' (first | with_reducible assumption | ((with_reducible refine Cells.fresh ?fb ?fr); (case fb => first | omega | (simp <;> omega)); (case fr => rfl)) | with_reducible apply Cells.up | with_reducible apply Cells.drew_ | with_reducible apply Cells.plus_ | with_reducible refine Cells.off ?_ (by omega))
  rintro e w' ⟨rfl, rfl⟩
  cases b2
  · go_wp2
    go_ret
    exact ⟨rfl, (by repeat (first | exact Ext.refl _ | assumption | apply Ext.plus_ | apply Ext.alloc | apply Ext.drew))⟩
  clear C2
  go_wp2_with fail
  refine (C3.out _ _ ?_).mono ?_
  · repeat' (first | with_reducible assumption | ((with_reducible refine Cells.fresh ?fb ?fr); (case fb => first | omega | (simp <;> omega)); (case fr => rfl)) | with_reducible apply Cells.up | with_reducible apply Cells.drew_ | with_reducible apply Cells.plus_ | with_reducible refine Cells.off ?_ (by omega))
  rintro e w' ⟨rfl, rfl⟩
  cases b3
  · go_wp2
    go_ret
    exact ⟨rfl, (by repeat (first | exact Ext.refl _ | assumption | apply Ext.plus_ | apply Ext.alloc | apply Ext.drew))⟩
  clear C3
  go_wp2_with fail
  refine (C4.out _ _ ?_).mono ?_
  · repeat' (first | with_reducible assumption | ((with_reducible refine Cells.fresh ?fb ?fr); (case fb => first | omega | (simp <;> omega)); (case fr => rfl)) | with_reducible apply Cells.up | with_reducible apply Cells.drew_ | with_reducible apply Cells.plus_ | with_reducible refine Cells.off ?_ (by omega))
  rintro e w' ⟨rfl, rfl⟩
  cases b4
  · go_wp2
    go_ret
    exact ⟨rfl, (by repeat (first | exact Ext.refl _ | assumption | apply Ext.plus_ | apply Ext.alloc | apply Ext.drew))⟩
  clear C4
  go_wp2_with fail
  refine (C5.out _ _ ?_).mono ?_
  · repeat' (first | with_reducible assumption | ((with_reducible refine Cells.fresh ?fb ?fr); (case fb => first | omega | (simp <;> omega)); (case fr => rfl)) | with_reducible apply Cells.up | with_reducible apply Cells.drew_ | with_reducible apply Cells.plus_ | with_reducible refine Cells.off ?_ (by omega))
  rintro e w' ⟨rfl, rfl⟩
  go_wp2
  go_ret
  exact ⟨rfl, (by repeat (first | exact Ext.refl _ | assumption | apply Ext.plus_ | apply Ext.alloc | apply Ext.drew))⟩
theorem sizes_any (c : Cf) (w : World) : Calls Try.prog 20 #[cv c] w fun e w' => e = .returned (.bool (szB c)) ∧ Ext w w' :=
  sizes_core c _ _ _ _ _ _ w (Lib.hid fun b w h => cwithin1 64 16384 _ b w h) (Lib.hid fun b w h => cwithin2 0 100000 _ _ b w h) (Lib.hid fun b w h => cwithin1 c.mh 100000 _ b w h) (Lib.hid fun b w h => cwithin1 1 100000 _ b w h) (Lib.hid fun b w h => cwithin1 0 500000 _ b w h) (Lib.hid fun b w h => cwithin1 0 10000 _ b w h)
set_option maxHeartbeats 2000000 in
theorem counts_core (c : Cf) (b0 b1 b2 : Bool) (w : World)
    (C0 : Hid (∀ b w, Cells w b [.int .i64 c.cl, .int .i64 c.ad, .int .i64 c.li] → Calls Try.prog 27 #[.int .i64 1, .int .i64 100, .slice (some ⟨b, 0, none⟩) 3 3] w fun e w' => e = .returned (.bool b0) ∧ w = w'))
    (C1 : Hid (∀ b w, Cells w b [.int .i64 c.st, .int .i64 c.ca, .int .i64 c.sh] → Calls Try.prog 27 #[.int .i64 0, .int .i64 100, .slice (some ⟨b, 0, none⟩) 3 3] w fun e w' => e = .returned (.bool b1) ∧ w = w'))
    (C2 : Hid (∀ b w, Cells w b [.int .i64 c.di, .int .i64 c.dr, .int .i64 c.ds] → Calls Try.prog 27 #[.int .i64 1, .int .i64 1000000, .slice (some ⟨b, 0, none⟩) 3 3] w fun e w' => e = .returned (.bool b2) ∧ w = w'))
    : Calls Try.prog 21 #[cv c] w fun e w' => e = .returned (.bool (b0 && (b1 && b2))) ∧ Ext w w' := by
  go_enter Try.func21, Try.ntmps21
  go_wp2_with fail
  refine (C0.out _ _ ?_).mono ?_
  · repeat' (first | with_reducible assumption | ((with_reducible refine Cells.fresh ?fb ?fr); (case fb => first | omega | (simp <;> omega)); (case fr => rfl)) | with_reducible apply Cells.up | with_reducible apply Cells.drew_ | with_reducible apply Cells.plus_ | with_reducible refine Cells.off ?_ (by omega))
  rintro e w' ⟨rfl, rfl⟩
  cases b0
  · go_wp2
    go_ret
    exact ⟨rfl, (by repeat (first | exact Ext.refl _ | assumption | apply Ext.plus_ | apply Ext.alloc | apply Ext.drew))⟩
  clear C0
  go_wp2_with fail
  refine (C1.out _ _ ?_).mono ?_
  · repeat' (first | with_reducible assumption | ((with_reducible refine Cells.fresh ?fb ?fr); (case fb => first | omega | (simp <;> omega)); (case fr => rfl)) | with_reducible apply Cells.up | with_reducible apply Cells.drew_ | with_reducible apply Cells.plus_ | with_reducible refine Cells.off ?_ (by omega))
  rintro e w' ⟨rfl, rfl⟩
  cases b1
  · go_wp2
    go_ret
    exact ⟨rfl, (by repeat (first | exact Ext.refl _ | assumption | apply Ext.plus_ | apply Ext.alloc | apply Ext.drew))⟩
  clear C1
  go_wp2_with fail
  refine (C2.out _ _ ?_).mono ?_
  · repeat' (first | with_reducible assumption | ((with_reducible refine Cells.fresh ?fb ?fr); (case fb => first | omega | (simp <;> omega)); (case fr => rfl)) | with_reducible apply Cells.up | with_reducible apply Cells.drew_ | with_reducible apply Cells.plus_ | with_reducible refine Cells.off ?_ (by omega))
  rintro e w' ⟨rfl, rfl⟩
  go_wp2
  go_ret
  exact ⟨rfl, (by repeat (first | exact Ext.refl _ | assumption | apply Ext.plus_ | apply Ext.alloc | apply Ext.drew))⟩
theorem counts_any (c : Cf) (w : World) : Calls Try.prog 21 #[cv c] w fun e w' => e = .returned (.bool (cnB c)) ∧ Ext w w' :=
  counts_core c _ _ _ w (Lib.hid fun b w h => cwithin3 1 100 _ _ _ b w h) (Lib.hid fun b w h => cwithin3 0 100 _ _ _ b w h) (Lib.hid fun b w h => cwithin3 1 1000000 _ _ _ b w h)
theorem strs_at {w : World} {B n : Nat} {A : Option Addr} {l : List ByteArray} (h : Row w B 1 A n (l.map Value.string)) {k : Nat} (hk : k < n) :
    ∃ (b o : Nat) (s : ByteArray), A = some ⟨b, o, none⟩ ∧ b < B ∧ l[k]? = some s ∧ w.cell? ⟨b, o + k, none⟩ = some (.string s) := by
  have hl : l.length = n := by have := h.1; simpa using this
  obtain ⟨b, o, e, hb, hc⟩ := h.2 (by omega)
  have hs : l[k]? = some l[k] := List.getElem?_eq_getElem (by omega)
  exact ⟨b, o, l[k], e, hb, hs, hc k _ (by rw [List.getElem?_map, hs]; rfl)⟩
set_option maxHeartbeats 2000000 in
theorem names_any (c : Cf) (ig : List ByteArray) (w : World) (hr : Row w w.heap.size 1 c.iA c.im (ig.map Value.string)) (hm : c.im ≤ 9223372036854775807) (hs : ∀ s ∈ ig, s.size ≤ 9223372036854775807) (h1 : c.salt.size ≤ 9223372036854775807) (h2 : c.cook.size ≤ 9223372036854775807) :
    Calls Try.prog 22 #[cv c] w fun e w' => e = .returned (.bool (nmB c ig)) ∧ Ext w w' := by
  obtain ⟨mh, mb, mr, ci, co, cl, ad, li, st, ca, sh, te, di, dr, ds, rp, pA, pn, pc, mi, nu, de, ho, wi, salt, cook, mir, iA, im, ik⟩ := c
  simp only at hr hm h1 h2
  have hl : ig.length = im := by have := hr.1; simpa using this
  have HL := Lib.hid hl
  have HS := Lib.hid hs
  obtain ⟨r, hr0⟩ : ∃ r, r = nmB ⟨mh, mb, mr, ci, co, cl, ad, li, st, ca, sh, te, di, dr, ds, rp, pA, pn, pc, mi, nu, de, ho, wi, salt, cook, mir, iA, im, ik⟩ ig := ⟨_, rfl⟩
  have HR := Lib.hid hr0
  obtain ⟨N9, hN9⟩ : ∃ r, r = nmB ⟨mh, mb, mr, ci, co, cl, ad, li, st, ca, sh, te, di, dr, ds, rp, pA, pn, pc, mi, nu, de, ho, wi, salt, cook, mir, iA, im, ik⟩ ig := ⟨_, rfl⟩
  have H9 := Lib.hid hN9
  rw [← hr0]
  rw [← hN9] at HR
  clear hN9
  clear hr0 hl hs
  have CC := Lib.hid (fun w => token_any cook h2 w)
  obtain ⟨tc, htc⟩ : ∃ b, b = tokB cook := ⟨_, rfl⟩
  rw [← htc] at CC
  have HC := Lib.hid htc
  clear htc
  rcases Nat.eq_zero_or_pos im with h0 | h0
  · subst h0
    go_enter Try.func22, Try.ntmps22
    go_wp2
    go_loop [9] (fun i => ∃ k : Nat, k ≤ 0 ∧ i = .int .i64 k ∧ Hid (∀ j, j < k → ∀ s, ig[j]? = some s → tokB s = true)) (fun i => 0 - (intOf i).toNat)
    case atStart => exact ⟨0, Nat.zero_le _, rfl, Lib.hid (fun j h => absurd h (by omega))⟩
    case round =>
      obtain ⟨k, hk, rfl, hF⟩ := hrel
      by_cases hlt : k < 0
      · exact absurd hlt (by omega)
      · have HZ : Hid (ig.all tokB = true) := by
          refine Lib.hid ?_
          rw [List.all_eq_true]
          intro x hx
          obtain ⟨j, hj, rfl⟩ := List.getElem_of_mem hx
          exact hF.out j (by have := HL.out; omega) _ (List.getElem?_eq_getElem hj)
        have hq : r = (decide ((0 : Nat) ≤ 16) && (decide (salt.size ≤ 64) && (decide (cook.size ≤ 64) && tc))) := by
          rw [HR.out, H9.out, nmB, HZ.out, Bool.true_and, ← HC.out]
        clear HZ HR hF hr
        by_cases g1 : (0 : Nat) ≤ 16
        · rw [decide_eq_true g1, Bool.true_and] at hq
          by_cases g2 : salt.size ≤ 64
          · rw [decide_eq_true g2, Bool.true_and] at hq
            by_cases g3 : cook.size ≤ 64
            · rw [decide_eq_true g3, Bool.true_and] at hq
              subst hq
              go_wp2_with fail
              refine (CC.out _).mono ?_
              rintro e w' ⟨rfl, rfl⟩
              go_wp2
              go_ret
              exact ⟨rfl, (by repeat (first | exact Ext.refl _ | assumption | apply Ext.plus_ | apply Ext.alloc | apply Ext.drew))⟩
            · rw [decide_eq_false g3, Bool.false_and] at hq
              subst hq
              have d : decide ((cook.size : Int) ≤ 64) = false := decide_eq_false (by omega)
              clear g3
              go_wp2
              go_ret
              exact ⟨rfl, (by repeat (first | exact Ext.refl _ | assumption | apply Ext.plus_ | apply Ext.alloc | apply Ext.drew))⟩
          · rw [decide_eq_false g2, Bool.false_and] at hq
            subst hq
            have d : decide ((salt.size : Int) ≤ 64) = false := decide_eq_false (by omega)
            clear g2
            go_wp2
            go_ret
            exact ⟨rfl, (by repeat (first | exact Ext.refl _ | assumption | apply Ext.plus_ | apply Ext.alloc | apply Ext.drew))⟩
        · exact absurd (Nat.zero_le 16) g1
  · obtain ⟨b, o, _, rfl, _, _, _⟩ := strs_at hr h0
    go_enter Try.func22, Try.ntmps22
    go_wp2
    go_loop [9] (fun i => ∃ k : Nat, k ≤ im ∧ i = .int .i64 k ∧ Hid (∀ j, j < k → ∀ s, ig[j]? = some s → tokB s = true)) (fun i => im - (intOf i).toNat)
    case atStart => exact ⟨0, Nat.zero_le _, rfl, Lib.hid (fun j h => absurd h (by omega))⟩
    case round =>
      obtain ⟨k, hk, rfl, hF⟩ := hrel
      by_cases hlt : k < im
      · obtain ⟨b9, o9, s, hA, hb, hz, hcell⟩ := strs_at hr hlt
        have e0 : b = b9 ∧ o = o9 := by injection hA with hA; injection hA with h1 h2; exact ⟨h1, h2⟩
        obtain ⟨rfl, rfl⟩ := e0
        clear hA
        have hkk : k ≤ ik ∨ True := .inr trivial
        have hsz := HS.out s (List.mem_of_getElem? hz)
        have CT := Lib.hid (fun w => token_any s hsz w)
        obtain ⟨ts, hts⟩ : ∃ b, b = tokB s := ⟨_, rfl⟩
        rw [← hts] at CT
        have HT := Lib.hid (And.intro hts hz)
        clear hts hz hr hkk hsz
        go_wp2_with fail
        refine (CT.out _).mono ?_
        rintro e w' ⟨rfl, rfl⟩
        cases ts
        · have HZ : Hid (N9 = false) := by
            refine Lib.hid ?_
            have : ig.all tokB = false := by
              rw [List.all_eq_false]
              exact ⟨s, List.mem_of_getElem? HT.out.2, by rw [← HT.out.1]; simp⟩
            rw [H9.out, nmB, this, Bool.false_and]
          obtain rfl : r = false := HR.out.trans HZ.out
          clear HZ HR hF
          go_wp2
          go_ret
          exact ⟨rfl, (by repeat (first | exact Ext.refl _ | assumption | apply Ext.plus_ | apply Ext.alloc | apply Ext.drew))⟩
        · go_wp2
          go_round
          case rel => exact ⟨k + 1, hlt, by go_num, Lib.hid (fun j hj q hq => by
            rcases Nat.lt_or_ge j k with h | h
            · exact hF.out j h q hq
            · obtain rfl : j = k := by omega
              rw [HT.out.2] at hq
              injection hq with hq
              rw [← hq, ← HT.out.1])⟩
          case measure => simp [intOf]; omega
      · have HZ : Hid (ig.all tokB = true) := by
          refine Lib.hid ?_
          rw [List.all_eq_true]
          intro x hx
          obtain ⟨j, hj, rfl⟩ := List.getElem_of_mem hx
          exact hF.out j (by have := HL.out; omega) _ (List.getElem?_eq_getElem hj)
        have hq : r = (decide (im ≤ 16) && (decide (salt.size ≤ 64) && (decide (cook.size ≤ 64) && tc))) := by
          rw [HR.out, H9.out, nmB, HZ.out, Bool.true_and, ← HC.out]
        clear HZ HR hF hr
        by_cases g1 : im ≤ 16
        · rw [decide_eq_true g1, Bool.true_and] at hq
          by_cases g2 : salt.size ≤ 64
          · rw [decide_eq_true g2, Bool.true_and] at hq
            by_cases g3 : cook.size ≤ 64
            · rw [decide_eq_true g3, Bool.true_and] at hq
              subst hq
              go_wp2_with fail
              refine (CC.out _).mono ?_
              rintro e w' ⟨rfl, rfl⟩
              go_wp2
              go_ret
              exact ⟨rfl, (by repeat (first | exact Ext.refl _ | assumption | apply Ext.plus_ | apply Ext.alloc | apply Ext.drew))⟩
            · rw [decide_eq_false g3, Bool.false_and] at hq
              subst hq
              have d : decide ((cook.size : Int) ≤ 64) = false := decide_eq_false (by omega)
              clear g3
              go_wp2
              go_ret
              exact ⟨rfl, (by repeat (first | exact Ext.refl _ | assumption | apply Ext.plus_ | apply Ext.alloc | apply Ext.drew))⟩
          · rw [decide_eq_false g2, Bool.false_and] at hq
            subst hq
            have d : decide ((salt.size : Int) ≤ 64) = false := decide_eq_false (by omega)
            clear g2
            go_wp2
            go_ret
            exact ⟨rfl, (by repeat (first | exact Ext.refl _ | assumption | apply Ext.plus_ | apply Ext.alloc | apply Ext.drew))⟩
        · rw [decide_eq_false g1, Bool.false_and] at hq
          subst hq
          have d : decide ((im : Int) ≤ 16) = false := decide_eq_false (by omega)
          clear g1
          go_wp2
          go_ret
          exact ⟨rfl, (by repeat (first | exact Ext.refl _ | assumption | apply Ext.plus_ | apply Ext.alloc | apply Ext.drew))⟩
end Go.Proofs.Ytlcopiepcpangaa
