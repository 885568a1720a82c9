/- Tokens: ascii.Token and its reference. -/
import Derived.Test.YtlcopiepcpangaaNum0
import Derived.Test.YtlcopiepcpangaaRg
import Derived.Lib.Bytealg
set_option linter.unusedVariables false
namespace Go.Proofs.Ytlcopiepcpangaa
open Go.RowKit Go.Rg

/-- The bytes of a token. -/
def letC (c : UInt8) : Bool := decide ((65 ≤ c.toNat ∧ c.toNat ≤ 90) ∨ (97 ≤ c.toNat ∧ c.toNat ≤ 122) ∨ (48 ≤ c.toNat ∧ c.toNat ≤ 57))
def spec : List UInt8 := [33, 35, 36, 37, 38, 39, 42, 43, 45, 46, 94, 95, 96, 124, 126]
def tokC (c : UInt8) : Bool := letC c || spec.contains c
def tokB (s : ByteArray) : Bool := s.data.toList.all tokC && !s.toList.isEmpty
set_option maxHeartbeats 1000000 in
theorem indexByte_run (s : ByteArray) (c : Int) (w : World) :
    Calls Try.prog 34 #[.string s, .int .u8 c] w fun e w' => e = .returned (.int .i64 (Lib.indexByte s.data.toList c.toNat.toUInt8)) ∧ w = w' := by
  go_enter Try.func34, Try.ntmps34
  go_wp2
  rw [run_callFunc_extern Try.func36 (by kernel_rfl) (by kernel_rfl) (by kernel_rfl) (e := Extern.BytealgIndexByte.indexByte) (by kernel_rfl), Lib.run_indexByteString]
  simp only [Result.andThen]
  rw [Oper.upon_value]
  go_wp2
  go_ret
  exact ⟨rfl, rfl⟩
theorem indexByte_mem (l : List UInt8) (c : UInt8) : decide (Lib.indexByte l c < 0) = !l.contains c := by
  induction l with
  | nil => rfl
  | cons b l ih =>
    unfold Lib.indexByte
    have hg := Lib.indexByte_ge l c
    by_cases hb : (b == c) = true
    · have he : b = c := by simpa using hb
      subst he
      simp
    · have hb' : (b == c) = false := by simpa using hb
      have hc : (c == b) = false := by
        rw [beq_eq_false_iff_ne] at hb' ⊢
        exact fun e => hb' e.symm
      rw [hb', List.contains_cons, hc, Bool.false_or, ← ih]
      simp only [Bool.false_eq_true, if_false]
      split
      · rename_i h
        have : Lib.indexByte l c = -1 := by simpa using h
        rw [this]
      · rename_i h
        have h2 : Lib.indexByte l c ≠ -1 := by simpa using h
        rw [Bool.eq_iff_iff]
        simp only [decide_eq_true_eq]
        omega
set_option maxHeartbeats 1000000 in
theorem letter_any (c : UInt8) (w : World) : Calls Try.prog 33 #[.int .u8 c.toNat] w fun e w' => e = .returned (.bool (letC c)) ∧ w = w' := by
  go_enter Try.func33, Try.ntmps33
  go_wp2
  all_goals
    go_ret
    refine ⟨congrArg (fun b => Ending.returned (.bool b)) ?_, rfl⟩
    rw [Bool.eq_iff_iff]
    simp [letC]
    try omega
set_option maxHeartbeats 1000000 in
theorem digit_any (c : UInt8) (w : World) : Calls Try.prog 31 #[.int .u8 c.toNat] w fun e w' => e = .returned (.bool (decide (48 ≤ c.toNat ∧ c.toNat ≤ 57))) ∧ w = w' := by
  go_enter Try.func31, Try.ntmps31
  go_wp2
  all_goals
    go_ret
    refine ⟨congrArg (fun b => Ending.returned (.bool b)) ?_, rfl⟩
    rw [Bool.eq_iff_iff]
    simp
    try omega
theorem byte_at {s : ByteArray} {k : Nat} (h : k < s.size) : s[k] = s.data.toList.getD k 0 := by
  have hl : k < s.data.toList.length := by rw [← Lib.size_eq]; exact h
  simp [List.getD, List.getElem?_eq_getElem hl]
  rfl
theorem all_of {s : ByteArray} (h : ∀ j, j < s.size → tokC (s.data.toList.getD j 0) = true) : s.data.toList.all tokC = true := by
  rw [List.all_eq_true]
  intro x hx
  obtain ⟨j, hj, rfl⟩ := List.getElem_of_mem hx
  have := h j (by rw [Lib.size_eq]; exact hj)
  simpa [List.getD, List.getElem?_eq_getElem hj] using this
theorem tokB_no {s : ByteArray} {k : Nat} (hk : k < s.size) (h : tokC s[k] = false) : tokB s = false := by
  have hl : k < s.data.toList.length := by rw [← Lib.size_eq]; exact hk
  have : s.data.toList.all tokC = false := by
    rw [List.all_eq_false]
    refine ⟨s.data.toList[k], List.getElem_mem hl, ?_⟩
    rw [byte_at hk] at h
    simp [List.getD, List.getElem?_eq_getElem hl] at h
    simpa using h
  simp [tokB, this]
theorem tokB_yes {s : ByteArray} (h : ∀ j, j < s.size → tokC (s.data.toList.getD j 0) = true) : tokB s = !s.toList.isEmpty := by
  unfold tokB
  rw [all_of h, Bool.true_and]
theorem toNat_back (c : UInt8) : ((c.toNat : Nat) : Int).toNat.toUInt8 = c := by simp
set_option maxHeartbeats 1000000 in
theorem token_any (s : ByteArray) (hs : s.size ≤ 9223372036854775807) (w : World) : Calls Try.prog 28 #[.string s] w fun e w' => e = .returned (.bool (tokB s)) ∧ w = w' := by
  go_enter Try.func28, Try.ntmps28
  go_wp2
  go_loop [6] (fun i => ∃ k : Nat, k ≤ s.size ∧ i = .int .i64 k ∧ Hid (∀ j, j < k → tokC (s.data.toList.getD j 0) = true)) (fun i => s.size - (intOf i).toNat)
  case atStart => exact ⟨0, Nat.zero_le _, rfl, Lib.hid (fun j h => absurd h (by omega))⟩
  case round =>
    obtain ⟨k, hk, rfl, hF⟩ := hrel
    by_cases hlt : k < s.size
    · have C1 := Lib.hid (fun w => letter_any s[k] w)
      have C2 := Lib.hid (fun w => indexByte_run ⟨#[33, 35, 36, 37, 38, 39, 42, 43, 45, 46, 94, 95, 96, 124, 126]⟩ s[k].toNat w)
      rw [toNat_back] at C2
      have hz := indexByte_mem spec s[k]
      obtain ⟨z, hz0⟩ : ∃ z, z = Lib.indexByte spec s[k] := ⟨_, rfl⟩
      rw [← hz0] at hz
      rw [show Lib.indexByte (ByteArray.mk #[33, 35, 36, 37, 38, 39, 42, 43, 45, 46, 94, 95, 96, 124, 126]).data.toList s[k] = z from hz0.symm] at C2
      obtain ⟨b1, hb1⟩ : ∃ b, b = letC s[k] := ⟨_, rfl⟩
      rw [← hb1] at C1
      have HB := Lib.hid (And.intro hb1 hz)
      clear hb1 hz hz0
      go_wp2_with fail
      refine (C1.out _).mono ?_
      rintro e w' ⟨rfl, rfl⟩
      cases b1
      · go_wp2_with fail
        refine (C2.out _).mono ?_
        rintro e w' ⟨rfl, rfl⟩
        by_cases hz : z < 0
        · have hq := HB.out.2
          have hl := HB.out.1
          rw [decide_eq_true hz] at hq
          have hno : tokC s[k] = false := by
            rw [tokC, ← hl]
            simpa using hq.symm
          have HT := Lib.hid (tokB_no hlt hno)
          clear hq hl hno
          go_wp2
          go_ret
          exact ⟨by rw [HT.out]; rfl, rfl⟩
        · have hz2 : decide (z < 0) = false := decide_eq_false hz
          go_wp2
          go_round
          case rel => exact ⟨k + 1, hlt, by go_num, Lib.hid (fun j hj => by
            rcases Nat.lt_or_ge j k with h | h
            · exact hF.out j h
            · obtain rfl : j = k := by omega
              rw [← byte_at hlt, tokC]
              (have hq := HB.out.2; rw [hz2] at hq; simpa using Or.inr (by simpa using hq.symm)))⟩
          case measure => simp [intOf]; omega
      · go_wp2
        go_round
        case rel => exact ⟨k + 1, hlt, by go_num, Lib.hid (fun j hj => by
          rcases Nat.lt_or_ge j k with h | h
          · exact hF.out j h
          · obtain rfl : j = k := by omega
            rw [← byte_at hlt, tokC]
            rw [← HB.out.1, Bool.true_or])⟩
        case measure => simp [intOf]; omega
    · obtain rfl : k = s.size := by omega
      have HT := Lib.hid (tokB_yes hF.out)
      clear hF
      go_wp2_with fail
      go_ret
      exact ⟨by rw [HT.out]; rfl, rfl⟩
set_option maxHeartbeats 1000000 in
theorem has_any (s : ByteArray) (c : UInt8) (hs : s.size ≤ 9223372036854775807) (w : World) : Calls Try.prog 32 #[.string s, .int .u8 c.toNat] w fun e w' => e = .returned (.bool (s.data.toList.contains c)) ∧ w = w' := by
  obtain ⟨r, hr⟩ : ∃ r, r = s.data.toList.contains c := ⟨_, rfl⟩
  have HR := Lib.hid hr
  rw [← hr]
  clear hr
  go_enter Try.func32, Try.ntmps32
  go_wp2
  go_loop [5] (fun i => ∃ k : Nat, k ≤ s.size ∧ i = .int .i64 k ∧ Hid (∀ j, j < k → s.data.toList.getD j 0 ≠ c)) (fun i => s.size - (intOf i).toNat)
  case atStart => exact ⟨0, Nat.zero_le _, rfl, Lib.hid (fun j h => absurd h (by omega))⟩
  case round =>
    obtain ⟨k, hk, rfl, hF⟩ := hrel
    by_cases hlt : k < s.size
    · by_cases he : s[k] = c
      · have HT : Hid (s.data.toList.contains c = true) := by
          have hl : k < s.data.toList.length := by rw [← Lib.size_eq]; exact hlt
          rw [byte_at hlt] at he
          simp [List.getD, List.getElem?_eq_getElem hl] at he
          have := List.getElem_mem hl
          rw [show s.data.toList[k] = c by simpa using he] at this
          exact Lib.hid (by simpa using this)
        obtain rfl : r = true := HR.out.trans HT.out
        clear hF HR HT
        subst he
        go_wp2
        go_ret
        exact ⟨rfl, rfl⟩
      · have h2 : ((s[k].toNat : Int) == (c.toNat : Int)) = false := by
          rw [beq_eq_false_iff_ne]
          intro h
          exact he (UInt8.toNat_inj.1 (by omega))
        have HE := Lib.hid he
        clear he
        go_wp2
        go_round
        case rel => exact ⟨k + 1, hlt, by go_num, Lib.hid (fun j hj => by
          rcases Nat.lt_or_ge j k with h | h
          · exact hF.out j h
          · obtain rfl : j = k := by omega
            rw [← byte_at hlt]
            exact HE.out)⟩
        case measure => simp [intOf]; omega
    · obtain rfl : k = s.size := by omega
      have HT : Hid (s.data.toList.contains c = false) := by
        refine Lib.hid ?_
        rw [Bool.eq_false_iff]
        intro h
        obtain ⟨j, hj, e⟩ := List.getElem_of_mem (by simpa using h : c ∈ s.data.toList)
        refine hF.out j (by rw [Lib.size_eq]; exact hj) ?_
        simpa [List.getD, List.getElem?_eq_getElem hj] using e
      obtain rfl : r = false := HR.out.trans HT.out
      clear hF HR HT
      go_wp2_with fail
      go_ret
      exact ⟨rfl, rfl⟩
theorem tokC_eq (c : UInt8) : tokC c = (decide (65 ≤ c.toNat ∧ c.toNat ≤ 90) || decide (97 ≤ c.toNat ∧ c.toNat ≤ 122) || decide (48 ≤ c.toNat ∧ c.toNat ≤ 57) || spec.contains c) := by
  unfold tokC
  congr 1
  rw [Bool.eq_iff_iff]
  simp only [letC, decide_eq_true_eq, Bool.or_eq_true]
  omega
set_option maxHeartbeats 2000000 in
theorem refToken_any (s : ByteArray) (hs : s.size ≤ 9223372036854775807) (w : World) : Calls Try.prog 26 #[.string s] w fun e w' => e = .returned (.bool (tokB s)) ∧ w = w' := by
  obtain ⟨r, hr⟩ : ∃ r, r = tokB s := ⟨_, rfl⟩
  have HR := Lib.hid hr
  rw [← hr]
  clear hr
  go_enter Try.func26, Try.ntmps26
  go_wp2
  go_loop [3] (fun i => ∃ k : Nat, k ≤ s.size ∧ i = .int .i64 k ∧ Hid (∀ j, j < k → tokC (s.data.toList.getD j 0) = true)) (fun i => s.size - (intOf i).toNat)
  case atStart => exact ⟨0, Nat.zero_le _, rfl, Lib.hid (fun j h => absurd h (by omega))⟩
  case round =>
    obtain ⟨k, hk, rfl, hF⟩ := hrel
    by_cases hlt : k < s.size
    · have C1 := Lib.hid (fun w => digit_any s[k] w)
      have C2 := Lib.hid (fun w => has_any ⟨#[33, 35, 36, 37, 38, 39, 42, 43, 45, 46, 94, 95, 96, 124, 126]⟩ s[k] (by decide) w)
      rw [show (ByteArray.mk #[33, 35, 36, 37, 38, 39, 42, 43, 45, 46, 94, 95, 96, 124, 126]).data.toList = spec from rfl] at C2
      obtain ⟨b2, hb2⟩ : ∃ b, b = spec.contains s[k] := ⟨_, rfl⟩
      rw [← hb2] at C2
      obtain ⟨b1, hb1⟩ : ∃ b, b = decide (48 ≤ s[k].toNat ∧ s[k].toNat ≤ 57) := ⟨_, rfl⟩
      rw [← hb1] at C1
      have ht := tokC_eq s[k]
      rw [← hb1, ← hb2] at ht
      clear hb1 hb2
      by_cases h65 : (65 : Int) ≤ s[k].toNat ∧ (s[k].toNat : Int) ≤ 90
      · obtain ⟨g1, g2⟩ := h65
        have HB : Hid (tokC s[k] = true) := Lib.hid (by rw [ht, decide_eq_true (by omega)]; simp)
        clear ht
        go_wp2
        all_goals
          go_round
          case rel => exact ⟨k + 1, hlt, by go_num, Lib.hid (fun j hj => by
            rcases Nat.lt_or_ge j k with h | h
            · exact hF.out j h
            · obtain rfl : j = k := by omega
              rw [← byte_at hlt]
              exact HB.out)⟩
          case measure => simp [intOf]; omega
      · by_cases h97 : (97 : Int) ≤ s[k].toNat ∧ (s[k].toNat : Int) ≤ 122
        · obtain ⟨g1, g2⟩ := h97
          have HB : Hid (tokC s[k] = true) := Lib.hid (by rw [ht, decide_eq_true (show 97 ≤ s[k].toNat ∧ s[k].toNat ≤ 122 by omega)]; simp)
          have d1 : decide ((s[k].toNat : Int) ≤ 90) = false := decide_eq_false (by omega)
          clear ht h65
          go_wp2
          all_goals
            go_round
            case rel => exact ⟨k + 1, hlt, by go_num, Lib.hid (fun j hj => by
              rcases Nat.lt_or_ge j k with h | h
              · exact hF.out j h
              · obtain rfl : j = k := by omega
                rw [← byte_at hlt]
                exact HB.out)⟩
            case measure => simp [intOf]; omega
        · rw [decide_eq_false (show ¬ (65 ≤ s[k].toNat ∧ s[k].toNat ≤ 90) by omega), decide_eq_false (show ¬ (97 ≤ s[k].toNat ∧ s[k].toNat ≤ 122) by omega), Bool.false_or, Bool.false_or] at ht
          have HT0 := Lib.hid ht
          clear ht
          have hw : ((s[k].toNat : Int) < 65) ∨ ((65 : Int) ≤ s[k].toNat ∧ (90 : Int) < s[k].toNat ∧ (s[k].toNat : Int) < 97) ∨ ((65 : Int) ≤ s[k].toNat ∧ (90 : Int) < s[k].toNat ∧ (97 : Int) ≤ s[k].toNat ∧ (122 : Int) < s[k].toNat) := by omega
          clear h65 h97
          rcases hw with g1 | ⟨g1, g2, g3⟩ | ⟨g1, g2, g3, g4⟩
          all_goals
            try have d1 : decide ((s[k].toNat : Int) ≤ 90) = false := decide_eq_false (by omega)
            try have d2 : decide ((s[k].toNat : Int) ≤ 122) = false := decide_eq_false (by omega)
            go_wp2_with fail
            refine (C1.out _).mono ?_
            rintro e w' ⟨rfl, rfl⟩
            cases b1
            · go_wp2_with fail
              refine (C2.out _).mono ?_
              rintro e w' ⟨rfl, rfl⟩
              cases b2
              · have HT := Lib.hid (tokB_no hlt HT0.out)
                obtain rfl : r = false := HR.out.trans HT.out
                clear HR HT hF
                go_wp2
                go_ret
                exact ⟨rfl, rfl⟩
              · have HB : Hid (tokC s[k] = true) := Lib.hid HT0.out
                go_wp2
                all_goals
                  go_round
                  case rel => exact ⟨k + 1, hlt, by go_num, Lib.hid (fun j hj => by
                    rcases Nat.lt_or_ge j k with h | h
                    · exact hF.out j h
                    · obtain rfl : j = k := by omega
                      rw [← byte_at hlt]
                      exact HB.out)⟩
                  case measure => simp [intOf]; omega
            · have HB : Hid (tokC s[k] = true) := Lib.hid HT0.out
              go_wp2
              all_goals
                go_round
                case rel => exact ⟨k + 1, hlt, by go_num, Lib.hid (fun j hj => by
                  rcases Nat.lt_or_ge j k with h | h
                  · exact hF.out j h
                  · obtain rfl : j = k := by omega
                    rw [← byte_at hlt]
                    exact HB.out)⟩
                case measure => simp [intOf]; omega
    · obtain rfl : k = s.size := by omega
      have HT := Lib.hid (tokB_yes hF.out)
      clear hF
      go_wp2_with fail
      go_ret
      exact ⟨by rw [HR.out, HT.out]; rfl, rfl⟩
end Go.Proofs.Ytlcopiepcpangaa
