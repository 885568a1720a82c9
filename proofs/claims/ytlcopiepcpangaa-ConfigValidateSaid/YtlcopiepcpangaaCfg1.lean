/- Ranges: config.within and the reference's in. -/
import Derived.Test.YtlcopiepcpangaaCfg0
import Derived.Test.YtlcopiepcpangaaPlan
set_option linter.unusedVariables false
namespace Go.Proofs.Ytlcopiepcpangaa
open Go.RowKit Go.Rg

def inn (lo hi n : Int) : Bool := decide (lo ≤ n ∧ n ≤ hi)
set_option maxHeartbeats 1000000 in
theorem in_any (n lo hi : Int) (w : World) : Calls Try.prog 24 #[.int .i64 n, .int .i64 lo, .int .i64 hi] w fun e w' => e = .returned (.bool (inn lo hi n)) ∧ w = w' := by
  go_enter Try.func24, Try.ntmps24
  go_wp2
  all_goals
    go_ret
    refine ⟨congrArg (fun b => Ending.returned (.bool b)) ?_, rfl⟩
    rw [Bool.eq_iff_iff]
    simp [inn]
    try omega
set_option maxHeartbeats 1000000 in
theorem cwithin_any (lo hi : Int) (A : Option Addr) (n c : Nat) (l : List Int) (w : World) (hr : Row w w.heap.size 1 A n (ints l)) (hn : n ≤ 9223372036854775807) :
    Calls Try.prog 27 #[.int .i64 lo, .int .i64 hi, .slice A n c] w fun e w' => e = .returned (.bool (l.all (inn lo hi))) ∧ w = w' := by
  have hl := ints_len hr
  obtain ⟨r, hr0⟩ : ∃ r, r = l.all (inn lo hi) := ⟨_, rfl⟩
  have HR := Lib.hid hr0
  have HL := Lib.hid hl
  rw [← hr0]
  clear hr0 hl
  go_enter Try.func27, Try.ntmps27
  go_wp2
  go_loop [11] (fun i => ∃ k : Nat, k ≤ n ∧ i = .int .i64 k ∧ Hid (∀ j, j < k → inn lo hi (l.getD j 0) = true)) (fun i => n - (intOf i).toNat)
  case atStart => exact ⟨0, Nat.zero_le _, rfl, Lib.hid (fun j h => absurd h (by omega))⟩
  case round =>
    obtain ⟨k, hk, rfl, hF⟩ := hrel
    by_cases hlt : k < n
    · obtain ⟨b, o, z, rfl, hb, hz, hcell⟩ := hr.int_at hlt
      have hg := getD_of hz
      by_cases hin : lo ≤ z ∧ z ≤ hi
      · obtain ⟨h1, h2⟩ := hin
        have HZ : Hid (inn lo hi (l.getD k 0) = true) := Lib.hid (by rw [hg]; exact decide_eq_true ⟨h1, h2⟩)
        clear hr hz hg
        go_wp2
        go_round
        case rel => exact ⟨k + 1, hlt, by go_num, Lib.hid (fun j hj => by
          rcases Nat.lt_or_ge j k with h | h
          · exact hF.out j h
          · obtain rfl : j = k := by omega
            exact HZ.out)⟩
        case measure => simp [intOf]; omega
      · have HZ : Hid (l.all (inn lo hi) = false) := by
          refine Lib.hid ?_
          rw [List.all_eq_false]
          refine ⟨z, List.mem_of_getElem? hz, ?_⟩
          simp only [inn, decide_eq_true_eq]
          exact hin
        obtain rfl : r = false := HR.out.trans HZ.out
        clear HZ HR hF hr hz hg
        rcases Int.lt_or_le z lo with h1 | h1
        · clear hin
          go_wp2
          go_ret
          exact ⟨rfl, rfl⟩
        · have h2 : hi < z := by omega
          clear hin
          go_wp2
          go_ret
          exact ⟨rfl, rfl⟩
    · have HZ : Hid (l.all (inn lo hi) = true) := by
        refine Lib.hid ?_
        rw [List.all_eq_true]
        intro x hx
        obtain ⟨j, hj, rfl⟩ := List.getElem_of_mem hx
        have := hF.out j (by have := HL.out; omega)
        simpa [List.getD, List.getElem?_eq_getElem hj] using this
      obtain rfl : r = true := HR.out.trans HZ.out
      clear HZ HR hF hr
      go_wp2
      go_ret
      exact ⟨rfl, rfl⟩
def isB (b : Bool) : Ending := .returned (.bool b)
theorem cwithin1 (lo hi x : Int) (b : Nat) (w : World) (hb : Cells w b [.int .i64 x]) :
    Calls Try.prog 27 #[.int .i64 lo, .int .i64 hi, .slice (some ⟨b, 0, none⟩) 1 1] w fun e w' => e = .returned (.bool (inn lo hi x)) ∧ w = w' := by
  have := cwithin_any lo hi (some ⟨b, 0, none⟩) 1 1 [x] w ⟨rfl, fun _ => ⟨b, 0, rfl, hb.1, fun j u hu => by simpa using hb.2 j u hu⟩⟩ (by decide)
  simpa using this
theorem cwithin2 (lo hi x y : Int) (b : Nat) (w : World) (hb : Cells w b [.int .i64 x, .int .i64 y]) :
    Calls Try.prog 27 #[.int .i64 lo, .int .i64 hi, .slice (some ⟨b, 0, none⟩) 2 2] w fun e w' => e = .returned (.bool (inn lo hi x && inn lo hi y)) ∧ w = w' := by
  have := cwithin_any lo hi (some ⟨b, 0, none⟩) 2 2 [x, y] w ⟨rfl, fun _ => ⟨b, 0, rfl, hb.1, fun j u hu => by simpa using hb.2 j u hu⟩⟩ (by decide)
  simpa using this
theorem cwithin3 (lo hi x y z : Int) (b : Nat) (w : World) (hb : Cells w b [.int .i64 x, .int .i64 y, .int .i64 z]) :
    Calls Try.prog 27 #[.int .i64 lo, .int .i64 hi, .slice (some ⟨b, 0, none⟩) 3 3] w fun e w' => e = .returned (.bool (inn lo hi x && (inn lo hi y && inn lo hi z))) ∧ w = w' := by
  have := cwithin_any lo hi (some ⟨b, 0, none⟩) 3 3 [x, y, z] w ⟨rfl, fun _ => ⟨b, 0, rfl, hb.1, fun j u hu => by simpa using hb.2 j u hu⟩⟩ (by decide)
  simpa using this
end Go.Proofs.Ytlcopiepcpangaa
