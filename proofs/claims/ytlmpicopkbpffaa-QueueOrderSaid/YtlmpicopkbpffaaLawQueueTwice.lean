/- QueueTwice: the walk. -/
import Derived.Test.YtlmpicopkbpffaaQueueB
import Derived.Test.YtlmpicopkbpffaaWithin
import Derived.Test.YtlmpicopkbpffaaOpen
set_option linter.unusedVariables false
namespace Go.Proofs.Ytlmpicopkbpffaa
open Go.RowKit Go.Rg

theorem short_any (A : Option Addr) (n c : Nat) (m : Nat) (w : World) (hc : n ≤ c) (hcm : c ≤ 9223372036854775807) (hm : m ≤ 1000) :
    Calls Try.prog 22 #[.slice A n c, .int .i64 (m : Nat)] w fun e w' => e = .returned (.slice A (min n m) c) ∧ w = w' := by
  rcases Nat.lt_or_ge m n with h | h
  · rw [show min n m = m by omega]
    have h1 : (m : Int) ≤ (c : Int) := by omega
    have h2 : (m : Int) < (n : Int) := by omega
    go_enter Try.func22, Try.ntmps22
    go_wp2
    go_ret
    exact ⟨rfl, rfl⟩
  · rw [show min n m = n by omega]
    go_enter Try.func22, Try.ntmps22
    go_wp2
    go_ret
    exact ⟨rfl, rfl⟩
theorem qput_full (b : Nat) (hb : b ≤ 200) : qput 200 0 b = b := by
  unfold qput qroom
  rw [if_pos (show QOK 200 0 from ⟨by omega, by omega, by omega⟩)]
  simp
  omega
theorem qfirst_nat (k : Int) (n m : Nat) (h : QOK k n) : (qfirst k n (m : Int)).toNat = min m n := by
  unfold qfirst
  rw [if_pos h]
  rw [if_neg (by omega)]
  split <;> omega
theorem strOfNums_append (x y : List Int) : strOfNums x ++ strOfNums y = strOfNums (x ++ y) := by
  unfold strOfNums
  rw [ByteArray.mk_append_mk]
  simp
theorem short_bytes {w : World} {A : Option Addr} {n : Nat} {l : List Int} (h : Row w w.heap.size 1 A n (bytes l)) (m : Nat) (hm : m ≤ n) : Row w w.heap.size 1 A m (bytes (l.take m)) := by
  have := h.take m hm
  simpa using this
set_option maxHeartbeats 4000000 in
theorem law_qtwice_ (A : Option Addr) (n c : Nat) (l : List Int) (x y : Int) (w : World) (hr : Row w w.heap.size 1 A n (bytes l)) (hc : n ≤ c) (hcm : c ≤ 9223372036854775807) (hnil : A = none → n = 0 ∧ c = 0) :
    Calls Try.prog 6 #[.slice A n c, .int .i64 x, .int .i64 y] w fun e w' => e = .returned (.bool true) ∧ Ext w w' := by
  obtain ⟨p, hp⟩ : ∃ p, p = min n 200 := ⟨_, rfl⟩
  have hp1 : p ≤ 200 := by omega
  have hp2 : p ≤ n := by omega
  have hp3 : p ≤ c := by omega
  have hr1 := short_bytes hr p hp2
  obtain ⟨b, hb⟩ : ∃ b, b = l.take p := ⟨_, rfl⟩
  rw [← hb] at hr1
  have hbl : b.length = p := by have := hr1.len; simpa using this
  obtain ⟨a1, ha1⟩ := Int.eq_ofNat_of_zero_le (Int.emod_nonneg x (show (210 : Int) ≠ 0 by decide))
  obtain ⟨a2, ha2⟩ := Int.eq_ofNat_of_zero_le (Int.emod_nonneg y (show (210 : Int) ≠ 0 by decide))
  have hx : x % 210 < 210 := Int.emod_lt_of_pos x (by decide)
  have hy : y % 210 < 210 := Int.emod_lt_of_pos y (by decide)
  have hl1 : a1 < 210 := by omega
  have hl2 : a2 < 210 := by omega
  clear hx hy
  have HS := Lib.hid (fun w => short_any A n c 200 w hc hcm (by omega))
  rw [← hp] at HS
  have HX := Lib.hid (And.intro ha1 ha2)
  have HL := Lib.hid hbl
  have hnil1 : A = none → p = 0 ∧ c = 0 := fun h => by have := hnil h; omega
  have HR := Lib.hid (And.intro hr1 hnil1)
  clear hp hb hr hnil hnil1 hr1 ha1 ha2 hbl
  go_enter Try.func6, Try.ntmps6
  go_wp2_with fail
  refine (HS.out _).mono ?_
  rintro e w' ⟨rfl, rfl⟩
  go_wp2_with fail
  refine (new_any 200 _).mono ?_
  rw [show qcap 200 = 200 from by decide]
  rintro e w1 ⟨rfl, hE1⟩
  go_wp2_with fail
  have hE2 := hE1.alloc (.cells #[.slice A p c] 22)
  refine (put1_any 200 none 0 0 [] w1.heap.size (.slice A p c) b _ (by simpa using Row.nil) (fun _ => ⟨rfl, rfl⟩) (Cells.new w1 _ _ _ rfl) ⟨A, p, c, rfl, HR.out.1.lift hE2, hp3, hcm, HR.out.2⟩ (by omega) (by rw [HL.out]; omega)).mono ?_
  rintro e w2 ⟨v, rfl, ⟨A2, n2, c2, rfl, hr2, hcb2, hcm2, hnil2⟩, hE3⟩
  rw [show ([] : List Int).length = 0 from rfl, qput_full _ (by rw [HL.out]; exact hp1), List.nil_append, List.take_of_length_le (Nat.le_refl _)] at hr2
  rw [show ([] : List Int).length = 0 from rfl, qput_full _ (by rw [HL.out]; exact hp1), HL.out]
  obtain rfl : p = n2 := by have := hr2.len; simp at this; rw [← this]; exact HL.out.symm
  have hE4 := hE2.trans hE3
  have hok : QOK 200 p := ⟨by omega, by omega, by omega⟩
  obtain ⟨f1, hf1⟩ : ∃ f1, f1 = min a1 p := ⟨_, rfl⟩
  obtain ⟨f2, hf2⟩ : ∃ f2, f2 = min a2 (p - f1) := ⟨_, rfl⟩
  have q1 := qfirst_nat 200 p a1 hok
  have q2 := qfirst_nat 200 (p - f1) a2 ⟨by omega, by omega, by omega⟩
  have q3 := qfirst_nat 200 p (a1 + a2) hok
  rw [← hf1] at q1
  rw [← hf2] at q2
  rw [show min (a1 + a2) p = f1 + f2 by omega] at q3
  have g1 : f1 ≤ p := by omega
  have g2 : f2 ≤ p - f1 := by omega
  have g3 : f1 + f2 ≤ p := by omega
  have HQ := Lib.hid (And.intro q1 (And.intro q2 q3))
  clear q1 q2 q3 hf1 hf2 hok hE1 hE2 hE3
  have hB7 := (Box.new (N := w.heap.size) w2 #[.int .i64 200, .slice A2 p c2] 24 _ hE4.size rfl)
  have T1 := take_any 200 A2 p c2 b a1 (w2.alloc (.cells #[.int .i64 200, .slice A2 p c2] 24)) (hr2.lift ((Ext.refl _).alloc _)) hnil2 (by omega)
  rw [HQ.out.1] at T1
  have hE5 := hE4.alloc (.cells #[.int .i64 200, .slice A2 p c2] 24)
  have hr3 := hr2.lift ((Ext.refl _).alloc (.cells #[.int .i64 200, .slice A2 p c2] 24))
  obtain ⟨N7, hN7⟩ : ∃ N7, N7 = w2.heap.size := ⟨_, rfl⟩
  obtain ⟨w3, hw3⟩ : ∃ w3, w3 = w2.alloc (.cells #[.int .i64 200, .slice A2 p c2] 24) := ⟨_, rfl⟩
  have W3 := Lib.hid (And.intro hw3 hN7)
  rw [← hw3] at T1 hE5 hr3 hB7
  rw [← hN7] at hB7
  have H3 := Lib.hid (And.intro hB7 (And.intro hE5 (And.intro hr3 T1)))
  clear hw3 hN7 hE4 hr2 hB7 T1 hE5 hr3
  go_wp2_with fail
  refine (within_any x 210 _ (by omega) (by omega)).mono ?_
  rw [HX.out.1]
  rintro e w' ⟨rfl, rfl⟩
  go_wp2_with fail
  refine (within_any y 210 _ (by omega) (by omega)).mono ?_
  rw [HX.out.2]
  rintro e w' ⟨rfl, rfl⟩
  go_wp2_with fail
  rw [← W3.out.1, ← W3.out.2]
  refine H3.out.2.2.2.mono ?_
  rintro e w4 ⟨v, v', rfl, ⟨X4, n4, c4, rfl, hr4, hcb4, hcm4, hnil4⟩, ⟨Y4, m4, d4, rfl, hs4, hsb4, hsm4, hsnil4⟩, hE4⟩
  obtain rfl : f1 = n4 := by have := hr4.len; simp only [List.length_map, List.length_take, List.length_drop] at this; have := HL.out; omega
  obtain rfl : m4 = (p - f1) := by have := hs4.len; simp only [List.length_map, List.length_take, List.length_drop] at this; have := HL.out; omega
  obtain ⟨hB7, hE5, hr3, _⟩ := H3.out
  have hB74 := hB7.ext hE4
  have hE6 := hE5.trans hE4
  have hr4' := hr3.lift hE4
  clear hB7 hE5 hr3 H3 W3
  have hE7 := hE6.alloc (.cells #[.int .i64 200, .slice Y4 (p - f1) d4] 24)
  have T2 := take_any 200 Y4 (p - f1) d4 (b.drop f1) a2 (w4.alloc (.cells #[.int .i64 200, .slice Y4 (p - f1) d4] 24)) (hs4.lift ((Ext.refl _).alloc _)) hsnil4 (by omega)
  rw [HQ.out.2.1] at T2
  have hE8 := (Ext.refl w4).alloc (.cells #[.int .i64 200, .slice Y4 (p - f1) d4] 24)
  have hB78 := hB74.ext hE8
  have hr48 := hr4.lift hE8
  have hr48' := hr4'.lift hE8
  have H4 := Lib.hid (And.intro hB78 (And.intro hE7 (And.intro hr48 (And.intro hr48' T2))))
  clear hB74 hE4 hE6 hE7 hE8 hr4 hr4' hs4 hnil4 hsnil4 hr48 hr48' T2 hB78
  go_wp2_with fail
  refine H4.out.2.2.2.2.mono ?_
  rintro e w5 ⟨v, v', rfl, ⟨X5, n5, c5, rfl, hr5, hcb5, hcm5, hnil5⟩, ⟨Y5, m5, d5, rfl, hs5, hsb5, hsm5, hsnil5⟩, hE5⟩
  obtain rfl : f2 = n5 := by have := hr5.len; simp only [List.length_map, List.length_take, List.length_drop] at this; have := HL.out; omega
  obtain rfl : m5 = (p - f1 - f2) := by have := hs5.len; simp only [List.length_map, List.length_take, List.length_drop] at this; have := HL.out; omega
  obtain ⟨hB78, hE7, hr48, hr48', _⟩ := H4.out
  have hB75 := hB78.ext hE5
  have hE9 := hE7.trans hE5
  have hx5 := hr48.lift hE5
  have hq5 := hr48'.lift hE5
  clear hB78 hE7 hr48 hr48' H4 hE5 hnil5
  have hc75 := hB75.cell
  have hf75 := hB75.free
  simp only [List.length_cons, List.length_nil, Nat.zero_add, Nat.reduceAdd] at hc75
  have hl7 := hB75.lt
  have hE10 := (Ext.refl w5).alloc (.cells #[.int .i64 200, .slice Y5 (p - f1 - f2) d5] 24)
  have T3 := take_any 200 A2 p c2 b ((a1 : Int) + (a2 : Int)) (w5.alloc (.cells #[.int .i64 200, .slice Y5 (p - f1 - f2) d5] 24)) (hq5.lift hE10) hnil2 (by omega)
  rw [show (a1 : Int) + (a2 : Int) = ((a1 + a2 : Nat) : Int) by omega, HQ.out.2.2, show ((a1 + a2 : Nat) : Int) = (a1 : Int) + (a2 : Int) by omega] at T3
  have hB12 := (Box.new (N := w.heap.size) w5 #[.int .i64 200, .slice Y5 (p - f1 - f2) d5] 24 _ hE9.size rfl)
  have hE11 := hE9.trans hE10
  have hx6 := hx5.lift hE10
  have hy6 := hr5.lift hE10
  have hs6 := hs5.lift hE10
  have H5 := Lib.hid (And.intro hB12 (And.intro hE11 (And.intro hx6 (And.intro hy6 (And.intro hs6 T3)))))
  clear hB75 hE9 hE10 hx5 hq5 hE11 hx6 hy6 hs6 T3 hB12 hr5 hs5 hsnil5
  go_wp2_with fail
  refine H5.out.2.2.2.2.2.mono ?_
  rintro e w6 ⟨v, v', rfl, ⟨X6, n6, c6, rfl, hr6, hcb6, hcm6, hnil6⟩, ⟨Y6, m6, d6, rfl, hs6, hsb6, hsm6, hsnil6⟩, hE6⟩
  obtain rfl : (f1 + f2) = n6 := by have := hr6.len; simp only [List.length_map, List.length_take, List.length_drop] at this; have := HL.out; omega
  obtain rfl : m6 = (p - (f1 + f2)) := by have := hs6.len; simp only [List.length_map, List.length_take, List.length_drop] at this; have := HL.out; omega
  obtain ⟨hB12, hE11, hx6, hy6, hs6, _⟩ := H5.out
  have hB126 := hB12.ext hE6
  have hE12 := hE11.trans hE6
  have hE13 := (Ext.refl w6).alloc (.cells #[.int .i64 200, .slice Y6 (p - (f1 + f2)) d6] 24)
  have sx := bs_str (c := c4) ((hx6.lift hE6).lift hE13)
  have sy := bs_str (c := c5) ((hy6.lift hE6).lift hE13)
  have sz := bs_str (c := c6) (hr6.lift hE13)
  have hadd := strOfNums_append (b.take f1) ((b.drop f1).take f2)
  rw [show b.take f1 ++ (b.drop f1).take f2 = b.take (f1 + f2) from List.take_add.symm] at hadd
  have zx : (strOfNums (b.take f1)).size ≤ 200 := by rw [strOfNums_size]; simp; omega
  have zy : (strOfNums ((b.drop f1).take f2)).size ≤ 200 := by rw [strOfNums_size]; simp; omega
  obtain ⟨SX, hSX⟩ : ∃ SX, SX = strOfNums (b.take f1) := ⟨_, rfl⟩
  obtain ⟨SY, hSY⟩ : ∃ SY, SY = strOfNums ((b.drop f1).take f2) := ⟨_, rfl⟩
  obtain ⟨SZ, hSZ⟩ : ∃ SZ, SZ = strOfNums (b.take (f1 + f2)) := ⟨_, rfl⟩
  rw [← hSX] at sx hadd zx
  rw [← hSY] at sy hadd zy
  rw [← hSZ] at sz hadd
  have hss := (hs6.lift hE6).lift hE13
  have hsu := hs6
  rw [List.drop_drop] at hss
  have hu := (show Row w6 w6.heap.size 1 Y6 (p - (f1 + f2)) (bytes (b.drop (f1 + f2))) by assumption).lift hE13
  have C7 := same_any 200 Y5 (p - f1 - f2) d5 Y6 (p - (f1 + f2)) d6 (b.drop (f1 + f2)) _ hss hu
  have hE14 := hE12.trans hE13
  have H6 := Lib.hid (And.intro C7 hE14)
  have hc126 := hB126.cell
  have hf126 := hB126.free
  simp only [List.length_cons, List.length_nil, Nat.zero_add, Nat.reduceAdd] at hc126
  have hl12 := hB126.lt
  clear hSX hSY hSZ hB12 hE11 hx6 hy6 hs6 hB126 hE12 hE13 hss hsu hu C7 hE14 hE6 hr6 hnil6 hsnil6 H5 HQ
  go_wp2_with fail
  refine H6.out.1.mono ?_
  rintro e w7 ⟨rfl, hE15⟩
  have H7 := Lib.hid (H6.out.2.trans hE15)
  clear hE15 H6
  go_wp2_with fail
  refine (awake_any _).mono ?_
  rintro e w8 ⟨rfl, hE16⟩
  have H8 := Lib.hid (H7.out.trans hE16)
  clear hE16 H7
  go_wp2
  go_ret
  exact ⟨rfl, H8.out⟩
theorem law_qtwice (v0 v1 v2 : Value) (W : World) (o0 : ∃ A n c, ∃ l : List Int, v0 = .slice A n c ∧ ArgRow W A n c (l.map (Value.int .u8)) ∧ ∀ x ∈ l, 0 ≤ x ∧ x ≤ 255) (o1 : ∃ m, v1 = .int .i64 m ∧ I64 m) (o2 : ∃ m, v2 = .int .i64 m ∧ I64 m) :
    Calls Try.prog 6 #[v0, v1, v2] W fun e w' => e = .returned (.bool true) ∧ Ext W w' := by
  obtain ⟨A, n, c, l, rfl, ⟨hr, h1, h2, h3⟩, _⟩ := o0
  obtain ⟨x, rfl, _⟩ := o1
  obtain ⟨y, rfl, _⟩ := o2
  exact law_qtwice_ A n c l x y W hr h1 h2 h3
end Go.Proofs.Ytlmpicopkbpffaa
