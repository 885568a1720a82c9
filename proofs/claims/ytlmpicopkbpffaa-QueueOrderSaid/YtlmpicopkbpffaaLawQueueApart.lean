/- QueueApart: the walk. -/
import Derived.Test.YtlmpicopkbpffaaLawQueueTwice
set_option linter.unusedVariables false
namespace Go.Proofs.Ytlmpicopkbpffaa
open Go.RowKit Go.Rg

/-- A value that is a slice of the bytes l. -/
def isBS (l : List Int) : Value → World → Prop := fun v w => BS w v l
theorem isBS.st (l : List Int) : Stable (isBS l) := fun _ _ _ e h => BS.lift h e
theorem comes_str {o : Oper} {a : Act} {w : World} {R : Value → World → Prop} (x : Operand) (ho : o.op = .convert 22 9 x) (v : Value) (hx : a.eval x = v) (l : List Int) (hb : BS w v l)
    (h : R (.string (strOfNums l)) w) : comes Try.prog o a w R := by
  obtain ⟨A, n, c, rfl, hr, _⟩ := hb
  have hs := bs_str (c := c) hr
  unfold comes execOp
  simp only [ho, hx, Sem.run_bind, hs, Result.andThen_ok, Sem.run_pure]
  exact h
/-- What Peek of all gives. -/
def PeekPost (w : World) (l : List Int) (e : Ending) (w' : World) : Prop := ∃ v, e = .returned v ∧ BS w' v l ∧ Ext w w'
theorem peek_all (A : Option Addr) (n c : Nat) (l : List Int) (w : World) (hr : Row w w.heap.size 1 A n (bytes l)) (hA : A = none → n = 0 ∧ c = 0) (hn : n ≤ 200) (hc : n ≤ c) (hcm : c ≤ 9223372036854775807) :
    Calls Try.prog 21 #[qu 200 A n c, .int .i64 200] w (PeekPost w l) := by
  refine (peek_any 200 A n c l 200 w hr hA (by omega) hc hcm).mono ?_
  rintro e w' ⟨v, h1, h2, h3⟩
  have hq : (qfirst 200 n 200).toNat = n := by
    have := qfirst_nat 200 n 200 ⟨by omega, by omega, by omega⟩
    rw [show ((200 : Nat) : Int) = 200 from rfl] at this
    omega
  have hl : l.length = n := by have := hr.len; simpa using this
  rw [hq, List.take_of_length_le (by omega)] at h2
  exact ⟨v, h1, BS.of_own h2, h3⟩
theorem qput_rest (a b : Nat) (h : a + b ≤ 200) : qput 200 a b = b := by
  unfold qput qroom
  rw [if_pos (show QOK 200 a from ⟨by omega, by omega, by omega⟩)]
  omega
/-- Put of one slice. -/
theorem put_new (A : Option Addr) (n c : Nat) (l : List Int) (sv : Value) (bl : List Int) (w : World) (hr : Row w w.heap.size 1 A n (bytes l)) (hA : A = none → n = 0 ∧ c = 0) (hs : BS w sv bl) (hn : n ≤ 100) (hl : bl.length ≤ 100) :
    Calls Try.prog 17 #[qu 200 A n c, .slice (some ⟨w.heap.size, 0, none⟩) 1 1] (w.alloc (.cells #[sv] 22)) fun e w' => ∃ v, e = .returned (.tuple #[v, .int .i64 (bl.length : Nat)]) ∧ QS w' v 200 (l ++ bl) ∧ Ext w w' := by
  have hE := (Ext.refl w).alloc (.cells #[sv] 22)
  refine (put1_any 200 A n c l w.heap.size sv bl _ (hr.lift hE) hA (Cells.new w _ _ _ rfl) (hs.lift hE) (by omega) (by omega)).mono ?_
  rintro e w' ⟨v, h1, h2, h3⟩
  have hln : l.length = n := by have := hr.len; simpa using this
  rw [qput_rest _ _ (by omega)] at h1 h2
  rw [List.take_of_length_le (Nat.le_refl _)] at h2
  exact ⟨v, h1, h2, hE.trans h3⟩
set_option maxHeartbeats 4000000 in
theorem law_qapart_ (A0 : Option Addr) (n0 c0 : Nat) (l0 : List Int) (A1 : Option Addr) (n1 c1 : Nat) (l1 : List Int) (A2 : Option Addr) (n2 c2 : Nat) (l2 : List Int) (w : World)
    (hr0 : Row w w.heap.size 1 A0 n0 (bytes l0)) (hc0 : n0 ≤ c0) (hcm0 : c0 ≤ 9223372036854775807) (hnil0 : A0 = none → n0 = 0 ∧ c0 = 0)
    (hr1 : Row w w.heap.size 1 A1 n1 (bytes l1)) (hc1 : n1 ≤ c1) (hcm1 : c1 ≤ 9223372036854775807) (hnil1 : A1 = none → n1 = 0 ∧ c1 = 0)
    (hr2 : Row w w.heap.size 1 A2 n2 (bytes l2)) (hc2 : n2 ≤ c2) (hcm2 : c2 ≤ 9223372036854775807) (hnil2 : A2 = none → n2 = 0 ∧ c2 = 0) :
    Calls Try.prog 7 #[.slice A0 n0 c0, .slice A1 n1 c1, .slice A2 n2 c2] w fun e w' => e = .returned (.bool true) ∧ Ext w w' := by
  obtain ⟨p0, hp0⟩ : ∃ p0, p0 = min n0 60 := ⟨_, rfl⟩
  have hp10 : p0 ≤ 60 := by omega
  have hp20 : p0 ≤ n0 := by omega
  have hp30 : p0 ≤ c0 := by omega
  have hr10 := short_bytes hr0 p0 hp20
  obtain ⟨b0, hb0⟩ : ∃ b0, b0 = l0.take p0 := ⟨_, rfl⟩
  rw [← hb0] at hr10
  have hbl0 : b0.length = p0 := by have := hr10.len; simpa using this
  have HS0 := Lib.hid (fun w => short_any A0 n0 c0 60 w hc0 hcm0 (by omega))
  rw [← hp0] at HS0
  have HL0 := Lib.hid hbl0
  have hnil10 : A0 = none → p0 = 0 ∧ c0 = 0 := fun h => by have := hnil0 h; omega
  have HR0 := Lib.hid (And.intro hr10 hnil10)
  clear hp0 hb0 hr0 hnil0 hnil10 hr10 hbl0
  obtain ⟨p1, hp1⟩ : ∃ p1, p1 = min n1 60 := ⟨_, rfl⟩
  have hp11 : p1 ≤ 60 := by omega
  have hp21 : p1 ≤ n1 := by omega
  have hp31 : p1 ≤ c1 := by omega
  have hr11 := short_bytes hr1 p1 hp21
  obtain ⟨b1, hb1⟩ : ∃ b1, b1 = l1.take p1 := ⟨_, rfl⟩
  rw [← hb1] at hr11
  have hbl1 : b1.length = p1 := by have := hr11.len; simpa using this
  have HS1 := Lib.hid (fun w => short_any A1 n1 c1 60 w hc1 hcm1 (by omega))
  rw [← hp1] at HS1
  have HL1 := Lib.hid hbl1
  have hnil11 : A1 = none → p1 = 0 ∧ c1 = 0 := fun h => by have := hnil1 h; omega
  have HR1 := Lib.hid (And.intro hr11 hnil11)
  clear hp1 hb1 hr1 hnil1 hnil11 hr11 hbl1
  obtain ⟨p2, hp2⟩ : ∃ p2, p2 = min n2 60 := ⟨_, rfl⟩
  have hp12 : p2 ≤ 60 := by omega
  have hp22 : p2 ≤ n2 := by omega
  have hp32 : p2 ≤ c2 := by omega
  have hr12 := short_bytes hr2 p2 hp22
  obtain ⟨b2, hb2⟩ : ∃ b2, b2 = l2.take p2 := ⟨_, rfl⟩
  rw [← hb2] at hr12
  have hbl2 : b2.length = p2 := by have := hr12.len; simpa using this
  have HS2 := Lib.hid (fun w => short_any A2 n2 c2 60 w hc2 hcm2 (by omega))
  rw [← hp2] at HS2
  have HL2 := Lib.hid hbl2
  have hnil12 : A2 = none → p2 = 0 ∧ c2 = 0 := fun h => by have := hnil2 h; omega
  have HR2 := Lib.hid (And.intro hr12 hnil12)
  clear hp2 hb2 hr2 hnil2 hnil12 hr12 hbl2
  go_enter Try.func7, Try.ntmps7
  go_wp2_with fail
  refine (HS0.out _).mono ?_
  rintro e w' ⟨rfl, rfl⟩
  go_wp2_with fail
  refine (HS1.out _).mono ?_
  rintro e w' ⟨rfl, rfl⟩
  go_wp2_with fail
  refine (HS2.out _).mono ?_
  rintro e w' ⟨rfl, rfl⟩
  go_wp2_with fail
  refine (new_any 200 _).mono ?_
  rw [show qcap 200 = 200 from by decide]
  rintro e w3 ⟨rfl, hE3⟩
  go_wp2_with fail
  have hE4 := hE3.alloc (.cells #[.slice A0 p0 c0] 22)
  refine (put1_any 200 none 0 0 [] w3.heap.size (.slice A0 p0 c0) b0 _ (by simpa using Row.nil) (fun _ => ⟨rfl, rfl⟩) (Cells.new w3 _ _ _ rfl) ⟨A0, p0, c0, rfl, HR0.out.1.lift hE4, hp30, hcm0, HR0.out.2⟩ (by omega) (by rw [HL0.out]; omega)).mono ?_
  rintro e w4 ⟨v, rfl, ⟨A3, n3, c3, rfl, hr3, hcb3, hcm3, hnil3⟩, hE5⟩
  rw [show ([] : List Int).length = 0 from rfl, qput_full _ (by rw [HL0.out]; omega), List.nil_append, List.take_of_length_le (Nat.le_refl _)] at hr3
  rw [show ([] : List Int).length = 0 from rfl, qput_full _ (by rw [HL0.out]; omega), HL0.out]
  obtain rfl : p0 = n3 := by have := hr3.len; simp at this; rw [← this]; exact HL0.out.symm
  have hE6 := hE4.trans hE5
  clear hE3 hE4 hE5
  obtain ⟨N7, hN7⟩ : ∃ N7, N7 = w4.heap.size := ⟨_, rfl⟩
  have hB7 : Box w.heap.size [.int .i64 200, .slice A3 p0 c3] N7 (w4.alloc (.cells #[.int .i64 200, .slice A3 p0 c3] 24)) := by rw [hN7]; exact Box.new (N := w.heap.size) w4 #[.int .i64 200, .slice A3 p0 c3] 24 _ hE6.size rfl
  have hE7 := hE6.alloc (.cells #[.int .i64 200, .slice A3 p0 c3] 24)
  have hr4 := hr3.lift ((Ext.refl _).alloc (.cells #[.int .i64 200, .slice A3 p0 c3] 24))
  obtain ⟨w5, hw5⟩ : ∃ w5, w5 = w4.alloc (.cells #[.int .i64 200, .slice A3 p0 c3] 24) := ⟨_, rfl⟩
  rw [← hw5] at hB7 hE7 hr4
  have W5 := Lib.hid (And.intro hw5 (And.intro hN7 (show N7 + 1 = w5.heap.size by rw [hw5, hN7]; simp)))
  have H5 := Lib.hid (And.intro hB7 (And.intro hE7 hr4))
  clear hw5 hN7 hB7 hE7 hr4 hE6 hr3
  go_wp2_with fail
  rw [← W5.out.1, ← W5.out.2.1, W5.out.2.2]
  refine (put_new A3 p0 c3 b0 (.slice A1 p1 c1) b1 w5 H5.out.2.2 hnil3 ⟨A1, p1, c1, rfl, HR1.out.1.lift H5.out.2.1, hp31, hcm1, HR1.out.2⟩ (by omega) (by rw [HL1.out]; omega)).mono ?_
  rintro e w6 ⟨v, rfl, ⟨A4, n4, c4, rfl, hr6, hcb4, hcm4, hnil4⟩, hE8⟩
  obtain rfl : n4 = p0 + p1 := by have := hr6.len; simp only [List.length_map, List.length_append] at this; have := HL0.out; have := HL1.out; omega
  rw [HL1.out]
  obtain ⟨hB7, hE7, hr5⟩ := H5.out
  have hE9 := (Ext.refl w6).alloc (.cells #[.int .i64 200, .slice A4 (p0 + p1) c4] 24)
  have hB76 := hB7.ext hE8
  have hB77 := hB76.ext hE9
  have hE10 := (hE7.trans hE8).trans hE9
  have hq7 := (hr5.lift hE8).lift hE9
  have hx7 := hr6.lift hE9
  obtain ⟨N9, hN9⟩ : ∃ N9, N9 = w6.heap.size := ⟨_, rfl⟩
  have hB9 : Box w.heap.size [.int .i64 200, .slice A4 (p0 + p1) c4] N9 (w6.alloc (.cells #[.int .i64 200, .slice A4 (p0 + p1) c4] 24)) := by rw [hN9]; exact Box.new (N := w.heap.size) w6 #[.int .i64 200, .slice A4 (p0 + p1) c4] 24 _ (hE7.trans hE8).size rfl
  obtain ⟨w7, hw7⟩ : ∃ w7, w7 = w6.alloc (.cells #[.int .i64 200, .slice A4 (p0 + p1) c4] 24) := ⟨_, rfl⟩
  rw [← hw7] at hB77 hE10 hq7 hx7 hB9
  have W7 := Lib.hid (And.intro hw7 (And.intro hN9 (show N9 + 1 = w7.heap.size by rw [hw7, hN9]; simp)))
  have hc76 := hB76.cell
  have hf76 := hB76.free
  simp only [List.length_cons, List.length_nil, Nat.zero_add, Nat.reduceAdd] at hc76
  have hl7 := hB76.lt
  have H7 := Lib.hid (And.intro hB77 (And.intro hE10 (And.intro hq7 (And.intro hx7 hB9))))
  clear hw7 hN9 hB77 hE10 hq7 hx7 hB9 hE9 hB76 hB7 hE7 hr5 H5 W5 hE8 hr6
  go_wp2_with fail
  rw [← W7.out.1, ← W7.out.2.1, W7.out.2.2]
  refine (put_new A3 p0 c3 b0 (.slice A2 p2 c2) b2 w7 H7.out.2.2.1 hnil3 ⟨A2, p2, c2, rfl, HR2.out.1.lift H7.out.2.1, hp32, hcm2, HR2.out.2⟩ (by omega) (by rw [HL2.out]; omega)).mono ?_
  rintro e w8 ⟨v, rfl, ⟨A5, n5, c5, rfl, hr8, hcb5, hcm5, hnil5⟩, hE11⟩
  obtain rfl : n5 = p0 + p2 := by have := hr8.len; simp only [List.length_map, List.length_append] at this; have := HL0.out; have := HL2.out; omega
  rw [HL2.out]
  obtain ⟨hB77, hE10, hq7, hx7, hB9⟩ := H7.out
  have hE12 := (Ext.refl w8).alloc (.cells #[.int .i64 200, .slice A5 (p0 + p2) c5] 24)
  have hB79 := (hB77.ext hE11).ext hE12
  have hB99 := (hB9.ext hE11).ext hE12
  obtain ⟨N11, hN11⟩ : ∃ N11, N11 = w8.heap.size := ⟨_, rfl⟩
  have hB119 : Box w.heap.size [.int .i64 200, .slice A5 (p0 + p2) c5] N11 (w8.alloc (.cells #[.int .i64 200, .slice A5 (p0 + p2) c5] 24)) := by rw [hN11]; exact Box.new (N := w.heap.size) w8 #[.int .i64 200, .slice A5 (p0 + p2) c5] 24 _ (hE10.trans hE11).size rfl
  have hE13 := (hE10.trans hE11).trans hE12
  have hq9 := (hq7.lift hE11).lift hE12
  have hx9 := (hx7.lift hE11).lift hE12
  have hy9 := hr8.lift hE12
  obtain ⟨w9, hw9⟩ : ∃ w9, w9 = w8.alloc (.cells #[.int .i64 200, .slice A5 (p0 + p2) c5] 24) := ⟨_, rfl⟩
  rw [← hw9] at hB79 hB99 hB119 hE13 hq9 hx9 hy9
  have W9 := Lib.hid (And.intro hw9 hN11)
  have P1 := Lib.hid (fun (W : World) (hX : Ext w9 W) => peek_all A4 (p0 + p1) c4 (b0 ++ b1) W (hx9.lift hX) hnil4 (by omega) hcb4 hcm4)
  have P2 := Lib.hid (fun (W : World) (hX : Ext w9 W) => peek_all A5 (p0 + p2) c5 (b0 ++ b2) W (hy9.lift hX) hnil5 (by omega) hcb5 hcm5)
  have P3 := Lib.hid (fun (W : World) (hX : Ext w9 W) => peek_all A3 p0 c3 b0 W (hq9.lift hX) hnil3 (by omega) hcb3 hcm3)
  have R0 := Lib.hid (fun (W : World) (hX : Ext w9 W) => (show BS W (.slice A0 p0 c0) b0 from ⟨A0, p0, c0, rfl, HR0.out.1.lift (hE13.trans hX), hp30, hcm0, HR0.out.2⟩))
  have R1 := Lib.hid (fun (W : World) (hX : Ext w9 W) => (show BS W (.slice A1 p1 c1) b1 from ⟨A1, p1, c1, rfl, HR1.out.1.lift (hE13.trans hX), hp31, hcm1, HR1.out.2⟩))
  have R2 := Lib.hid (fun (W : World) (hX : Ext w9 W) => (show BS W (.slice A2 p2 c2) b2 from ⟨A2, p2, c2, rfl, HR2.out.1.lift (hE13.trans hX), hp32, hcm2, HR2.out.2⟩))
  have hadd1 := strOfNums_append b0 b1
  have hadd2 := strOfNums_append b0 b2
  have z0 : (strOfNums b0).size ≤ 60 := by rw [strOfNums_size, HL0.out]; omega
  have z1 : (strOfNums b1).size ≤ 60 := by rw [strOfNums_size, HL1.out]; omega
  have z2 : (strOfNums b2).size ≤ 60 := by rw [strOfNums_size, HL2.out]; omega
  obtain ⟨S0, hS0⟩ : ∃ S, S = strOfNums b0 := ⟨_, rfl⟩
  obtain ⟨S1, hS1⟩ : ∃ S, S = strOfNums b1 := ⟨_, rfl⟩
  obtain ⟨S2, hS2⟩ : ∃ S, S = strOfNums b2 := ⟨_, rfl⟩
  have hz01 : ¬ (9223372036854775807 < S0.size + S1.size) := by rw [hS0, hS1]; omega
  have hz02 : ¬ (9223372036854775807 < S0.size + S2.size) := by rw [hS0, hS2]; omega
  obtain ⟨S01, hS01⟩ : ∃ S, S = strOfNums (b0 ++ b1) := ⟨_, rfl⟩
  obtain ⟨S02, hS02⟩ : ∃ S, S = strOfNums (b0 ++ b2) := ⟨_, rfl⟩
  rw [← hS0] at hadd1 hadd2 z0
  rw [← hS1] at hadd1 z1
  rw [← hS2] at hadd2 z2
  rw [← hS01] at hadd1
  rw [← hS02] at hadd2
  have HSS := Lib.hid (And.intro hS0 (And.intro hS1 (And.intro hS2 (And.intro hS01 hS02))))
  have hc079 := hB79.cell 0 (by simp)
  have hc179 := hB79.cell 1 (by simp)
  simp only [List.getElem?_cons_zero, List.getElem?_cons_succ] at hc079 hc179
  have hc099 := hB99.cell 0 (by simp)
  have hc199 := hB99.cell 1 (by simp)
  simp only [List.getElem?_cons_zero, List.getElem?_cons_succ] at hc099 hc199
  have hc0119 := hB119.cell 0 (by simp)
  have hc1119 := hB119.cell 1 (by simp)
  simp only [List.getElem?_cons_zero, List.getElem?_cons_succ] at hc0119 hc1119
  have hl79 := hB79.lt
  have hl99 := hB99.lt
  have hl119 := hB119.lt
  have H9 := Lib.hid hE13
  clear hS0 hS1 hS2 hS01 hS02 hB79 hB99 hB119 hE13 hq9 hx9 hy9 hw9 hN11 hE12 hB77 hE10 hq7 hx7 hB9 H7 W7 hE11 hr8 hc76 hf76
  go_wp2_with fail
  rw [← W9.out.1, ← W9.out.2]
  apply wp_region_ext 31 [is _, isBS (b0 ++ b1), is (.string S01), is _, is (.string S0), is _, is (.string S1), is (.string S01), is (.bool true), is (.bool true), is _, isBS (b0 ++ b2), is (.string S02), is _, is (.string S0), is _, is (.string S2), is (.string S02), is (.bool true), is _, is (.bool true), is _, isBS b0, is (.string S0), is _, is (.string S0), is _, is _, is (.bool true), is (.bool true), is _] (by kernel_rfl) (by kernel_rfl) rfl
  case hops =>
    simp only [List.take_succ_cons, List.take_zero]
    refine ⟨?_, ?_, ?_, ?_, ?_, ?_, ?_, ?_, ?_, ?_, ?_, ?_, ?_, ?_, ?_, ?_, ?_, ?_, ?_, ?_, ?_, ?_, ?_, ?_, ?_, ?_, ?_, ?_, ?_, ?_, ?_, trivial⟩
    all_goals
      intro vs x hd
      simp only [putAll, Act.put, List.setIfInBounds_toArray, List.set_cons_succ, List.set_cons_zero, Nat.zero_add, Nat.reduceAdd]
      simp [depFacts, is, isRow, isRowN, isBox, dataE] at hd
      try simp only [World.plus_plus] at hd
      simp only [Region.wanted, if_true]
      try simp [yielded, hd]
    rotate_left 1
    refine Lock.out ?_
    rotate_left 1
    refine Lock.out ?_
    rotate_left 2
    refine Lock.out ?_
    rotate_left 2
    refine Lock.out ?_
    rotate_left 5
    refine Lock.out ?_
    rotate_left 1
    refine Lock.out ?_
    rotate_left 2
    refine Lock.out ?_
    rotate_left 2
    refine Lock.out ?_
    rotate_left 6
    refine Lock.out ?_
    rotate_left 1
    refine Lock.out ?_
    rotate_left 2
    refine Lock.out ?_
    rotate_left 6
    all_goals
      try (
      with_reducible show comes _ _ _ _ _
      simp only [comes]
      try simp [yielded, hd, comes]
      go_simp
      try go_bits
      first
        | exact ⟨Ext.refl _, rfl⟩
        | exact rfl
        | exact ⟨(Ext.refl _).alloc _, _, rfl, Cells.new _ _ _ _ rfl⟩
        | exact ⟨(Ext.refl _).alloc _, _, rfl, Box.new _ _ _ _ (by simp [World.le_plus]) rfl⟩
        | ((go_at_call 15); refine (awake_any _).mono ?_; rintro e w' ⟨rfl, hE⟩; exact ⟨_, rfl, hE, rfl⟩)
      )
    · refine ⟨?_, trivial⟩
      (simp only [comes]; go_simp; go_at_call 21; refine (P1.out _ ((Ext.refl w9).plus_ x)).mono ?_; rintro e w' ⟨v, rfl, hb, hE⟩; exact ⟨_, rfl, hE, hb⟩)
    · refine ⟨?_, trivial⟩
      exact comes_str (.tmp 41) rfl (vs 1) rfl _ (hd) ⟨Ext.refl _, by show Value.string _ = _; rw [← HSS.out.2.2.2.1]⟩
    · refine ⟨?_, trivial⟩
      exact comes_str (.tmp 43) rfl (.slice A0 p0 c0) rfl b0 (R0.out _ ((Ext.refl w9).plus_ x)) ⟨Ext.refl _, by show Value.string _ = _; rw [← HSS.out.1]⟩
    · refine ⟨?_, trivial⟩
      exact comes_str (.tmp 45) rfl (.slice A1 p1 c1) rfl b1 (R1.out _ ((Ext.refl w9).plus_ x)) ⟨Ext.refl _, by show Value.string _ = _; rw [← HSS.out.2.1]⟩
    · refine ⟨?_, trivial⟩
      (simp only [comes]; go_simp; go_at_call 21; refine (P2.out _ ((Ext.refl w9).plus_ x)).mono ?_; rintro e w' ⟨v, rfl, hb, hE⟩; exact ⟨_, rfl, hE, hb⟩)
    · refine ⟨?_, trivial⟩
      exact comes_str (.tmp 51) rfl (vs 11) rfl _ (hd.1) ⟨Ext.refl _, by show Value.string _ = _; rw [← HSS.out.2.2.2.2]⟩
    · refine ⟨?_, trivial⟩
      exact comes_str (.tmp 53) rfl (.slice A0 p0 c0) rfl b0 (R0.out _ ((Ext.refl w9).plus_ x)) ⟨Ext.refl _, by show Value.string _ = _; rw [← HSS.out.1]⟩
    · refine ⟨?_, trivial⟩
      exact comes_str (.tmp 55) rfl (.slice A2 p2 c2) rfl b2 (R2.out _ ((Ext.refl w9).plus_ x)) ⟨Ext.refl _, by show Value.string _ = _; rw [← HSS.out.2.2.1]⟩
    · refine ⟨?_, trivial⟩
      (simp only [comes]; go_simp; go_at_call 21; refine (P3.out _ ((Ext.refl w9).plus_ x)).mono ?_; rintro e w' ⟨v, rfl, hb, hE⟩; exact ⟨_, rfl, hE, hb⟩)
    · refine ⟨?_, trivial⟩
      exact comes_str (.tmp 62) rfl (vs 22) rfl _ (hd.1) ⟨Ext.refl _, by show Value.string _ = _; rw [← HSS.out.1]⟩
    · refine ⟨?_, trivial⟩
      exact comes_str (.tmp 64) rfl (.slice A0 p0 c0) rfl b0 (R0.out _ ((Ext.refl w9).plus_ x)) ⟨Ext.refl _, by show Value.string _ = _; rw [← HSS.out.1]⟩
  case hst => exact ⟨(by apply is.st), (by apply isBS.st), (by apply is.st), (by apply is.st), (by apply is.st), (by apply is.st), (by apply is.st), (by apply is.st), (by apply is.st), (by apply is.st), (by apply is.st), (by apply isBS.st), (by apply is.st), (by apply is.st), (by apply is.st), (by apply is.st), (by apply is.st), (by apply is.st), (by apply is.st), (by apply is.st), (by apply is.st), (by apply is.st), (by apply isBS.st), (by apply is.st), (by apply is.st), (by apply is.st), (by apply is.st), (by apply is.st), (by apply is.st), (by apply is.st), (by apply is.st), trivial⟩
  case hfin =>
    intro vs x hf
    try simp only [World.plus_plus] at hf ⊢
    simp only [List.take_succ_cons, List.take_zero, List.drop_succ_cons, List.drop_zero, putAll, Act.put, List.setIfInBounds_toArray, List.set_cons_succ, List.set_cons_zero]
    simp only [facts, is, Nat.zero_add, Nat.reduceAdd] at hf
    simp only [Nat.zero_add, Nat.reduceAdd, hf]
    clear hf
    go_wp2
    go_ret
    exact ⟨rfl, H9.out.trans ((Ext.refl w9).plus_ x)⟩
theorem law_qapart (v0 v1 v2 : Value) (W : World) (o0 : ∃ A n c, ∃ l : List Int, v0 = .slice A n c ∧ ArgRow W A n c (l.map (Value.int .u8)) ∧ ∀ x ∈ l, 0 ≤ x ∧ x ≤ 255) (o1 : ∃ A n c, ∃ l : List Int, v1 = .slice A n c ∧ ArgRow W A n c (l.map (Value.int .u8)) ∧ ∀ x ∈ l, 0 ≤ x ∧ x ≤ 255)
    (o2 : ∃ A n c, ∃ l : List Int, v2 = .slice A n c ∧ ArgRow W A n c (l.map (Value.int .u8)) ∧ ∀ x ∈ l, 0 ≤ x ∧ x ≤ 255) :
    Calls Try.prog 7 #[v0, v1, v2] W fun e w' => e = .returned (.bool true) ∧ Ext W w' := by
  obtain ⟨A0, n0, c0, l0, rfl, ⟨hr0, h10, h20, h30⟩, _⟩ := o0
  obtain ⟨A1, n1, c1, l1, rfl, ⟨hr1, h11, h21, h31⟩, _⟩ := o1
  obtain ⟨A2, n2, c2, l2, rfl, ⟨hr2, h12, h22, h32⟩, _⟩ := o2
  exact law_qapart_ A0 n0 c0 l0 A1 n1 c1 l1 A2 n2 c2 l2 W hr0 h10 h20 h30 hr1 h11 h21 h31 hr2 h12 h22 h32
end Go.Proofs.Ytlmpicopkbpffaa
