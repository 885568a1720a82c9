/- QueuePut: the walk. -/
import Derived.Test.YtlmpicopkbpffaaLawQueueApart
set_option linter.unusedVariables false
namespace Go.Proofs.Ytlmpicopkbpffaa
open Go.RowKit Go.Rg

/-- A queue and a number. -/
def isPutV (k : Int) (l : List Int) (q : Nat) : Value → World → Prop := fun v w => ∃ v', v = .tuple #[v', .int .i64 (q : Nat)] ∧ QS w v' k l
theorem isPutV.st (k : Int) (l : List Int) (q : Nat) : Stable (isPutV k l q) := fun _ _ _ e ⟨v', h1, h2⟩ => ⟨v', h1, h2.lift e⟩
def isQS (k : Int) (l : List Int) : Value → World → Prop := fun v w => QS w v k l
theorem isQS.st (k : Int) (l : List Int) : Stable (isQS k l) := fun _ _ _ e h => QS.lift h e
def isBoxT (N : Nat) (t : TypeId) (cs : List Value) : Value → World → Prop := fun v w => ∃ b, v = .pointer (some ⟨b, 0, none⟩) ∧ BoxT N t cs b w
theorem isBoxT.st2 {N M c : Nat} {t e : TypeId} {cs : List Value} (ht : t ≠ e := by decide) : Stable2 N e c (isBoxT M t cs) := fun _ _ _ hE ⟨b, h1, h2⟩ => by
  split at hE
  · exact ⟨b, h1, h2.big hE ht⟩
  · exact ⟨b, h1, h2.ext hE⟩
theorem same_qs (k : Int) (u v : Value) (l : List Int) (w : World) (h : QS w u k l) (h' : QS w v k l) :
    Calls Try.prog 9 #[u, v] w fun e w' => e = .returned (.bool true) ∧ Ext w w' := by
  obtain ⟨A, n, c, rfl, hr, _⟩ := h
  obtain ⟨A', n', c', rfl, hr', _⟩ := h'
  exact same_any k A n c A' n' c' l w hr hr'
set_option maxHeartbeats 8000000 in
set_option maxRecDepth 100000 in
theorem law_qput_ (k : Int) (A : Option Addr) (n c : Nat) (l : List Int) (A1 : Option Addr) (n1 c1 : Nat) (l1 : List Int) (A2 : Option Addr) (n2 c2 : Nat) (l2 : List Int) (mo ta : Int) (raw : Bool) (w : World)
    (hr : Row w w.heap.size 1 A n (bytes l)) (hc : n ≤ c) (hcm : c ≤ 9223372036854775807) (hnil : A = none → n = 0 ∧ c = 0)
    (hr1 : Row w w.heap.size 1 A1 n1 (bytes l1)) (hc1 : n1 ≤ c1) (hcm1 : c1 ≤ 9223372036854775807) (hnil1 : A1 = none → n1 = 0 ∧ c1 = 0)
    (hr2 : Row w w.heap.size 1 A2 n2 (bytes l2)) (hc2 : n2 ≤ c2) (hcm2 : c2 ≤ 9223372036854775807) (hnil2 : A2 = none → n2 = 0 ∧ c2 = 0)
    (hn : n ≤ 1048576) (hn1 : n1 ≤ 1048576) (hn2 : n2 ≤ 1048576) :
    Calls Try.prog 4 #[qu k A n c, .slice A1 n1 c1, .slice A2 n2 c2, .int .i64 mo, .int .i64 ta, .bool raw] w fun e w' => e = .returned (.bool true) ∧ Ext w w' := by
  obtain ⟨i0, hi, hz0, hz1, hz2⟩ := info_parts Try.infoByte
  have HL := Lib.hid (show l.length = n by have := hr.len; simpa using this)
  have HL1 := Lib.hid (show l1.length = n1 by have := hr1.len; simpa using this)
  have HL2 := Lib.hid (show l2.length = n2 by have := hr2.len; simpa using this)
  have HR := Lib.hid (And.intro hr hnil)
  have HR1 := Lib.hid (And.intro hr1 hnil1)
  have HR2 := Lib.hid (And.intro hr2 hnil2)
  clear hr hnil hr1 hnil1 hr2 hnil2
  have hB0 := Box.new (N := w.heap.size) w #[.int .i64 k, .slice A n c] 24 _ (Nat.le_refl _) rfl
  have hE0 := (Ext.refl w).alloc (.cells #[.int .i64 k, .slice A n c] 24)
  obtain ⟨N, hN⟩ : ∃ N, N = w.heap.size := ⟨_, rfl⟩
  obtain ⟨w0, hw0⟩ : ∃ w0, w0 = w.alloc (.cells #[.int .i64 k, .slice A n c] 24) := ⟨_, rfl⟩
  rw [← hw0] at hB0 hE0
  rw [← hN] at hB0
  have W0 := Lib.hid (And.intro hw0 hN)
  have hf0 := hB0.free
  have hl0 := hB0.lt
  have hb0 : w.heap.size ≤ N := by omega
  have hc00 := hB0.cell 0 (by simp)
  have hc10 := hB0.cell 1 (by simp)
  simp only [List.getElem?_cons_zero, List.getElem?_cons_succ] at hc00 hc10
  have H0 := Lib.hid (And.intro hB0 hE0)
  clear hB0 hE0 hw0 hN
  cases raw with
  | false =>
    obtain ⟨m, hm⟩ := Int.eq_ofNat_of_zero_le (Int.emod_nonneg mo (show (12 : Int) ≠ 0 by decide))
    obtain ⟨u, hu⟩ := Int.eq_ofNat_of_zero_le (Int.emod_nonneg ta (show ((n : Int) + 3) ≠ 0 by omega))
    have hm1 : mo % 12 < 12 := Int.emod_lt_of_pos mo (by decide)
    have hu1 : ta % ((n : Int) + 3) < (n : Int) + 3 := Int.emod_lt_of_pos ta (by omega)
    have hm2 : m < 12 := by omega
    have hu2 : u < n + 3 := by omega
    have HM := Lib.hid (And.intro hm hu)
    clear hm hu hm1 hu1
    have hsum : IntKind.i64.wrap ((n : Int) + (m : Int)) = (n : Int) + (m : Int) := IntWalk.i64_in _ (by omega)
    go_enter Try.func4, Try.ntmps4
    go_wp2_with fail
    rw [← W0.out.1, ← W0.out.2]
    apply wp_region_ext 9 [is _, is _, is (.int .i64 (n : Nat)), is _, is (.int .i64 (m : Nat)), is (.int .i64 ((n : Int) + (m : Int))), is _, is _, is _] (by kernel_rfl) (by kernel_rfl) rfl
    case hops =>
      simp only [List.take_succ_cons, List.take_zero]
      refine ⟨?_, ?_, ?_, ?_, ?_, ?_, ?_, ?_, ?_, trivial⟩
      all_goals
        intro vs x hd
        simp only [putAll, Act.put, List.setIfInBounds_toArray, List.set_cons_succ, List.set_cons_zero, Nat.zero_add, Nat.reduceAdd]
        simp [depFacts, is, isRow, isRowN, isBox, dataE] at hd
        try simp only [World.plus_plus] at hd
        simp only [Region.wanted, if_true, comes]
        try simp [yielded, hd, comes]
        go_simp
        try go_bits
        first
          | exact ⟨Ext.refl _, rfl⟩
          | exact rfl
          | exact ⟨(Ext.refl _).alloc _, _, rfl, Cells.new _ _ _ _ rfl⟩
          | exact ⟨(Ext.refl _).alloc _, _, rfl, Box.new _ _ _ _ (by simp [World.le_plus]) rfl⟩
          | ((go_at_call 16); refine (within_any mo 12 _ (by omega) (by omega)).mono ?_; rw [HM.out.1]; rintro e w' ⟨rfl, rfl⟩; exact ⟨_, rfl, Ext.refl _, rfl⟩)
    case hst => exact ⟨(by apply is.st), (by apply is.st), (by apply is.st), (by apply is.st), (by apply is.st), (by apply is.st), (by apply is.st), (by apply is.st), (by apply is.st), trivial⟩
    case hfin =>
      intro vs x hf
      try simp only [World.plus_plus] at hf ⊢
      simp only [List.take_succ_cons, List.take_zero, List.drop_succ_cons, List.drop_zero, putAll, Act.put, List.setIfInBounds_toArray, List.set_cons_succ, List.set_cons_zero]
      simp only [facts, is, Nat.zero_add, Nat.reduceAdd] at hf
      simp only [Nat.zero_add, Nat.reduceAdd, hf]
      clear hf
      clear hsum
      obtain ⟨hB0, hE0⟩ := H0.out
      have hB1 := hB0.ext ((Ext.refl w0).plus_ x)
      have hE1 := hE0.trans ((Ext.refl w0).plus_ x)
      obtain ⟨w1, hw1⟩ : ∃ w1, w1 = w0.plus x := ⟨_, rfl⟩
      rw [← hw1] at hB1 hE1 ⊢
      clear hw1 hB0 hE0 H0 hc00 hc10 hf0
      have hc00 := hB1.cell 0 (by simp)
      have hc10 := hB1.cell 1 (by simp)
      have hf0 := hB1.free
      simp only [List.getElem?_cons_zero, List.getElem?_cons_succ] at hc00 hc10
      have hB5 := Box.stored hB1 (.int .i64 ((n : Int) + (m : Int))) (.slice A n c)
      have hE5 := (hE1.setCell (p := ⟨N, 0, none⟩) hb0 (.int .i64 ((n : Int) + (m : Int)))).setCell (p := ⟨N, 1, none⟩) hb0 (.slice A n c)
      obtain ⟨w5, hw5⟩ : ∃ w5, w5 = (w1.setCell ⟨N, 0, none⟩ (.int .i64 ((n : Int) + (m : Int)))).setCell ⟨N, 1, none⟩ (.slice A n c) := ⟨_, rfl⟩
      rw [← hw5] at hB5 hE5
      have H5 := Lib.hid (And.intro hB5 (And.intro hE5 (And.intro hw5 (show w1.heap.size = w5.heap.size by rw [hw5]; simp))))
      clear hB1 hE1 hB5 hE5 hw5
      go_wp2_with fail
      refine (within_any ta ((n : Int) + 3) _ (by omega) (by omega)).mono ?_
      rw [HM.out.2]
      rintro e w' ⟨rfl, rfl⟩
      go_wp2_with fail
      obtain ⟨hB5, hE5, hw5, hw5s⟩ := H5.out
      rw [← hw5, hw5s]
      clear hw5 hw5s H5 hc00 hc10 hf0
      have hb5 := hB5.base
      have hl5 := hB5.lt
      have hR5 := HR.out.1.lift hE5
      have hE5a := (Ext.refl w5).alloc (.cells #[.slice A1 n1 c1, .slice A2 n2 c2] 22)
      have hcs := Cells.new w5 #[.slice A1 n1 c1, .slice A2 n2 c2] 22 _ rfl
      have hbs1 : BS (w5.alloc (.cells #[.slice A1 n1 c1, .slice A2 n2 c2] 22)) (.slice A1 n1 c1) l1 := ⟨A1, n1, c1, rfl, (HR1.out.1.lift hE5).lift hE5a, hc1, hcm1, HR1.out.2⟩
      have hbs2 : BS (w5.alloc (.cells #[.slice A1 n1 c1, .slice A2 n2 c2] 22)) (.slice A2 n2 c2) l2 := ⟨A2, n2, c2, rfl, (HR2.out.1.lift hE5).lift hE5a, hc2, hcm2, HR2.out.2⟩
      have hvb : VB (w5.alloc (.cells #[.slice A1 n1 c1, .slice A2 n2 c2] 22)) [.slice A1 n1 c1, .slice A2 n2 c2] [l1, l2] := ⟨rfl, fun j v l' h1 h2 => by
        match j with
        | 0 => simp at h1 h2; subst h1 h2; exact hbs1
        | 1 => simp at h1 h2; subst h1 h2; exact hbs2
        | j + 2 => simp at h1⟩
      have C5 := put_any ((n : Int) + (m : Int)) A n c l (some ⟨w5.heap.size, 0, none⟩) 2 2 [.slice A1 n1 c1, .slice A2 n2 c2] [l1, l2] _ (hR5.lift hE5a) HR.out.2 (by omega) (Cells.row1 hcs) hvb (by omega) (by simp; rw [HL1.out, HL2.out]; omega) (by omega)
      rw [show [l1, l2].flatten = l1 ++ l2 by simp] at C5
      obtain ⟨LB, hLB⟩ : ∃ LB, LB = l1 ++ l2 := ⟨_, rfl⟩
      rw [← hLB] at C5
      obtain ⟨q, hq⟩ : ∃ q, q = qput ((n : Int) + (m : Int)) l.length LB.length := ⟨_, rfl⟩
      obtain ⟨LP, hLP⟩ : ∃ LP, LP = l ++ LB.take q := ⟨_, rfl⟩
      have HLB := Lib.hid (And.intro hLB (And.intro hq hLP))
      clear hLB hq hLP hcs hbs1 hbs2 hvb hR5
      refine C5.mono ?_
      clear C5
      rintro e w6 ⟨v6, rfl, h6, hE6⟩
      rw [← HLB.out.2.1, ← HLB.out.2.2] at h6
      rw [← HLB.out.2.1]
      obtain ⟨A6, n6, c6, rfl, hr6, hcb6, hcm6, hnil6⟩ := h6
      have hE6a := hE5a.trans hE6
      have hB6 := hB5.ext hE6a
      have hE7 := hE5.trans hE6a
      have hE7a := (Ext.refl w6).alloc (.cells #[.int .i64 ((n : Int) + (m : Int)), .slice A6 n6 c6] 24)
      have hB13 := Box.new (N := w.heap.size) w6 #[.int .i64 ((n : Int) + (m : Int)), .slice A6 n6 c6] 24 _ hE7.size rfl
      obtain ⟨N3, hN3⟩ : ∃ N3, N3 = w6.heap.size := ⟨_, rfl⟩
      obtain ⟨w7, hw7⟩ : ∃ w7, w7 = w6.alloc (.cells #[.int .i64 ((n : Int) + (m : Int)), .slice A6 n6 c6] 24) := ⟨_, rfl⟩
      rw [← hw7] at hE7a hB13
      rw [← hN3] at hB13
      have hB7 := hB6.ext hE7a
      have hE8 := hE7.trans hE7a
      have hr7 := hr6.lift hE7a
      have hw7s : w7.heap.size = N3 + 1 := by rw [hw7, hN3]; simp
      have W7 := Lib.hid (And.intro hw7 (And.intro hN3 hw7s))
      have hl7 := hB7.lt
      have hl13 := hB13.lt
      have hc00 := hB7.cell 0 (by simp)
      have hc01 := hB7.cell 1 (by simp)
      simp only [List.getElem?_cons_zero, List.getElem?_cons_succ] at hc00 hc01
      have H7 := Lib.hid (And.intro hB7 (And.intro hB13 (And.intro hE8 hr7)))
      clear hB5 hE5 hE5a hE6 hE6a hB6 hE7 hE7a hB13 hB7 hE8 hr7 hr6 hw7 hN3 hw7s hl5 hb5
      go_wp2_with fail
      rw [← W7.out.1, ← W7.out.2.1]
      have hbig : w.heap.size ≤ w7.heap.size := H7.out.2.2.1.size
      have P3 := Lib.hid (fun (W : World) (v : Value) (hX : Ext w7 W) (hO : isOwn0 w7.heap.size v W) (ty : TypeId) => app_lit W w7.heap.size n1 v A1 c1 l1 i0 hi hz0 hz1 hz2 hO (HR1.out.1.lift (H7.out.2.2.1.trans hX)) (by omega) hX.size ty)
      have P5 := Lib.hid (fun (W : World) (v : Value) (hX : Ext w7 W) (hO : isOwn w7.heap.size n1 (bytes l1) v W) (ty : TypeId) => app_big W w7.heap.size n1 n2 v A2 c2 l1 l2 i0 hi hz0 hz1 hz2 hO (HR2.out.1.lift (H7.out.2.2.1.trans hX)) (by omega) hX.size ty)
      rw [← HLB.out.1] at P5
      have hLBn : LB.length ≤ 4000000 := by rw [HLB.out.1, List.length_append, HL1.out, HL2.out]; omega
      have P6 := Lib.hid (fun (W : World) (A5 : Option Addr) (c5 : Nat) (hX : Ext w W) (hb : Row W W.heap.size 1 A5 LB.length (bytes LB)) (h1 : LB.length ≤ c5) (h2 : c5 ≤ 9223372036854775807) => refPut_any ((n : Int) + (m : Int)) A n c l A5 LB.length c5 LB W (HR.out.1.lift hX) HR.out.2 hc hcm (by omega) hb (by omega) h1 h2)
      have HK := Lib.hid (And.intro hc00 hc01)
      apply wp_region_bigy 11 5 w7.heap.size 5 [0, 1, 0, 1, 0, 2, 2, 2, 2, 2, 0] (fun W => (W.cell? ⟨N, 0, none⟩ = some (.int .i64 ((n : Int) + (m : Int))) ∧ W.cell? ⟨N, 1, none⟩ = some (.slice A n c)) ∧ Ext w W ∧ w7.heap.size ≤ W.heap.size) [is _, isOwn0 w7.heap.size, is _, isOwn w7.heap.size n1 (bytes l1), is _, isOwn w7.heap.size LB.length (bytes LB), isPutV ((n : Int) + (m : Int)) LP q, isPutV ((n : Int) + (m : Int)) LP q, isQS ((n : Int) + (m : Int)) LP, is (.int .i64 (q : Nat)), isBoxT w7.heap.size 24 [.int .i64 0, .slice none 0 0]] 9 _ (by kernel_rfl) (by kernel_rfl) (by kernel_rfl) rfl rfl (by decide) (fun _ _ _ _ h => h)
      case hS =>
        intro W hE
        exact ⟨⟨(hE.cell (by simp; omega) (by simp; omega)).trans HK.out.1, (hE.cell (by simp; omega) (by simp; omega)).trans HK.out.2⟩, hE.ext H7.out.2.2.1 hbig, hE.size⟩
      case hyo =>
        intro vs W hS hd
        simp only [List.take_succ_cons, List.take_zero, putAll, Act.put, List.setIfInBounds_toArray, List.set_cons_succ, List.set_cons_zero, Nat.zero_add, Nat.reduceAdd]
        simp [depFactsC, clsOf, is, dataE] at hd
        (obtain ⟨v', e, _⟩ := hd; rw [e]; refine ⟨.int .i64 (q : Nat), rfl, fun w2 => rfl, fun T hT => ?_⟩; injection hT with hT; subst hT; rfl)
      case hops =>
        simp only [List.take_succ_cons, List.take_zero]
        refine ⟨?_, ?_, ?_, ?_, ?_, ?_, ?_, ?_, ?_, ?_, ?_, trivial⟩
        all_goals
          intro vs W hS hX hd
          have hcell0 := hS.1.1
          have hcell1 := hS.1.2
          have hxs := hS.2.1
          have hss := hS.2.2
          clear hS
          simp only [putAll, Act.put, List.setIfInBounds_toArray, List.set_cons_succ, List.set_cons_zero, Nat.zero_add, Nat.reduceAdd]
          simp [depFactsC, clsOf, is, isRow, isRowN, isBox, dataE] at hd
          simp [clsOf] at hX
          simp only [Region.wanted, if_true, Nat.reduceEqDiff, if_false, reduceIte, Nat.reduceAdd, Nat.zero_ne_one, Nat.one_ne_zero, Nat.zero_add]
          try simp [yielded, hd]
        rotate_left 1
        refine Lock.out ?_
        rotate_left 2
        refine Lock.out ?_
        rotate_left 2
        refine Lock.out ?_
        rotate_left 1
        refine Lock.out ?_
        rotate_left 1
        refine Lock.out ?_
        rotate_left 1
        refine Lock.out ?_
        rotate_left 1
        refine Lock.out ?_
        rotate_left 1
        refine Lock.out ?_
        rotate_left 1
        all_goals
          try (
          with_reducible show comes _ _ _ _ _
          simp only [comes]
          try simp [yielded, hd, comes]
          go_simp
          try go_bits
          first
            | exact ⟨Ext.refl _, rfl⟩
            | exact rfl
            | exact ⟨(Ext.refl _).alloc _, _, rfl, Cells.new _ _ _ _ rfl⟩
          )
        · refine ⟨?_, trivial⟩
          (simp only [comes]; go_simp; exact ⟨(Ext.refl _).alloc _, _, rfl, own_empty W w7.heap.size _ hss⟩)
        · refine ⟨?_, trivial⟩
          exact comes_app (.tmp 49) (.tmp 50) 22 rfl (vs 1) (.slice A1 n1 c1) rfl rfl (P3.out W (vs 1) hX hd.1 _)
        · refine ⟨?_, trivial⟩
          exact comes_app (.tmp 51) (.tmp 52) 22 rfl (vs 3) (.slice A2 n2 c2) rfl rfl (P5.out W (vs 3) hX hd.1 _)
        · refine ⟨?_, trivial⟩
          (have h5 := hd.2; obtain ⟨A5, c5, e, hb1, hb2⟩ := own_form h5; rw [e] at h5 ⊢; simp only [comes]; go_simp; go_at_call 18; refine (P6.out _ A5 c5 hxs (own_row h5) hb1 hb2).mono ?_; rintro e w' ⟨v', rfl, hq, hE⟩; rw [← HLB.out.2.1, ← HLB.out.2.2] at hq; rw [← HLB.out.2.1]; exact ⟨_, rfl, hE, v', rfl, hq⟩)
        · refine ⟨?_, trivial⟩
          (simp only [comes]; go_simp; first | exact Ext.refl _ | exact ⟨Ext.refl _, hd⟩)
        · refine ⟨?_, trivial⟩
          (obtain ⟨v', e, hq⟩ := hd; rw [e]; simp only [comes]; go_simp; exact ⟨Ext.refl _, hq⟩)
        · refine ⟨?_, trivial⟩
          (obtain ⟨v', e, hq⟩ := hd; rw [e]; simp only [comes]; go_simp; first | exact ⟨Ext.refl _, rfl⟩ | exact Ext.refl _)
        · refine ⟨?_, trivial⟩
          (simp only [comes]; go_simp; exact ⟨(Ext.refl _).alloc _, _, rfl, BoxT.new _ _ _ _ hss rfl⟩)
      case hst => exact ⟨(by first | exact Stable2.is _ | exact Stable2.ext (by apply is.st) (by decide) | exact is.st2), (by first | exact Stable2.is _ | exact Stable2.ext (by apply isOwn0.st) (by decide) | exact isOwn0.st2), (by first | exact Stable2.is _ | exact Stable2.ext (by apply is.st) (by decide) | exact is.st2), (by first | exact Stable2.is _ | exact Stable2.ext (by apply isOwn.st) (by decide) | exact isOwn.st2), (by first | exact Stable2.is _ | exact Stable2.ext (by apply is.st) (by decide) | exact is.st2), (by first | exact Stable2.is _ | exact Stable2.ext (by apply isOwn.st) (by decide) | exact isOwn.st2), (by first | exact Stable2.is _ | exact Stable2.ext (by apply isPutV.st) (by decide) | exact isPutV.st2), (by first | exact Stable2.is _ | exact Stable2.ext (by apply isPutV.st) (by decide) | exact isPutV.st2), (by first | exact Stable2.is _ | exact Stable2.ext (by apply isQS.st) (by decide) | exact isQS.st2), (by first | exact Stable2.is _ | exact Stable2.ext (by apply is.st) (by decide) | exact is.st2), (by first | exact Stable2.is _ | exact Stable2.ext (by apply isBoxT.st) (by decide) | exact isBoxT.st2), trivial⟩
      case hfin =>
        intro vs W hE hS hf
        simp only [List.take_succ_cons, List.take_zero, List.drop_succ_cons, List.drop_zero, putAll, Act.put, List.setIfInBounds_toArray, List.set_cons_succ, List.set_cons_zero]
        simp [factsC, clsOf, is] at hf
        simp only [Nat.zero_add, Nat.reduceAdd, hf]
        obtain ⟨h0, h2, h4, h5, h6, h7, ⟨A8, n8, c8, h8e, hr8, hcb8, hcm8, hnil8⟩, h9, ⟨b8, h10, hT10⟩⟩ := hf
        rw [h8e, h10]
        obtain ⟨hB7, hB13, hE8, hr7⟩ := H7.out
        have hEW := hE.ext (Ext.refl w7) (Nat.le_refl _)
        have hB8 := hT10.box
        have hb8 := hB8.base
        have hN3 := W7.out.2.2
        have hne0 : b8 ≠ N := by omega
        have hne3 : b8 ≠ N3 := by omega
        have hBN := (((hB7.ext hEW).other (p := ⟨b8, 0, none⟩) hne0 (.int .i64 ((n : Int) + (m : Int)))).other (p := ⟨b8, 1, none⟩) hne0 (.slice A8 n8 c8))
        have hBN3 := (((hB13.ext hEW).other (p := ⟨b8, 0, none⟩) hne3 (.int .i64 ((n : Int) + (m : Int)))).other (p := ⟨b8, 1, none⟩) hne3 (.slice A8 n8 c8))
        have hBb := Box.stored hB8 (.int .i64 ((n : Int) + (m : Int))) (.slice A8 n8 c8)
        have hx9 := (hr7.lift hEW).stored (a := 0) hB8 (.int .i64 ((n : Int) + (m : Int))) (.slice A8 n8 c8)
        have hy9 := hr8.stored (a := 0) hB8 (.int .i64 ((n : Int) + (m : Int))) (.slice A8 n8 c8)
        have hbw : w.heap.size ≤ b8 := by omega
        have hE9 := ((hE8.trans hEW).setCell (p := ⟨b8, 0, none⟩) hbw (.int .i64 ((n : Int) + (m : Int)))).setCell (p := ⟨b8, 1, none⟩) hbw (.slice A8 n8 c8)
        have hq0 := hB8.cell 0 (by simp)
        have hq1 := hB8.cell 1 (by simp)
        simp only [List.getElem?_cons_zero, List.getElem?_cons_succ] at hq0 hq1
        have hqf := hB8.free
        have hql := hB8.lt
        have hk0 := hS.1.1
        have hk1 := hS.1.2
        obtain ⟨w9, hw9⟩ : ∃ w9, w9 = (W.setCell ⟨b8, 0, none⟩ (.int .i64 ((n : Int) + (m : Int)))).setCell ⟨b8, 1, none⟩ (.slice A8 n8 c8) := ⟨_, rfl⟩
        rw [← hw9] at hBN hBN3 hBb hx9 hy9 hE9
        have H9 := Lib.hid (And.intro hw9 (And.intro hBN (And.intro hBN3 (And.intro hBb (And.intro hx9 (And.intro hy9 hE9))))))
        have hNn : N ≠ b8 := fun h => hne0 h.symm
        clear hw9 hBN hBN3 hBb hx9 hy9 hE9 h0 h2 h4 h5 h6 h7 h8e h9 h10 hS hE hB7 hB13 hE8 hr7 hEW hB8 hT10 hr8 HK H7 W7 P3 P5 P6 hN3 hc00 hc01
        go_wp2_with fail
        rw [← H9.out.1]
        obtain ⟨_, hBN, hBN3, hBb, hx9, hy9, hE9⟩ := H9.out
        obtain ⟨f, hf⟩ : ∃ f, f = (qfirst ((n : Int) + (m : Int)) n ((u : Int) - 1)).toNat := ⟨_, rfl⟩
        have T9 := take_any ((n : Int) + (m : Int)) A n c l ((u : Int) - 1) w9 (HR.out.1.lift hE9) HR.out.2 (by omega)
        rw [← hf] at T9
        obtain ⟨LT, hLT⟩ : ∃ LT, LT = l.take f := ⟨_, rfl⟩
        obtain ⟨LD, hLD⟩ : ∃ LD, LD = l.drop f := ⟨_, rfl⟩
        have HF := Lib.hid (And.intro hf (And.intro hLT hLD))
        clear hf hLT hLD H9 hk0 hk1 hq0 hq1 hqf hql
        refine T9.mono ?_
        clear T9
        rintro e w10 ⟨t1, t2, rfl, ht1, ht2, hE10⟩
        rw [← HF.out.2.1] at ht1
        rw [← HF.out.2.2] at ht2
        obtain ⟨X10, m10, d10, rfl, hrX, hcX, hmX, hnX⟩ := ht1
        obtain ⟨Y10, u10, z10, rfl, hrY, hcY, hmY, hnY⟩ := ht2
        have hE10a := (Ext.refl w10).alloc (.cells #[.int .i64 ((n : Int) + (m : Int)), .slice Y10 u10 z10] 24)
        have hB18 := Box.new (N := w.heap.size) w10 #[.int .i64 ((n : Int) + (m : Int)), .slice Y10 u10 z10] 24 _ (hE9.trans hE10).size rfl
        have hBN10 := hBN.ext hE10
        have hn10 := hBN10.cell 0 (by simp)
        have hn11 := hBN10.cell 1 (by simp)
        simp only [List.getElem?_cons_zero, List.getElem?_cons_succ] at hn10 hn11
        have hnl := hBN10.lt
        have R10 := refTake_any ((n : Int) + (m : Int)) A n c l ((u : Int) - 1) _ (HR.out.1.lift ((hE9.trans hE10).trans hE10a)) HR.out.2 hc hcm (by omega)
        rw [← HF.out.1] at R10
        have hEE := hE10.trans hE10a
        have H10 := Lib.hid (And.intro (hBN.ext hEE) (And.intro (hBN3.ext hEE) (And.intro (hBb.ext hEE) (And.intro (hx9.lift hEE) (And.intro (hy9.lift hEE) (And.intro (hE9.trans hEE) (And.intro hB18 (And.intro (hrX.lift hE10a) (And.intro (hrY.lift hE10a) R10)))))))))
        clear hBN hBN3 hBb hx9 hy9 hE9 hE10 hE10a hB18 hrX hrY R10 hEE hBN10
        go_wp2_with fail
        obtain ⟨hBN, hBN3, hBb, hx9, hy9, hE9, hB18, hrX, hrY, R10⟩ := H10.out
        refine R10.mono ?_
        clear R10 H10 hn10 hn11
        rintro e w11 ⟨t1, t2, rfl, ht1, ht2, hE11⟩
        rw [← HF.out.2.1] at ht1
        rw [← HF.out.2.2] at ht2
        obtain ⟨X11, m11, d11, rfl, hrX', hcX', hmX', hnX'⟩ := ht1
        obtain ⟨Y11, u11, z11, rfl, hrY', hcY', hmY', hnY'⟩ := ht2
        have hE11a := (Ext.refl w11).alloc (.cells #[.int .i64 ((n : Int) + (m : Int)), .slice Y11 u11 z11] 24)
        have hB20 := Box.new (N := w.heap.size) w11 #[.int .i64 ((n : Int) + (m : Int)), .slice Y11 u11 z11] 24 _ (hE9.trans hE11).size rfl
        have hE12 := hE11.trans hE11a
        have hb0 := hBN.ext hE12
        have hb3 := hBN3.ext hE12
        have hbb := hBb.ext hE12
        have hb18 := hB18.ext hE12
        have x12 : QS _ (qu ((n : Int) + (m : Int)) A6 n6 c6) ((n : Int) + (m : Int)) LP := ⟨A6, n6, c6, rfl, hx9.lift hE12, hcb6, hcm6, hnil6⟩
        have y12 : QS _ (qu ((n : Int) + (m : Int)) A8 n8 c8) ((n : Int) + (m : Int)) LP := ⟨A8, n8, c8, rfl, hy9.lift hE12, hcb8, hcm8, hnil8⟩
        have z12 : QS _ (qu ((n : Int) + (m : Int)) Y10 u10 z10) ((n : Int) + (m : Int)) LD := ⟨Y10, u10, z10, rfl, hrY.lift hE12, hcY, hmY, hnY⟩
        have v12 : QS _ (qu ((n : Int) + (m : Int)) Y11 u11 z11) ((n : Int) + (m : Int)) LD := ⟨Y11, u11, z11, rfl, hrY'.lift hE11a, hcY', hmY', hnY'⟩
        have d12 : BS _ (.slice X10 m10 d10) LT := ⟨X10, m10, d10, rfl, hrX.lift hE12, hcX, hmX, hnX⟩
        have e12 : BS _ (.slice X11 m11 d11) LT := ⟨X11, m11, d11, rfl, hrX'.lift hE11a, hcX', hmX', hnX'⟩
        have hEF := hE9.trans hE12
        obtain ⟨N18, hN18⟩ : ∃ N18, N18 = w10.heap.size := ⟨_, rfl⟩
        obtain ⟨N20, hN20⟩ : ∃ N20, N20 = w11.heap.size := ⟨_, rfl⟩
        obtain ⟨w12, hw12⟩ : ∃ w12, w12 = w11.alloc (.cells #[.int .i64 ((n : Int) + (m : Int)), .slice Y11 u11 z11] 24) := ⟨_, rfl⟩
        rw [← hw12] at hb0 hb3 hbb hb18 x12 y12 z12 v12 d12 e12 hEF hB20
        rw [← hN18] at hb18
        rw [← hN20] at hB20
        have W12 := Lib.hid (And.intro hw12 (And.intro hN18 hN20))
        obtain ⟨ST, hST⟩ : ∃ ST, ST = strOfNums LT := ⟨_, rfl⟩
        have HST := Lib.hid hST
        have hi00 := hb0.cell 0 (by simp)
        have hi01 := hb0.cell 1 (by simp)
        have hi30 := hb3.cell 0 (by simp)
        have hi31 := hb3.cell 1 (by simp)
        have hib0 := hbb.cell 0 (by simp)
        have hib1 := hbb.cell 1 (by simp)
        have hi180 := hb18.cell 0 (by simp)
        have hi181 := hb18.cell 1 (by simp)
        have hi200 := hB20.cell 0 (by simp)
        have hi201 := hB20.cell 1 (by simp)
        simp only [List.getElem?_cons_zero, List.getElem?_cons_succ] at hi00 hi01 hi30 hi31 hib0 hib1 hi180 hi181 hi200 hi201
        have P12 := Lib.hid (fun (W : World) (hX : Ext w12 W) => peek_any ((n : Int) + (m : Int)) A n c l ((u : Int) - 1) W (HR.out.1.lift (hEF.trans hX)) HR.out.2 (by omega) hc hcm)
        rw [← HF.out.1, ← HF.out.2.1] at P12
        have H12 := Lib.hid (And.intro x12 (And.intro y12 (And.intro z12 (And.intro v12 (And.intro d12 (And.intro e12 hEF))))))
        clear hBN hBN3 hBb hx9 hy9 hE9 hB18 hrX hrY hE11 hrX' hrY' hE11a hB20 hE12 hb0 hb3 hbb hb18 x12 y12 z12 v12 d12 e12 hEF hw12 hN18 hN20 hST hnl
        go_wp2_with fail
        rw [← W12.out.1, ← W12.out.2.1, ← W12.out.2.2]
        apply wp_region_ext 32 [is _, is _, is _, is (.bool true), is _, is _, is (.bool true), is _, is (.bool true), is _, is (.string ST), is _, is (.string ST), is _, is _, is (.bool true), is _, is _, is (.bool true), is _, is (.bool true), is _, is _, isBS LT, is (.string ST), is _, is (.string ST), is _, is _, is (.bool true), is (.bool true), is _] (by kernel_rfl) (by kernel_rfl) rfl
        case hops =>
          simp only [List.take_succ_cons, List.take_zero]
          refine ⟨?_, ?_, ?_, ?_, ?_, ?_, ?_, ?_, ?_, ?_, ?_, ?_, ?_, ?_, ?_, ?_, ?_, ?_, ?_, ?_, ?_, ?_, ?_, ?_, ?_, ?_, ?_, ?_, ?_, ?_, ?_, ?_, trivial⟩
          all_goals
            intro vs x hd
            simp only [putAll, Act.put, List.setIfInBounds_toArray, List.set_cons_succ, List.set_cons_zero, Nat.zero_add, Nat.reduceAdd]
            simp [depFacts, is, isRow, isRowN, isBox, dataE] at hd
            try simp only [World.plus_plus] at hd
            simp only [Region.wanted, if_true]
            try simp [yielded, hd]
          rotate_left 6
          refine Lock.out ?_
          rotate_left 4
          refine Lock.out ?_
          rotate_left 2
          refine Lock.out ?_
          rotate_left 6
          refine Lock.out ?_
          rotate_left 5
          refine Lock.out ?_
          rotate_left 1
          refine Lock.out ?_
          rotate_left 2
          refine Lock.out ?_
          rotate_left 6
          all_goals
            try (
            with_reducible show comes _ _ _ _ _
            simp only [comes]
            try simp [yielded, hd, comes]
            go_simp
            try go_bits
            first
              | exact ⟨Ext.refl _, rfl⟩
              | exact rfl
              | exact ⟨(Ext.refl _).alloc _, _, rfl, Cells.new _ _ _ _ rfl⟩
              | exact ⟨(Ext.refl _).alloc _, _, rfl, Box.new _ _ _ _ (by simp [World.le_plus]) rfl⟩
              | ((go_at_call 15); refine (awake_any _).mono ?_; rintro e w' ⟨rfl, hE⟩; exact ⟨_, rfl, hE, rfl⟩)
            )
          · refine ⟨?_, trivial⟩
            (simp only [comes]; go_simp; go_at_call 9; refine (same_qs ((n : Int) + (m : Int)) _ _ LP _ (H12.out.1.lift ((Ext.refl w12).plus_ x)) (H12.out.2.1.lift ((Ext.refl w12).plus_ x))).mono ?_; rintro e w' ⟨rfl, hE⟩; exact ⟨_, rfl, hE, rfl⟩)
          · refine ⟨?_, trivial⟩
            exact comes_str (.tmp 78) rfl (.slice X10 m10 d10) rfl LT (H12.out.2.2.2.2.1.lift ((Ext.refl w12).plus_ x)) ⟨Ext.refl _, by show Value.string _ = _; rw [← HST.out]⟩
          · refine ⟨?_, trivial⟩
            exact comes_str (.tmp 80) rfl (.slice X11 m11 d11) rfl LT (H12.out.2.2.2.2.2.1.lift ((Ext.refl w12).plus_ x)) ⟨Ext.refl _, by show Value.string _ = _; rw [← HST.out]⟩
          · refine ⟨?_, trivial⟩
            (simp only [comes]; go_simp; go_at_call 9; refine (same_qs ((n : Int) + (m : Int)) _ _ LD _ (H12.out.2.2.1.lift ((Ext.refl w12).plus_ x)) (H12.out.2.2.2.1.lift ((Ext.refl w12).plus_ x))).mono ?_; rintro e w' ⟨rfl, hE⟩; exact ⟨_, rfl, hE, rfl⟩)
          · refine ⟨?_, trivial⟩
            (simp only [comes]; go_simp; go_at_call 21; refine (P12.out _ ((Ext.refl w12).plus_ x)).mono ?_; rintro e w' ⟨v, rfl, hown, hE⟩; exact ⟨_, rfl, hE, BS.of_own hown⟩)
          · refine ⟨?_, trivial⟩
            exact comes_str (.tmp 92) rfl (vs 23) rfl LT hd.1 ⟨Ext.refl _, by show Value.string _ = _; rw [← HST.out]⟩
          · refine ⟨?_, trivial⟩
            exact comes_str (.tmp 94) rfl (.slice X11 m11 d11) rfl LT (H12.out.2.2.2.2.2.1.lift ((Ext.refl w12).plus_ x)) ⟨Ext.refl _, by show Value.string _ = _; rw [← HST.out]⟩
        case hst => exact ⟨(by apply is.st), (by apply is.st), (by apply is.st), (by apply is.st), (by apply is.st), (by apply is.st), (by apply is.st), (by apply is.st), (by apply is.st), (by apply is.st), (by apply is.st), (by apply is.st), (by apply is.st), (by apply is.st), (by apply is.st), (by apply is.st), (by apply is.st), (by apply is.st), (by apply is.st), (by apply is.st), (by apply is.st), (by apply is.st), (by apply is.st), (by apply isBS.st), (by apply is.st), (by apply is.st), (by apply is.st), (by apply is.st), (by apply is.st), (by apply is.st), (by apply is.st), (by apply is.st), trivial⟩
        case hfin =>
          intro vs x hf
          try simp only [World.plus_plus] at hf ⊢
          simp only [List.take_succ_cons, List.take_zero, List.drop_succ_cons, List.drop_zero, putAll, Act.put, List.setIfInBounds_toArray, List.set_cons_succ, List.set_cons_zero]
          simp only [facts, is, Nat.zero_add, Nat.reduceAdd] at hf
          simp only [Nat.zero_add, Nat.reduceAdd, hf]
          clear hf
          go_wp2
          go_ret
          exact ⟨rfl, H12.out.2.2.2.2.2.2.trans ((Ext.refl w12).plus_ x)⟩
  | true =>
    clear hc00 hc10 hf0
    obtain ⟨w5, hw5⟩ : ∃ w5, w5 = w0 := ⟨_, rfl⟩
    rw [← hw5] at H0 W0 hl0
    have hs5 : N + 1 = w5.heap.size := by rw [W0.out.1, W0.out.2]; simp
    have HS5 := Lib.hid hs5
    clear hw5 hs5
    go_enter Try.func4, Try.ntmps4
    go_wp2_with fail
    obtain ⟨hB5, hE5⟩ := H0.out
    rw [← W0.out.1, ← W0.out.2, HS5.out]
    have hb5 := hB5.base
    have hl5 := hB5.lt
    have hR5 := HR.out.1.lift hE5
    have hE5a := (Ext.refl w5).alloc (.cells #[.slice A1 n1 c1, .slice A2 n2 c2] 22)
    have hcs := Cells.new w5 #[.slice A1 n1 c1, .slice A2 n2 c2] 22 _ rfl
    have hbs1 : BS (w5.alloc (.cells #[.slice A1 n1 c1, .slice A2 n2 c2] 22)) (.slice A1 n1 c1) l1 := ⟨A1, n1, c1, rfl, (HR1.out.1.lift hE5).lift hE5a, hc1, hcm1, HR1.out.2⟩
    have hbs2 : BS (w5.alloc (.cells #[.slice A1 n1 c1, .slice A2 n2 c2] 22)) (.slice A2 n2 c2) l2 := ⟨A2, n2, c2, rfl, (HR2.out.1.lift hE5).lift hE5a, hc2, hcm2, HR2.out.2⟩
    have hvb : VB (w5.alloc (.cells #[.slice A1 n1 c1, .slice A2 n2 c2] 22)) [.slice A1 n1 c1, .slice A2 n2 c2] [l1, l2] := ⟨rfl, fun j v l' h1 h2 => by
      match j with
      | 0 => simp at h1 h2; subst h1 h2; exact hbs1
      | 1 => simp at h1 h2; subst h1 h2; exact hbs2
      | j + 2 => simp at h1⟩
    have C5 := put_any (k) A n c l (some ⟨w5.heap.size, 0, none⟩) 2 2 [.slice A1 n1 c1, .slice A2 n2 c2] [l1, l2] _ (hR5.lift hE5a) HR.out.2 (by omega) (Cells.row1 hcs) hvb (by omega) (by simp; rw [HL1.out, HL2.out]; omega) (by omega)
    rw [show [l1, l2].flatten = l1 ++ l2 by simp] at C5
    obtain ⟨LB, hLB⟩ : ∃ LB, LB = l1 ++ l2 := ⟨_, rfl⟩
    rw [← hLB] at C5
    obtain ⟨q, hq⟩ : ∃ q, q = qput (k) l.length LB.length := ⟨_, rfl⟩
    obtain ⟨LP, hLP⟩ : ∃ LP, LP = l ++ LB.take q := ⟨_, rfl⟩
    have HLB := Lib.hid (And.intro hLB (And.intro hq hLP))
    clear hLB hq hLP hcs hbs1 hbs2 hvb hR5
    refine C5.mono ?_
    clear C5
    rintro e w6 ⟨v6, rfl, h6, hE6⟩
    rw [← HLB.out.2.1, ← HLB.out.2.2] at h6
    rw [← HLB.out.2.1]
    obtain ⟨A6, n6, c6, rfl, hr6, hcb6, hcm6, hnil6⟩ := h6
    have hE6a := hE5a.trans hE6
    have hB6 := hB5.ext hE6a
    have hE7 := hE5.trans hE6a
    have hE7a := (Ext.refl w6).alloc (.cells #[.int .i64 (k), .slice A6 n6 c6] 24)
    have hB13 := Box.new (N := w.heap.size) w6 #[.int .i64 (k), .slice A6 n6 c6] 24 _ hE7.size rfl
    obtain ⟨N3, hN3⟩ : ∃ N3, N3 = w6.heap.size := ⟨_, rfl⟩
    obtain ⟨w7, hw7⟩ : ∃ w7, w7 = w6.alloc (.cells #[.int .i64 (k), .slice A6 n6 c6] 24) := ⟨_, rfl⟩
    rw [← hw7] at hE7a hB13
    rw [← hN3] at hB13
    have hB7 := hB6.ext hE7a
    have hE8 := hE7.trans hE7a
    have hr7 := hr6.lift hE7a
    have hw7s : w7.heap.size = N3 + 1 := by rw [hw7, hN3]; simp
    have W7 := Lib.hid (And.intro hw7 (And.intro hN3 hw7s))
    have hl7 := hB7.lt
    have hl13 := hB13.lt
    have hc00 := hB7.cell 0 (by simp)
    have hc01 := hB7.cell 1 (by simp)
    simp only [List.getElem?_cons_zero, List.getElem?_cons_succ] at hc00 hc01
    have H7 := Lib.hid (And.intro hB7 (And.intro hB13 (And.intro hE8 hr7)))
    clear hB5 hE5 hE5a hE6 hE6a hB6 hE7 hE7a hB13 hB7 hE8 hr7 hr6 hw7 hN3 hw7s hl5 hb5
    go_wp2_with fail
    rw [← W7.out.1, ← W7.out.2.1]
    have hbig : w.heap.size ≤ w7.heap.size := H7.out.2.2.1.size
    have P3 := Lib.hid (fun (W : World) (v : Value) (hX : Ext w7 W) (hO : isOwn0 w7.heap.size v W) (ty : TypeId) => app_lit W w7.heap.size n1 v A1 c1 l1 i0 hi hz0 hz1 hz2 hO (HR1.out.1.lift (H7.out.2.2.1.trans hX)) (by omega) hX.size ty)
    have P5 := Lib.hid (fun (W : World) (v : Value) (hX : Ext w7 W) (hO : isOwn w7.heap.size n1 (bytes l1) v W) (ty : TypeId) => app_big W w7.heap.size n1 n2 v A2 c2 l1 l2 i0 hi hz0 hz1 hz2 hO (HR2.out.1.lift (H7.out.2.2.1.trans hX)) (by omega) hX.size ty)
    rw [← HLB.out.1] at P5
    have hLBn : LB.length ≤ 4000000 := by rw [HLB.out.1, List.length_append, HL1.out, HL2.out]; omega
    have P6 := Lib.hid (fun (W : World) (A5 : Option Addr) (c5 : Nat) (hX : Ext w W) (hb : Row W W.heap.size 1 A5 LB.length (bytes LB)) (h1 : LB.length ≤ c5) (h2 : c5 ≤ 9223372036854775807) => refPut_any (k) A n c l A5 LB.length c5 LB W (HR.out.1.lift hX) HR.out.2 hc hcm (by omega) hb (by omega) h1 h2)
    have HK := Lib.hid (And.intro hc00 hc01)
    apply wp_region_bigy 11 5 w7.heap.size 5 [0, 1, 0, 1, 0, 2, 2, 2, 2, 2, 0] (fun W => (W.cell? ⟨N, 0, none⟩ = some (.int .i64 (k)) ∧ W.cell? ⟨N, 1, none⟩ = some (.slice A n c)) ∧ Ext w W ∧ w7.heap.size ≤ W.heap.size) [is _, isOwn0 w7.heap.size, is _, isOwn w7.heap.size n1 (bytes l1), is _, isOwn w7.heap.size LB.length (bytes LB), isPutV (k) LP q, isPutV (k) LP q, isQS (k) LP, is (.int .i64 (q : Nat)), isBoxT w7.heap.size 24 [.int .i64 0, .slice none 0 0]] 9 _ (by kernel_rfl) (by kernel_rfl) (by kernel_rfl) rfl rfl (by decide) (fun _ _ _ _ h => h)
    case hS =>
      intro W hE
      exact ⟨⟨(hE.cell (by simp; omega) (by simp; omega)).trans HK.out.1, (hE.cell (by simp; omega) (by simp; omega)).trans HK.out.2⟩, hE.ext H7.out.2.2.1 hbig, hE.size⟩
    case hyo =>
      intro vs W hS hd
      simp only [List.take_succ_cons, List.take_zero, putAll, Act.put, List.setIfInBounds_toArray, List.set_cons_succ, List.set_cons_zero, Nat.zero_add, Nat.reduceAdd]
      simp [depFactsC, clsOf, is, dataE] at hd
      (obtain ⟨v', e, _⟩ := hd; rw [e]; refine ⟨.int .i64 (q : Nat), rfl, fun w2 => rfl, fun T hT => ?_⟩; injection hT with hT; subst hT; rfl)
    case hops =>
      simp only [List.take_succ_cons, List.take_zero]
      refine ⟨?_, ?_, ?_, ?_, ?_, ?_, ?_, ?_, ?_, ?_, ?_, trivial⟩
      all_goals
        intro vs W hS hX hd
        have hcell0 := hS.1.1
        have hcell1 := hS.1.2
        have hxs := hS.2.1
        have hss := hS.2.2
        clear hS
        simp only [putAll, Act.put, List.setIfInBounds_toArray, List.set_cons_succ, List.set_cons_zero, Nat.zero_add, Nat.reduceAdd]
        simp [depFactsC, clsOf, is, isRow, isRowN, isBox, dataE] at hd
        simp [clsOf] at hX
        simp only [Region.wanted, if_true, Nat.reduceEqDiff, if_false, reduceIte, Nat.reduceAdd, Nat.zero_ne_one, Nat.one_ne_zero, Nat.zero_add]
        try simp [yielded, hd]
      rotate_left 1
      refine Lock.out ?_
      rotate_left 2
      refine Lock.out ?_
      rotate_left 2
      refine Lock.out ?_
      rotate_left 1
      refine Lock.out ?_
      rotate_left 1
      refine Lock.out ?_
      rotate_left 1
      refine Lock.out ?_
      rotate_left 1
      refine Lock.out ?_
      rotate_left 1
      refine Lock.out ?_
      rotate_left 1
      all_goals
        try (
        with_reducible show comes _ _ _ _ _
        simp only [comes]
        try simp [yielded, hd, comes]
        go_simp
        try go_bits
        first
          | exact ⟨Ext.refl _, rfl⟩
          | exact rfl
          | exact ⟨(Ext.refl _).alloc _, _, rfl, Cells.new _ _ _ _ rfl⟩
        )
      · refine ⟨?_, trivial⟩
        (simp only [comes]; go_simp; exact ⟨(Ext.refl _).alloc _, _, rfl, own_empty W w7.heap.size _ hss⟩)
      · refine ⟨?_, trivial⟩
        exact comes_app (.tmp 49) (.tmp 50) 22 rfl (vs 1) (.slice A1 n1 c1) rfl rfl (P3.out W (vs 1) hX hd.1 _)
      · refine ⟨?_, trivial⟩
        exact comes_app (.tmp 51) (.tmp 52) 22 rfl (vs 3) (.slice A2 n2 c2) rfl rfl (P5.out W (vs 3) hX hd.1 _)
      · refine ⟨?_, trivial⟩
        (have h5 := hd.2; obtain ⟨A5, c5, e, hb1, hb2⟩ := own_form h5; rw [e] at h5 ⊢; simp only [comes]; go_simp; go_at_call 18; refine (P6.out _ A5 c5 hxs (own_row h5) hb1 hb2).mono ?_; rintro e w' ⟨v', rfl, hq, hE⟩; rw [← HLB.out.2.1, ← HLB.out.2.2] at hq; rw [← HLB.out.2.1]; exact ⟨_, rfl, hE, v', rfl, hq⟩)
      · refine ⟨?_, trivial⟩
        (simp only [comes]; go_simp; first | exact Ext.refl _ | exact ⟨Ext.refl _, hd⟩)
      · refine ⟨?_, trivial⟩
        (obtain ⟨v', e, hq⟩ := hd; rw [e]; simp only [comes]; go_simp; exact ⟨Ext.refl _, hq⟩)
      · refine ⟨?_, trivial⟩
        (obtain ⟨v', e, hq⟩ := hd; rw [e]; simp only [comes]; go_simp; first | exact ⟨Ext.refl _, rfl⟩ | exact Ext.refl _)
      · refine ⟨?_, trivial⟩
        (simp only [comes]; go_simp; exact ⟨(Ext.refl _).alloc _, _, rfl, BoxT.new _ _ _ _ hss rfl⟩)
    case hst => exact ⟨(by first | exact Stable2.is _ | exact Stable2.ext (by apply is.st) (by decide) | exact is.st2), (by first | exact Stable2.is _ | exact Stable2.ext (by apply isOwn0.st) (by decide) | exact isOwn0.st2), (by first | exact Stable2.is _ | exact Stable2.ext (by apply is.st) (by decide) | exact is.st2), (by first | exact Stable2.is _ | exact Stable2.ext (by apply isOwn.st) (by decide) | exact isOwn.st2), (by first | exact Stable2.is _ | exact Stable2.ext (by apply is.st) (by decide) | exact is.st2), (by first | exact Stable2.is _ | exact Stable2.ext (by apply isOwn.st) (by decide) | exact isOwn.st2), (by first | exact Stable2.is _ | exact Stable2.ext (by apply isPutV.st) (by decide) | exact isPutV.st2), (by first | exact Stable2.is _ | exact Stable2.ext (by apply isPutV.st) (by decide) | exact isPutV.st2), (by first | exact Stable2.is _ | exact Stable2.ext (by apply isQS.st) (by decide) | exact isQS.st2), (by first | exact Stable2.is _ | exact Stable2.ext (by apply is.st) (by decide) | exact is.st2), (by first | exact Stable2.is _ | exact Stable2.ext (by apply isBoxT.st) (by decide) | exact isBoxT.st2), trivial⟩
    case hfin =>
      intro vs W hE hS hf
      simp only [List.take_succ_cons, List.take_zero, List.drop_succ_cons, List.drop_zero, putAll, Act.put, List.setIfInBounds_toArray, List.set_cons_succ, List.set_cons_zero]
      simp [factsC, clsOf, is] at hf
      simp only [Nat.zero_add, Nat.reduceAdd, hf]
      obtain ⟨h0, h2, h4, h5, h6, h7, ⟨A8, n8, c8, h8e, hr8, hcb8, hcm8, hnil8⟩, h9, ⟨b8, h10, hT10⟩⟩ := hf
      rw [h8e, h10]
      obtain ⟨hB7, hB13, hE8, hr7⟩ := H7.out
      have hEW := hE.ext (Ext.refl w7) (Nat.le_refl _)
      have hB8 := hT10.box
      have hb8 := hB8.base
      have hN3 := W7.out.2.2
      have hne0 : b8 ≠ N := by omega
      have hne3 : b8 ≠ N3 := by omega
      have hBN := (((hB7.ext hEW).other (p := ⟨b8, 0, none⟩) hne0 (.int .i64 (k))).other (p := ⟨b8, 1, none⟩) hne0 (.slice A8 n8 c8))
      have hBN3 := (((hB13.ext hEW).other (p := ⟨b8, 0, none⟩) hne3 (.int .i64 (k))).other (p := ⟨b8, 1, none⟩) hne3 (.slice A8 n8 c8))
      have hBb := Box.stored hB8 (.int .i64 (k)) (.slice A8 n8 c8)
      have hx9 := (hr7.lift hEW).stored (a := 0) hB8 (.int .i64 (k)) (.slice A8 n8 c8)
      have hy9 := hr8.stored (a := 0) hB8 (.int .i64 (k)) (.slice A8 n8 c8)
      have hbw : w.heap.size ≤ b8 := by omega
      have hE9 := ((hE8.trans hEW).setCell (p := ⟨b8, 0, none⟩) hbw (.int .i64 (k))).setCell (p := ⟨b8, 1, none⟩) hbw (.slice A8 n8 c8)
      have hq0 := hB8.cell 0 (by simp)
      have hq1 := hB8.cell 1 (by simp)
      simp only [List.getElem?_cons_zero, List.getElem?_cons_succ] at hq0 hq1
      have hqf := hB8.free
      have hql := hB8.lt
      have hk0 := hS.1.1
      have hk1 := hS.1.2
      obtain ⟨w9, hw9⟩ : ∃ w9, w9 = (W.setCell ⟨b8, 0, none⟩ (.int .i64 (k))).setCell ⟨b8, 1, none⟩ (.slice A8 n8 c8) := ⟨_, rfl⟩
      rw [← hw9] at hBN hBN3 hBb hx9 hy9 hE9
      have H9 := Lib.hid (And.intro hw9 (And.intro hBN (And.intro hBN3 (And.intro hBb (And.intro hx9 (And.intro hy9 hE9))))))
      have hNn : N ≠ b8 := fun h => hne0 h.symm
      clear hw9 hBN hBN3 hBb hx9 hy9 hE9 h0 h2 h4 h5 h6 h7 h8e h9 h10 hS hE hB7 hB13 hE8 hr7 hEW hB8 hT10 hr8 HK H7 W7 P3 P5 P6 hN3 hc00 hc01
      go_wp2_with fail
      rw [← H9.out.1]
      obtain ⟨_, hBN, hBN3, hBb, hx9, hy9, hE9⟩ := H9.out
      obtain ⟨f, hf⟩ : ∃ f, f = (qfirst (k) n (ta)).toNat := ⟨_, rfl⟩
      have T9 := take_any (k) A n c l (ta) w9 (HR.out.1.lift hE9) HR.out.2 (by omega)
      rw [← hf] at T9
      obtain ⟨LT, hLT⟩ : ∃ LT, LT = l.take f := ⟨_, rfl⟩
      obtain ⟨LD, hLD⟩ : ∃ LD, LD = l.drop f := ⟨_, rfl⟩
      have HF := Lib.hid (And.intro hf (And.intro hLT hLD))
      clear hf hLT hLD H9 hk0 hk1 hq0 hq1 hqf hql
      refine T9.mono ?_
      clear T9
      rintro e w10 ⟨t1, t2, rfl, ht1, ht2, hE10⟩
      rw [← HF.out.2.1] at ht1
      rw [← HF.out.2.2] at ht2
      obtain ⟨X10, m10, d10, rfl, hrX, hcX, hmX, hnX⟩ := ht1
      obtain ⟨Y10, u10, z10, rfl, hrY, hcY, hmY, hnY⟩ := ht2
      have hE10a := (Ext.refl w10).alloc (.cells #[.int .i64 (k), .slice Y10 u10 z10] 24)
      have hB18 := Box.new (N := w.heap.size) w10 #[.int .i64 (k), .slice Y10 u10 z10] 24 _ (hE9.trans hE10).size rfl
      have hBN10 := hBN.ext hE10
      have hn10 := hBN10.cell 0 (by simp)
      have hn11 := hBN10.cell 1 (by simp)
      simp only [List.getElem?_cons_zero, List.getElem?_cons_succ] at hn10 hn11
      have hnl := hBN10.lt
      have R10 := refTake_any (k) A n c l (ta) _ (HR.out.1.lift ((hE9.trans hE10).trans hE10a)) HR.out.2 hc hcm (by omega)
      rw [← HF.out.1] at R10
      have hEE := hE10.trans hE10a
      have H10 := Lib.hid (And.intro (hBN.ext hEE) (And.intro (hBN3.ext hEE) (And.intro (hBb.ext hEE) (And.intro (hx9.lift hEE) (And.intro (hy9.lift hEE) (And.intro (hE9.trans hEE) (And.intro hB18 (And.intro (hrX.lift hE10a) (And.intro (hrY.lift hE10a) R10)))))))))
      clear hBN hBN3 hBb hx9 hy9 hE9 hE10 hE10a hB18 hrX hrY R10 hEE hBN10
      go_wp2_with fail
      obtain ⟨hBN, hBN3, hBb, hx9, hy9, hE9, hB18, hrX, hrY, R10⟩ := H10.out
      refine R10.mono ?_
      clear R10 H10 hn10 hn11
      rintro e w11 ⟨t1, t2, rfl, ht1, ht2, hE11⟩
      rw [← HF.out.2.1] at ht1
      rw [← HF.out.2.2] at ht2
      obtain ⟨X11, m11, d11, rfl, hrX', hcX', hmX', hnX'⟩ := ht1
      obtain ⟨Y11, u11, z11, rfl, hrY', hcY', hmY', hnY'⟩ := ht2
      have hE11a := (Ext.refl w11).alloc (.cells #[.int .i64 (k), .slice Y11 u11 z11] 24)
      have hB20 := Box.new (N := w.heap.size) w11 #[.int .i64 (k), .slice Y11 u11 z11] 24 _ (hE9.trans hE11).size rfl
      have hE12 := hE11.trans hE11a
      have hb0 := hBN.ext hE12
      have hb3 := hBN3.ext hE12
      have hbb := hBb.ext hE12
      have hb18 := hB18.ext hE12
      have x12 : QS _ (qu (k) A6 n6 c6) (k) LP := ⟨A6, n6, c6, rfl, hx9.lift hE12, hcb6, hcm6, hnil6⟩
      have y12 : QS _ (qu (k) A8 n8 c8) (k) LP := ⟨A8, n8, c8, rfl, hy9.lift hE12, hcb8, hcm8, hnil8⟩
      have z12 : QS _ (qu (k) Y10 u10 z10) (k) LD := ⟨Y10, u10, z10, rfl, hrY.lift hE12, hcY, hmY, hnY⟩
      have v12 : QS _ (qu (k) Y11 u11 z11) (k) LD := ⟨Y11, u11, z11, rfl, hrY'.lift hE11a, hcY', hmY', hnY'⟩
      have d12 : BS _ (.slice X10 m10 d10) LT := ⟨X10, m10, d10, rfl, hrX.lift hE12, hcX, hmX, hnX⟩
      have e12 : BS _ (.slice X11 m11 d11) LT := ⟨X11, m11, d11, rfl, hrX'.lift hE11a, hcX', hmX', hnX'⟩
      have hEF := hE9.trans hE12
      obtain ⟨N18, hN18⟩ : ∃ N18, N18 = w10.heap.size := ⟨_, rfl⟩
      obtain ⟨N20, hN20⟩ : ∃ N20, N20 = w11.heap.size := ⟨_, rfl⟩
      obtain ⟨w12, hw12⟩ : ∃ w12, w12 = w11.alloc (.cells #[.int .i64 (k), .slice Y11 u11 z11] 24) := ⟨_, rfl⟩
      rw [← hw12] at hb0 hb3 hbb hb18 x12 y12 z12 v12 d12 e12 hEF hB20
      rw [← hN18] at hb18
      rw [← hN20] at hB20
      have W12 := Lib.hid (And.intro hw12 (And.intro hN18 hN20))
      obtain ⟨ST, hST⟩ : ∃ ST, ST = strOfNums LT := ⟨_, rfl⟩
      have HST := Lib.hid hST
      have hi00 := hb0.cell 0 (by simp)
      have hi01 := hb0.cell 1 (by simp)
      have hi30 := hb3.cell 0 (by simp)
      have hi31 := hb3.cell 1 (by simp)
      have hib0 := hbb.cell 0 (by simp)
      have hib1 := hbb.cell 1 (by simp)
      have hi180 := hb18.cell 0 (by simp)
      have hi181 := hb18.cell 1 (by simp)
      have hi200 := hB20.cell 0 (by simp)
      have hi201 := hB20.cell 1 (by simp)
      simp only [List.getElem?_cons_zero, List.getElem?_cons_succ] at hi00 hi01 hi30 hi31 hib0 hib1 hi180 hi181 hi200 hi201
      have P12 := Lib.hid (fun (W : World) (hX : Ext w12 W) => peek_any (k) A n c l (ta) W (HR.out.1.lift (hEF.trans hX)) HR.out.2 (by omega) hc hcm)
      rw [← HF.out.1, ← HF.out.2.1] at P12
      have H12 := Lib.hid (And.intro x12 (And.intro y12 (And.intro z12 (And.intro v12 (And.intro d12 (And.intro e12 hEF))))))
      clear hBN hBN3 hBb hx9 hy9 hE9 hB18 hrX hrY hE11 hrX' hrY' hE11a hB20 hE12 hb0 hb3 hbb hb18 x12 y12 z12 v12 d12 e12 hEF hw12 hN18 hN20 hST hnl
      go_wp2_with fail
      rw [← W12.out.1, ← W12.out.2.1, ← W12.out.2.2]
      apply wp_region_ext 32 [is _, is _, is _, is (.bool true), is _, is _, is (.bool true), is _, is (.bool true), is _, is (.string ST), is _, is (.string ST), is _, is _, is (.bool true), is _, is _, is (.bool true), is _, is (.bool true), is _, is _, isBS LT, is (.string ST), is _, is (.string ST), is _, is _, is (.bool true), is (.bool true), is _] (by kernel_rfl) (by kernel_rfl) rfl
      case hops =>
        simp only [List.take_succ_cons, List.take_zero]
        refine ⟨?_, ?_, ?_, ?_, ?_, ?_, ?_, ?_, ?_, ?_, ?_, ?_, ?_, ?_, ?_, ?_, ?_, ?_, ?_, ?_, ?_, ?_, ?_, ?_, ?_, ?_, ?_, ?_, ?_, ?_, ?_, ?_, trivial⟩
        all_goals
          intro vs x hd
          simp only [putAll, Act.put, List.setIfInBounds_toArray, List.set_cons_succ, List.set_cons_zero, Nat.zero_add, Nat.reduceAdd]
          simp [depFacts, is, isRow, isRowN, isBox, dataE] at hd
          try simp only [World.plus_plus] at hd
          simp only [Region.wanted, if_true]
          try simp [yielded, hd]
        rotate_left 6
        refine Lock.out ?_
        rotate_left 4
        refine Lock.out ?_
        rotate_left 2
        refine Lock.out ?_
        rotate_left 6
        refine Lock.out ?_
        rotate_left 5
        refine Lock.out ?_
        rotate_left 1
        refine Lock.out ?_
        rotate_left 2
        refine Lock.out ?_
        rotate_left 6
        all_goals
          try (
          with_reducible show comes _ _ _ _ _
          simp only [comes]
          try simp [yielded, hd, comes]
          go_simp
          try go_bits
          first
            | exact ⟨Ext.refl _, rfl⟩
            | exact rfl
            | exact ⟨(Ext.refl _).alloc _, _, rfl, Cells.new _ _ _ _ rfl⟩
            | exact ⟨(Ext.refl _).alloc _, _, rfl, Box.new _ _ _ _ (by simp [World.le_plus]) rfl⟩
            | ((go_at_call 15); refine (awake_any _).mono ?_; rintro e w' ⟨rfl, hE⟩; exact ⟨_, rfl, hE, rfl⟩)
          )
        · refine ⟨?_, trivial⟩
          (simp only [comes]; go_simp; go_at_call 9; refine (same_qs (k) _ _ LP _ (H12.out.1.lift ((Ext.refl w12).plus_ x)) (H12.out.2.1.lift ((Ext.refl w12).plus_ x))).mono ?_; rintro e w' ⟨rfl, hE⟩; exact ⟨_, rfl, hE, rfl⟩)
        · refine ⟨?_, trivial⟩
          exact comes_str (.tmp 78) rfl (.slice X10 m10 d10) rfl LT (H12.out.2.2.2.2.1.lift ((Ext.refl w12).plus_ x)) ⟨Ext.refl _, by show Value.string _ = _; rw [← HST.out]⟩
        · refine ⟨?_, trivial⟩
          exact comes_str (.tmp 80) rfl (.slice X11 m11 d11) rfl LT (H12.out.2.2.2.2.2.1.lift ((Ext.refl w12).plus_ x)) ⟨Ext.refl _, by show Value.string _ = _; rw [← HST.out]⟩
        · refine ⟨?_, trivial⟩
          (simp only [comes]; go_simp; go_at_call 9; refine (same_qs (k) _ _ LD _ (H12.out.2.2.1.lift ((Ext.refl w12).plus_ x)) (H12.out.2.2.2.1.lift ((Ext.refl w12).plus_ x))).mono ?_; rintro e w' ⟨rfl, hE⟩; exact ⟨_, rfl, hE, rfl⟩)
        · refine ⟨?_, trivial⟩
          (simp only [comes]; go_simp; go_at_call 21; refine (P12.out _ ((Ext.refl w12).plus_ x)).mono ?_; rintro e w' ⟨v, rfl, hown, hE⟩; exact ⟨_, rfl, hE, BS.of_own hown⟩)
        · refine ⟨?_, trivial⟩
          exact comes_str (.tmp 92) rfl (vs 23) rfl LT hd.1 ⟨Ext.refl _, by show Value.string _ = _; rw [← HST.out]⟩
        · refine ⟨?_, trivial⟩
          exact comes_str (.tmp 94) rfl (.slice X11 m11 d11) rfl LT (H12.out.2.2.2.2.2.1.lift ((Ext.refl w12).plus_ x)) ⟨Ext.refl _, by show Value.string _ = _; rw [← HST.out]⟩
      case hst => exact ⟨(by apply is.st), (by apply is.st), (by apply is.st), (by apply is.st), (by apply is.st), (by apply is.st), (by apply is.st), (by apply is.st), (by apply is.st), (by apply is.st), (by apply is.st), (by apply is.st), (by apply is.st), (by apply is.st), (by apply is.st), (by apply is.st), (by apply is.st), (by apply is.st), (by apply is.st), (by apply is.st), (by apply is.st), (by apply is.st), (by apply is.st), (by apply isBS.st), (by apply is.st), (by apply is.st), (by apply is.st), (by apply is.st), (by apply is.st), (by apply is.st), (by apply is.st), (by apply is.st), trivial⟩
      case hfin =>
        intro vs x hf
        try simp only [World.plus_plus] at hf ⊢
        simp only [List.take_succ_cons, List.take_zero, List.drop_succ_cons, List.drop_zero, putAll, Act.put, List.setIfInBounds_toArray, List.set_cons_succ, List.set_cons_zero]
        simp only [facts, is, Nat.zero_add, Nat.reduceAdd] at hf
        simp only [Nat.zero_add, Nat.reduceAdd, hf]
        clear hf
        go_wp2
        go_ret
        exact ⟨rfl, H12.out.2.2.2.2.2.2.trans ((Ext.refl w12).plus_ x)⟩
theorem law_qput (v0 v1 v2 v3 v4 v5 : Value) (W : World) (o0 : ∃ (k : Int) (A : Option Addr) (n c : Nat) (l : List Int), v0 = .agg #[.int .i64 k, .slice A n c] ∧ I64 k ∧ ArgRow W A n c (l.map (Value.int .u8)) ∧ ∀ x ∈ l, 0 ≤ x ∧ x ≤ 255)
    (o1 : ∃ A n c, ∃ l : List Int, v1 = .slice A n c ∧ ArgRow W A n c (l.map (Value.int .u8)) ∧ ∀ x ∈ l, 0 ≤ x ∧ x ≤ 255) (o2 : ∃ A n c, ∃ l : List Int, v2 = .slice A n c ∧ ArgRow W A n c (l.map (Value.int .u8)) ∧ ∀ x ∈ l, 0 ≤ x ∧ x ≤ 255)
    (o3 : ∃ m, v3 = .int .i64 m ∧ I64 m) (o4 : ∃ m, v4 = .int .i64 m ∧ I64 m) (o5 : ∃ b, v5 = .bool b)
    (b0 : ∀ k A n c, v0 = .agg #[.int .i64 k, .slice A n c] → n ≤ 1048576) (b1 : ∀ A n c, v1 = .slice A n c → n ≤ 1048576) (b2 : ∀ A n c, v2 = .slice A n c → n ≤ 1048576) :
    Calls Try.prog 4 #[v0, v1, v2, v3, v4, v5] W fun e w' => e = .returned (.bool true) ∧ Ext W w' := by
  obtain ⟨k, A, n, c, l, rfl, _, ⟨hr, h1, h2, h3⟩, _⟩ := o0
  obtain ⟨A1, n1, c1, l1, rfl, ⟨hr1, h11, h21, h31⟩, _⟩ := o1
  obtain ⟨A2, n2, c2, l2, rfl, ⟨hr2, h12, h22, h32⟩, _⟩ := o2
  obtain ⟨x, rfl, _⟩ := o3
  obtain ⟨y, rfl, _⟩ := o4
  obtain ⟨b, rfl⟩ := o5
  exact law_qput_ k A n c l A1 n1 c1 l1 A2 n2 c2 l2 x y b W hr h1 h2 h3 hr1 h11 h21 h31 hr2 h12 h22 h32 (b0 k A n c rfl) (b1 A1 n1 c1 rfl) (b2 A2 n2 c2 rfl)
end Go.Proofs.Ytlmpicopkbpffaa
