/- window.Merge and its reference: what they compute. -/
import Derived.Test.YtngokfaaaeikoaaLawNever
namespace Go.Proofs.Ytngokfaaaeikoaa
open Go.RowKit Go.Rg

abbrev W3 := Int × Int × Int
abbrev cells3 (x : W3) : List Value := [.int .i64 x.1, .int .i64 x.2.1, .int .i64 x.2.2]
def wcells (ws : List W3) : List Value := ws.flatMap cells3
def mT (ws : List W3) (k : Nat) : Int := (ws.take k).foldl (fun s x => cap2 s x.1) 0
def mE (ws : List W3) (k : Nat) : Int := (ws.take k).foldl (fun s x => cap2 s x.2.1) 0
theorem mT_succ (ws : List W3) (k : Nat) (x : W3) (h : ws[k]? = some x) : mT ws (k + 1) = cap2 (mT ws k) x.1 := by
  unfold mT; rw [List.take_add_one, h, Option.toList, List.foldl_append]; rfl
theorem mE_succ (ws : List W3) (k : Nat) (x : W3) (h : ws[k]? = some x) : mE ws (k + 1) = cap2 (mE ws k) x.2.1 := by
  unfold mE; rw [List.take_add_one, h, Option.toList, List.foldl_append]; rfl
theorem wcells_at (ws : List W3) : ∀ (k j : Nat) (x : W3), ws[k]? = some x → j < 3 → (wcells ws)[k * 3 + j]? = (cells3 x)[j]? := by
  induction ws with
  | nil => intro k j x h; simp at h
  | cons y ws ih =>
    intro k j x h hj
    cases k with
    | zero =>
      simp at h; subst h
      simp only [wcells, List.flatMap_cons]
      rw [List.getElem?_append_left (by simp; omega)]
      simp
    | succ k =>
      have := ih k j x (by simpa using h) hj
      simp only [wcells, List.flatMap_cons] at this ⊢
      rw [List.getElem?_append_right (by simp; omega)]
      simp only [List.length_cons, List.length_nil]
      rw [← this]
      congr 1
      omega
theorem wcells_len (ws : List W3) : (wcells ws).length = ws.length * 3 := by
  induction ws with
  | nil => rfl
  | cons y ws ih => simp only [wcells, List.flatMap_cons, List.length_append] at ih ⊢; simp [ih]; omega
theorem Row.win_at {w : World} {B : Nat} {A : Option Addr} {n : Nat} {ws : List W3} (h : Row w B 3 A n (wcells ws)) {k : Nat} (hk : k < n) :
    ∃ b o t e a, A = some ⟨b, o, none⟩ ∧ b < B ∧ ws[k]? = some (t, e, a) ∧ w.cell? ⟨b, o + k * 3, none⟩ = some (.int .i64 t) ∧ w.cell? ⟨b, o + k * 3 + 1, none⟩ = some (.int .i64 e) ∧ w.cell? ⟨b, o + k * 3 + 2, none⟩ = some (.int .i64 a) := by
  obtain ⟨b, o, e, hb, hc⟩ := h.2 (by omega)
  have hl := h.1
  rw [wcells_len] at hl
  have hk' : k < ws.length := by omega
  have hat := fun j hj => wcells_at ws k j ws[k] (List.getElem?_eq_getElem hk') hj
  refine ⟨b, o, ws[k].1, ws[k].2.1, ws[k].2.2, e, hb, List.getElem?_eq_getElem hk', ?_, ?_, ?_⟩
  · exact hc (k * 3) _ (hat 0 (by omega))
  · exact hc (k * 3 + 1) _ (hat 1 (by omega))
  · exact hc (k * 3 + 2) _ (hat 2 (by omega))

theorem cap2_bd (x y : Int) : 0 ≤ cap2 x y ∧ cap2 x y ≤ 1000000000 := by
  have := addTo_bd 1000000000 [x, y] 2; unfold cap2; omega
theorem cap2_zero (x : Int) (h : 0 ≤ x) (h' : x ≤ 1000000000) : cap2 x 0 = x := by rw [cap2_eq x 0 h h' (by omega)]; omega
theorem mT_bd (ws : List W3) (k : Nat) : 0 ≤ mT ws k ∧ mT ws k ≤ 1000000000 := by
  induction k with
  | zero => simp [mT]
  | succ k ih =>
    rcases h : ws[k]? with _ | z
    · have : mT ws (k + 1) = mT ws k := by unfold mT; rw [List.take_add_one, h]; simp
      omega
    · rw [mT_succ ws k z h]; exact cap2_bd _ _
theorem mE_bd (ws : List W3) (k : Nat) : 0 ≤ mE ws k ∧ mE ws k ≤ 1000000000 := by
  induction k with
  | zero => simp [mE]
  | succ k ih =>
    rcases h : ws[k]? with _ | z
    · have : mE ws (k + 1) = mE ws k := by unfold mE; rw [List.take_add_one, h]; simp
      omega
    · rw [mE_succ ws k z h]; exact cap2_bd _ _

def MergeRel (w : World) (ws : List W3) (n : Nat) (i : Value) (wr : World) : Prop :=
  ∃ (k : Nat) (s e : Int) (x : Array Obj × Nat), k ≤ n ∧ i = .int .i64 k ∧ Hid (s = mT ws k ∧ e = mE ws k) ∧ wr = ((w.alloc (.cells #[.int .i64 0, .int .i64 0, .int .i64 0] 23)).alloc (.cells #[.int .i64 s, .int .i64 e, .int .i64 0] 23)).plus x

set_option maxHeartbeats 1000000 in
theorem merge_any (A : Option Addr) (n c : Nat) (ws : List W3) (w : World) (hr : Row w w.heap.size 3 A n (wcells ws)) (hn : n ≤ 9223372036854775807) :
    Calls Try.prog 12 #[.slice A n c] w fun ee w' => ee = .returned (win (mT ws n) (mE ws n) 0) ∧ Ext w w' := by
  go_enter Try.func12, Try.ntmps12
  go_wp2
  go_loopw [8] (fun i wr => MergeRel w ws n i wr) (fun i _ => n - (intOf i).toNat)
  case atStart => exact ⟨0, 0, 0, _, Nat.zero_le _, rfl, ⟨rfl, rfl⟩, World.plus_self _⟩
  case round =>
    obtain ⟨k, s, e, x, hk, rfl, hid, rfl⟩ := hrel
    by_cases hlt : k < n
    · obtain ⟨b, o, t, f, a, rfl, hb, hz, c0, c1, c2⟩ := hr.win_at hlt
      have S1 := mT_succ ws k _ hz
      have S2 := mE_succ ws k _ hz
      have B1 := mT_bd ws k
      have B2 := mE_bd ws k
      rw [← hid.out.1] at S1 B1
      rw [← hid.out.2] at S2 B2
      have HS := Lib.hid (And.intro S1 S2)
      clear S1 S2 hz hr
      by_cases hzero : t = 0 ∧ f = 0 ∧ a = 0
      · obtain ⟨rfl, rfl, rfl⟩ := hzero
        go_wp2
        go_roundw
        case rel =>
          have h1 := HS.out.1
          have h2 := HS.out.2
          dsimp only at h1 h2
          rw [cap2_zero _ B1.1 B1.2] at h1
          rw [cap2_zero _ B2.1 B2.2] at h2
          exact ⟨k + 1, s, e, _, by omega, by go_num, ⟨h1.symm, h2.symm⟩, by rw [World.alloc_plus]⟩
        case measure => simp [intOf]; omega
      · rcases (show ¬ t = 0 ∨ (t = 0 ∧ ¬ f = 0) ∨ (t = 0 ∧ f = 0 ∧ ¬ a = 0) by omega) with z | ⟨rfl, z⟩ | ⟨rfl, rfl, z⟩
        all_goals
          clear hzero
          go_wp2
          apply wp_region_ext 13 [is _, is _, is _, is _, isRow [_, _], is _, is _, is _, is _, is _, isRow [_, _], is _, is _] (by kernel_rfl) (by kernel_rfl) rfl
          case hops =>
            simp only [List.take_succ_cons, List.take_zero]
            refine ⟨?_, ?_, ?_, ?_, ?_, ?_, ?_, ?_, ?_, ?_, ?_, ?_, ?_, trivial⟩
            all_goals
              intro vs x hd
              simp only [putAll, Act.put, List.setIfInBounds_toArray, List.set_cons_succ, List.set_cons_zero, Nat.zero_add, Nat.reduceAdd]
              simp [depFacts, is, isRow, isRowN, isBox, dataE] at hd
              try simp only [World.plus_plus] at hd
              simp only [Region.wanted, if_true, comes]
              try simp [yielded, hd, comes]
              go_simp
              try go_bits
              first
                | exact ⟨Ext.refl _, rfl⟩
                | exact ⟨(Ext.refl _).alloc _, _, rfl, Cells.new _ _ _ _ rfl⟩
                | exact ⟨(Ext.refl _).alloc _, _, rfl, Box.new _ _ _ _ (by simp [World.le_plus]) rfl⟩
                | (obtain ⟨b, hv, hb⟩ := hd; rw [hv]; refine (add_two _ _ _ b _ hb (by decide)).mono ?_; rintro e w' ⟨rfl, rfl⟩; exact ⟨_, rfl, Ext.refl _, rfl⟩)
          case hst => exact ⟨(by apply is.st), (by apply is.st), (by apply is.st), (by apply is.st), (by apply isRow.st), (by apply is.st), (by apply is.st), (by apply is.st), (by apply is.st), (by apply is.st), (by apply isRow.st), (by apply is.st), (by apply is.st), trivial⟩
          case hfin =>
            intro vs x hf
            try simp only [World.plus_plus] at hf ⊢
            simp only [List.take_succ_cons, List.take_zero, List.drop_succ_cons, List.drop_zero, putAll, Act.put, List.setIfInBounds_toArray, List.set_cons_succ, List.set_cons_zero]
            simp only [facts, is, Nat.zero_add, Nat.reduceAdd] at hf
            simp only [Nat.zero_add, Nat.reduceAdd, hf]
            clear hf
            go_wp2
            go_roundw
            case rel => exact ⟨k + 1, _, _, _, by omega, by go_num, ⟨HS.out.1.symm, HS.out.2.symm⟩, by rw [World.alloc_plus, World.plus_plus]; rfl⟩
            case measure => simp [intOf]; omega
    · have hkn : k = n := by omega
      subst hkn
      go_wp2
      refine bodyPost_ret (v := win s e 0) (by simp [results, Try.results12, go_sem]) rfl ?_
      refine ⟨by rw [hid.out.1, hid.out.2], ?_⟩
      repeat (first | exact Ext.refl _ | apply Ext.drew | apply Ext.drewN | apply Ext.plus_ | apply Ext.alloc | assumption)

theorem refAdd_two (most x y : Int) (b : Nat) (w : World) (hb : Cells w b [.int .i64 x, .int .i64 y]) (hm : most ≤ 9223372036854775807) :
    Calls Try.prog 15 #[.int .i64 most, .slice (some ⟨b, 0, none⟩) 2 2] w fun e w' => e = .returned (.int .i64 (addTo most [x, y] 2)) ∧ w = w' :=
  refAdd_any most _ 2 2 [x, y] w ⟨rfl, fun _ => ⟨b, 0, rfl, hb.1, fun j u hu => by simpa using hb.2 j u hu⟩⟩ hm (by decide)

set_option maxHeartbeats 1000000 in
theorem refMerge_any (A : Option Addr) (n c : Nat) (ws : List W3) (w : World) (hr : Row w w.heap.size 3 A n (wcells ws)) (hn : n ≤ 9223372036854775807) :
    Calls Try.prog 13 #[.slice A n c] w fun ee w' => ee = .returned (win (mT ws n) (mE ws n) 0) ∧ Ext w w' := by
  go_enter Try.func13, Try.ntmps13
  go_wp2
  go_loopw [4] (fun i wr => MergeRel w ws n i wr) (fun i _ => n - (intOf i).toNat)
  case atStart => exact ⟨0, 0, 0, _, Nat.zero_le _, rfl, ⟨rfl, rfl⟩, World.plus_self _⟩
  case round =>
    obtain ⟨k, s, e, x, hk, rfl, hid, rfl⟩ := hrel
    by_cases hlt : k < n
    · obtain ⟨b, o, t, f, a, rfl, hb, hz, c0, c1, c2⟩ := hr.win_at hlt
      have S1 := mT_succ ws k _ hz
      have S2 := mE_succ ws k _ hz
      rw [← hid.out.1] at S1
      rw [← hid.out.2] at S2
      have HS := Lib.hid (And.intro S1 S2)
      clear S1 S2 hz hr
      go_wp2
      apply wp_region_ext 10 [is _, is _, is _, is _, is _, is _, is _, isRow [_, _], is _, is _] (by kernel_rfl) (by kernel_rfl) rfl
      case hops =>
        simp only [List.take_succ_cons, List.take_zero]
        refine ⟨?_, ?_, ?_, ?_, ?_, ?_, ?_, ?_, ?_, ?_, trivial⟩
        all_goals
          intro vs x hd
          simp only [putAll, Act.put, List.setIfInBounds_toArray, List.set_cons_succ, List.set_cons_zero, Nat.zero_add, Nat.reduceAdd]
          simp [depFacts, is, isRow, isRowN, isBox, dataE] at hd
          try simp only [World.plus_plus] at hd
          simp only [Region.wanted, if_true, comes]
          try simp [yielded, hd, comes]
          go_simp
          try go_bits
          first
            | exact ⟨Ext.refl _, rfl⟩
            | exact ⟨(Ext.refl _).alloc _, _, rfl, Cells.new _ _ _ _ rfl⟩
            | exact ⟨(Ext.refl _).alloc _, _, rfl, Box.new _ _ _ _ (by simp [World.le_plus]) rfl⟩
            | (obtain ⟨b, hv, hb⟩ := hd; rw [hv]; refine (refAdd_two _ _ _ b _ hb (by decide)).mono ?_; rintro e w' ⟨rfl, rfl⟩; exact ⟨_, rfl, Ext.refl _, rfl⟩)
      case hst => exact ⟨(by apply is.st), (by apply is.st), (by apply is.st), (by apply is.st), (by apply is.st), (by apply is.st), (by apply is.st), (by apply isRow.st), (by apply is.st), (by apply is.st), trivial⟩
      case hfin =>
        intro vs x hf
        try simp only [World.plus_plus] at hf ⊢
        simp only [List.take_succ_cons, List.take_zero, List.drop_succ_cons, List.drop_zero, putAll, Act.put, List.setIfInBounds_toArray, List.set_cons_succ, List.set_cons_zero]
        simp only [facts, is, Nat.zero_add, Nat.reduceAdd] at hf
        simp only [Nat.zero_add, Nat.reduceAdd, hf]
        clear hf
        go_wp2
        apply wp_region_ext 10 [is _, is _, is _, is _, is _, is _, is _, isRow [_, _], is _, is _] (by kernel_rfl) (by kernel_rfl) rfl
        case hops =>
          simp only [List.take_succ_cons, List.take_zero]
          refine ⟨?_, ?_, ?_, ?_, ?_, ?_, ?_, ?_, ?_, ?_, trivial⟩
          all_goals
            intro vs x hd
            simp only [putAll, Act.put, List.setIfInBounds_toArray, List.set_cons_succ, List.set_cons_zero, Nat.zero_add, Nat.reduceAdd]
            simp [depFacts, is, isRow, isRowN, isBox, dataE] at hd
            try simp only [World.plus_plus] at hd
            simp only [Region.wanted, if_true, comes]
            try simp [yielded, hd, comes]
            go_simp
            try go_bits
            first
              | exact ⟨Ext.refl _, rfl⟩
              | exact ⟨(Ext.refl _).alloc _, _, rfl, Cells.new _ _ _ _ rfl⟩
              | exact ⟨(Ext.refl _).alloc _, _, rfl, Box.new _ _ _ _ (by simp [World.le_plus]) rfl⟩
              | (obtain ⟨b, hv, hb⟩ := hd; rw [hv]; refine (refAdd_two _ _ _ b _ hb (by decide)).mono ?_; rintro e w' ⟨rfl, rfl⟩; exact ⟨_, rfl, Ext.refl _, rfl⟩)
        case hst => exact ⟨(by apply is.st), (by apply is.st), (by apply is.st), (by apply is.st), (by apply is.st), (by apply is.st), (by apply is.st), (by apply isRow.st), (by apply is.st), (by apply is.st), trivial⟩
        case hfin =>
          intro vs x hf
          try simp only [World.plus_plus] at hf ⊢
          simp only [List.take_succ_cons, List.take_zero, List.drop_succ_cons, List.drop_zero, putAll, Act.put, List.setIfInBounds_toArray, List.set_cons_succ, List.set_cons_zero]
          simp only [facts, is, Nat.zero_add, Nat.reduceAdd] at hf
          simp only [Nat.zero_add, Nat.reduceAdd, hf]
          clear hf
          go_wp2
          go_roundw
          case rel => exact ⟨k + 1, _, _, _, by omega, by go_num, ⟨HS.out.1.symm, HS.out.2.symm⟩, rfl⟩
          case measure => simp [intOf]; omega
    · have hkn : k = n := by omega
      subst hkn
      go_wp2
      refine bodyPost_ret (v := win s e 0) (by simp [results, Try.results13, go_sem]) rfl ?_
      refine ⟨by rw [hid.out.1, hid.out.2], ?_⟩
      repeat (first | exact Ext.refl _ | apply Ext.drew | apply Ext.drewN | apply Ext.plus_ | apply Ext.alloc | assumption)
end Go.Proofs.Ytngokfaaaeikoaa
