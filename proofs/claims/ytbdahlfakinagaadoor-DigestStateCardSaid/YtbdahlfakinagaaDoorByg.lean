/- slices.Grow of nil, slices.Concat. -/
import Derived.Test.YtbdahlfakinagaaDoorByc
import Derived.Test.YtbdahlfakinagaaDoorApp
import Derived.Lib.AppendZerosOnto
set_option linter.unusedVariables false
namespace Go.Proofs.YtbdahlfakinagaaDoor
open Go.RowKit Go.Rg

theorem Row.take {w : World} {B n : Nat} {A : Option Addr} {xs : List Value} (h : Row w B 1 A n xs) (m : Nat) (hm : m ≤ n) : Row w B 1 A m (xs.take m) := by
  have hl := h.len
  refine ⟨by simp; omega, fun hn => ?_⟩
  obtain ⟨b, o, e, hb, hc⟩ := h.2 (by omega)
  refine ⟨b, o, e, hb, fun j u hu => hc j u ?_⟩
  rw [List.getElem?_take] at hu
  split at hu
  · exact hu
  · cases hu
/-- A value that owns a row from block B on. -/
def isOwn (B n : Nat) (xs : List Value) : Value → World → Prop := fun v w => w.ownsRow B 5 1 v n xs
theorem isOwn.st (B n : Nat) (xs : List Value) : Stable (isOwn B n xs) := fun _ _ _ e h => own_ext h e
/-- The value is a slice of the bytes l. -/
def BS (w : World) (v : Value) (l : List Int) : Prop := ∃ A n c, v = .slice A n c ∧ Row w w.heap.size 1 A n (bytes l) ∧ n ≤ c ∧ c ≤ 9223372036854775807 ∧ (A = none → n = 0 ∧ c = 0)
theorem BS.lift {w W : World} {v : Value} {l : List Int} (h : BS w v l) (e : Ext w W) : BS W v l := by
  obtain ⟨A, n, c, h1, h2, h3⟩ := h
  exact ⟨A, n, c, h1, h2.lift e, h3⟩
/-- The values are slices of the bytes ls. -/
def VB (w : World) (vs : List Value) (ls : List (List Int)) : Prop := vs.length = ls.length ∧ ∀ (k : Nat) (v : Value) (l : List Int), vs[k]? = some v → ls[k]? = some l → BS w v l
theorem VB.lift {w W : World} {vs : List Value} {ls : List (List Int)} (h : VB w vs ls) (e : Ext w W) : VB W vs ls := ⟨h.1, fun k v l h1 h2 => (h.2 k v l h1 h2).lift e⟩
def cat (ls : List (List Int)) (k : Nat) : List Int := (ls.take k).flatten
theorem cat_succ (ls : List (List Int)) (k : Nat) (l : List Int) (h : ls[k]? = some l) : cat ls (k + 1) = cat ls k ++ l := by
  unfold cat
  rw [List.take_add_one, h]
  simp
theorem cat_le (ls : List (List Int)) (k : Nat) : (cat ls k).length ≤ ls.flatten.length := by
  unfold cat
  conv => rhs; rw [← List.take_append_drop k ls]
  rw [List.flatten_append, List.length_append]
  omega
theorem cat_all (ls : List (List Int)) (k : Nat) (h : ls.length ≤ k) : cat ls k = ls.flatten := by
  unfold cat; rw [List.take_of_length_le h]

set_option maxHeartbeats 1000000 in
theorem grow_any (n : Nat) (w : World) (hn : n ≤ 140737488355328) :
    Calls Tryd.prog 27 #[.slice none 0 0, .int .i64 n] w (Copied w [] 0) := by
  rcases Nat.eq_zero_or_pos n with h0 | h0
  · subst h0
    go_enter Tryd.func27, Tryd.ntmps27
    go_wp2
    go_ret
    exact ⟨_, rfl, ⟨rfl, .inl ⟨rfl, rfl⟩⟩, (by repeat (first | exact Ext.refl _ | assumption | apply Ext.plus_ | apply Ext.alloc | apply Ext.drew))⟩
  · obtain ⟨i0, hi, hz0, hz1, hz2⟩ := info_parts Tryd.infoByte
    have hrun : ∀ ty, (Builtin.append_ #[22, 3] ty #[.slice none 0 0, .int .i64 (n : Int)]).run Tryd.prog w =
        .ok (.slice (some ⟨w.heap.size, 0, none⟩) n (grownCap w n 0 5)) (w.drew.alloc (.cells (#[] ++ Builtin.zeroCells (Value.int .u8 0).cells n ++ Builtin.zeroCells (Value.int .u8 0).cells (grownCap w n 0 5 - n)) 5)) := fun ty => by
      have h := Lib.run_append_grow_zeros w 22 3 ty 5 i0 (.int .u8 0) .i64 .i64 Tryd.underlying22 Tryd.underlying3 hi hz0 none 0 0 [] (run_firstCells_none w.drew i0.size 0 0 0) n h0 (by omega) (by omega) (by omega)
        (by rw [hz2]; omega) (by rw [Nat.zero_add]; exact growslice_fits (by omega) (by rw [hz2]; omega))
      simpa using h
    have hG := grownCap_ge w n 0 5
    have hG2 := grownCap_le_maxLen w n 0 5 (by unfold maxLen; omega)
    obtain ⟨G, hGe⟩ : ∃ G, G = grownCap w n 0 5 := ⟨_, rfl⟩
    rw [← hGe] at hrun hG hG2
    clear hGe
    have hown : (w.drew.alloc (.cells (#[] ++ Builtin.zeroCells (Value.int .u8 0).cells n ++ Builtin.zeroCells (Value.int .u8 0).cells (G - n)) 5)).ownsRow w.heap.size 5 1 (.slice (some ⟨w.heap.size, 0, none⟩) 0 G) 0 (bytes []) := by
      refine ⟨rfl, .inr ⟨w.heap.size, G, (#[] ++ Builtin.zeroCells (Value.int .u8 0).cells n ++ Builtin.zeroCells (Value.int .u8 0).cells (G - n)), rfl, Nat.le_refl _, ?_, Nat.zero_le _, hG2, ?_, by simp⟩⟩
      · exact Array.getElem?_push_size
      · simp [Builtin.zeroCells, Value.cells]
        omega
    have HO := Lib.hid hown
    unfold maxLen at hG2
    clear hown
    obtain ⟨cs, hcs⟩ : ∃ cs, cs = (#[] ++ Builtin.zeroCells (Value.int .u8 0).cells n ++ Builtin.zeroCells (Value.int .u8 0).cells (G - n)) := ⟨_, rfl⟩
    rw [← hcs] at hrun HO
    clear hcs
    have HR := Lib.hid hrun
    clear hrun
    go_enter Tryd.func27, Tryd.ntmps27
    go_wp2_with (at_builtin; refine Lib.wpList_append_run _ rfl _ _ _ _ rfl _ _ rfl rfl _ _ (HR.out _) ?_)
    go_ret
    exact ⟨_, rfl, HO.out, (by repeat (first | exact Ext.refl _ | assumption | apply Ext.plus_ | apply Ext.alloc | apply Ext.drew))⟩

def CatRel1 (ls : List (List Int)) (m : Nat) (w : World) (s i : Value) (wr : World) : Prop :=
  w = wr ∧ ∃ k : Nat, k ≤ m ∧ i = .int .i64 k ∧ s = .int .i64 ((cat ls k).length : Nat)
def CatRel2 (ls : List (List Int)) (m : Nat) (w : World) (s i : Value) (wr : World) : Prop :=
  Ext w wr ∧ ∃ k : Nat, k ≤ m ∧ i = .int .i64 k ∧ wr.ownsRow w.heap.size 5 1 s (cat ls k).length (bytes (cat ls k))

theorem Row.at_ {w : World} {B : Nat} {A : Option Addr} {n : Nat} {xs : List Value} (h : Row w B 1 A n xs) {k : Nat} {u : Value} (hu : xs[k]? = some u) :
    ∃ b o, A = some ⟨b, o, none⟩ ∧ b < B ∧ w.cell? ⟨b, o + k, none⟩ = some u := by
  have hk : k < n := by rw [← h.len]; exact (List.getElem?_eq_some_iff.1 hu).1
  obtain ⟨b, o, e, hb, hc⟩ := h.2 (by omega)
  exact ⟨b, o, e, hb, hc k u hu⟩

set_option maxHeartbeats 2000000 in
theorem concat_any (A : Option Addr) (m c : Nat) (vs : List Value) (ls : List (List Int)) (w : World) (hr : Row w w.heap.size 1 A m vs) (hv : VB w vs ls) (hm : m ≤ 9223372036854775807) (hs : ls.flatten.length ≤ 140737488355328) :
    Calls Tryd.prog 22 #[.slice A m c] w (Copied w ls.flatten ls.flatten.length) := by
  obtain ⟨i0, hi, hz0, hz1, hz2⟩ := info_parts Tryd.infoByte
  have hml : m = ls.length := by rw [← hr.len]; exact hv.1
  have HM := Lib.hid hml
  have HR := Lib.hid hr
  have HV := Lib.hid hv
  clear hr hv hml
  go_enter Tryd.func22, Tryd.ntmps22
  go_wp2_with fail
  go_loopw [3, 11] (fun s i wr => CatRel1 ls m w s i wr) (fun _ i _ => m - (intOf i).toNat)
  case atStart => exact ⟨rfl, 0, Nat.zero_le _, rfl, rfl⟩
  case round =>
    obtain ⟨rfl, k, hk, rfl, rfl⟩ := hrel
    by_cases hlt : k < m
    · obtain ⟨l, hl⟩ : ∃ l, ls[k]? = some l := ⟨_, List.getElem?_eq_getElem (by rw [← HM.out]; exact hlt)⟩
      obtain ⟨v, hvk⟩ : ∃ v, vs[k]? = some v := ⟨_, List.getElem?_eq_getElem (by rw [HR.out.len]; exact hlt)⟩
      obtain ⟨A', n', c', rfl, hr', _, _⟩ := HV.out.2 k v l hvk hl
      obtain ⟨b, o, rfl, hb, hcell⟩ := HR.out.at_ hvk
      have HS := Lib.hid (cat_succ ls k l hl)
      have HL := Lib.hid hr'.len
      have hle := cat_le ls (k + 1)
      rw [HS.out] at hle
      have hn' : n' = l.length := by have := hr'.len; simpa using this.symm
      have hle2 : (cat ls k).length + n' ≤ ls.flatten.length := by rw [hn']; simpa using hle
      have HN := Lib.hid hn'
      clear hle hn' hr' hl hvk
      obtain ⟨z, hz⟩ : ∃ z, z = (cat ls k).length := ⟨_, rfl⟩
      rw [← hz] at hle2 ⊢
      have HZ := Lib.hid hz
      clear hz
      go_wp2
      go_roundw
      case rel => exact ⟨rfl, k + 1, by omega, by go_num, by rw [HS.out, List.length_append, ← HZ.out, ← HN.out]; go_num⟩
      case measure => simp [intOf]; omega
    · have hkm : k = m := by omega
      subst hkm
      have hsz : (cat ls k).length ≤ 140737488355328 := Nat.le_trans (cat_le ls k) hs
      go_wp2_with fail
      refine (grow_any _ _ hsz).mono ?_
      rintro e w1 ⟨v, rfl, hown, hE⟩
      have HO := Lib.hid (And.intro hown hE)
      clear hown hE
      go_wp2_with fail
      go_loopw [6, 27] (fun s i wr => CatRel2 ls k w s i wr) (fun _ i _ => k - (intOf i).toNat)
      case atStart => exact ⟨HO.out.2, 0, Nat.zero_le _, rfl, by simpa [cat] using HO.out.1⟩
      case round =>
        obtain ⟨hE2, j, hj, rfl, hown2⟩ := hrel
        by_cases hlt2 : j < k
        · obtain ⟨l, hl⟩ : ∃ l, ls[j]? = some l := ⟨_, List.getElem?_eq_getElem (by rw [← HM.out]; exact hlt2)⟩
          obtain ⟨u, huj⟩ : ∃ u, vs[j]? = some u := ⟨_, List.getElem?_eq_getElem (by rw [HR.out.len]; exact hlt2)⟩
          obtain ⟨A', n', c', rfl, hr', _, _⟩ := (HV.out.lift hE2).2 j u l huj hl
          obtain ⟨b, o, rfl, hb, hcell⟩ := (HR.out.lift hE2).at_ huj
          have HS := Lib.hid (cat_succ ls j l hl)
          have hle := Nat.le_trans (cat_le ls (j + 1)) hs
          rw [HS.out, List.length_append] at hle
          have HN := Lib.hid (show n' = l.length by have := hr'.len; simpa using this.symm)
          have hln : (cat ls j).length + n' ≤ 140737488355328 := by rw [HN.out]; exact hle
          have H2 := Lib.hid (And.intro hr' (And.intro hown2 hE2))
          have hbs := hE2.size
          clear hr' hown2 hE2 hle hl huj
          go_wp2_with (at_builtin; refine wpList_app _ rfl (.tmp 31) (.tmp 32) 22 rfl _ _ rfl rfl (app_own _ w.heap.size 22 _ 5 i0 (.int .u8 0) 1 Tryd.underlying22 hi hz0 hz1 hz2 rfl _ _ _ H2.out.2.1 _ _ _ _ (bytes l) H2.out.1 ?c1 ?c2 ?c3 hbs) ?_)
          case c1 => intro u hu; simp at hu; obtain ⟨z, _, rfl⟩ := hu; rfl
          case c2 => unfold maxLen; omega
          case c3 => omega
          intro v' w' ha
          have HA := Lib.hid (And.intro ha.1 (H2.out.2.2.grown H2.out.2.1 (Nat.le_refl _) ha.2.1))
          clear ha
          go_wp2_with fail
          go_roundw
          case rel => exact ⟨HA.out.2, j + 1, by omega, by go_num, by rw [HS.out, List.length_append, ← HN.out]; simpa using HA.out.1⟩
          case measure => simp [intOf]; omega
        · have hjk : j = k := by omega
          subst hjk
          have e := cat_all ls j (by rw [← HM.out]; omega)
          have HX := Lib.hid (show Copied w ls.flatten ls.flatten.length (.returned u6) _ from ⟨_, rfl, by rw [← e]; exact hown2, hE2⟩)
          clear hown2 hE2 e
          go_wp2_with fail
          go_ret
          exact HX.out
end Go.Proofs.YtbdahlfakinagaaDoor
