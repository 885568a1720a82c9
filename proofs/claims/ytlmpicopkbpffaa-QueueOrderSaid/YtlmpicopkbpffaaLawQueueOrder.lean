/- QueueOrder: the walk. -/
import Derived.Test.YtlmpicopkbpffaaLawQueuePut
import Derived.Test.YtlmpicopkbpffaaOpen
set_option linter.unusedVariables false
namespace Go.Proofs.Ytlmpicopkbpffaa
open Go.RowKit Go.Rg

theorem put1_fresh (k : Int) (A : Option Addr) (n c : Nat) (l : List Int) (b : Nat) (sv : Value) (bl : List Int) (w : World) (hr : Row w w.heap.size 1 A n (bytes l)) (hA : A = none → n = 0 ∧ c = 0)
    (hb : Cells w b [sv]) (hs : BS w sv bl) (hn : n + 1000000 ≤ 140737488355328) (hl : bl.length ≤ 140737488355328) :
    Calls Try.prog 17 #[qu k A n c, .slice (some ⟨b, 0, none⟩) 1 1] w (PutPostF w k l bl) := by
  have := put_fresh k A n c l (some ⟨b, 0, none⟩) 1 1 [sv] [bl] w hr hA (by omega) (Cells.row1 hb) ⟨rfl, fun j v l' h1 h2 => by
    match j with
    | 0 => simp at h1 h2; subst h1 h2; exact hs
    | j + 1 => simp at h1⟩ (by omega) (by simpa using hl) hn
  simpa using this
theorem FQ.le {N M : Nat} {v : Value} (h : FQ M v) (e : N ≤ M) : FQ N v := fun k A n c hv a ha => Nat.le_trans e (h k A n c hv a ha)
/-- A queue of its own bytes, and a number. -/
def isPutF (N : Nat) (k : Int) (l : List Int) (q : Nat) : Value → World → Prop := fun v w => ∃ v', v = .tuple #[v', .int .i64 (q : Nat)] ∧ QS w v' k l ∧ FQ N v'
theorem isPutF.st (N : Nat) (k : Int) (l : List Int) (q : Nat) : Stable (isPutF N k l q) := fun _ _ _ e ⟨v', h1, h2, h3⟩ => ⟨v', h1, h2.lift e, h3⟩
def isQSF (N : Nat) (k : Int) (l : List Int) : Value → World → Prop := fun v w => QS w v k l ∧ FQ N v
theorem isQSF.st (N : Nat) (k : Int) (l : List Int) : Stable (isQSF N k l) := fun _ _ _ e h => ⟨QS.lift h.1 e, h.2⟩
def isTakeF (N : Nat) (k : Int) (l : List Int) (q : Nat) : Value → World → Prop := fun v w => ∃ v1 v2, v = .tuple #[v1, v2] ∧ BS w v1 (l.take q) ∧ QS w v2 k (l.drop q) ∧ FQ N v2
theorem isTakeF.st (N : Nat) (k : Int) (l : List Int) (q : Nat) : Stable (isTakeF N k l q) := fun _ _ _ e ⟨v1, v2, h0, h1, h2, h3⟩ => ⟨v1, v2, h0, h1.lift e, h2.lift e, h3⟩

/-- The row's block is not the one of the value. -/
def Off (A : Option Addr) (n : Nat) (v : Value) : Prop := 0 < n → ∀ a, A = some a → v.ownBlock ≠ some a.block
def Sep (v u : Value) : Prop := ∀ g, v.ownBlock = some g → u.ownBlock ≠ some g
theorem own_lt {w : World} {base n size g : Nat} {e : TypeId} {v : Value} {xs : List Value} (h : w.ownsRow base e size v n xs) (hg : v.ownBlock = some g) : g < w.heap.size := by
  rcases h.2 with ⟨h1, _⟩ | ⟨g', cap, cur, hv, hb, hc, _⟩
  · rw [h1] at hg; cases hg
  · rw [hv] at hg
    injection hg with hg
    subst hg
    rcases Nat.lt_or_ge g' w.heap.size with h | h
    · exact h
    · rw [Array.getElem?_eq_none h] at hc; cases hc
theorem Off.fresh {w : World} {base n size m : Nat} {e : TypeId} {A : Option Addr} {v : Value} {xs : List Value} (h : w.ownsRow base e size v n xs) (hA : ∀ a, A = some a → w.heap.size ≤ a.block) : Off A m v := fun _ a ha e => by
  have := own_lt h e
  have := hA a ha
  omega
theorem Row.grown {w w' : World} {n : Nat} {A : Option Addr} {xs : List Value} {v : Value} (h : Row w w.heap.size 1 A n xs) (hg : w.grownBy w' v.ownBlock) (ho : Off A n v) : Row w' w'.heap.size 1 A n xs := by
  refine ⟨h.1, fun hn => ?_⟩
  obtain ⟨b, o, rfl, hb, hc⟩ := h.2 hn
  refine ⟨b, o, rfl, Nat.lt_of_lt_of_le hb hg.size, fun j u hu => ?_⟩
  rw [World.cell?_of_block (a := ⟨b, o + j, none⟩) (hg.block b hb (fun e => ho hn _ rfl e.symm))]
  exact hc j u hu
theorem own_grown {w w' : World} {base n size : Nat} {e : TypeId} {u v : Value} {xs : List Value} (h : w.ownsRow base e size u n xs) (hg : w.grownBy w' v.ownBlock) (ho : Sep u v) : w'.ownsRow base e size u n xs := by
  refine ⟨h.1, ?_⟩
  rcases h.2 with h1 | ⟨g, cap, cur, hv, hb, hc, h2⟩
  · exact .inl h1
  · have hl : g < w.heap.size := own_lt h (by rw [hv]; rfl)
    refine .inr ⟨g, cap, cur, hv, hb, ?_, h2⟩
    rw [hg.block g hl (fun e => ho g (by rw [hv]; rfl) e.symm)]
    exact hc
/-- What is apart from a row is apart from the longer row. -/
theorem Sep.app {w : World} {base n size : Nat} {e : TypeId} {u v v' : Value} {xs : List Value} (h : Sep u v) (hu : w.ownsRow base e size u n xs) (ha : v'.ownBlock = v.ownBlock ∨ v'.ownBlock = some w.heap.size) : Sep u v' := fun g hg => by
  have := own_lt hu hg
  rcases ha with ha | ha
  · rw [ha]; exact h g hg
  · rw [ha]; intro q; injection q with q; omega
theorem own_set_off {w : World} {base n size : Nat} {e : TypeId} {v : Value} {xs : List Value} (h : w.ownsRow base e size v n xs) {p : Addr} (hp : v.ownBlock ≠ some p.block) (u : Value) : (w.setCell p u).ownsRow base e size v n xs := by
  refine ⟨h.1, ?_⟩
  rcases h.2 with h1 | ⟨g, cap, cur, hv, hb, hc, h2⟩
  · exact .inl h1
  · refine .inr ⟨g, cap, cur, hv, hb, ?_, h2⟩
    have hne : ¬ p.block = g := fun e => hp (by rw [hv, e]; rfl)
    simp only [World.setCell, Array.getElem?_modify, if_neg hne]
    exact hc
theorem Sep.symm {u v : Value} (h : Sep u v) : Sep v u := fun g hg q => h g q hg
theorem Off.app {w : World} {n : Nat} {A : Option Addr} {v v' : Value} {xs : List Value} (h : Off A n v) (hA : Row w w.heap.size 1 A n xs) (ha : v'.ownBlock = v.ownBlock ∨ v'.ownBlock = some w.heap.size) : Off A n v' := fun hn a e => by
  obtain ⟨b, o, e', hb, _⟩ := hA.2 hn
  have : a.block < w.heap.size := by
    rw [e] at e'
    injection e' with e'
    rw [e']; exact hb
  rcases ha with ha | ha
  · rw [ha]; exact h hn a e
  · rw [ha]; intro q; injection q with q; omega

def OrdRel (w : World) (m N7 : Nat) (cp : Nat) (vi vo iv : Value) (wr : World) : Prop :=
  ∃ (k : Nat) (li lo lq : List Int) (A : Option Addr) (n c : Nat), iv = .int .i64 k ∧ k ≤ m ∧ k ≤ 30 ∧ li = lo ++ lq ∧ lq.length = n ∧ n ≤ cp ∧ li.length ≤ 60 * k ∧
    wr.ownsRow (N7 + 1) 5 1 vi li.length (bytes li) ∧ wr.ownsRow (N7 + 1) 5 1 vo lo.length (bytes lo) ∧ Box w.heap.size [.int .i64 cp, .slice A n c] N7 wr ∧
    Row wr wr.heap.size 1 A n (bytes lq) ∧ n ≤ c ∧ c ≤ 9223372036854775807 ∧ (A = none → n = 0 ∧ c = 0) ∧ Sep vi vo ∧ Off A n vi ∧ Off A n vo ∧ Ext w wr

theorem qput_in (cp n b : Nat) (h : n ≤ cp) (h1 : cp ≤ 1000000) : qput cp n b = min b (cp - n) := by
  unfold qput qroom
  rw [if_pos (show QOK cp n from ⟨by omega, by omega, by omega⟩)]
  congr 1
  omega

set_option maxRecDepth 100000 in
set_option maxHeartbeats 8000000 in
theorem law_qorder_ (most : Int) (V : Option Addr) (m vc : Nat) (lv : List Value) (ls : List (List Int)) (T : Option Addr) (tn tc : Nat) (tl : List Int) (w : World)
    (hv : Row w w.heap.size 1 V m lv) (hvb : VB w lv ls) (hm : m ≤ vc) (hmc : vc ≤ 9223372036854775807) (hsz : ∀ lb ∈ ls, lb.length ≤ 140737488355328)
    (ht : Row w w.heap.size 1 T tn (tl.map (Value.int .i64))) (htn : tn ≤ tc) (htc : tc ≤ 9223372036854775807) :
    Calls Try.prog 5 #[.int .i64 most, .slice V m vc, .slice T tn tc] w fun e w' => e = .returned (.bool true) ∧ Ext w w' := by
  obtain ⟨i0, hi, hz0, hz1, hz2⟩ := info_parts Try.infoByte
  have HV := Lib.hid (And.intro hv (And.intro hvb hsz))
  have HT := Lib.hid ht
  have hml : m = ls.length := by rw [← hv.len]; exact hvb.1
  have HM := Lib.hid hml
  obtain ⟨cp, hcp⟩ := Int.eq_ofNat_of_zero_le (Int.emod_nonneg most (show (60 : Int) ≠ 0 by decide))
  have hcl : most % 60 < 60 := Int.emod_lt_of_pos most (by decide)
  have hcp60 : cp < 60 := by omega
  have HC := Lib.hid hcp
  have HQ := Lib.hid (show qcap (cp : Int) = (cp : Int) by unfold qcap; rw [if_neg (by omega), if_pos (by omega)])
  clear hv hvb hml hcp hcl hsz ht
  go_enter Try.func5, Try.ntmps5
  go_wp2_with fail
  refine (within_any most 60 _ (by omega) (by omega)).mono ?_
  rw [HC.out]
  rintro e w' ⟨rfl, rfl⟩
  go_wp2_with fail
  refine (new_any (cp : Int) _).mono ?_
  rw [HQ.out]
  rintro e w1 ⟨rfl, hE1⟩
  go_wp2_with fail
  obtain ⟨N7, hN7⟩ : ∃ N7, N7 = w1.heap.size := ⟨_, rfl⟩
  obtain ⟨w2, hw2⟩ : ∃ w2, w2 = w1.alloc (.cells #[.int .i64 cp, .slice none 0 0] 24) := ⟨_, rfl⟩
  have hB7 : Box w.heap.size [.int .i64 cp, .slice none 0 0] N7 w2 := by rw [hN7, hw2]; exact Box.new w1 _ _ _ hE1.size rfl
  have hE2 : Ext w w2 := by rw [hw2]; exact hE1.alloc _
  rw [← hw2, ← hN7]
  have H2 := Lib.hid (And.intro hB7 hE2)
  clear hw2 hN7 hB7 hE2 hE1
  go_loopw [8, 9, 10] (fun vi vo iv wr => OrdRel w m N7 cp vi vo iv wr) (fun _ _ i _ => m - (intOf i).toNat)
  case atStart => exact ⟨0, [], [], [], none, 0, 0, rfl, by omega, by omega, rfl, rfl, by omega, by simp, ⟨rfl, .inl ⟨rfl, rfl⟩⟩, ⟨rfl, .inl ⟨rfl, rfl⟩⟩, H2.out.1, by simpa using Row.nil, by omega, by omega, fun _ => ⟨rfl, rfl⟩, (fun g h => by cases h), (fun h => absurd h (by omega)), (fun h => absurd h (by omega)), H2.out.2⟩
  case round =>
    obtain ⟨k, li, lo, lq, A, n, c, rfl, hk1, hk2, hli, hn, hncp, hlen, hin, hout, hB7, hrq, hnc, hcm, hnil, hsep, hoi, hoo, hE⟩ := hrel
    by_cases hlt : k < m ∧ k < 30
    · obtain ⟨hlt1, hlt2⟩ := hlt
      obtain ⟨lb, hlb⟩ : ∃ lb, ls[k]? = some lb := ⟨_, List.getElem?_eq_getElem (by rw [← HM.out]; exact hlt1)⟩
      obtain ⟨v, hvk⟩ : ∃ v, lv[k]? = some v := ⟨_, List.getElem?_eq_getElem (by rw [HV.out.1.len]; exact hlt1)⟩
      have hbs := HV.out.2.1.2 k v lb hvk hlb
      have hlbs : lb.length ≤ 140737488355328 := HV.out.2.2 lb (List.mem_of_getElem? hlb)
      obtain ⟨A', n', c', rfl, hr', hc', hcm', hnil'⟩ := hbs
      obtain ⟨b, o, rfl, hb, hcell⟩ := HV.out.1.at_ hvk
      have hln : lb.length = n' := by have := hr'.len; simpa using this
      have hcellr := hE.cell hcell
      obtain ⟨q, hq⟩ : ∃ q, q = min n' (cp - n) := ⟨_, rfl⟩
      have HQP := Lib.hid (show qput cp lq.length lb.length = q by rw [qput_in _ _ _ (by omega) (by omega), hln, hn, hq])
      have hc70 := hB7.cell 0 (by simp)
      have hc71 := hB7.cell 1 (by simp)
      simp only [List.getElem?_cons_zero, List.getElem?_cons_succ] at hc70 hc71
      have hl7 := hB7.lt
      have hb7 := hB7.base
      have H3 := Lib.hid (And.intro hli (And.intro hn (And.intro hlen (And.intro hin (And.intro hout (And.intro hB7 (And.intro hrq (And.intro hnil (And.intro hsep (And.intro hoi (And.intro hoo hE)))))))))))
      have H4 := Lib.hid (And.intro hr' (And.intro hnil' (And.intro hln (And.intro hlb hq))))
      clear hli hn hlen hin hout hB7 hrq hnil hsep hoi hoo hE hr' hnil' hln hlb hvk hcell hq
      go_wp2_with fail
      have HP6 := Lib.hid (fun (W : World) (b5 : Nat) (hX : Ext wr W) (hcs : Cells W b5 [.slice A' n' c']) => put1_fresh (cp : Int) A n c lq b5 (.slice A' n' c') lb W (H3.out.2.2.2.2.2.2.1.lift hX) H3.out.2.2.2.2.2.2.2.1 hcs ⟨A', n', c', rfl, H4.out.1.lift (H3.out.2.2.2.2.2.2.2.2.2.2.2.trans hX), hc', hcm', H4.out.2.1⟩ (by omega) hlbs)
      unfold PutPostF at HP6
      rw [HQP.out] at HP6
      obtain ⟨LP, hLP⟩ : ∃ LP, LP = lq ++ lb.take q := ⟨_, rfl⟩
      have HLP := Lib.hid hLP
      obtain ⟨M, hM⟩ : ∃ M, M = wr.heap.size := ⟨_, rfl⟩
      have hM7 : N7 < M := by omega
      have hM1 : M ≤ wr.heap.size := by omega
      have hM2 : wr.heap.size ≤ M := by omega
      have hM3 : b < M := by omega
      have HK := Lib.hid (And.intro hc70 (And.intro hc71 (And.intro hcellr (show w.heap.size ≤ M by omega))))
      clear hLP hM
      apply wp_region_bigy 11 6 M 5 [0, 0, 0, 0, 0, 1, 2, 2, 2, 2, 0] (fun W => (W.cell? ⟨N7, 0, none⟩ = some (.int .i64 cp) ∧ W.cell? ⟨N7, 1, none⟩ = some (.slice A n c) ∧ W.cell? ⟨b, o + k, none⟩ = some (.slice A' n' c')) ∧ Ext wr W ∧ M ≤ W.heap.size) [is (qu cp A n c), is _, is _, is _, is (.slice A' n' c'), isRow [.slice A' n' c'], isPutF M cp LP q, isPutF M cp LP q, isQSF M cp LP, is (.int .i64 (q : Nat)), isBoxT M 24 [.int .i64 0, .slice none 0 0]] 9 _ (by kernel_rfl) (by kernel_rfl) (by kernel_rfl) rfl rfl (by decide) (fun _ _ _ _ h => h)
      case hS =>
        intro W hE
        exact ⟨⟨(hE.cell (by simp; omega) (by simp; omega)).trans HK.out.1, (hE.cell (by simp; omega) (by simp; omega)).trans HK.out.2.1, (hE.cell (by simp; omega) (by simp; omega)).trans HK.out.2.2.1⟩, hE.ext (Ext.refl wr) (by omega), by have := hE.size; omega⟩
      case hyo =>
        intro vs W hS hd
        simp only [List.take_succ_cons, List.take_zero, putAll, Act.put, List.setIfInBounds_toArray, List.set_cons_succ, List.set_cons_zero, Nat.zero_add, Nat.reduceAdd]
        simp [depFactsC, clsOf, is, dataE] at hd
        (obtain ⟨v', e, _⟩ := hd; rw [e]; refine ⟨.int .i64 (q : Nat), rfl, fun w2 => rfl, fun T hT => ?_⟩; injection hT with hT; subst hT; rfl)
      case hops =>
        simp only [List.take_succ_cons, List.take_zero]
        refine ⟨?_, ?_, ?_, ?_, ?_, ?_, ?_, ?_, ?_, ?_, ?_, trivial⟩
        all_goals
          intro vs W hS hX hd
          have hcell0 := hS.1.1
          have hcell1 := hS.1.2.1
          have hcell2 := hS.1.2.2
          have hxs := hS.2.1
          have hss := hS.2.2
          clear hS
          simp only [putAll, Act.put, List.setIfInBounds_toArray, List.set_cons_succ, List.set_cons_zero, Nat.zero_add, Nat.reduceAdd]
          simp [depFactsC, clsOf, is, isRow, isRowN, isBox, dataE] at hd
          simp [clsOf] at hX
          simp only [Region.wanted, if_true, Nat.reduceEqDiff, if_false, reduceIte, Nat.reduceAdd, Nat.zero_ne_one, Nat.one_ne_zero, Nat.zero_add]
          try simp [yielded, hd]
        rotate_left 6
        refine Lock.out ?_
        rotate_left 1
        refine Lock.out ?_
        rotate_left 1
        refine Lock.out ?_
        rotate_left 1
        refine Lock.out ?_
        rotate_left 1
        refine Lock.out ?_
        rotate_left 1
        all_goals
          try (
          with_reducible show comes _ _ _ _ _
          simp only [comes]
          try simp [yielded, hd, comes]
          go_simp
          try go_bits
          first
            | exact ⟨Ext.refl _, rfl⟩
            | exact rfl
            | exact ⟨(Ext.refl _).alloc _, _, rfl, Cells.new _ _ _ _ rfl⟩
          )
        · refine ⟨?_, trivial⟩
          (have h5 := hd.2; obtain ⟨b5, e5, hc5⟩ := h5; rw [e5]; simp only [comes]; go_simp; go_at_call 17; refine (HP6.out _ b5 hxs hc5).mono ?_; rintro e w' ⟨v', rfl, hq, hE, hf⟩; rw [← HLP.out] at hq; exact ⟨_, rfl, BigE.of_ext hE, v', rfl, hq, hf.le hss⟩)
        · refine ⟨?_, trivial⟩
          (simp only [comes]; go_simp; first | exact Ext.refl _ | exact ⟨Ext.refl _, hd⟩)
        · refine ⟨?_, trivial⟩
          (obtain ⟨v', e, hq⟩ := hd; rw [e]; simp only [comes]; go_simp; exact ⟨Ext.refl _, hq⟩)
        · refine ⟨?_, trivial⟩
          (obtain ⟨v', e, hq⟩ := hd; rw [e]; simp only [comes]; go_simp; first | exact ⟨Ext.refl _, rfl⟩ | exact Ext.refl _)
        · refine ⟨?_, trivial⟩
          (simp only [comes]; go_simp; exact ⟨(Ext.refl _).alloc _, _, rfl, BoxT.new _ _ _ _ hss rfl⟩)
      case hst => exact ⟨(by first | exact Stable2.is _ | exact Stable2.ext (by apply is.st) (by decide) | exact is.st2), (by first | exact Stable2.is _ | exact Stable2.ext (by apply is.st) (by decide) | exact is.st2), (by first | exact Stable2.is _ | exact Stable2.ext (by apply is.st) (by decide) | exact is.st2), (by first | exact Stable2.is _ | exact Stable2.ext (by apply is.st) (by decide) | exact is.st2), (by first | exact Stable2.is _ | exact Stable2.ext (by apply is.st) (by decide) | exact is.st2), (by first | exact Stable2.is _ | exact Stable2.ext (by apply isRow.st) (by decide) | exact isRow.st2), (by first | exact Stable2.is _ | exact Stable2.ext (by apply isPutF.st) (by decide) | exact isPutF.st2), (by first | exact Stable2.is _ | exact Stable2.ext (by apply isPutF.st) (by decide) | exact isPutF.st2), (by first | exact Stable2.is _ | exact Stable2.ext (by apply isQSF.st) (by decide) | exact isQSF.st2), (by first | exact Stable2.is _ | exact Stable2.ext (by apply is.st) (by decide) | exact is.st2), (by first | exact Stable2.is _ | exact Stable2.ext (by apply isBoxT.st) (by decide) | exact isBoxT.st2), trivial⟩
      case hfin =>
        intro vs W hE hS hf
        simp only [List.take_succ_cons, List.take_zero, List.drop_succ_cons, List.drop_zero, putAll, Act.put, List.setIfInBounds_toArray, List.set_cons_succ, List.set_cons_zero]
        simp [factsC, clsOf, is] at hf
        simp only [Nat.zero_add, Nat.reduceAdd, hf]
        obtain ⟨h0, h1, h2, h3, h4, h6, h7, ⟨⟨A8, n8, c8, h8e, hr8, hcb8, hcm8, hnil8⟩, hf8⟩, h9, ⟨b8, h10, hT10⟩⟩ := hf
        rw [h8e] at hf8
        rw [h8e, h10]
        obtain ⟨hli, hn, hlen, hin, hout, hB7, hrq, hnil, hsep, hoi, hoo, hEw⟩ := H3.out
        have hEW := hE.ext (Ext.refl wr) hM2
        have hB8 := hT10.box
        have hb8 := hB8.base
        have hne7 : b8 ≠ N7 := by omega
        have hwb : w.heap.size ≤ b8 := by omega
        have hA8 : ∀ a, A8 = some a → wr.heap.size ≤ a.block := fun a ha => Nat.le_trans hM2 (hf8 _ _ _ _ rfl a ha)
        have ho8i : Off A8 n8 u8 := Off.fresh hin hA8
        have ho8o : Off A8 n8 u9 := Off.fresh hout hA8
        have hi8 : u8.ownBlock ≠ some b8 := fun e => by have := own_lt hin e; omega
        have hB75 := ((hB7.ext hEW).other (p := ⟨b8, 0, none⟩) hne7 (.int .i64 cp)).other (p := ⟨b8, 1, none⟩) hne7 (.slice A8 n8 c8)
        have hB85 := Box.stored hB8 (.int .i64 cp) (.slice A8 n8 c8)
        have hx5 := hr8.stored (a := 0) hB8 (.int .i64 cp) (.slice A8 n8 c8)
        have hin5 : ((W.setCell ⟨b8, 0, none⟩ (.int .i64 cp)).setCell ⟨b8, 1, none⟩ (.slice A8 n8 c8)).ownsRow (N7 + 1) 5 1 u8 li.length (bytes li) := own_set_off (own_set_off (own_ext hin hEW) (p := ⟨b8, 0, none⟩) hi8 _) (p := ⟨b8, 1, none⟩) hi8 _
        have ho8 : u9.ownBlock ≠ some b8 := fun e => by have := own_lt hout e; omega
        have hout5 : ((W.setCell ⟨b8, 0, none⟩ (.int .i64 cp)).setCell ⟨b8, 1, none⟩ (.slice A8 n8 c8)).ownsRow (N7 + 1) 5 1 u9 lo.length (bytes lo) := own_set_off (own_set_off (own_ext hout hEW) (p := ⟨b8, 0, none⟩) ho8 _) (p := ⟨b8, 1, none⟩) ho8 _
        have hE5 := ((hEw.trans hEW).setCell (p := ⟨b8, 0, none⟩) hwb (.int .i64 cp)).setCell (p := ⟨b8, 1, none⟩) hwb (.slice A8 n8 c8)
        have hs0 := hB8.cell 0 (by simp)
        have hs1 := hB8.cell 1 (by simp)
        simp only [List.getElem?_cons_zero, List.getElem?_cons_succ] at hs0 hs1
        have hsf := hB8.free
        have hsl := hB8.lt
        have hn8 : n8 = n + q := by
          have e1 := hr8.len
          have e2 := H4.out.2.2.1
          have e3 := H4.out.2.2.2.2
          rw [HLP.out] at e1
          simp at e1
          omega
        have hqn : q ≤ n' := by have := H4.out.2.2.2.2; omega
        have hq60 : q ≤ 60 := by have := H4.out.2.2.2.2; omega
        have hqr : q < n' → cp ≤ n8 := by have := H4.out.2.2.2.2; omega
        have hn8c : n8 ≤ cp := by have := H4.out.2.2.2.2; omega
        have hln : li.length ≤ 1800 := by omega
        have hlo : lo.length ≤ li.length := by rw [hli]; simp
        obtain ⟨w5, hw5⟩ : ∃ w5, w5 = (W.setCell ⟨b8, 0, none⟩ (.int .i64 cp)).setCell ⟨b8, 1, none⟩ (.slice A8 n8 c8) := ⟨_, rfl⟩
        rw [← hw5] at hB75 hB85 hx5 hin5 hout5 hE5
        have H5 := Lib.hid (And.intro hw5 (And.intro hB75 (And.intro hB85 (And.intro hx5 (And.intro hin5 (And.intro hout5 hE5))))))
        have HO8 := Lib.hid (And.intro ho8i (And.intro ho8o (And.intro hsep hi8)))
        have HL := Lib.hid (And.intro hli (And.intro hn (And.intro hlen HLP.out)))
        have hclW := hEW.cell hcellr
        have hbn : b8 ≠ b := by omega
        have hbn' : b ≠ b8 := by omega
        have hcl5 : w5.cell? ⟨b, o + k, none⟩ = some (.slice A' n' c') := by
          rw [hw5, World.cell?_setCell_other _ _ _ _ (by simp [hbn]), World.cell?_setCell_other _ _ _ _ (by simp [hbn])]
          exact hclW
        have HN8 := Lib.hid (And.intro hn8 hcl5)
        clear hli hn hlen hin hout hB7 hrq hnil hsep hoi hoo hEw hEW hB8 hA8 ho8i ho8o hi8 ho8 hB75 hB85 hx5 hin5 hout5 hE5 hw5 h0 h1 h2 h3 h4 h6 h7 h8e h9 h10 hT10 hr8 hf8 hS hE HK HP6 hcellr hc70 hc71 H3 hM1 hM2 hM3 hM7 hl7 hn8 hcl5
        have hqc0 : (0 : Int) ≤ (q : Int) := by omega
        have hqc1 : (q : Int) ≤ (c' : Int) := by omega
        by_cases hqlt : q < n'
        · have hz8 := hqr hqlt
          have HZ := Lib.hid (show qroom cp n8 = 0 by unfold qroom; split <;> omega)
          go_wp2_with fail
          refine (room_any cp A8 n8 c8 _ (by omega)).mono ?_
          rw [HZ.out, ← H5.out.1]
          rintro e w6 ⟨rfl, hE6⟩
          have hcl6 := hE6.cell HN8.out.2
          have hB76 := H5.out.2.1.ext hE6
          have hB86 := H5.out.2.2.1.ext hE6
          have hx6 := H5.out.2.2.2.1.lift hE6
          have hin6 := own_ext H5.out.2.2.2.2.1 hE6
          have hout6 := own_ext H5.out.2.2.2.2.2.1 hE6
          have hE7 := H5.out.2.2.2.2.2.2.trans hE6
          have harg := (H4.out.1.lift hE7).take q hqn
          rw [show (bytes lb).take q = bytes (lb.take q) by simp] at harg
          have hsz6 : N7 + 1 ≤ (w6).heap.size := hB76.lt
          have H6 := Lib.hid (And.intro hB76 (And.intro hB86 (And.intro hx6 (And.intro hin6 (And.intro hout6 (And.intro hE7 harg))))))
          clear hE6 hB76 hB86 hx6 hin6 hout6 hE7 harg
          go_wp2_with (at_builtin; refine wpList_app _ rfl (.tmp 63) (.tmp 69) 22 rfl _ _ rfl rfl (app_own _ (N7 + 1) 22 _ 5 i0 (.int .u8 0) 1 Try.underlying22 hi hz0 hz1 hz2 rfl _ _ _ H6.out.2.2.2.1 _ _ _ _ (bytes (lb.take q)) H6.out.2.2.2.2.2.2 (bytes_one _) (by unfold maxLen; omega) (by omega) hsz6) ?_)
          intro v7 w7 ha
          obtain ⟨hB76, hB86, hx6, hin6, hout6, hE7, harg⟩ := H6.out
          have hB77 := hB76.grown ha.2.1 (own_ne hin6 (by omega))
          have hB87 := hB86.grown ha.2.1 HO8.out.2.2.2
          have hx7 := Row.grown hx6 ha.2.1 HO8.out.1
          have hout7 := own_grown hout6 ha.2.1 HO8.out.2.2.1.symm
          have hE77 := Ext.grown hE7 hin6 (by omega) ha.2.1
          have hsep7 : Sep v7 u9 := (Sep.app HO8.out.2.2.1.symm hout6 ha.2.2).symm
          have hoi7 : Off A8 n8 v7 := Off.app HO8.out.1 hx6 ha.2.2
          have hown7 : w7.ownsRow (N7 + 1) 5 1 v7 (li.length + q) (bytes (li ++ lb.take q)) := by have := ha.1; simpa using this
          have hB78 := Box.stored hB77 (.int .i64 cp) (.slice A8 n8 c8)
          have hx8 := hx7.stored (a := 0) hB77 (.int .i64 cp) (.slice A8 n8 c8)
          have hown8 := own_setCell (own_setCell hown7 (p := ⟨N7, 0, none⟩) (show N7 < N7 + 1 by omega) (.int .i64 cp)) (p := ⟨N7, 1, none⟩) (show N7 < N7 + 1 by omega) (.slice A8 n8 c8)
          have hout8 := own_setCell (own_setCell hout7 (p := ⟨N7, 0, none⟩) (show N7 < N7 + 1 by omega) (.int .i64 cp)) (p := ⟨N7, 1, none⟩) (show N7 < N7 + 1 by omega) (.slice A8 n8 c8)
          have hE8 := (hE77.setCell (p := ⟨N7, 0, none⟩) hb7 (.int .i64 cp)).setCell (p := ⟨N7, 1, none⟩) hb7 (.slice A8 n8 c8)
          have hx80 := hB87.cell 0 (by simp)
          have hx81 := hB87.cell 1 (by simp)
          have hc70 := hB77.cell 0 (by simp)
          have hc71 := hB77.cell 1 (by simp)
          simp only [List.getElem?_cons_zero, List.getElem?_cons_succ] at hx80 hx81 hc70 hc71
          have hf7 := hB77.free
          have hl7 := hB77.lt
          obtain ⟨w8, hw8⟩ : ∃ w8, w8 = (w7.setCell ⟨N7, 0, none⟩ (.int .i64 cp)).setCell ⟨N7, 1, none⟩ (.slice A8 n8 c8) := ⟨_, rfl⟩
          rw [← hw8] at hB78 hx8 hown8 hout8 hE8
          have H8 := Lib.hid (And.intro hw8 (And.intro hB78 (And.intro hx8 (And.intro hown8 (And.intro hout8 (And.intro hE8 (And.intro hsep7 hoi7)))))))
          clear hcl6 hB76 hB86 hx6 hin6 hout6 hE7 harg hB77 hB87 hx7 hout7 hE77 hsep7 hoi7 hown7 hB78 hx8 hown8 hout8 hE8 ha hw8 H6 hclW
          by_cases hkt : k < tn
          · go_wp2_with fail
            rw [← H8.out.1]
            obtain ⟨z, hz⟩ : ∃ z, tl[k]? = some z := ⟨_, List.getElem?_eq_getElem (by have := HT.out.len; simp at this; omega)⟩
            obtain ⟨bt, ot, hTe, hbt, hct⟩ := HT.out.at_ (k := k) (u := .int .i64 z) (by simp [hz])
            subst hTe
            have hcw := H8.out.2.2.2.2.2.1.cell hct
            have hz80 := H8.out.2.1.cell 0 (by simp)
            have hz81 := H8.out.2.1.cell 1 (by simp)
            simp only [List.getElem?_cons_zero, List.getElem?_cons_succ] at hz80 hz81
            have hfb := qfirst_bd (cp : Int) n8 (z % 20)
            obtain ⟨f, hf⟩ := Int.eq_ofNat_of_zero_le hfb.1
            have hfn : f ≤ n8 := by omega
            have HT6 := Lib.hid (fun y => take_fresh (cp : Int) A8 n8 c8 LP (z % 20) (w8.plus y) (H8.out.2.2.1.lift ((Ext.refl w8).plus_ y)) hnil8 (by omega))
            rw [hf, show ((f : Int)).toNat = f by simp] at HT6
            obtain ⟨M8, hM8⟩ : ∃ M8, M8 = w8.heap.size := ⟨_, rfl⟩
            have HM8 := Lib.hid (fun y => show M8 ≤ (w8.plus y).heap.size by rw [hM8]; exact World.size_plus y)
            have HM9 := Lib.hid hM8
            clear hfb hf hM8 hx80 hx81 hc70 hc71 hct hz
            apply wp_region_ext 11 [is (qu cp A8 n8 c8), is _, is _, is _, is (.int .i64 z), is (.int .i64 (z % 20)), isTakeF M8 cp LP f, isTakeF M8 cp LP f, isBS (LP.take f), isQSF M8 cp (LP.drop f), isBS (LP.take f)] (by kernel_rfl) (by kernel_rfl) rfl
            case hops =>
              simp only [List.take_succ_cons, List.take_zero]
              refine ⟨?_, ?_, ?_, ?_, ?_, ?_, ?_, ?_, ?_, ?_, ?_, trivial⟩
              all_goals
                intro vs x hd
                simp only [putAll, Act.put, List.setIfInBounds_toArray, List.set_cons_succ, List.set_cons_zero, Nat.zero_add, Nat.reduceAdd]
                simp [depFacts, is, isRow, isRowN, isBox, dataE] at hd
                try simp only [World.plus_plus] at hd
                simp only [Region.wanted, if_true]
                try simp [yielded, hd]
              rotate_left 5
              refine Lock.out ?_
              rotate_left 1
              refine Lock.out ?_
              rotate_left 1
              refine Lock.out ?_
              rotate_left 1
              refine Lock.out ?_
              rotate_left 1
              refine Lock.out ?_
              rotate_left 1
              refine Lock.out ?_
              rotate_left 1
              all_goals
                try (
                with_reducible show comes _ _ _ _ _
                simp only [comes]
                try simp [yielded, hd, comes]
                go_simp
                try go_bits
                first
                  | exact ⟨Ext.refl _, rfl⟩
                  | exact rfl
                  | exact ⟨(Ext.refl _).alloc _, _, rfl, Cells.new _ _ _ _ rfl⟩
                  | exact ⟨(Ext.refl _).alloc _, _, rfl, Box.new _ _ _ _ (by simp [World.le_plus]) rfl⟩
                )
              · refine ⟨?_, trivial⟩
                (simp only [comes]; go_simp; go_at_call 16; refine (within_any z 20 _ (by omega) (by omega)).mono ?_; rintro e w' ⟨rfl, rfl⟩; exact ⟨_, rfl, Ext.refl _, rfl⟩)
              · refine ⟨?_, trivial⟩
                (simp only [comes]; go_simp; go_at_call 19; refine (HT6.out _).mono ?_; rintro e w' ⟨v1, v2, rfl, hb1, hb2, hE, hf2⟩; exact ⟨_, rfl, hE, v1, v2, rfl, hb1, hb2, hf2.le (HM8.out _)⟩)
              · refine ⟨?_, trivial⟩
                (simp only [comes]; go_simp; first | exact Ext.refl _ | exact ⟨Ext.refl _, hd⟩)
              · refine ⟨?_, trivial⟩
                (obtain ⟨v1, v2, e, hb1, hb2, hf2⟩ := hd; rw [e]; simp only [comes]; go_simp; exact ⟨Ext.refl _, hb1⟩)
              · refine ⟨?_, trivial⟩
                (obtain ⟨v1, v2, e, hb1, hb2, hf2⟩ := hd; rw [e]; simp only [comes]; go_simp; exact ⟨Ext.refl _, hb2, hf2⟩)
              · refine ⟨?_, trivial⟩
                (simp only [comes]; go_simp; first | exact Ext.refl _ | exact ⟨Ext.refl _, hd⟩)
            case hst => exact ⟨(by apply is.st), (by apply is.st), (by apply is.st), (by apply is.st), (by apply is.st), (by apply is.st), (by apply isTakeF.st), (by apply isTakeF.st), (by apply isBS.st), (by apply isQSF.st), (by apply isBS.st), trivial⟩
            case hfin =>
              intro vs x hf
              try simp only [World.plus_plus] at hf ⊢
              simp only [List.take_succ_cons, List.take_zero, List.drop_succ_cons, List.drop_zero, putAll, Act.put, List.setIfInBounds_toArray, List.set_cons_succ, List.set_cons_zero]
              simp only [facts, is, Nat.zero_add, Nat.reduceAdd] at hf
              have f9 := hf.2.2.2.2.2.2.2.2.2.1
              have f10 := hf.2.2.2.2.2.2.2.2.2.2.1
              simp only [Nat.zero_add, Nat.reduceAdd, hf]
              clear hf
              obtain ⟨X1, m1, d1, e10, hr1, _, _, _⟩ := f10
              obtain ⟨⟨A9, n9, c9, e9, hr9, hcb9, hcm9, hnil9⟩, hf9⟩ := f9
              rw [e9] at hf9
              rw [e9, e10]
              obtain ⟨wX, hwX⟩ : ∃ wX, wX = w8.plus x := ⟨_, rfl⟩
              have hEx : Ext w8 wX := by rw [hwX]; exact (Ext.refl w8).plus_ x
              rw [← hwX] at hr1 hr9
              rw [← hwX]
              obtain ⟨_, hB78, hx8, hown8, hout8, hE8, hsep7, hoi7⟩ := H8.out
              have hA9 : ∀ a, A9 = some a → w8.heap.size ≤ a.block := fun a ha => by have := hf9 _ _ _ _ rfl a ha; rw [HM9.out] at this; exact this
              have ho9i : Off A9 n9 v7 := Off.fresh hown8 hA9
              have ho9o : Off A9 n9 u9 := Off.fresh hout8 hA9
              have hm1 : m1 = (LP.take f).length := by have := hr1.len; rw [← this]; simp
              have hn9 : n9 = (LP.drop f).length := by have := hr9.len; rw [← this]; simp
              have hlp : LP.length = n8 := by have := hx8.len; simpa using this
              have hm2 : m1 ≤ 60 := by rw [hm1]; simp; omega
              have hn92 : n9 ≤ cp := by rw [hn9]; simp; omega
              have hB7x := hB78.ext hEx
              have hB7y := Box.stored hB7x (.int .i64 cp) (.slice A9 n9 c9)
              have hx9 := hr9.stored (a := 0) hB7x (.int .i64 cp) (.slice A9 n9 c9)
              have hb9 := hr1.stored (a := 0) hB7x (.int .i64 cp) (.slice A9 n9 c9)
              have hown9 := own_setCell (own_setCell (own_ext hown8 hEx) (p := ⟨N7, 0, none⟩) (show N7 < N7 + 1 by omega) (.int .i64 cp)) (p := ⟨N7, 1, none⟩) (show N7 < N7 + 1 by omega) (.slice A9 n9 c9)
              have hout9 := own_setCell (own_setCell (own_ext hout8 hEx) (p := ⟨N7, 0, none⟩) (show N7 < N7 + 1 by omega) (.int .i64 cp)) (p := ⟨N7, 1, none⟩) (show N7 < N7 + 1 by omega) (.slice A9 n9 c9)
              have hE9 := ((hE8.trans hEx).setCell (p := ⟨N7, 0, none⟩) hb7 (.int .i64 cp)).setCell (p := ⟨N7, 1, none⟩) hb7 (.slice A9 n9 c9)
              have hc70 := hB7x.cell 0 (by simp)
              have hc71 := hB7x.cell 1 (by simp)
              simp only [List.getElem?_cons_zero, List.getElem?_cons_succ] at hc70 hc71
              have hf7 := hB7x.free
              have hl7 := hB7x.lt
              have hsz9 : N7 + 1 ≤ ((wX.setCell ⟨N7, 0, none⟩ (.int .i64 cp)).setCell ⟨N7, 1, none⟩ (.slice A9 n9 c9)).heap.size := by simp; omega
              have H9 := Lib.hid (And.intro hB7y (And.intro hx9 (And.intro hb9 (And.intro hown9 (And.intro hout9 (And.intro hE9 (And.intro hsep7 (And.intro ho9i ho9o))))))))
              have HLQ := Lib.hid (show li ++ lb.take q = (lo ++ LP.take f) ++ LP.drop f ∧ (LP.drop f).length = n9 by
                obtain ⟨e1, e2, e3, e4⟩ := HL.out
                refine ⟨by rw [e1, e4, List.append_assoc, List.append_assoc, List.take_append_drop], hn9.symm⟩)
              have HM1 := Lib.hid hm1
              clear hwX e9 e10 hr1 hr9 hB78 hx8 hown8 hout8 hE8 hsep7 hoi7 hA9 ho9i ho9o hm1 hn9 hlp hB7x hB7y hx9 hb9 hown9 hout9 hE9 H8 HT6 HM8 HM9 hcw hz80 hz81 hf9 hEx
              go_wp2_with (at_builtin; refine wpList_app _ rfl (.tmp 86) (.tmp 87) 22 rfl _ _ rfl rfl (app_own _ (N7 + 1) 22 _ 5 i0 (.int .u8 0) 1 Try.underlying22 hi hz0 hz1 hz2 rfl _ _ _ H9.out.2.2.2.2.1 _ _ _ _ (bytes (LP.take f)) H9.out.2.2.1 (bytes_one _) (by unfold maxLen; omega) (by omega) hsz9) ?_)
              intro v9 w11 ha
              obtain ⟨hB7y, hx9', hb9, hown9', hout9', hE9', hsep7, ho9i, ho9o⟩ := H9.out
              have hB79 := hB7y.grown ha.2.1 (own_ne hout9' (by omega))
              have hx9 := Row.grown hx9' ha.2.1 ho9o
              have hown9 := own_grown hown9' ha.2.1 hsep7
              have hE9 := Ext.grown hE9' hout9' (by omega) ha.2.1
              have hsep9 : Sep v7 v9 := Sep.app hsep7 hown9' ha.2.2
              have hoi9 : Off A9 n9 v7 := ho9i
              have hoo9 : Off A9 n9 v9 := Off.app ho9o hx9' ha.2.2
              have hout9 : w11.ownsRow (N7 + 1) 5 1 v9 (lo ++ LP.take f).length (bytes (lo ++ LP.take f)) := by
                have := ha.1
                rw [HM1.out] at this
                simpa using this
              clear hB7y hx9' hb9 hown9' hout9' hE9' hsep7 ho9i ho9o ha H9 hc70 hc71 hf7 hl7 hsz9
              have hd70 := hB79.cell 0 (by simp)
              have hd71 := hB79.cell 1 (by simp)
              simp only [List.getElem?_cons_zero, List.getElem?_cons_succ] at hd70 hd71
              go_wp2_with fail
              have H9 := Lib.hid (And.intro hB79 (And.intro hx9 (And.intro hown9 (And.intro hout9 (And.intro hE9 (And.intro hsep9 (And.intro hoi9 hoo9)))))))
              clear hB79 hx9 hown9 hout9 hE9 hsep9 hoi9 hoo9
              have HV9 := Lib.hid (show decide (QOK cp n9) = true from decide_eq_true ⟨by omega, by omega, by omega⟩)
              refine (valid_any cp A9 n9 c9 _ (by omega)).mono ?_
              rw [HV9.out]
              rintro e w9 ⟨rfl, hE10⟩
              have hc90 := (H9.out.1.ext hE10).cell 0 (by simp)
              have hc91 := (H9.out.1.ext hE10).cell 1 (by simp)
              simp only [List.getElem?_cons_zero, List.getElem?_cons_succ] at hc90 hc91
              have H10 := Lib.hid hE10
              clear hE10
              go_wp2
              go_roundw
              case rel =>
                obtain ⟨hB79, hx9, hown9, hout9, hE9, hsep9, hoi9, hoo9⟩ := H9.out
                have hE10 := H10.out
                refine ⟨k + 1, li ++ lb.take q, lo ++ LP.take f, LP.drop f, A9, n9, c9, by go_num, by omega, by omega, HLQ.out.1, HLQ.out.2, by omega, ?_, ?_, own_ext hout9 hE10, hB79.ext hE10, hx9.lift hE10, hcb9, hcm9, hnil9, hsep9, hoi9, hoo9, hE9.trans hE10⟩
                · have := HL.out.2.2.1
                  simp
                  omega
                · have e1 : (li ++ lb.take q).length = li.length + q := by have := H4.out.2.2.1; simp; omega
                  rw [e1]
                  exact own_ext hown9 hE10
              case measure => simp [intOf]; omega
          · go_wp2_with fail
            rw [← H8.out.1]
            have HLQ := Lib.hid (show li ++ lb.take q = lo ++ LP ∧ LP.length = n8 by
              obtain ⟨e1, e2, e3, e4⟩ := HL.out
              refine ⟨by rw [e1, e4, List.append_assoc], by have := H8.out.2.2.1.len; simpa using this⟩)
            obtain ⟨_, hB79, hx9, hown9, hout9, hE9, hsep9, hoi9⟩ := H8.out
            have hoo9 : Off A8 n8 u9 := HO8.out.2.1
            clear hx80 hx81 hc70 hc71 hf7 hl7
            have H9 := Lib.hid (And.intro hB79 (And.intro hx9 (And.intro hown9 (And.intro hout9 (And.intro hE9 (And.intro hsep9 (And.intro hoi9 hoo9)))))))
            clear hB79 hx9 hown9 hout9 hE9 hsep9 hoi9 hoo9
            have HV9 := Lib.hid (show decide (QOK cp n8) = true from decide_eq_true ⟨by omega, by omega, by omega⟩)
            refine (valid_any cp A8 n8 c8 _ (by omega)).mono ?_
            rw [HV9.out]
            rintro e w9 ⟨rfl, hE10⟩
            have hc90 := (H9.out.1.ext hE10).cell 0 (by simp)
            have hc91 := (H9.out.1.ext hE10).cell 1 (by simp)
            simp only [List.getElem?_cons_zero, List.getElem?_cons_succ] at hc90 hc91
            have H10 := Lib.hid hE10
            clear hE10
            go_wp2
            go_roundw
            case rel =>
              obtain ⟨hB79, hx9, hown9, hout9, hE9, hsep9, hoi9, hoo9⟩ := H9.out
              have hE10 := H10.out
              refine ⟨k + 1, li ++ lb.take q, lo, LP, A8, n8, c8, by go_num, by omega, by omega, HLQ.out.1, HLQ.out.2, by omega, ?_, ?_, own_ext hout9 hE10, hB79.ext hE10, hx9.lift hE10, hcb8, hcm8, hnil8, hsep9, hoi9, hoo9, hE9.trans hE10⟩
              · have := HL.out.2.2.1
                simp
                omega
              · have e1 : (li ++ lb.take q).length = li.length + q := by have := H4.out.2.2.1; simp; omega
                rw [e1]
                exact own_ext hown9 hE10
            case measure => simp [intOf]; omega
        · have hE6 : Ext w5 ((W.setCell ⟨b8, 0, none⟩ (.int .i64 cp)).setCell ⟨b8, 1, none⟩ (.slice A8 n8 c8)) := by rw [← H5.out.1]; exact Ext.refl _
          have hcl6 := hE6.cell HN8.out.2
          have hB76 := H5.out.2.1.ext hE6
          have hB86 := H5.out.2.2.1.ext hE6
          have hx6 := H5.out.2.2.2.1.lift hE6
          have hin6 := own_ext H5.out.2.2.2.2.1 hE6
          have hout6 := own_ext H5.out.2.2.2.2.2.1 hE6
          have hE7 := H5.out.2.2.2.2.2.2.trans hE6
          have harg := (H4.out.1.lift hE7).take q hqn
          rw [show (bytes lb).take q = bytes (lb.take q) by simp] at harg
          have hsz6 : N7 + 1 ≤ (((W.setCell ⟨b8, 0, none⟩ (.int .i64 cp)).setCell ⟨b8, 1, none⟩ (.slice A8 n8 c8))).heap.size := hB76.lt
          have H6 := Lib.hid (And.intro hB76 (And.intro hB86 (And.intro hx6 (And.intro hin6 (And.intro hout6 (And.intro hE7 harg))))))
          clear hE6 hB76 hB86 hx6 hin6 hout6 hE7 harg
          go_wp2_with (at_builtin; refine wpList_app _ rfl (.tmp 63) (.tmp 69) 22 rfl _ _ rfl rfl (app_own _ (N7 + 1) 22 _ 5 i0 (.int .u8 0) 1 Try.underlying22 hi hz0 hz1 hz2 rfl _ _ _ H6.out.2.2.2.1 _ _ _ _ (bytes (lb.take q)) H6.out.2.2.2.2.2.2 (bytes_one _) (by unfold maxLen; omega) (by omega) hsz6) ?_)
          intro v7 w7 ha
          obtain ⟨hB76, hB86, hx6, hin6, hout6, hE7, harg⟩ := H6.out
          have hB77 := hB76.grown ha.2.1 (own_ne hin6 (by omega))
          have hB87 := hB86.grown ha.2.1 HO8.out.2.2.2
          have hx7 := Row.grown hx6 ha.2.1 HO8.out.1
          have hout7 := own_grown hout6 ha.2.1 HO8.out.2.2.1.symm
          have hE77 := Ext.grown hE7 hin6 (by omega) ha.2.1
          have hsep7 : Sep v7 u9 := (Sep.app HO8.out.2.2.1.symm hout6 ha.2.2).symm
          have hoi7 : Off A8 n8 v7 := Off.app HO8.out.1 hx6 ha.2.2
          have hown7 : w7.ownsRow (N7 + 1) 5 1 v7 (li.length + q) (bytes (li ++ lb.take q)) := by have := ha.1; simpa using this
          have hB78 := Box.stored hB77 (.int .i64 cp) (.slice A8 n8 c8)
          have hx8 := hx7.stored (a := 0) hB77 (.int .i64 cp) (.slice A8 n8 c8)
          have hown8 := own_setCell (own_setCell hown7 (p := ⟨N7, 0, none⟩) (show N7 < N7 + 1 by omega) (.int .i64 cp)) (p := ⟨N7, 1, none⟩) (show N7 < N7 + 1 by omega) (.slice A8 n8 c8)
          have hout8 := own_setCell (own_setCell hout7 (p := ⟨N7, 0, none⟩) (show N7 < N7 + 1 by omega) (.int .i64 cp)) (p := ⟨N7, 1, none⟩) (show N7 < N7 + 1 by omega) (.slice A8 n8 c8)
          have hE8 := (hE77.setCell (p := ⟨N7, 0, none⟩) hb7 (.int .i64 cp)).setCell (p := ⟨N7, 1, none⟩) hb7 (.slice A8 n8 c8)
          have hx80 := hB87.cell 0 (by simp)
          have hx81 := hB87.cell 1 (by simp)
          have hc70 := hB77.cell 0 (by simp)
          have hc71 := hB77.cell 1 (by simp)
          simp only [List.getElem?_cons_zero, List.getElem?_cons_succ] at hx80 hx81 hc70 hc71
          have hf7 := hB77.free
          have hl7 := hB77.lt
          obtain ⟨w8, hw8⟩ : ∃ w8, w8 = (w7.setCell ⟨N7, 0, none⟩ (.int .i64 cp)).setCell ⟨N7, 1, none⟩ (.slice A8 n8 c8) := ⟨_, rfl⟩
          rw [← hw8] at hB78 hx8 hown8 hout8 hE8
          have H8 := Lib.hid (And.intro hw8 (And.intro hB78 (And.intro hx8 (And.intro hown8 (And.intro hout8 (And.intro hE8 (And.intro hsep7 hoi7)))))))
          clear hcl6 hB76 hB86 hx6 hin6 hout6 hE7 harg hB77 hB87 hx7 hout7 hE77 hsep7 hoi7 hown7 hB78 hx8 hown8 hout8 hE8 ha hw8 H6 hclW
          by_cases hkt : k < tn
          · go_wp2_with fail
            rw [← H8.out.1]
            obtain ⟨z, hz⟩ : ∃ z, tl[k]? = some z := ⟨_, List.getElem?_eq_getElem (by have := HT.out.len; simp at this; omega)⟩
            obtain ⟨bt, ot, hTe, hbt, hct⟩ := HT.out.at_ (k := k) (u := .int .i64 z) (by simp [hz])
            subst hTe
            have hcw := H8.out.2.2.2.2.2.1.cell hct
            have hz80 := H8.out.2.1.cell 0 (by simp)
            have hz81 := H8.out.2.1.cell 1 (by simp)
            simp only [List.getElem?_cons_zero, List.getElem?_cons_succ] at hz80 hz81
            have hfb := qfirst_bd (cp : Int) n8 (z % 20)
            obtain ⟨f, hf⟩ := Int.eq_ofNat_of_zero_le hfb.1
            have hfn : f ≤ n8 := by omega
            have HT6 := Lib.hid (fun y => take_fresh (cp : Int) A8 n8 c8 LP (z % 20) (w8.plus y) (H8.out.2.2.1.lift ((Ext.refl w8).plus_ y)) hnil8 (by omega))
            rw [hf, show ((f : Int)).toNat = f by simp] at HT6
            obtain ⟨M8, hM8⟩ : ∃ M8, M8 = w8.heap.size := ⟨_, rfl⟩
            have HM8 := Lib.hid (fun y => show M8 ≤ (w8.plus y).heap.size by rw [hM8]; exact World.size_plus y)
            have HM9 := Lib.hid hM8
            clear hfb hf hM8 hx80 hx81 hc70 hc71 hct hz
            apply wp_region_ext 11 [is (qu cp A8 n8 c8), is _, is _, is _, is (.int .i64 z), is (.int .i64 (z % 20)), isTakeF M8 cp LP f, isTakeF M8 cp LP f, isBS (LP.take f), isQSF M8 cp (LP.drop f), isBS (LP.take f)] (by kernel_rfl) (by kernel_rfl) rfl
            case hops =>
              simp only [List.take_succ_cons, List.take_zero]
              refine ⟨?_, ?_, ?_, ?_, ?_, ?_, ?_, ?_, ?_, ?_, ?_, trivial⟩
              all_goals
                intro vs x hd
                simp only [putAll, Act.put, List.setIfInBounds_toArray, List.set_cons_succ, List.set_cons_zero, Nat.zero_add, Nat.reduceAdd]
                simp [depFacts, is, isRow, isRowN, isBox, dataE] at hd
                try simp only [World.plus_plus] at hd
                simp only [Region.wanted, if_true]
                try simp [yielded, hd]
              rotate_left 5
              refine Lock.out ?_
              rotate_left 1
              refine Lock.out ?_
              rotate_left 1
              refine Lock.out ?_
              rotate_left 1
              refine Lock.out ?_
              rotate_left 1
              refine Lock.out ?_
              rotate_left 1
              refine Lock.out ?_
              rotate_left 1
              all_goals
                try (
                with_reducible show comes _ _ _ _ _
                simp only [comes]
                try simp [yielded, hd, comes]
                go_simp
                try go_bits
                first
                  | exact ⟨Ext.refl _, rfl⟩
                  | exact rfl
                  | exact ⟨(Ext.refl _).alloc _, _, rfl, Cells.new _ _ _ _ rfl⟩
                  | exact ⟨(Ext.refl _).alloc _, _, rfl, Box.new _ _ _ _ (by simp [World.le_plus]) rfl⟩
                )
              · refine ⟨?_, trivial⟩
                (simp only [comes]; go_simp; go_at_call 16; refine (within_any z 20 _ (by omega) (by omega)).mono ?_; rintro e w' ⟨rfl, rfl⟩; exact ⟨_, rfl, Ext.refl _, rfl⟩)
              · refine ⟨?_, trivial⟩
                (simp only [comes]; go_simp; go_at_call 19; refine (HT6.out _).mono ?_; rintro e w' ⟨v1, v2, rfl, hb1, hb2, hE, hf2⟩; exact ⟨_, rfl, hE, v1, v2, rfl, hb1, hb2, hf2.le (HM8.out _)⟩)
              · refine ⟨?_, trivial⟩
                (simp only [comes]; go_simp; first | exact Ext.refl _ | exact ⟨Ext.refl _, hd⟩)
              · refine ⟨?_, trivial⟩
                (obtain ⟨v1, v2, e, hb1, hb2, hf2⟩ := hd; rw [e]; simp only [comes]; go_simp; exact ⟨Ext.refl _, hb1⟩)
              · refine ⟨?_, trivial⟩
                (obtain ⟨v1, v2, e, hb1, hb2, hf2⟩ := hd; rw [e]; simp only [comes]; go_simp; exact ⟨Ext.refl _, hb2, hf2⟩)
              · refine ⟨?_, trivial⟩
                (simp only [comes]; go_simp; first | exact Ext.refl _ | exact ⟨Ext.refl _, hd⟩)
            case hst => exact ⟨(by apply is.st), (by apply is.st), (by apply is.st), (by apply is.st), (by apply is.st), (by apply is.st), (by apply isTakeF.st), (by apply isTakeF.st), (by apply isBS.st), (by apply isQSF.st), (by apply isBS.st), trivial⟩
            case hfin =>
              intro vs x hf
              try simp only [World.plus_plus] at hf ⊢
              simp only [List.take_succ_cons, List.take_zero, List.drop_succ_cons, List.drop_zero, putAll, Act.put, List.setIfInBounds_toArray, List.set_cons_succ, List.set_cons_zero]
              simp only [facts, is, Nat.zero_add, Nat.reduceAdd] at hf
              have f9 := hf.2.2.2.2.2.2.2.2.2.1
              have f10 := hf.2.2.2.2.2.2.2.2.2.2.1
              simp only [Nat.zero_add, Nat.reduceAdd, hf]
              clear hf
              obtain ⟨X1, m1, d1, e10, hr1, _, _, _⟩ := f10
              obtain ⟨⟨A9, n9, c9, e9, hr9, hcb9, hcm9, hnil9⟩, hf9⟩ := f9
              rw [e9] at hf9
              rw [e9, e10]
              obtain ⟨wX, hwX⟩ : ∃ wX, wX = w8.plus x := ⟨_, rfl⟩
              have hEx : Ext w8 wX := by rw [hwX]; exact (Ext.refl w8).plus_ x
              rw [← hwX] at hr1 hr9
              rw [← hwX]
              obtain ⟨_, hB78, hx8, hown8, hout8, hE8, hsep7, hoi7⟩ := H8.out
              have hA9 : ∀ a, A9 = some a → w8.heap.size ≤ a.block := fun a ha => by have := hf9 _ _ _ _ rfl a ha; rw [HM9.out] at this; exact this
              have ho9i : Off A9 n9 v7 := Off.fresh hown8 hA9
              have ho9o : Off A9 n9 u9 := Off.fresh hout8 hA9
              have hm1 : m1 = (LP.take f).length := by have := hr1.len; rw [← this]; simp
              have hn9 : n9 = (LP.drop f).length := by have := hr9.len; rw [← this]; simp
              have hlp : LP.length = n8 := by have := hx8.len; simpa using this
              have hm2 : m1 ≤ 60 := by rw [hm1]; simp; omega
              have hn92 : n9 ≤ cp := by rw [hn9]; simp; omega
              have hB7x := hB78.ext hEx
              have hB7y := Box.stored hB7x (.int .i64 cp) (.slice A9 n9 c9)
              have hx9 := hr9.stored (a := 0) hB7x (.int .i64 cp) (.slice A9 n9 c9)
              have hb9 := hr1.stored (a := 0) hB7x (.int .i64 cp) (.slice A9 n9 c9)
              have hown9 := own_setCell (own_setCell (own_ext hown8 hEx) (p := ⟨N7, 0, none⟩) (show N7 < N7 + 1 by omega) (.int .i64 cp)) (p := ⟨N7, 1, none⟩) (show N7 < N7 + 1 by omega) (.slice A9 n9 c9)
              have hout9 := own_setCell (own_setCell (own_ext hout8 hEx) (p := ⟨N7, 0, none⟩) (show N7 < N7 + 1 by omega) (.int .i64 cp)) (p := ⟨N7, 1, none⟩) (show N7 < N7 + 1 by omega) (.slice A9 n9 c9)
              have hE9 := ((hE8.trans hEx).setCell (p := ⟨N7, 0, none⟩) hb7 (.int .i64 cp)).setCell (p := ⟨N7, 1, none⟩) hb7 (.slice A9 n9 c9)
              have hc70 := hB7x.cell 0 (by simp)
              have hc71 := hB7x.cell 1 (by simp)
              simp only [List.getElem?_cons_zero, List.getElem?_cons_succ] at hc70 hc71
              have hf7 := hB7x.free
              have hl7 := hB7x.lt
              have hsz9 : N7 + 1 ≤ ((wX.setCell ⟨N7, 0, none⟩ (.int .i64 cp)).setCell ⟨N7, 1, none⟩ (.slice A9 n9 c9)).heap.size := by simp; omega
              have H9 := Lib.hid (And.intro hB7y (And.intro hx9 (And.intro hb9 (And.intro hown9 (And.intro hout9 (And.intro hE9 (And.intro hsep7 (And.intro ho9i ho9o))))))))
              have HLQ := Lib.hid (show li ++ lb.take q = (lo ++ LP.take f) ++ LP.drop f ∧ (LP.drop f).length = n9 by
                obtain ⟨e1, e2, e3, e4⟩ := HL.out
                refine ⟨by rw [e1, e4, List.append_assoc, List.append_assoc, List.take_append_drop], hn9.symm⟩)
              have HM1 := Lib.hid hm1
              clear hwX e9 e10 hr1 hr9 hB78 hx8 hown8 hout8 hE8 hsep7 hoi7 hA9 ho9i ho9o hm1 hn9 hlp hB7x hB7y hx9 hb9 hown9 hout9 hE9 H8 HT6 HM8 HM9 hcw hz80 hz81 hf9 hEx
              go_wp2_with (at_builtin; refine wpList_app _ rfl (.tmp 86) (.tmp 87) 22 rfl _ _ rfl rfl (app_own _ (N7 + 1) 22 _ 5 i0 (.int .u8 0) 1 Try.underlying22 hi hz0 hz1 hz2 rfl _ _ _ H9.out.2.2.2.2.1 _ _ _ _ (bytes (LP.take f)) H9.out.2.2.1 (bytes_one _) (by unfold maxLen; omega) (by omega) hsz9) ?_)
              intro v9 w11 ha
              obtain ⟨hB7y, hx9', hb9, hown9', hout9', hE9', hsep7, ho9i, ho9o⟩ := H9.out
              have hB79 := hB7y.grown ha.2.1 (own_ne hout9' (by omega))
              have hx9 := Row.grown hx9' ha.2.1 ho9o
              have hown9 := own_grown hown9' ha.2.1 hsep7
              have hE9 := Ext.grown hE9' hout9' (by omega) ha.2.1
              have hsep9 : Sep v7 v9 := Sep.app hsep7 hown9' ha.2.2
              have hoi9 : Off A9 n9 v7 := ho9i
              have hoo9 : Off A9 n9 v9 := Off.app ho9o hx9' ha.2.2
              have hout9 : w11.ownsRow (N7 + 1) 5 1 v9 (lo ++ LP.take f).length (bytes (lo ++ LP.take f)) := by
                have := ha.1
                rw [HM1.out] at this
                simpa using this
              clear hB7y hx9' hb9 hown9' hout9' hE9' hsep7 ho9i ho9o ha H9 hc70 hc71 hf7 hl7 hsz9
              have hd70 := hB79.cell 0 (by simp)
              have hd71 := hB79.cell 1 (by simp)
              simp only [List.getElem?_cons_zero, List.getElem?_cons_succ] at hd70 hd71
              go_wp2_with fail
              have H9 := Lib.hid (And.intro hB79 (And.intro hx9 (And.intro hown9 (And.intro hout9 (And.intro hE9 (And.intro hsep9 (And.intro hoi9 hoo9)))))))
              clear hB79 hx9 hown9 hout9 hE9 hsep9 hoi9 hoo9
              have HV9 := Lib.hid (show decide (QOK cp n9) = true from decide_eq_true ⟨by omega, by omega, by omega⟩)
              refine (valid_any cp A9 n9 c9 _ (by omega)).mono ?_
              rw [HV9.out]
              rintro e w9 ⟨rfl, hE10⟩
              have hc90 := (H9.out.1.ext hE10).cell 0 (by simp)
              have hc91 := (H9.out.1.ext hE10).cell 1 (by simp)
              simp only [List.getElem?_cons_zero, List.getElem?_cons_succ] at hc90 hc91
              have H10 := Lib.hid hE10
              clear hE10
              go_wp2
              go_roundw
              case rel =>
                obtain ⟨hB79, hx9, hown9, hout9, hE9, hsep9, hoi9, hoo9⟩ := H9.out
                have hE10 := H10.out
                refine ⟨k + 1, li ++ lb.take q, lo ++ LP.take f, LP.drop f, A9, n9, c9, by go_num, by omega, by omega, HLQ.out.1, HLQ.out.2, by omega, ?_, ?_, own_ext hout9 hE10, hB79.ext hE10, hx9.lift hE10, hcb9, hcm9, hnil9, hsep9, hoi9, hoo9, hE9.trans hE10⟩
                · have := HL.out.2.2.1
                  simp
                  omega
                · have e1 : (li ++ lb.take q).length = li.length + q := by have := H4.out.2.2.1; simp; omega
                  rw [e1]
                  exact own_ext hown9 hE10
              case measure => simp [intOf]; omega
          · go_wp2_with fail
            rw [← H8.out.1]
            have HLQ := Lib.hid (show li ++ lb.take q = lo ++ LP ∧ LP.length = n8 by
              obtain ⟨e1, e2, e3, e4⟩ := HL.out
              refine ⟨by rw [e1, e4, List.append_assoc], by have := H8.out.2.2.1.len; simpa using this⟩)
            obtain ⟨_, hB79, hx9, hown9, hout9, hE9, hsep9, hoi9⟩ := H8.out
            have hoo9 : Off A8 n8 u9 := HO8.out.2.1
            clear hx80 hx81 hc70 hc71 hf7 hl7
            have H9 := Lib.hid (And.intro hB79 (And.intro hx9 (And.intro hown9 (And.intro hout9 (And.intro hE9 (And.intro hsep9 (And.intro hoi9 hoo9)))))))
            clear hB79 hx9 hown9 hout9 hE9 hsep9 hoi9 hoo9
            have HV9 := Lib.hid (show decide (QOK cp n8) = true from decide_eq_true ⟨by omega, by omega, by omega⟩)
            refine (valid_any cp A8 n8 c8 _ (by omega)).mono ?_
            rw [HV9.out]
            rintro e w9 ⟨rfl, hE10⟩
            have hc90 := (H9.out.1.ext hE10).cell 0 (by simp)
            have hc91 := (H9.out.1.ext hE10).cell 1 (by simp)
            simp only [List.getElem?_cons_zero, List.getElem?_cons_succ] at hc90 hc91
            have H10 := Lib.hid hE10
            clear hE10
            go_wp2
            go_roundw
            case rel =>
              obtain ⟨hB79, hx9, hown9, hout9, hE9, hsep9, hoi9, hoo9⟩ := H9.out
              have hE10 := H10.out
              refine ⟨k + 1, li ++ lb.take q, lo, LP, A8, n8, c8, by go_num, by omega, by omega, HLQ.out.1, HLQ.out.2, by omega, ?_, ?_, own_ext hout9 hE10, hB79.ext hE10, hx9.lift hE10, hcb8, hcm8, hnil8, hsep9, hoi9, hoo9, hE9.trans hE10⟩
              · have := HL.out.2.2.1
                simp
                omega
              · have e1 : (li ++ lb.take q).length = li.length + q := by have := H4.out.2.2.1; simp; omega
                rw [e1]
                exact own_ext hown9 hE10
            case measure => simp [intOf]; omega
    · have hx70 := hB7.cell 0 (by simp)
      have hx71 := hB7.cell 1 (by simp)
      simp only [List.getElem?_cons_zero, List.getElem?_cons_succ] at hx70 hx71
      have hll : li.length ≤ 1800 := by omega
      have hF := hB7.free
      have hl7 := hB7.lt
      have hb7 := hB7.base
      have H3 := Lib.hid (And.intro hli (And.intro hn (And.intro hin (And.intro hout (And.intro hB7 (And.intro hrq (And.intro hnil hE)))))))
      clear hli hn hlen hin hout hB7 hrq hnil hsep hoi hoo hE
      by_cases hkm : k < m
      · have hk30 : 30 ≤ k := by omega
        clear hlt
        go_wp2_with fail
        have TK := Lib.hid (take_any (cp : Int) A n c lq 1000000 wr H3.out.2.2.2.2.2.1 H3.out.2.2.2.2.2.2.1 (by omega))
        rw [show (qfirst (cp : Int) n 1000000).toNat = n by unfold qfirst; rw [if_pos (show QOK cp n from ⟨by omega, by omega, by omega⟩), if_neg (by omega)]; split <;> omega] at TK
        refine TK.out.mono ?_
        clear TK
        rintro e w3 ⟨v1, v2, rfl, ⟨X1, m1, d1, rfl, hr1, hcb1, hcm1, hnil1⟩, ⟨Y1, z1, y1, rfl, hr2, hcb2, hcm2, hnil2⟩, hE3⟩
        obtain ⟨hli, hn, hin, hout, hB7, hrq, hnil, hE⟩ := H3.out
        rw [List.take_of_length_le (by omega)] at hr1
        obtain rfl : z1 = 0 := by have := hr2.len; simp at this; omega
        obtain ⟨AI, cI, rfl, _, _⟩ := own_form hin
        obtain ⟨AO, cO, rfl, _, _⟩ := own_form hout
        have hB73 := hB7.ext hE3
        have ri := ((own_row hin).lift hE3).stored (a := 0) hB73 (.int .i64 cp) (.slice Y1 0 y1)
        have ro := ((own_row hout).lift hE3).stored (a := 0) hB73 (.int .i64 cp) (.slice Y1 0 y1)
        have rq := hr1.stored (a := 0) hB73 (.int .i64 cp) (.slice Y1 0 y1)
        have si := bs_str (c := cI) ri
        have so := bs_str (c := cO) ro
        have sq := bs_str (c := d1) rq
        have hE4 := ((hE.trans hE3).setCell (p := ⟨N7, 0, none⟩) hb7 (.int .i64 cp)).setCell (p := ⟨N7, 1, none⟩) hb7 (.slice Y1 0 y1)
        have hadd := strOfNums_append lo lq
        rw [← hli] at hadd
        have zo : (strOfNums lo).size ≤ 4000 := by rw [strOfNums_size]; have e1 : li.length = lo.length + lq.length := by rw [hli]; simp
                                                   omega
        have zq : (strOfNums lq).size ≤ 4000 := by rw [strOfNums_size]; omega
        obtain ⟨SI, hSI⟩ : ∃ SI, SI = strOfNums li := ⟨_, rfl⟩
        obtain ⟨SO, hSO⟩ : ∃ SO, SO = strOfNums lo := ⟨_, rfl⟩
        obtain ⟨SQ, hSQ⟩ : ∃ SQ, SQ = strOfNums lq := ⟨_, rfl⟩
        rw [← hSI] at si hadd
        rw [← hSO] at so hadd zo
        rw [← hSQ] at sq hadd zq
        have hc70 := hB73.cell 0 (by simp)
        have hc71 := hB73.cell 1 (by simp)
        simp only [List.getElem?_cons_zero, List.getElem?_cons_succ] at hc70 hc71
        have hf7 := hB73.free
        have hl73 := hB73.lt
        have H4 := Lib.hid hE4
        clear hli hn hin hout hB7 hrq hnil hE H3 hr1 hr2 hB73 ri ro rq hE4 hE3 hSI hSO hSQ hx70 hx71 hF hl7
        go_wp2_with fail
        refine (awake_any _).mono ?_
        rintro e w5 ⟨rfl, hE5⟩
        have H5 := Lib.hid (H4.out.trans hE5)
        clear hE5 H4
        go_wp2
        go_ret
        exact ⟨rfl, H5.out⟩
      · clear hlt
        go_wp2_with fail
        have TK := Lib.hid (take_any (cp : Int) A n c lq 1000000 wr H3.out.2.2.2.2.2.1 H3.out.2.2.2.2.2.2.1 (by omega))
        rw [show (qfirst (cp : Int) n 1000000).toNat = n by unfold qfirst; rw [if_pos (show QOK cp n from ⟨by omega, by omega, by omega⟩), if_neg (by omega)]; split <;> omega] at TK
        refine TK.out.mono ?_
        clear TK
        rintro e w3 ⟨v1, v2, rfl, ⟨X1, m1, d1, rfl, hr1, hcb1, hcm1, hnil1⟩, ⟨Y1, z1, y1, rfl, hr2, hcb2, hcm2, hnil2⟩, hE3⟩
        obtain ⟨hli, hn, hin, hout, hB7, hrq, hnil, hE⟩ := H3.out
        rw [List.take_of_length_le (by omega)] at hr1
        obtain rfl : z1 = 0 := by have := hr2.len; simp at this; omega
        obtain ⟨AI, cI, rfl, _, _⟩ := own_form hin
        obtain ⟨AO, cO, rfl, _, _⟩ := own_form hout
        have hB73 := hB7.ext hE3
        have ri := ((own_row hin).lift hE3).stored (a := 0) hB73 (.int .i64 cp) (.slice Y1 0 y1)
        have ro := ((own_row hout).lift hE3).stored (a := 0) hB73 (.int .i64 cp) (.slice Y1 0 y1)
        have rq := hr1.stored (a := 0) hB73 (.int .i64 cp) (.slice Y1 0 y1)
        have si := bs_str (c := cI) ri
        have so := bs_str (c := cO) ro
        have sq := bs_str (c := d1) rq
        have hE4 := ((hE.trans hE3).setCell (p := ⟨N7, 0, none⟩) hb7 (.int .i64 cp)).setCell (p := ⟨N7, 1, none⟩) hb7 (.slice Y1 0 y1)
        have hadd := strOfNums_append lo lq
        rw [← hli] at hadd
        have zo : (strOfNums lo).size ≤ 4000 := by rw [strOfNums_size]; have e1 : li.length = lo.length + lq.length := by rw [hli]; simp
                                                   omega
        have zq : (strOfNums lq).size ≤ 4000 := by rw [strOfNums_size]; omega
        obtain ⟨SI, hSI⟩ : ∃ SI, SI = strOfNums li := ⟨_, rfl⟩
        obtain ⟨SO, hSO⟩ : ∃ SO, SO = strOfNums lo := ⟨_, rfl⟩
        obtain ⟨SQ, hSQ⟩ : ∃ SQ, SQ = strOfNums lq := ⟨_, rfl⟩
        rw [← hSI] at si hadd
        rw [← hSO] at so hadd zo
        rw [← hSQ] at sq hadd zq
        have hc70 := hB73.cell 0 (by simp)
        have hc71 := hB73.cell 1 (by simp)
        simp only [List.getElem?_cons_zero, List.getElem?_cons_succ] at hc70 hc71
        have hf7 := hB73.free
        have hl73 := hB73.lt
        have H4 := Lib.hid hE4
        clear hli hn hin hout hB7 hrq hnil hE H3 hr1 hr2 hB73 ri ro rq hE4 hE3 hSI hSO hSQ hx70 hx71 hF hl7
        go_wp2_with fail
        refine (awake_any _).mono ?_
        rintro e w5 ⟨rfl, hE5⟩
        have H5 := Lib.hid (H4.out.trans hE5)
        clear hE5 H4
        go_wp2
        go_ret
        exact ⟨rfl, H5.out⟩

theorem law_qorder (v0 v1 v2 : Value) (W : World) (o0 : ∃ m, v0 = .int .i64 m ∧ I64 m)
    (o1 : ∃ A n c, ∃ (lv : List Value) (ls : List (List Int)), v1 = .slice A n c ∧ Row W W.heap.size 1 A n lv ∧ VB W lv ls ∧ n ≤ c ∧ c ≤ 9223372036854775807 ∧ ∀ lb ∈ ls, lb.length ≤ 140737488355328)
    (o2 : ∃ A n c, ∃ l : List Int, v2 = .slice A n c ∧ ArgRow W A n c (l.map (Value.int .i64)) ∧ ∀ x ∈ l, I64 x) :
    Calls Try.prog 5 #[v0, v1, v2] W fun e w' => e = .returned (.bool true) ∧ Ext W w' := by
  obtain ⟨m, rfl, _⟩ := o0
  obtain ⟨A, n, c, lv, ls, rfl, h1, h2, h3, h4, h5⟩ := o1
  obtain ⟨A', n', c', l, rfl, ⟨g1, g2, g3, _⟩, _⟩ := o2
  exact law_qorder_ m A n c lv ls A' n' c' l W h1 h2 h3 h4 h5 g1 g2 g3
end Go.Proofs.Ytlmpicopkbpffaa
