/- PortOrder: the walk. -/
import Derived.Test.YtphbmibgnnobcaaPortO
import Derived.Test.YtphbmibgnnobcaaOpen
import Derived.Deep.CutRange
set_option linter.unusedVariables false
namespace Go.Proofs.Ytphbmibgnnobcaa
open Go.RowKit Go.Rg

theorem OAr.mono {i j : Nat} {I S k : List Int} {bu oc : Int} (h : OAr i I S k bu oc) (hij : i ≤ j) : OAr j I S k bu oc := ⟨h.cat, h.b0, h.idle, h.fits, by have := h.most; omega, by have := h.li; omega⟩
def OrdRel (w : World) (s P : Nat) (A : Option Addr) (m c : Nat) (l : List Int) (oc : Int) (gk : Nat) (s7 v8 v9 : Value) (wr : World) : Prop :=
  ∃ (i : Nat) (I S k : List Int) (bu : Int) (A0 : Option Addr) (c0 : Nat) (B0 : Option Addr) (d0 : Nat), gk = m - i ∧ i ≤ m ∧ s7 = .int .i64 ((S.length : Int) + bu) ∧ Hid (OSt w wr s P A m c l i v8 v9 I S k bu oc A0 c0 B0 d0) ∧ Hid (OAr i I S k bu oc)
def OrdCut (w : World) (s P : Nat) (A : Option Addr) (m c : Nat) (l : List Int) (oc : Int) (i : Nat) (S : List Int) (v9 s7 s8 s10 : Value) (wx : World) : Prop :=
  ∃ (j : Nat) (I O k : List Int) (bu : Int) (A1 : Option Addr) (c1 : Nat) (B1 : Option Addr) (d1 : Nat) (A9 : Option Addr) (n9 c9 : Nat), i < j ∧ j ≤ m ∧ s7 = .int .i64 (((S ++ O).length : Int) + bu) ∧ s10 = .slice A9 n9 c9 ∧ RB wx A9 n9 c9 O ∧ (∀ a, A9 = some a → v9.ownBlock ≠ some a.block) ∧ Hid (OSt w wx s P A m c l j s8 v9 I S k bu oc A1 c1 B1 d1) ∧ Hid (OAr j I (S ++ O) k bu oc)
theorem nxi_lt {l : List Int} {i : Nat} (h : i < l.length) : nxi l i = i + 1 := by unfold nxi; rw [if_pos h]
theorem nxi_bd (l : List Int) (i : Nat) : i ≤ nxi l i ∧ nxi l i ≤ i + 1 := by unfold nxi; split <;> omega
theorem strOfNums_size (a : List Int) : (strOfNums a).size = a.length := by
  unfold strOfNums
  simp [ByteArray.size]
set_option maxRecDepth 100000 in
set_option maxHeartbeats 4000000 in
theorem porder_go (A : Option Addr) (n c : Nat) (l : List Int) (out : Int) (w : World) (hr : Row w w.heap.size 1 A n (ints l)) (hn : n ≤ 9223372036854775807) (hc : n ≤ c) :
    Calls Try.prog 4 #[.slice A n c, .int .i64 out] w fun e w' => e = .returned (.bool true) ∧ Ext w w' := by
  obtain ⟨i0, hi, hz0, hz1, hz2⟩ := info_parts Try.infoByte
  have C := Lib.hid (fun W => cut_any A n c 90 W hn hc (by omega))
  obtain ⟨m, hm⟩ : ∃ m, m = min n 90 := ⟨_, rfl⟩
  have hm1 : m ≤ 90 := by omega
  rw [← hm] at C
  have hr2 := hr.take m (by omega)
  rw [show ((ints l).take m) = ints (l.take m) by simp] at hr2
  obtain ⟨lm, hlm⟩ : ∃ lm, lm = l.take m := ⟨_, rfl⟩
  rw [← hlm] at hr2
  have HR := Lib.hid hr2
  have CZ := Lib.hid (fun w => within_any out 20 w (by decide) (by decide))
  obtain ⟨oc, hoc⟩ : ∃ z, z = out % 20 := ⟨_, rfl⟩
  have ho1 : 0 ≤ oc := by omega
  have ho2 : oc < 20 := by omega
  rw [← hoc] at CZ
  have CN := Lib.hid (fun w => pnew_any 3 5 oc w)
  rw [show clsF 3 = 1 by decide, show qcap 5 = 5 by decide, show qcap oc = oc by unfold qcap; rw [if_neg (by omega), if_pos (by omega)]] at CN
  clear hr hr2 hlm hm hn hc hoc
  go_enter Try.func4, Try.ntmps4
  go_wp2_with fail
  refine (C.out _).mono ?_
  rintro e w' ⟨rfl, rfl⟩
  go_wp2_with fail
  refine (CZ.out _).mono ?_
  rintro e w' ⟨rfl, rfl⟩
  go_wp2_with fail
  refine calls_at fun W hW => ?_
  obtain ⟨s, hs⟩ : ∃ N, N = w.heap.size := ⟨_, rfl⟩
  have hS0 : SrcAt W s A m c lm 0 := by
    rw [hW]
    exact src_at HR.out (Ext.refl w) hs (by omega)
  have hE : Ext w W := by
    rw [hW]
    repeat' (first | with_reducible assumption | with_reducible exact Ext.refl _ | with_reducible apply Ext.alloc | with_reducible apply Ext.drew | with_reducible apply Ext.drewN | with_reducible apply Ext.plus_ | with_reducible refine Ext.put ?_ (by omega))
  rw [← hs]
  have HS := Lib.hid hs
  clear hW hs
  refine (CN.out W).mono ?_
  rintro e X ⟨rfl, hEX⟩
  have H := Lib.hid (And.intro (hS0.ext hEX) (hE.trans hEX))
  clear hS0 hE hEX C CZ CN HR
  go_wp2
  refine wp_at fun Y hY => ?_
  obtain ⟨hS0, hE⟩ := H.out
  obtain ⟨P, hP⟩ : ∃ N, N = X.heap.size := ⟨_, rfl⟩
  have hsP : s < P := by rw [hP]; exact Ext.lt hS0.c0
  have hws := HS.out
  have hEY : Ext X Y := by
    rw [hY]
    repeat' (first | with_reducible assumption | with_reducible exact Ext.refl _ | with_reducible apply Ext.alloc | with_reducible apply Ext.drew | with_reducible apply Ext.drewN | with_reducible apply Ext.plus_ | with_reducible refine Ext.put ?_ (by omega))
  have hB : Box s (ocells none 0 oc none 0 0 0) P Y := by
    rw [hY]
    repeat' (first | with_reducible assumption | ((with_reducible refine Box.fresh ?fb ?fn ?fr); (case fb => first | omega | (simp <;> omega)); (case fn => first | omega | (simp <;> omega)); (case fr => rfl)) | with_reducible apply Box.up | with_reducible apply Box.drew_ | with_reducible apply Box.drewN_ | with_reducible apply Box.plus_ | with_reducible apply Box.put | with_reducible refine Box.off ?_ (by omega))
    all_goals first | rfl | (simp; done)
  have hst : OSt w Y s P A m c lm 0 (.slice none 0 0) (.slice none 0 0) [] [] [] 0 oc none 0 none 0 :=
    ⟨hE.trans hEY, hsP, by omega, hS0.ext hEY, hB, ⟨rfl, .inl ⟨rfl, rfl⟩⟩, ⟨rfl, .inl ⟨rfl, rfl⟩⟩, RB.zero _, RB.zero _, fun hk => absurd rfl hk, fun b hb => (by simp [Value.ownBlock] at hb)⟩
  rw [← hP]
  clear hY hP H hS0 hE hEY hB hws
  go_loopg [7, 8, 9] m (fun gk s7 v8 v9 wr => OrdRel w s P A m c lm oc gk s7 v8 v9 wr)
  case atStart => exact ⟨0, [], [], [], 0, none, 0, none, 0, rfl, Nat.zero_le _, rfl, Lib.hid hst, Lib.hid ⟨rfl, by omega, fun _ => rfl, by simpa using ho1, by simp, by simp⟩⟩
  case round =>
    clear hst
    obtain ⟨i, I, S, k, bu, A0, c0, B0, d0, hgk, him, rfl, hst, har⟩ := hrel
    have HG := Lib.hid hgk
    clear hgk
    go_wp2_with fail
    refine (left_any s A m c lm i _ hst.out.src).mono ?_
    rintro e w1 ⟨rfl, hE1⟩
    have HT1 := Lib.hid (hst.out.ext hE1)
    have HAR := Lib.hid har.out
    clear hst hE1 har
    by_cases hlt : i < m
    · rw [decide_eq_true hlt]
      go_wp2_with fail
      refine (next_any s A m c lm i 2 _ HT1.out.src (by decide) (by decide)).mono ?_
      rintro e w2 ⟨rfl, hE2⟩
      have hlm : lm.length = m := by have := HT1.out.src.row.1; simpa using this
      have HLM := Lib.hid hlm
      have hz := nx_bd lm i 2 (by decide)
      obtain ⟨z, hz0⟩ : ∃ z, z = nx lm i 2 := ⟨_, rfl⟩
      rw [← hz0] at hz ⊢
      have HT2 := HT1.out.se ⟨_, hE2⟩ (HT1.out.src.after hE2)
      rw [nxi_lt (by omega)] at HT2
      replace HT2 := Lib.hid HT2
      clear hz0 HT1 hE2 hlm
      go_upto_if 27 with fail
      go_cut [7, 8, 10] from 23 to 101 (fun s7 s8 s10 wx => OrdCut w s P A m c lm oc i S u9 s7 s8 s10 wx)
      case first =>
        by_cases h0 : z = 0
        · subst h0
          go_wp2_with fail
          refine (next_any s A m c lm (i + 1) 12 _ HT2.out.src (by decide) (by decide)).mono ?_
          rintro e w3 ⟨rfl, hE3⟩
          have hy := nx_bd lm (i + 1) 12 (by decide)
          obtain ⟨y, hy0⟩ : ∃ y, y = nx lm (i + 1) 12 := ⟨_, rfl⟩
          rw [← hy0] at hy ⊢
          have hj := nxi_bd lm (i + 1)
          obtain ⟨j, hj0⟩ : ∃ j, j = nxi lm (i + 1) := ⟨_, rfl⟩
          have HT3 := Lib.hid (HT2.out.se ⟨_, hE3⟩ (HT2.out.src.after hE3))
          rw [← hj0] at hj HT3
          clear hy0 hj0 HT2 hE3
          have hB := HT3.out.box
          have p0 := hB.cell 0 (by simp)
          have p1 := hB.cell 1 (by simp)
          have p2 := hB.cell 2 (by simp)
          have p3 := hB.cell 3 (by simp)
          have p4 := hB.cell 4 (by simp)
          have p5 := hB.cell 5 (by simp)
          have p6 := hB.cell 6 (by simp)
          have p7 := hB.cell 7 (by simp)
          have p8 := hB.cell 8 (by simp)
          simp only [List.getElem?_cons_zero, List.getElem?_cons_succ] at p0 p1 p2 p3 p4 p5 p6 p7 p8
          have pF := hB.free
          have pL := hB.lt
          have pB := hB.base
          clear hB
          have ha1 := HAR.out.b0
          have ha2 := HAR.out.most
          go_wp2_with fail
          refine (grant_any 3 1 5 A0 0 c0 [] oc B0 k.length d0 k bu false false y _ HT3.out.ra (by omega) HT3.out.rb (by have := HAR.out.fits; omega)).mono ?_
          rw [add2 bu y (by omega) (by omega) (by omega)]
          rintro e w4 ⟨v1, v2, rfl, ⟨A1, n1, c1, B1, m1, d1, rfl, ha, hb, fa, fb⟩, ⟨A9, n9, c9, rfl, hr9, f9⟩, hE4⟩
          have hn1 : n1 = 0 := by simpa using ha.row.1.symm
          subst hn1
          have hm1 : m1 = (k.drop (min (bu + y) k.length).toNat).length := by have := hb.row.1; simp at this; simp; omega
          have hAR := HAR.out.grant (n := y) (by omega) (by omega)
          obtain ⟨q, hq⟩ : ∃ q, q = (min (bu + y) k.length).toNat := ⟨_, rfl⟩
          have hq2 : min (bu + y) (k.length : Int) = q := by have := HAR.out.b0; omega
          rw [hq2] at hAR
          simp only [Int.toNat_natCast] at hAR
          rw [← hq] at hb hr9 hm1
          rw [hq2]
          have hM : P < w3.heap.size := HT3.out.box.lt
          have h8 := fun b hb => own_block_lt (b := b) HT3.out.oi hb
          have h9 := fun b hb => own_block_lt (b := b) HT3.out.os hb
          have hB := HT3.out.box.ext hE4
          have hsP2 := HT3.out.sp
          have hws := HT3.out.ws
          clear p0 p1 p2 p3 p4 p5 p6 p7 p8 pF pL pB
          have p0 := hB.cell 0 (by simp)
          have p1 := hB.cell 1 (by simp)
          have p2 := hB.cell 2 (by simp)
          have p3 := hB.cell 3 (by simp)
          have p4 := hB.cell 4 (by simp)
          have p5 := hB.cell 5 (by simp)
          have p6 := hB.cell 6 (by simp)
          have p7 := hB.cell 7 (by simp)
          have p8 := hB.cell 8 (by simp)
          simp only [List.getElem?_cons_zero, List.getElem?_cons_succ] at p0 p1 p2 p3 p4 p5 p6 p7 p8
          have pF := hB.free
          have pL := hB.lt
          have pB := hB.base
          have H4 := Lib.hid (And.intro ha (And.intro hb (And.intro fa (And.intro fb (And.intro hr9 (And.intro f9 (And.intro hE4 hB)))))))
          have HA2 := Lib.hid hAR
          have HM1 := Lib.hid hm1
          have HN := Lib.hid (And.intro h8 h9)
          clear ha hb fa fb hr9 f9 hE4 hB hAR hm1 hq h8 h9
          go_wp2_with fail
          go_meet
          case rel =>
            obtain ⟨ha, hb, fa, fb, hr9, f9, hE4, hB⟩ := H4.out
            obtain ⟨h8, h9⟩ := HN.out
            have hm1 := HM1.out
            subst hm1
            have hT := HT3.out.ext hE4
            have hsrc := hT.src
            have hoi := hT.oi
            have hos := hT.os
            have hE := hT.e
            refine ⟨j, I, k.take q, k.drop q, bu + y - q, A1, c1, B1, d1, A9, n9, c9, by omega, HT3.out.src.hi, ?_, rfl, ?_, fun a e q9 => by (have := h9 _ q9; have := f9 a e; omega), Lib.hid (hT.stored (M := w3.heap.size) (by omega) h8 h9 ?_ ?_ ?_ ?_ ?_ ?_ ?_ fb), Lib.hid (HA2.out.mono (by omega))⟩
            · rw [List.length_append, List.length_take]
              congr 1
              omega
            · iterate 9 (refine RB.put ?_ f9 hM)
              exact hr9
            · repeat' (first | with_reducible assumption | with_reducible exact Ext.refl _ | with_reducible apply Ext.alloc | with_reducible apply Ext.drew | with_reducible apply Ext.drewN | with_reducible apply Ext.plus_ | with_reducible refine Ext.put ?_ (by omega))
            · repeat' (first | with_reducible assumption | with_reducible apply SrcAt.up | with_reducible apply SrcAt.drew_ | with_reducible apply SrcAt.drewN_ | with_reducible refine SrcAt.put ?_ (by omega))
            · repeat' (first | with_reducible assumption | ((with_reducible refine Box.fresh ?fb ?fn ?fr); (case fb => first | omega | (simp <;> omega)); (case fn => first | omega | (simp <;> omega)); (case fr => rfl)) | with_reducible apply Box.up | with_reducible apply Box.drew_ | with_reducible apply Box.drewN_ | with_reducible apply Box.plus_ | with_reducible apply Box.put | with_reducible refine Box.off ?_ (by omega))
              all_goals first | rfl | (simp; done)
            · repeat' (first | with_reducible assumption | with_reducible refine own_put_ ?_ (by omega) | with_reducible apply own_up_ | with_reducible apply own_plus_ | with_reducible apply own_drew_)
            · repeat' (first | with_reducible assumption | with_reducible refine own_put_ ?_ (by omega) | with_reducible apply own_up_ | with_reducible apply own_plus_ | with_reducible apply own_drew_)
            · iterate 9 (refine RB.put ?_ fa hM)
              exact ha
            · iterate 9 (refine RB.put ?_ fb hM)
              exact hb
        · obtain rfl : z = 1 := by omega
          go_wp2_with fail
          refine (srcBytes_any s A m c lm (i + 1) 12 _ HT2.out.src (by decide) (by decide)).mono ?_
          rintro e w3 ⟨v, bl, j, rfl, hsrc, hown, hse, hlen, hj1, _⟩
          obtain ⟨V, vc, rfl, hvc, hvm⟩ := own_form hown
          have hVf := own_base hown
          have hV := RB.of_own hown
          have hsz := hse.size
          have h8 := fun b hb => Nat.lt_of_lt_of_le (own_block_lt (b := b) HT2.out.oi hb) hsz
          have h9 := fun b hb => Nat.lt_of_lt_of_le (own_block_lt (b := b) HT2.out.os hb) hsz
          have HVF := Lib.hid (show ∀ b, u8.ownBlock = some b → ∀ a, V = some a → b < a.block from fun b hb a ha => by have := own_block_lt HT2.out.oi hb; have := hVf a ha; omega)
          have HT3 := Lib.hid (HT2.out.se hse hsrc)
          have HN := Lib.hid (And.intro h8 h9)
          have HV := Lib.hid hV
          clear hsrc hown hse hVf hV h8 h9 HT2
          have hB := HT3.out.box
          have p0 := hB.cell 0 (by simp)
          have p1 := hB.cell 1 (by simp)
          have p2 := hB.cell 2 (by simp)
          have p3 := hB.cell 3 (by simp)
          have p4 := hB.cell 4 (by simp)
          have p5 := hB.cell 5 (by simp)
          have p6 := hB.cell 6 (by simp)
          have p7 := hB.cell 7 (by simp)
          have p8 := hB.cell 8 (by simp)
          simp only [List.getElem?_cons_zero, List.getElem?_cons_succ] at p0 p1 p2 p3 p4 p5 p6 p7 p8
          have pF := hB.free
          have pL := hB.lt
          have pB := hB.base
          clear hB
          have ha1 := HAR.out.b0
          have ha2 := HAR.out.most
          have ha3 := HAR.out.fits
          go_wp2_with fail
          by_cases hr : (bl.length : Int) ≤ prm oc k.length bu
          · refine (pput_yes 3 1 5 A0 0 c0 [] oc B0 k.length d0 k bu false false V bl.length vc bl _ HT3.out.ra (by omega) HT3.out.rb (by omega) HV.out (by omega) (by omega) hr).mono ?_
            rintro e w4 ⟨v1, v2, rfl, ⟨A1, n1, c1, B1, m1, d1, rfl, ha, hb, fa, fb⟩, ⟨A9, n9, c9, rfl, hr9, f9⟩, hE4⟩
            have hn1 : n1 = 0 := by simpa using ha.row.1.symm
            subst hn1
            have hm1 := hb.len
            have hAR := HAR.out.put (x := bl) (by omega) (by unfold prm qroom at hr; split at hr <;> omega)
            obtain ⟨q, hq⟩ : ∃ q, q = (min bu (k ++ bl).length).toNat := ⟨_, rfl⟩
            have hq2 : min bu ((k ++ bl).length : Int) = q := by omega
            rw [hq2] at hAR
            simp only [Int.toNat_natCast] at hAR
            rw [← hq] at hb hr9 hm1
            rw [hq2]
            have hM : P < w3.heap.size := HT3.out.box.lt
            have hB := HT3.out.box.ext hE4
            have hsP2 := HT3.out.sp
            have hws := HT3.out.ws
            have h34 := hE4.size
            clear p0 p1 p2 p3 p4 p5 p6 p7 p8 pF pL pB
            have p0 := hB.cell 0 (by simp)
            have p1 := hB.cell 1 (by simp)
            have p2 := hB.cell 2 (by simp)
            have p3 := hB.cell 3 (by simp)
            have p4 := hB.cell 4 (by simp)
            have p5 := hB.cell 5 (by simp)
            have p6 := hB.cell 6 (by simp)
            have p7 := hB.cell 7 (by simp)
            have p8 := hB.cell 8 (by simp)
            simp only [List.getElem?_cons_zero, List.getElem?_cons_succ] at p0 p1 p2 p3 p4 p5 p6 p7 p8
            have pF := hB.free
            have pL := hB.lt
            have pB := hB.base
            have H4 := Lib.hid (And.intro ha (And.intro hb (And.intro fa (And.intro fb (And.intro hr9 (And.intro f9 (And.intro hE4 hB)))))))
            have HA2 := Lib.hid hAR
            have HM1 := Lib.hid hm1
            have HQ := Lib.hid (And.intro hq hq2)
            clear ha hb fa fb hr9 f9 hE4 hB hAR hm1 hq hq2
            go_wp2_with fail
            refine calls_at fun W hW => ?_
            obtain ⟨Q, hQ⟩ : ∃ N, N = w4.heap.size := ⟨_, rfl⟩
            have hBT : BoxT s 30 [.int .i64 3, .int .i64 1, .int .i64 5, .slice A1 0 c1, .int .i64 oc, .slice B1 m1 d1, .int .i64 (bu - q), .bool false, .bool false] Q W := by
              rw [hW, hQ]
              exact BoxT.new w4 _ _ _ (by omega) rfl
            have hE : Ext w4 W := by
              rw [hW]
              repeat' (first | with_reducible assumption | with_reducible exact Ext.refl _ | with_reducible apply Ext.alloc | with_reducible apply Ext.drew | with_reducible apply Ext.drewN | with_reducible apply Ext.plus_ | with_reducible refine Ext.put ?_ (by omega))
            have hPQ : P < Q := by omega
            rw [← hQ]
            have HQ2 := Lib.hid hQ
            have HT4 := Lib.hid ((HT3.out.ext H4.out.2.2.2.2.2.2.1).ext hE)
            have HE4 := Lib.hid hE
            clear hW hE hQ
            refine (proom_any 3 1 5 A0 0 c0 oc B0 k.length d0 bu false false W (by omega) (by omega) (by omega)).mono ?_
            rintro e X ⟨rfl, hEX⟩
            have HT5 := Lib.hid (HT4.out.ext hEX)
            have HE5 := Lib.hid (HE4.out.trans hEX)
            replace hBT := hBT.ext hEX
            obtain ⟨r, hr0⟩ : ∃ r, r = prm oc k.length bu := ⟨_, rfl⟩
            rw [← hr0] at hr ⊢
            clear hEX HT4 HE4 hr0
            have hB := HT5.out.box
            clear p0 p1 p2 p3 p4 p5 p6 p7 p8 pF pL pB
            have p0 := hB.cell 0 (by simp)
            have p1 := hB.cell 1 (by simp)
            have p2 := hB.cell 2 (by simp)
            have p3 := hB.cell 3 (by simp)
            have p4 := hB.cell 4 (by simp)
            have p5 := hB.cell 5 (by simp)
            have p6 := hB.cell 6 (by simp)
            have p7 := hB.cell 7 (by simp)
            have p8 := hB.cell 8 (by simp)
            simp only [List.getElem?_cons_zero, List.getElem?_cons_succ] at p0 p1 p2 p3 p4 p5 p6 p7 p8
            have pF := hB.free
            have pL := hB.lt
            have pB := hB.base
            clear hB
            have HBT := Lib.hid hBT
            have HV5 := Lib.hid ((HV.out.lift H4.out.2.2.2.2.2.2.1).lift HE5.out)
            have HAPP := Lib.hid (fun (U : World) (hX : Ext X U) (ty : TypeId) => app_apd X U (P + 1) I.length bl.length u8 V vc I bl i0 hi hz0 hz1 hz2 (own_ext HT5.out.oi hX) (HV5.out.lift hX).row (by have := HAR.out.li; omega) (by have := hX.size; omega) hX ty)
            obtain ⟨IB, hIB⟩ : ∃ l, l = I ++ bl := ⟨_, rfl⟩
            rw [← hIB] at HAPP
            have HIB := Lib.hid hIB
            clear hBT hIB
            go_wp2_with fail
            clear p0 p1 p2 p3 p4 p5 p6 p7 p8 pF pL pB
            apply wp_region_bigx 5 4 (P + 1) 5 [0, 0, 0, 0, 2] (fun W => BoxT s 30 [.int .i64 3, .int .i64 1, .int .i64 5, .slice A1 0 c1, .int .i64 oc, .slice B1 m1 d1, .int .i64 (bu - q), .bool false, .bool false] Q W) [is (pv 3 1 5 A1 0 c1 oc B1 m1 d1 (bu - q) false false), is (.slice A9 n9 c9), is _, is _, isApd X (P + 1) IB.length (bytes IB) u8.ownBlock] 1 (.slice A9 n9 c9) _ (by kernel_rfl) (by kernel_rfl) (by kernel_rfl) rfl rfl rfl (fun _ _ _ h => h) (.inl ⟨rfl, fun _ => rfl⟩)
            case hS =>
              intro W hE
              exact HBT.out.big hE (by decide)
            case hops =>
              simp only [List.take_succ_cons, List.take_zero]
              refine ⟨?_, ?_, ?_, ?_, ?_, trivial⟩
              all_goals
                intro vs W hS hX hd
                have hS8 := hS
                clear hS
                simp only [putAll, Act.put, List.setIfInBounds_toArray, List.set_cons_succ, List.set_cons_zero, Nat.zero_add, Nat.reduceAdd]
                simp [depFactsC, clsOf, is, isRow, isRowN, isBox, dataE] at hd
                simp [clsOf] at hX
                simp only [Region.wanted, if_true, Nat.reduceEqDiff, if_false, reduceIte, Nat.reduceAdd, Nat.zero_ne_one, Nat.one_ne_zero, Nat.zero_add]
                try simp [yielded, hd]
              refine Lock.out ?_
              rotate_left 4
              refine Lock.out ?_
              rotate_left 1
              all_goals
                try (
                with_reducible show comes _ _ _ _ _
                simp only [comes]
                try simp [yielded, hd, comes]
                go_simp
                try go_bits
                first
                  | exact ⟨Ext.refl _, rfl⟩
                  | exact rfl
                  | exact ⟨(Ext.refl _).alloc _, _, rfl, Cells.new _ _ _ _ rfl⟩
                )
              · refine ⟨?_, trivial⟩
                (have c0 := hS8.box.cell 0 (by simp); have c1 := hS8.box.cell 1 (by simp); have c2 := hS8.box.cell 2 (by simp); have c3 := hS8.box.cell 3 (by simp); have c4 := hS8.box.cell 4 (by simp); have c5 := hS8.box.cell 5 (by simp); have c6 := hS8.box.cell 6 (by simp); have c7 := hS8.box.cell 7 (by simp); have c8 := hS8.box.cell 8 (by simp); simp only [List.getElem?_cons_zero, List.getElem?_cons_succ] at c0 c1 c2 c3 c4 c5 c6 c7 c8; simp only [comes]; go_simp; first | exact ⟨Ext.refl _, rfl⟩ | exact Ext.refl _)
              · refine ⟨?_, trivial⟩
                exact comes_app (.tmp 60) (.tmp 61) 26 rfl u8 (.slice V bl.length vc) rfl rfl (HAPP.out W hX _)
            case hst => exact ⟨(by first | exact Stable2.is _ | exact Stable2.ext (by apply is.st) (by decide) | exact is.st2), (by first | exact Stable2.is _ | exact Stable2.ext (by apply is.st) (by decide) | exact is.st2), (by first | exact Stable2.is _ | exact Stable2.ext (by apply is.st) (by decide) | exact is.st2), (by first | exact Stable2.is _ | exact Stable2.ext (by apply is.st) (by decide) | exact is.st2), (by first | exact Stable2.is _ | exact Stable2.ext (by apply isApd.st) (by decide) | exact isApd.st2), trivial⟩
            case hfin =>
              intro vs W hE hS hf
              simp only [List.take_succ_cons, List.take_zero, List.drop_succ_cons, List.drop_zero, putAll, Act.put, List.setIfInBounds_toArray, List.set_cons_succ, List.set_cons_zero]
              simp [factsC, clsOf, is] at hf
              simp only [Nat.zero_add, Nat.reduceAdd, hf]
              obtain ⟨-, -, -, -, h4⟩ := hf
              obtain ⟨v4, hv4⟩ : ∃ v, v = vs 4 := ⟨_, rfl⟩
              rw [← hv4] at h4 ⊢
              clear hv4 hS hE
              obtain ⟨wa, wb, e1, hap, e2⟩ := h4
              obtain ⟨ha, hb, fa, fb, hr9, f9, -, -⟩ := H4.out
              obtain ⟨h8, h9⟩ := HN.out
              have hm1 := HM1.out
              subst hm1
              have h45 := HE5.out.size
              have h5a := e1.size
              have hg := hap.2.1
              have hnew := hap.2.2
              rw [HIB.out] at hap
              have hT := ((HT5.out.ext e1).addI hap).ext e2
              replace hr9 := (((hr9.lift HE5.out).lift e1).grown hg (fun _ a e q => by have := h8 _ q; have := f9 a e; omega)).lift e2
              have hfb : (k ++ bl).drop q ≠ [] → ∀ a, B1 = some a → P + 1 ≤ a.block ∧ v4.ownBlock ≠ some a.block ∧ u9.ownBlock ≠ some a.block := by
                intro hk a e
                have hl := hb.lt hk a e
                have hl2 := fb a e
                refine ⟨by omega, fun q => ?_, fun q => by have := h9 _ q; omega⟩
                rcases hnew with h | h
                · rw [h] at q
                  have := h8 _ q
                  omega
                · rw [h] at q
                  injection q with q
                  omega
              replace hb := (((hb.lift HE5.out).lift e1).grown hg (fun _ a e q => by have := h8 _ q; have := fb a e; omega)).lift e2
              have hB := hT.box
              have p0 := hB.cell 0 (by simp)
              have p1 := hB.cell 1 (by simp)
              have p2 := hB.cell 2 (by simp)
              have p3 := hB.cell 3 (by simp)
              have p4 := hB.cell 4 (by simp)
              have p5 := hB.cell 5 (by simp)
              have p6 := hB.cell 6 (by simp)
              have p7 := hB.cell 7 (by simp)
              have p8 := hB.cell 8 (by simp)
              simp only [List.getElem?_cons_zero, List.getElem?_cons_succ] at p0 p1 p2 p3 p4 p5 p6 p7 p8
              have pF := hB.free
              have pL := hB.lt
              have pB := hB.base
              have H6 := Lib.hid (And.intro hT (And.intro hr9 (And.intro hfb (And.intro hb (And.intro f9 (And.intro fb (And.intro h9 (And.intro hB ha))))))))
              clear hT hr9 hfb hb f9 fb h9 h8 hB fa ha hap hg hnew e1 e2 h5a
              go_wp2_with fail
              go_meet
              case rel =>
                obtain ⟨hT, hr9, hfb, hb, f9, fb, h9, hB, ha⟩ := H6.out
                have hsrc := hT.src
                have hoi := hT.oi
                have hos := hT.os
                have hE := hT.e
                refine ⟨j, I ++ bl, (k ++ bl).take q, (k ++ bl).drop q, bu - q, A1, c1, B1, d1, A9, n9, c9, by omega, HT3.out.src.hi, ?_, rfl, ?_, fun a e q9 => (by have := h9 _ q9; have := f9 a e; omega), Lib.hid (hT.stored2 hfb ?_ ?_ ?_ ?_ ?_ ha.nil0 ?_), Lib.hid (HA2.out.mono (by omega))⟩
                · have hq1 := HQ.out.1
                  have hq2 := HQ.out.2
                  rw [List.length_append, List.length_take]
                  congr 1
                  omega
                · iterate 9 (refine RB.put ?_ f9 hM)
                  exact hr9
                · repeat' (first | with_reducible assumption | with_reducible exact Ext.refl _ | with_reducible apply Ext.alloc | with_reducible apply Ext.drew | with_reducible apply Ext.drewN | with_reducible apply Ext.plus_ | with_reducible refine Ext.put ?_ (by omega))
                · repeat' (first | with_reducible assumption | with_reducible apply SrcAt.up | with_reducible apply SrcAt.drew_ | with_reducible apply SrcAt.drewN_ | with_reducible refine SrcAt.put ?_ (by omega))
                · repeat' (first | with_reducible assumption | ((with_reducible refine Box.fresh ?fb ?fn ?fr); (case fb => first | omega | (simp <;> omega)); (case fn => first | omega | (simp <;> omega)); (case fr => rfl)) | with_reducible apply Box.up | with_reducible apply Box.drew_ | with_reducible apply Box.drewN_ | with_reducible apply Box.plus_ | with_reducible apply Box.put | with_reducible refine Box.off ?_ (by omega))
                  all_goals first | rfl | (simp; done)
                · repeat' (first | with_reducible assumption | with_reducible refine own_put_ ?_ (by omega) | with_reducible apply own_up_ | with_reducible apply own_plus_ | with_reducible apply own_drew_)
                · repeat' (first | with_reducible assumption | with_reducible refine own_put_ ?_ (by omega) | with_reducible apply own_up_ | with_reducible apply own_plus_ | with_reducible apply own_drew_)
                · iterate 9 (refine RB.put ?_ fb hM)
                  exact hb
          · refine (pput_no 3 1 5 A0 0 c0 oc B0 k.length d0 bu false false V bl.length vc _ (by omega) (by omega) (by omega) (by omega) (by omega)).mono ?_
            rintro e w4 ⟨rfl, hE4⟩
            have hB := HT3.out.box.ext hE4
            have hsP2 := HT3.out.sp
            have hws := HT3.out.ws
            clear p0 p1 p2 p3 p4 p5 p6 p7 p8 pF pL pB
            have p0 := hB.cell 0 (by simp)
            have p1 := hB.cell 1 (by simp)
            have p2 := hB.cell 2 (by simp)
            have p3 := hB.cell 3 (by simp)
            have p4 := hB.cell 4 (by simp)
            have p5 := hB.cell 5 (by simp)
            have p6 := hB.cell 6 (by simp)
            have p7 := hB.cell 7 (by simp)
            have p8 := hB.cell 8 (by simp)
            simp only [List.getElem?_cons_zero, List.getElem?_cons_succ] at p0 p1 p2 p3 p4 p5 p6 p7 p8
            have pF := hB.free
            have pL := hB.lt
            have pB := hB.base
            have H4 := Lib.hid hE4
            clear hE4 hB
            go_wp2_with fail
            refine calls_at fun W hW => ?_
            have hE : Ext w4 W := by
              rw [hW]
              repeat' (first | with_reducible assumption | with_reducible exact Ext.refl _ | with_reducible apply Ext.alloc | with_reducible apply Ext.drew | with_reducible apply Ext.drewN | with_reducible apply Ext.plus_ | with_reducible refine Ext.put ?_ (by omega))
            have HT4 := Lib.hid ((HT3.out.ext H4.out).ext hE)
            clear hW hE
            refine (proom_any 3 1 5 A0 0 c0 oc B0 k.length d0 bu false false W (by omega) (by omega) (by omega)).mono ?_
            rintro e X ⟨rfl, hEX⟩
            have HT5 := Lib.hid (HT4.out.ext hEX)
            obtain ⟨r, hr0⟩ : ∃ r, r = prm oc k.length bu := ⟨_, rfl⟩
            rw [← hr0] at hr ⊢
            clear hEX HT4 hr0
            have hr2 : ¬ (bl.length : Int) ≤ r := by omega
            go_wp2_with fail
            go_meet
            case rel => exact ⟨j, I, [], k, bu, A0, c0, B0, d0, none, 0, 0, by omega, HT3.out.src.hi, by simp, rfl, RB.zero _, fun a ha => (by cases ha), HT5, Lib.hid (by rw [List.append_nil]; exact HAR.out.mono (by omega))⟩
      case rest =>
        clear HAR HT2
        obtain ⟨j, I2, O, k2, bu2, A1, c1, B1, d1, A9, n9, c9, hij, hjm, rfl, rfl, hr9, hf9, hst, har⟩ := hcut
        have hb0 := har.out.b0
        have hmost := har.out.most
        have hfits := har.out.fits
        have hn9 := hr9.len
        have hbd : S.length + n9 ≤ 12 * j := by
          rw [List.length_append] at hmost
          omega
        have HAPP := Lib.hid (fun (ty : TypeId) => app_apd wc wc (P + 1) S.length n9 u9 A9 c9 S O i0 hi hz0 hz1 hz2 hst.out.os hr9.row (by omega) (by have := hst.out.box.lt; omega) (Ext.refl _) ty)
        obtain ⟨SO, hSO⟩ : ∃ x, x = S ++ O := ⟨_, rfl⟩
        rw [← hSO] at hmost har HAPP ⊢
        have HSO := Lib.hid hSO
        clear hr9 hf9 hn9 hbd hSO
        go_wp2_with (at_builtin; refine wpList_app _ rfl (.tmp 63) (.tmp 64) 26 rfl _ _ rfl rfl (HAPP.out _) ?_)
        rintro v' Z - ⟨wa, wb, e1, hap, e2⟩
        rw [HSO.out] at hap
        have hT := ((hst.out.ext e1).addS hap).ext e2
        rw [← HSO.out] at hT
        clear HAPP hap e1 e2 hst
        obtain ⟨A8, c8, rfl, _, _⟩ := own_form hT.oi
        obtain ⟨A7, c7, rfl, _, _⟩ := own_form hT.os
        have s8 := bs_str (c := c8) (own_row hT.oi)
        have s9 := bs_str (c := c7) (own_row hT.os)
        have sk := bs_str (c := d1) hT.rb.row
        have hB := hT.box
        have p0 := hB.cell 0 (by simp)
        have p1 := hB.cell 1 (by simp)
        have p2 := hB.cell 2 (by simp)
        have p3 := hB.cell 3 (by simp)
        have p4 := hB.cell 4 (by simp)
        have p5 := hB.cell 5 (by simp)
        have p6 := hB.cell 6 (by simp)
        have p7 := hB.cell 7 (by simp)
        have p8 := hB.cell 8 (by simp)
        simp only [List.getElem?_cons_zero, List.getElem?_cons_succ] at p0 p1 p2 p3 p4 p5 p6 p7 p8
        have pF := hB.free
        have pL := hB.lt
        have pB := hB.base
        have HT := Lib.hid hT
        have hcat := har.out.cat
        have hidle := har.out.idle
        have hli := har.out.li
        obtain ⟨x1, hx1⟩ : ∃ x, x = strOfNums I2 := ⟨_, rfl⟩
        obtain ⟨x2, hx2⟩ : ∃ x, x = strOfNums SO := ⟨_, rfl⟩
        obtain ⟨x3, hx3⟩ : ∃ x, x = strOfNums k2 := ⟨_, rfl⟩
        have HX := Lib.hid (show x1 = x2 ++ x3 by rw [hx1, hx2, hx3, strOfNums_append, hcat])
        rw [← hx1] at s8
        rw [← hx2] at s9
        rw [← hx3] at sk
        have hL : x1.toList = (x2 ++ x3).toList := by rw [HX.out]
        have hz9 : x2.size + x3.size ≤ 9223372036854775807 := by
          rw [hx2, hx3, strOfNums_size, strOfNums_size]
          omega
        clear hx1 hx2 hx3 hcat hT hB hz
        by_cases hbu : 0 < bu2
        · obtain rfl : k2 = [] := hidle hbu
          clear hidle
          rw [List.length_nil] at sk p5
          go_wp2_with fail
          refine (validPort_any 3 1 5 A1 0 c1 oc B1 0 d1 bu2 false false Z (by omega) (by omega) ⟨by omega, by omega, by omega⟩ ⟨by omega, by omega, by omega⟩ (by omega) (by omega) (.inr rfl)).mono ?_
          rintro e U ⟨rfl, hU⟩
          have HU := Lib.hid (HT.out.ext hU)
          clear hU
          go_wp2_with fail
          go_roundg (m - j)
          case measure =>
            have := HG.out
            omega
          case rel => exact ⟨j, I2, SO, [], bu2, A1, c1, B1, d1, rfl, hjm, rfl, HU, har⟩
        · obtain rfl : bu2 = 0 := by omega
          clear hidle
          go_wp2_with fail
          refine (validPort_any 3 1 5 A1 0 c1 oc B1 k2.length d1 0 false false Z (by omega) (by omega) ⟨by omega, by omega, by omega⟩ ⟨by omega, by omega, by omega⟩ (by omega) (by omega) (.inl rfl)).mono ?_
          rintro e U ⟨rfl, hU⟩
          have HU := Lib.hid (HT.out.ext hU)
          clear hU
          go_wp2_with fail
          go_roundg (m - j)
          case measure =>
            have := HG.out
            omega
          case rel => exact ⟨j, I2, SO, k2, 0, A1, c1, B1, d1, rfl, hjm, rfl, HU, har⟩
    · rw [decide_eq_false hlt]
      go_wp2_with fail
      refine (awake_any _).mono ?_
      rintro e w2 ⟨rfl, hE2⟩
      have HE := Lib.hid (HT1.out.e.trans hE2)
      clear hE2
      go_wp2_with fail
      go_ret
      exact ⟨rfl, HE.out⟩
theorem law_porder (v0 v1 : Value) (w : World) (p0 : ∃ A n c, ∃ l : List Int, v0 = .slice A n c ∧ ArgRow w A n c (l.map (Value.int .i64)) ∧ ∀ x ∈ l, I64 x) (p1 : ∃ n, v1 = .int .i64 n ∧ I64 n) :
    Calls Try.prog 4 #[v0, v1] w fun e w' => e = .returned (.bool true) ∧ Ext w w' := by
  obtain ⟨A, n, c, l, rfl, ⟨hA, hnc, hcm, _⟩, _⟩ := p0
  obtain ⟨o, rfl, _⟩ := p1
  exact porder_go A n c l o w hA (by omega) hnc
end Go.Proofs.Ytphbmibgnnobcaa
