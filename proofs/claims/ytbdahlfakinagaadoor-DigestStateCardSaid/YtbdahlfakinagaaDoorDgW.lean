/- digest.Write. -/
import Derived.Test.YtbdahlfakinagaaDoorDg0
import Derived.Test.YtbdahlfakinagaaDoorSlice
import Derived.Deep.CutRange
set_option linter.unusedVariables false
namespace Go.Proofs.YtbdahlfakinagaaDoor
open Go.RowKit Go.Rg

theorem run_add (s : List W32) (bs : List Int) : ∀ k, run s bs (k + 1) = blk (run s bs k) ((bs.drop (64 * k)).take 64) := fun _ => rfl
/-- What lies in memory in Write's loop. -/
structure WrR (w : World) (B R : Nat) (s : List W32) (n : Nat) (A : Option Addr) (m c : Nat) (rest : List Int) (A5 : Option Addr) (n5 c5 : Nat) (wr : World) : Prop where
  box : Box 0 (dcs s n A m c) B wr
  res : Box 0 zeroD R wr
  row : Row wr wr.heap.size 1 A5 n5 (bytes rest)
  le : n5 ≤ c5
  most : c5 ≤ 9223372036854775807
  nil : A5 = none → n5 = 0 ∧ c5 = 0
  apart : ∀ a, A5 = some a → R < a.block
  ext : Ext w wr
  glob : Glob wr
theorem WrR.ext' {w : World} {B R : Nat} {s : List W32} {n : Nat} {A : Option Addr} {m c : Nat} {rest : List Int} {A5 : Option Addr} {n5 c5 : Nat} {wr w2 : World} (h : WrR w B R s n A m c rest A5 n5 c5 wr) (e : Ext wr w2) : WrR w B R s n A m c rest A5 n5 c5 w2 :=
  ⟨h.box.ext e, h.res.ext e, h.row.lift e, h.le, h.most, h.nil, h.apart, h.ext.trans e, h.glob.ext e⟩
theorem WrR.stb {w : World} {B R : Nat} {s s' : List W32} {n n' : Nat} {A A' : Option Addr} {m c m' c' : Nat} {rest : List Int} {A5 : Option Addr} {n5 c5 : Nat} {wr w2 : World} (h : WrR w B R s n A m c rest A5 n5 c5 wr) (k : StB B wr w2) (hb : Box 0 (dcs s' n' A' m' c') B w2) (hBR : B < R) (hw : w.heap.size ≤ B) (h2 : 2 ≤ B) : WrR w B R s' n' A' m' c' rest A5 n5 c5 w2 := by
  have hr := k.row h.row (fun a ha => by have := h.apart a ha; omega)
  rw [← k.size] at hr
  exact ⟨hb, k.box h.res (by omega), hr, h.le, h.most, h.nil, h.apart, k.ext _ h.ext hw, ⟨fun j hj => by rw [k.cell _ (by show (0 : Nat) ≠ B; omega)]; exact h.glob.ini j hj, fun j hj => by rw [k.cell _ (by show (1 : Nat) ≠ B; omega)]; exact h.glob.con j hj⟩⟩
theorem own_lower {w : World} {base base' n size : Nat} {e : TypeId} {v : Value} {xs : List Value} (h : w.ownsRow base e size v n xs) (hb : base' ≤ base) : w.ownsRow base' e size v n xs := by
  refine ⟨h.1, ?_⟩
  rcases h.2 with h1 | ⟨g, cap, cur, hv, hg, h2⟩
  · exact .inl h1
  · exact .inr ⟨g, cap, cur, hv, by omega, h2⟩
theorem add_block_ (a : Addr) (k : Nat) : (a.add k).block = a.block := by unfold Addr.add; split <;> rfl
def lenOf : Value → Nat
  | .slice _ n _ => n
  | _ => 0
theorem BS.at_ {w : World} {A : Option Addr} {m c : Nat} {l : List Int} (h : BS w (.slice A m c) l) : Row w w.heap.size 1 A m (bytes l) ∧ m ≤ c ∧ c ≤ 9223372036854775807 ∧ (A = none → m = 0 ∧ c = 0) ∧ l.length = m := by
  obtain ⟨A', n', c', e, h1, h2, h3, h4⟩ := h
  injection e with e1 e2 e3
  subst e1 e2 e3
  exact ⟨h1, h2, h3, h4, by have := h1.len; simpa using this⟩
set_option maxRecDepth 100000 in
set_option maxHeartbeats 8000000 in
theorem write_core (s : List W32) (hs : s.length = 8) (n : Nat) (A : Option Addr) (m c : Nat) (tl : List Int) (D : Option Addr) (k d : Nat) (bl : List Int) (w : World) (hg : Glob w) (hg2 : 2 ≤ w.heap.size) (hT : BS w (.slice A m c) tl) (hB : BS w (.slice D k d) bl) (hb1 : By tl) (hb2 : By bl) (hn : n + bl.length ≤ 1099511627776) (hl : tl.length + bl.length ≤ 140737488355328) :
    Calls Tryd.prog 16 #[dgv s n A m c, .slice D k d] w fun e w' => ∃ v, e = .returned v ∧ IsD w.heap.size w' v (run s (tl ++ bl) ((tl ++ bl).length / 64)) (n + bl.length) ((tl ++ bl).drop (64 * ((tl ++ bl).length / 64))) ∧ Ext w w' := by
  have hkl : bl.length = k := hB.at_.2.2.2.2
  have hml : tl.length = m := hT.at_.2.2.2.2
  have HT := Lib.hid (And.intro hT (And.intro hB (And.intro hb1 (And.intro hb2 (And.intro hg (And.intro hkl (And.intro hml hl)))))))
  have hnk : n + k ≤ 1099511627776 := by omega
  have hkm : k ≤ 9223372036854775807 := by omega
  have hmm : m ≤ 9223372036854775807 := by omega
  obtain ⟨x0, x1, x2, x3, x4, x5, x6, x7, rfl⟩ := list8 hs
  clear hT hB hb1 hb2 hg hkl hml hl hn hs
  go_enter Tryd.func16, Tryd.ntmps16
  go_wp2_with fail
  refine calls_at fun Y hY => ?_
  obtain ⟨B, hBe⟩ : ∃ B, B = w.heap.size := ⟨_, rfl⟩
  obtain ⟨R, hRe⟩ : ∃ R, R = B + 1 := ⟨_, rfl⟩
  obtain ⟨V, hVe⟩ : ∃ V, V = R + 1 := ⟨_, rfl⟩
  have hBox : Box 0 (dcs [x0, x1, x2, x3, x4, x5, x6, x7] (n + k) A m c) B Y := by
    have h0 : Box 0 [bw x0, bw x1, bw x2, bw x3, bw x4, bw x5, bw x6, bw x7, .int .i64 ((n : Int) + (k : Int)), .slice A m c] B Y := by
      rw [hY, hBe]
      repeat' (first | with_reducible assumption | ((with_reducible refine Box.fresh ?fb ?fn ?fr); (case fb => first | omega | (simp <;> omega)); (case fn => first | omega | (simp <;> omega)); (case fr => rfl)) | with_reducible apply Box.up | with_reducible apply Box.drew_ | with_reducible apply Box.drewN_ | with_reducible apply Box.plus_ | with_reducible apply Box.put | with_reducible refine Box.off ?_ (by omega))
      all_goals first | rfl | (simp; done)
    rw [show (Value.int .i64 ((n : Int) + (k : Int))) = nw (n + k) from by rw [nw, Int.natCast_add]] at h0
    exact h0
  have hRes : Box 0 zeroD R Y := by
    rw [hY, hRe, hBe]
    repeat' (first | with_reducible assumption | ((with_reducible refine Box.fresh ?fb ?fn ?fr); (case fb => first | omega | (simp <;> omega)); (case fn => first | omega | (simp <;> omega)); (case fr => rfl)) | with_reducible apply Box.up | with_reducible apply Box.drew_ | with_reducible apply Box.drewN_ | with_reducible apply Box.plus_ | with_reducible apply Box.put | with_reducible refine Box.off ?_ (by omega))
    all_goals first | rfl | (simp; done)
  have hVB : Box 0 [.slice A m c, .slice D k d] V Y := by
    rw [hY, hVe, hRe, hBe]
    repeat' (first | with_reducible assumption | ((with_reducible refine Box.fresh ?fb ?fn ?fr); (case fb => first | omega | (simp <;> omega)); (case fn => first | omega | (simp <;> omega)); (case fr => rfl)) | with_reducible apply Box.up | with_reducible apply Box.drew_ | with_reducible apply Box.drewN_ | with_reducible apply Box.plus_ | with_reducible apply Box.put | with_reducible refine Box.off ?_ (by omega))
    all_goals first | rfl | (simp; done)
  have hE : Ext w Y := by
    rw [hY]
    repeat' (first | with_reducible assumption | with_reducible exact Ext.refl _ | with_reducible apply Ext.alloc | with_reducible apply Ext.drew | with_reducible apply Ext.drewN | with_reducible apply Ext.plus_ | with_reducible refine Ext.put ?_ (by omega))
  rw [← hBe, ← hRe, ← hVe]
  have hBw : w.heap.size ≤ B := by omega
  have hRw : w.heap.size ≤ R := by omega
  have hBR : B < R := by omega
  have h2B : 2 ≤ B := by omega
  have hVY : R < Y.heap.size := hRes.lt
  clear hY hBe hRe hVe
  obtain ⟨hT, hB, hb1, hb2, hg, hkl, hml, hl⟩ := HT.out
  have hcc := concat_any (some ⟨V, 0, none⟩) 2 2 [.slice A m c, .slice D k d] [tl, bl] Y (Row.ofBox hVB) ⟨rfl, fun j v l hj hl => (by
    rcases j with _ | _ | j
    · injection hj with hj
      injection hl with hl
      subst hj hl
      exact hT.lift hE
    · injection hj with hj
      injection hl with hl
      subst hj hl
      exact hB.lift hE
    · cases hj)⟩ (by decide) (by simpa using hl)
  have hfl : [tl, bl].flatten = tl ++ bl := by simp
  rw [hfl] at hcc
  obtain ⟨all, hall⟩ : ∃ all, all = tl ++ bl := ⟨_, rfl⟩
  have HALL := Lib.hid (And.intro hall hkl)
  have hby : By all := by
    rw [hall]
    intro x hx
    rcases List.mem_append.1 hx with h | h
    · exact hb1 x h
    · exact hb2 x h
  have hal : all.length ≤ 140737488355328 := by rw [hall, List.length_append]; exact hl
  rw [← hall] at hcc
  have hgY := hg.ext hE
  clear hT hB hb1 hb2 hg hkl hml hl hfl hall HT hVB
  refine hcc.mono ?_
  rintro e Y1 ⟨v, rfl, hown, hE1⟩
  obtain ⟨A5, c5, rfl, hle, hmost⟩ := own_form hown
  obtain ⟨L, hL⟩ : ∃ L, L = all.length := ⟨_, rfl⟩
  rw [← hL] at hown hle ⊢
  have HS : Hid (WrR w B R (run [x0, x1, x2, x3, x4, x5, x6, x7] all 0) (n + k) A m c (all.drop (64 * 0)) A5 (L - 64 * 0) c5 Y1) := Lib.hid ⟨hBox.ext hE1, hRes.ext hE1, own_row hown, hle, hmost, own_nil_ hown, fun a ha => (by
    subst ha
    have := own_ge hown
    omega), hE.trans hE1, hgY.ext hE1⟩
  have HY := Lib.hid (And.intro hby (And.intro hal hL))
  have hLe : L ≤ 140737488355328 := by omega
  clear hcc hown hle hmost hBox hRes hE hE1 hgY hby hal hL hVY
  go_wp2_with fail
  go_loopw [5] (fun v5 wr => ∃ (q n5 : Nat) (A5 : Option Addr) (c5 : Nat), 64 * q ≤ L ∧ n5 = L - 64 * q ∧ v5 = .slice A5 n5 c5 ∧ Hid (WrR w B R (run [x0, x1, x2, x3, x4, x5, x6, x7] all q) (n + k) A m c (all.drop (64 * q)) A5 n5 c5 wr)) (fun v5 _ => lenOf v5)
  case atStart => exact ⟨0, L, A5, c5, Nat.zero_le _, rfl, rfl, HS⟩
  case round =>
    clear HS
    obtain ⟨q, n5, A5, c5, hq, hn5, rfl, HS⟩ := hrel
    have hn5b : n5 ≤ 140737488355328 := by omega
    have HN5 := Lib.hid (And.intro hn5 hq)
    by_cases h64 : 64 ≤ n5
    · have h64i : (64 : Int) ≤ (n5 : Int) := by omega
      obtain ⟨g, o, rfl, hgl, hcell⟩ := HS.out.row.2 (by omega)
      obtain ⟨i0, hi, hz0, hz1, hz2⟩ := info_parts Tryd.infoByte
      obtain ⟨rest, hrest⟩ : ∃ rest, rest = all.drop (64 * q) := ⟨_, rfl⟩
      have hbr : By (rest.take 64) := fun x hx => HY.out.1 x (by rw [hrest] at hx; exact List.mem_of_mem_drop (List.mem_of_mem_take hx))
      have hrl : (rest.take 64).length = 64 := by rw [hrest, List.length_take, List.length_drop, ← HY.out.2.2]; omega
      clear hn5 hq
      rw [← hrest] at HS hcell
      obtain ⟨st, hst⟩ : ∃ st, st = run [x0, x1, x2, x3, x4, x5, x6, x7] all q := ⟨_, rfl⟩
      rw [← hst] at HS
      obtain ⟨y0, y1, y2, y3, y4, y5, y6, y7, rfl⟩ := list8 (show st.length = 8 by rw [hst]; exact run_len all rfl q)
      have HST := Lib.hid (And.intro hst hrest)
      have HC := Lib.hid (And.intro hcell (And.intro hbr hrl))
      have hc5 : n5 ≤ c5 := HS.out.le
      have hc6 : c5 ≤ 9223372036854775807 := HS.out.most
      clear hst hrest hcell hbr hrl
      go_upto_region 4 with fail
      refine wp_at fun Y hY => ?_
      rw [← hY] at HS
      have hgl : g < Y.heap.size := by rw [hY]; exact hgl
      have hcell := HC.out.1
      rw [← hY] at hcell
      have hbya : BytesAt g o 64 (rest.take 64) Y := bytesAt_of (fun j u hu => hcell j u (by
        rw [bytes, List.map_take, List.getElem?_take] at hu
        split at hu
        · exact hu
        · cases hu)) HC.out.2.2 HC.out.2.1
      have h2Y : 2 ≤ Y.heap.size := Nat.le_trans hg2 HS.out.ext.size
      have hgl5 : 64 ≤ c5 := by omega
      have hgl5i : (64 : Int) ≤ (c5 : Int) := by omega
      clear hY hcell
      have HBA := Lib.hid hbya
      clear hbya
      refine act_at fun A0 hAq => ?_
      have hsz : A0.tmps.size = 32 := by
        rw [hAq]
        rfl
      have hA2 : A0.tmps.getD 2 undef = .pointer (some ⟨B, 0, none⟩) := by
        rw [hAq]
        first | rfl | kernel_rfl
      have hA5 : A0.tmps.getD 5 undef = .slice (some ⟨g, o, none⟩) n5 c5 := by
        rw [hAq]
        first | rfl | kernel_rfl
      have HAq := Lib.hid hAq
      clear hAq
      apply wp_region_ext 6 [is (.pointer (some ⟨B, 0, none⟩)), is (.agg #[bw y0, bw y1, bw y2, bw y3, bw y4, bw y5, bw y6, bw y7]), is (.slice (some ⟨g, o, none⟩) n5 c5), is (.slice (some ⟨g, o, none⟩) 64 c5), is (wv (blk [y0, y1, y2, y3, y4, y5, y6, y7] (rest.take 64))), is (.pointer (some ⟨B, 0, none⟩))] (by kernel_rfl) (by kernel_rfl) rfl
      case hops =>
        simp only [List.take_succ_cons, List.take_zero]
        with_reducible refine xOps_cons ?_ ?_
        · with_reducible refine xop_un ?_ ?_
          · rfl
          · intro vs x F hF hd
            have e1 : F.tmps.getD 2 undef = .pointer (some ⟨B, 0, none⟩) := (hF.a 2 (by kernel_rfl) (by rw [hsz]; rfl)).trans hA2
            clear hF hd
            simp only [comes]
            go_simp
            first | exact ⟨Ext.refl _, rfl⟩ | exact Ext.refl _
        with_reducible refine xOps_cons ?_ ?_
        · with_reducible refine xop_un ?_ ?_
          · rfl
          · intro vs x F hF hd
            have e1 : F.tmps.getD 20 undef = .pointer (some ⟨B, 0, none⟩) := (hF.v 20 0 (by kernel_rfl) (by rw [hsz]; rfl)).trans (dep_at hd 0 0 (is (.pointer (some ⟨B, 0, none⟩))) (by kernel_rfl) (by kernel_rfl))
            exact comes_load_at 32 (.tmp 20) rfl (Box.preRange (cs := [y0, y1, y2, y3, y4, y5, y6, y7].map bw) (HS.out.box.ext (by repeat (first | exact Ext.refl _ | assumption | apply Ext.plus_ | apply Ext.alloc | apply Ext.drew)))) e1 Tryd.underlying32 rfl (by kernel_rfl)
        with_reducible refine xOps_cons ?_ ?_
        · with_reducible refine xop_un ?_ ?_
          · rfl
          · intro vs x F hF hd
            have e1 : F.tmps.getD 5 undef = .slice (some ⟨g, o, none⟩) n5 c5 := (hF.a 5 (by kernel_rfl) (by rw [hsz]; rfl)).trans hA5
            exact m_v e1
        with_reducible refine xOps_cons ?_ ?_
        · with_reducible refine xop_un ?_ ?_
          · rfl
          · intro vs x F hF hd
            have e1 : F.tmps.getD 22 undef = .slice (some ⟨g, o, none⟩) n5 c5 := (hF.v 22 2 (by kernel_rfl) (by rw [hsz]; rfl)).trans (dep_at hd 0 2 (is (.slice (some ⟨g, o, none⟩) n5 c5)) (by kernel_rfl) (by kernel_rfl))
            clear hF hd
            simp only [comes]
            go_simp
            exact ⟨Ext.refl _, rfl⟩
        with_reducible refine xOps_cons ?_ ?_
        · with_reducible refine xop_un ?_ ?_
          · rfl
          · intro vs x F hF hd
            have e21 : F.tmps.getD 21 undef = .agg #[bw y0, bw y1, bw y2, bw y3, bw y4, bw y5, bw y6, bw y7] := (hF.v 21 1 (by kernel_rfl) (by rw [hsz]; rfl)).trans (dep_at hd 0 1 (is (.agg #[bw y0, bw y1, bw y2, bw y3, bw y4, bw y5, bw y6, bw y7])) (by kernel_rfl) (by kernel_rfl))
            have e23 : F.tmps.getD 23 undef = .slice (some ⟨g, o, none⟩) 64 c5 := (hF.v 23 3 (by kernel_rfl) (by rw [hsz]; rfl)).trans (dep_at hd 1 3 (is (.slice (some ⟨g, o, none⟩) 64 c5)) (by kernel_rfl) (by kernel_rfl))
            clear hF hd
            simp only [comes]
            go_simp
            refine (mix_core y0 y1 y2 y3 y4 y5 y6 y7 g o c5 (rest.take 64) _ (HBA.out.ext (by repeat (first | exact Ext.refl _ | assumption | apply Ext.plus_ | apply Ext.alloc | apply Ext.drew))) (Nat.lt_of_lt_of_le hgl (show Ext Y (Y.plus x) from (by repeat (first | exact Ext.refl _ | assumption | apply Ext.plus_ | apply Ext.alloc | apply Ext.drew))).size) (HS.out.glob.ext (by repeat (first | exact Ext.refl _ | assumption | apply Ext.plus_ | apply Ext.alloc | apply Ext.drew))) (Nat.le_trans h2Y (show Ext Y (Y.plus x) from (by repeat (first | exact Ext.refl _ | assumption | apply Ext.plus_ | apply Ext.alloc | apply Ext.drew))).size)).mono ?_
            rintro e w' ⟨rfl, hE⟩
            first | exact ⟨_, rfl, hE, rfl⟩ | exact ⟨_, rfl, hE⟩ | exact ⟨rfl, hE⟩ | exact ⟨_, hE⟩ | exact hE
        with_reducible refine xOps_cons ?_ ?_
        · with_reducible refine xop_un ?_ ?_
          · rfl
          · intro vs x F hF hd
            have e1 : F.tmps.getD 2 undef = .pointer (some ⟨B, 0, none⟩) := (hF.a 2 (by kernel_rfl) (by rw [hsz]; rfl)).trans hA2
            clear hF hd
            simp only [comes]
            go_simp
            first | exact ⟨Ext.refl _, rfl⟩ | exact Ext.refl _
        exact xOps_nil
      case hst => exact ⟨is.st _, is.st _, is.st _, is.st _, is.st _, is.st _, trivial⟩
      case hfin =>
        intro vs x hf
        have f4 : vs 4 = wv (blk [y0, y1, y2, y3, y4, y5, y6, y7] (rest.take 64)) := hf.2.2.2.2.1
        have f5 : vs 5 = .pointer (some ⟨B, 0, none⟩) := hf.2.2.2.2.2.1
        clear hf
        have hAq := HAq.out
        subst hAq
        clear hsz hA2 hA5
        simp only [List.take_succ_cons, List.take_zero, List.drop_succ_cons, List.drop_zero, putAll, Act.put, List.setIfInBounds_toArray, List.set_cons_succ, List.set_cons_zero, Nat.zero_add, Nat.reduceAdd]
        clear HAq
        rw [f4]
        rw [f5]
        clear f4 f5
        have hbox := HS.out.box.ext (show Ext Y (Y.plus x) from (by repeat (first | exact Ext.refl _ | assumption | apply Ext.plus_ | apply Ext.alloc | apply Ext.drew)))
        have hbl : (blk [y0, y1, y2, y3, y4, y5, y6, y7] (rest.take 64)).length = 8 := blk_len _ rfl
        refine wl_store_pre rfl 32 (.tmp 25) (.tmp 24) rfl hbox ((blk [y0, y1, y2, y3, y4, y5, y6, y7] (rest.take 64)).map bw) rfl rfl (by rw [List.length_map, List.length_map, hbl]; rfl) (by rw [List.length_map, hbl]; kernel_rfl) (one_cells _) fun W3 hB3 hx => ?_
        have HS3 := Lib.hid ((WrR.ext' HS.out (show Ext Y (Y.plus x) from (by repeat (first | exact Ext.refl _ | assumption | apply Ext.plus_ | apply Ext.alloc | apply Ext.drew)))).stb hx hB3 hBR hBw h2B)
        clear hbox hbl hB3 hx HS HBA
        go_upto_region 5 with fail
        refine wp_at fun Y5 hY5 => ?_
        rw [← hY5] at HS3
        clear hY5
        refine act_at fun A0 hAq => ?_
        have hsz : A0.tmps.size = 32 := by
          rw [hAq]
          rfl
        have hA5 : A0.tmps.getD 5 undef = .slice (some ⟨g, o, none⟩) n5 c5 := by
          rw [hAq]
          first | rfl | kernel_rfl
        have HAq := Lib.hid hAq
        clear hAq
        apply wp_region_seq 2 [is (.slice (some ⟨g, o, none⟩) n5 c5), is (.slice (fromAddr (some ⟨g, o, none⟩) c5 64) (n5 - 64) (c5 - 64))] (by kernel_rfl) (by kernel_rfl) rfl
        case hops =>
          simp only [List.take_succ_cons, List.take_zero]
          with_reducible refine xOps_cons ?_ ?_
          · with_reducible refine xop_un ?_ ?_
            · rfl
            · intro vs x F hF hd
              have e1 : F.tmps.getD 5 undef = .slice (some ⟨g, o, none⟩) n5 c5 := (hF.a 5 (by kernel_rfl) (by rw [hsz]; rfl)).trans hA5
              exact m_v e1
          with_reducible refine xOps_cons ?_ ?_
          · with_reducible refine xop_un ?_ ?_
            · rfl
            · intro vs x F hF hd
              have e1 : F.tmps.getD 26 undef = .slice (some ⟨g, o, none⟩) n5 c5 := (hF.v 26 0 (by kernel_rfl) (by rw [hsz]; rfl)).trans (dep_at hd 0 0 (is (.slice (some ⟨g, o, none⟩) n5 c5)) (by kernel_rfl) (by kernel_rfl))
              exact comes_from (.tmp 26) (.const (.int .i64 64)) 22 5 i0 rfl Tryd.underlying22 hi hz1 (some ⟨g, o, none⟩) n5 c5 64 e1 rfl h64 ⟨Ext.refl _, rfl⟩
          exact xOps_nil
        case hst => exact ⟨is.st _, is.st _, trivial⟩
        case hfin =>
          intro vs x hf
          have f1 : vs 1 = .slice (fromAddr (some ⟨g, o, none⟩) c5 64) (n5 - 64) (c5 - 64) := hf.2.1
          clear hf
          have hAq := HAq.out
          subst hAq
          clear hsz hA5
          simp only [List.take_succ_cons, List.take_zero, List.drop_succ_cons, List.drop_zero, putAll, Act.put, List.setIfInBounds_toArray, List.set_cons_succ, List.set_cons_zero, Nat.zero_add, Nat.reduceAdd]
          clear HAq
          rw [f1]
          clear f1
          have HF := Lib.hid (WrR.ext' HS3.out (show Ext Y5 (Y5.plus x) from (by repeat (first | exact Ext.refl _ | assumption | apply Ext.plus_ | apply Ext.alloc | apply Ext.drew))))
          clear HS3
          go_wp2
          go_roundw
          case rel =>
            refine ⟨q + 1, n5 - 64, fromAddr (some ⟨g, o, none⟩) c5 64, c5 - 64, by have := HN5.out; omega, by have := HN5.out; omega, rfl, Lib.hid ?_⟩
            have h := HF.out
            have e1 : run [x0, x1, x2, x3, x4, x5, x6, x7] all (q + 1) = blk [y0, y1, y2, y3, y4, y5, y6, y7] (rest.take 64) := by rw [run, ← HST.out.1, ← HST.out.2]
            have e2 : all.drop (64 * (q + 1)) = rest.drop 64 := by rw [HST.out.2, List.drop_drop]; congr 1
            rw [e1, e2]
            refine ⟨h.box, h.res, ?_, by omega, by omega, fun e => (by cases fromAddr_eq_none e), fun a ha => ?_, h.ext, h.glob⟩
            · have := h.row.from_ (q := 64) (by omega) h.le
              rw [bytes, List.map_drop]
              exact this
            · have hg0 := h.apart _ rfl
              unfold fromAddr at ha
              split at ha
              · injection ha with ha
                rw [← ha]
                exact hg0
              · simp only [Option.map_some, Option.some.injEq] at ha
                rw [← ha, add_block_]
                exact hg0
          case measure => simp only [lenOf]; omega
    · have hq64 : q = L / 64 := by omega
      obtain ⟨rest, hrest⟩ : ∃ rest, rest = all.drop (64 * q) := ⟨_, rfl⟩
      have hrl : rest.length = n5 := by rw [hrest, List.length_drop, ← HY.out.2.2]; omega
      rw [← hrest] at HS
      obtain ⟨st, hst⟩ : ∃ st, st = run [x0, x1, x2, x3, x4, x5, x6, x7] all q := ⟨_, rfl⟩
      rw [← hst] at HS
      obtain ⟨y0, y1, y2, y3, y4, y5, y6, y7, rfl⟩ := list8 (show st.length = 8 by rw [hst]; exact run_len all rfl q)
      have HQ := Lib.hid (And.intro hst (And.intro hrest (And.intro hq64 hrl)))
      have h64i : ¬ (64 : Int) ≤ (n5 : Int) := by omega
      clear hst hrest hq64 hrl hn5 hq HN5
      go_wp2_with fail
      refine (clone_any A5 n5 c5 rest _ HS.out.row HS.out.nil (by omega)).mono ?_
      rintro e W1 ⟨v, rfl, hown, hE⟩
      obtain ⟨A6, c6, rfl, hle6, hm6⟩ := own_form hown
      have hwb : R < wr.heap.size := HS.out.res.lt
      replace HS := Lib.hid (WrR.ext' HS.out hE)
      have HO := Lib.hid (And.intro hown hwb)
      have c9 := HS.out.box.cell 9 (by simp)
      simp only [dcs, List.map_cons, List.map_nil, List.cons_append, List.nil_append, List.getElem?_cons_zero, List.getElem?_cons_succ] at c9
      have hf := HS.out.box.free
      clear hown hE hwb
      go_wp2_with (with_reducible show wpList _ _ _ (⟨some 31, _, _, _, _, _⟩ :: _) _ _; refine Lock.out ?_)
      refine ⟨?_, trivial⟩
      refine wl_at fun Z hZ => ?_
      have hZb : Box 0 (dcs [y0, y1, y2, y3, y4, y5, y6, y7] (n + k) A6 n5 c6) B Z := by
        rw [hZ]
        exact Box.put HS.out.box rfl (by simp)
      have hZo : Z.ownsRow wr.heap.size 5 1 (.slice A6 n5 c6) n5 (bytes rest) := by
        rw [hZ]
        exact own_setCell HO.out.1 (p := ⟨B, 9, none⟩) (by show B < _; have := HO.out.2; omega) _
      have hZr : Box 0 zeroD R Z := by
        rw [hZ]
        exact Box.off HS.out.res (by omega)
      have hZe : Ext w Z := by
        rw [hZ]
        exact Ext.put HS.out.ext hBw
      clear hZ c9 hf
      refine wl_load rfl 34 (.tmp 2) rfl hZb rfl Tryd.underlying34 rfl (by kernel_rfl) ?_
      have HZ := Lib.hid (And.intro hZo (And.intro hZr hZe))
      clear hZb hZo hZr hZe HS
      go_wp2_with (with_reducible show wpList _ _ _ (⟨none, _, _, _, _, _⟩ :: _) _ _; refine Lock.out ?_)
      refine ⟨?_, trivial⟩
      refine wl_storeO rfl 34 (.tmp 4) (.tmp 31) rfl HZ.out.2.1 (dcs [y0, y1, y2, y3, y4, y5, y6, y7] (n + k) A6 n5 c6) rfl rfl rfl (by kernel_rfl) rfl fun W hW hx ho => ?_
      have HX := Lib.hid (And.intro (hx.ext _ HZ.out.2.2 hRw) (ho HO.out.2 HZ.out.1))
      have HR := Lib.hid hW
      clear hW hx ho HZ
      go_wp2
      refine bodyPost_ret (results_cell Tryd.results16 HR.out rfl Tryd.underlying34 rfl (by kernel_rfl)) rfl ?_
      obtain ⟨h1, h2, h3, h4⟩ := HQ.out
      refine ⟨_, rfl, ⟨A6, c6, ?_, ?_⟩, HX.out.1⟩
      · rw [← HALL.out.1, ← HY.out.2.2, ← h3, ← h1, ← h2, h4, HALL.out.2]
      · rw [← HALL.out.1, ← HY.out.2.2, ← h3, ← h2, h4]
        exact own_lower HX.out.2 (by have := HO.out.2; omega)
end Go.Proofs.YtbdahlfakinagaaDoor
