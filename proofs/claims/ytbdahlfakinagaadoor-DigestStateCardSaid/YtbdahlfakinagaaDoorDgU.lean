/- digest.Sum. -/
import Derived.Test.YtbdahlfakinagaaDoorDgS
import Derived.Laws.MakeOwn
set_option linter.unusedVariables false
namespace Go.Proofs.YtbdahlfakinagaaDoor
open Go.RowKit Go.Rg

/-- What lies in memory while the padding is made. -/
structure PdR (w : World) (B : Nat) (s : List W32) (n : Nat) (A : Option Addr) (m c : Nat) (base : Nat) (v : Value) (pd : List Int) (wr : World) : Prop where
  box : Box 0 (dcs s n A m c) B wr
  own : wr.ownsRow base 5 1 v pd.length (bytes pd)
  ext : Ext w wr
  size : base ≤ wr.heap.size
theorem PdR.ext' {w : World} {B : Nat} {s : List W32} {n : Nat} {A : Option Addr} {m c base : Nat} {v : Value} {pd : List Int} {wr w2 : World} (h : PdR w B s n A m c base v pd wr) (e : Ext wr w2) : PdR w B s n A m c base v pd w2 := ⟨h.box.ext e, own_ext h.own e, h.ext.trans e, Nat.le_trans h.size e.size⟩
theorem PdR.apped {w : World} {B : Nat} {s : List W32} {n : Nat} {A : Option Addr} {m c base : Nat} {v v' : Value} {pd nw' : List Int} {k : Nat} {wr w2 : World} (h : PdR w B s n A m c base v pd wr) (hk : nw'.length = k) (a : Apped base 5 (pd.length + k) (bytes pd ++ bytes nw') v.ownBlock wr v' w2) (hB : B < base) (hw : w.heap.size ≤ base) : PdR w B s n A m c base v' (pd ++ nw') w2 := by
  obtain ⟨h1, h2, h3⟩ := a
  refine ⟨h.box.grown h2 (own_ne h.own hB), ?_, h.ext.grown h.own hw h2, Nat.le_trans h.size h2.size⟩
  rw [List.length_append, hk, bytes, List.map_append]
  exact h1
theorem lenB_at (n : Nat) {i : Nat} (h : i < 8) : (lenB n)[i]? = some ((8 * n / 2 ^ (56 - 8 * i) % 256 : Nat) : Int) := by
  rw [lenB, List.getElem?_map, List.getElem?_range h]
  rfl
theorem by_zero (z : Nat) : By (List.replicate z 0) := fun x hx => by
  rw [List.eq_of_mem_replicate hx]
  decide
theorem by_lenB (n : Nat) : By (lenB n) := fun x hx => by
  rw [lenB, List.mem_map] at hx
  obtain ⟨i, _, rfl⟩ := hx
  omega
theorem By.append {a b : List Int} (h : By a) (k : By b) : By (a ++ b) := fun x hx => by
  rcases List.mem_append.1 hx with h1 | h1
  · exact h x h1
  · exact k x h1
theorem by_pad (z n : Nat) : By (128 :: List.replicate z 0 ++ lenB n) := by
  have h : By [128] := fun x hx => by simp at hx; subst hx; decide
  exact (h.append (by_zero z)).append (by_lenB n)
theorem outB_len (l : List W32) : (outB l).length = 4 * l.length := by
  induction l with
  | nil => rfl
  | cons a l ih =>
    rw [outB, List.flatMap_cons, List.length_append, ← outB, ih]
    simp [outW]
    omega
/-- What lies in memory while the digest is written out. -/
structure SmR (w : World) (O : Nat) (v : Value) (l : List Int) (wr : World) : Prop where
  own : wr.ownsRow O 5 1 v l.length (bytes l)
  ext : Ext w wr
  size : O ≤ wr.heap.size
theorem SmR.ext' {w : World} {O : Nat} {v : Value} {l : List Int} {wr w2 : World} (h : SmR w O v l wr) (e : Ext wr w2) : SmR w O v l w2 := ⟨own_ext h.own e, h.ext.trans e, Nat.le_trans h.size e.size⟩
theorem SmR.apped {w : World} {O : Nat} {v v' : Value} {l nw' : List Int} {k : Nat} {wr w2 : World} (h : SmR w O v l wr) (hk : nw'.length = k) (a : Apped O 5 (l.length + k) (bytes l ++ bytes nw') v.ownBlock wr v' w2) (hw : w.heap.size ≤ O) : SmR w O v' (l ++ nw') w2 := by
  obtain ⟨h1, h2, h3⟩ := a
  refine ⟨?_, h.ext.grown h.own hw h2, Nat.le_trans h.size h2.size⟩
  rw [List.length_append, hk, bytes, List.map_append]
  exact h1
theorem run_field0 (q0 q1 q2 q3 q4 q5 q6 q7 : W32) (a : Nat) (A : Option Addr) (b c : Nat) (w : World) : (Instr.field 34 (dgv [q0, q1, q2, q3, q4, q5, q6, q7] a A b c) 0).run Tryd.prog w = .ok (.agg #[bw q0, bw q1, bw q2, bw q3, bw q4, bw q5, bw q6, bw q7]) w := rfl
theorem run_index8 (q0 q1 q2 q3 q4 q5 q6 q7 qk : W32) (k : Nat) (h : ([q0, q1, q2, q3, q4, q5, q6, q7] : List W32)[k]? = some qk) (w : World) : (Instr.index 32 (.agg #[bw q0, bw q1, bw q2, bw q3, bw q4, bw q5, bw q6, bw q7]) (nw k)).run Tryd.prog w = .ok (bw qk) w := by
  match k, h with
  | 0, h => injection h with h; subst h; rfl
  | 1, h => injection h with h; subst h; rfl
  | 2, h => injection h with h; subst h; rfl
  | 3, h => injection h with h; subst h; rfl
  | 4, h => injection h with h; subst h; rfl
  | 5, h => injection h with h; subst h; rfl
  | 6, h => injection h with h; subst h; rfl
  | 7, h => injection h with h; subst h; rfl
theorem Row.ofCells {b : Nat} {cs : List Value} {w : World} (h : Cells w b cs) : Row w w.heap.size 1 (some ⟨b, 0, none⟩) cs.length cs := ⟨by simp, fun _ => ⟨b, 0, rfl, h.1, fun j u hu => by
  rw [Nat.zero_add]
  exact h.2 j u hu⟩⟩
theorem own_lit (X : World) (base : Nat) (e : TypeId) (cs : Array Value) (hb : base ≤ X.heap.size) (hm : cs.size ≤ 9223372036854775807) : (X.alloc (.cells cs e)).ownsRow base e 1 (.slice (some ⟨X.heap.size, 0, none⟩) cs.size cs.size) cs.size cs.toList := by
  refine ⟨by simp, .inr ⟨X.heap.size, cs.size, cs, rfl, hb, ?_, Nat.le_refl _, hm, by simp, ?_⟩⟩
  · unfold World.alloc
    exact Array.getElem?_push_size
  rw [Nat.mul_one, ← Array.length_toList, List.take_length]
set_option maxRecDepth 100000 in
set_option maxHeartbeats 8000000 in
theorem sum_core (s : List W32) (hs : s.length = 8) (n : Nat) (A : Option Addr) (m c : Nat) (tl : List Int) (w : World) (hg : Glob w) (hg2 : 2 ≤ w.heap.size) (hT : BS w (.slice A m c) tl) (hb1 : By tl) (hn : n ≤ 549755813888) (hm : tl.length ≤ 549755813888) :
    Calls Tryd.prog 17 #[dgv s n A m c] w fun e w' => ∃ v, e = .returned v ∧ w'.ownsRow w.heap.size 5 1 v 32 (bytes (outB (run s (tl ++ (128 :: (List.replicate (padZ tl.length) 0 ++ lenB n))) ((tl ++ (128 :: (List.replicate (padZ tl.length) 0 ++ lenB n))).length / 64)))) ∧ Ext w w' := by
  have hml : tl.length = m := hT.at_.2.2.2.2
  obtain ⟨i0, hi, hz0, hz1, hz2⟩ := info_parts Tryd.infoByte
  have HT := Lib.hid (And.intro hT (And.intro hb1 (And.intro hg hml)))
  have hmm : m ≤ 549755813888 := by omega
  obtain ⟨x0, x1, x2, x3, x4, x5, x6, x7, rfl⟩ := list8 hs
  clear hT hb1 hg hml hm hs
  go_enter Tryd.func17, Tryd.ntmps17
  go_upto_region 3 with fail
  refine wp_at fun Y hY => ?_
  obtain ⟨B, hBe⟩ : ∃ B, B = w.heap.size := ⟨_, rfl⟩
  obtain ⟨base, hbe⟩ : ∃ V, V = B + 1 := ⟨_, rfl⟩
  have hBox : Box 0 (dcs [x0, x1, x2, x3, x4, x5, x6, x7] n A m c) B Y := by
    rw [hY, hBe]
    repeat' (first | with_reducible assumption | ((with_reducible refine Box.fresh ?fb ?fn ?fr); (case fb => first | omega | (simp <;> omega)); (case fn => first | omega | (simp <;> omega)); (case fr => rfl)) | with_reducible apply Box.up | with_reducible apply Box.drew_ | with_reducible apply Box.drewN_ | with_reducible apply Box.plus_ | with_reducible apply Box.put | with_reducible refine Box.off ?_ (by omega))
    all_goals first | rfl | (simp; done)
  have hE : Ext w Y := by
    rw [hY]
    repeat' (first | with_reducible assumption | with_reducible exact Ext.refl _ | with_reducible apply Ext.alloc | with_reducible apply Ext.drew | with_reducible apply Ext.drewN | with_reducible apply Ext.plus_ | with_reducible refine Ext.put ?_ (by omega))
  have hO : Y.ownsRow base 5 1 (.slice (some ⟨base, 0, none⟩) 1 1) 1 (bytes [128]) := by
    rw [hY, hbe, hBe]
    have := own_lit (w.alloc (.cells (dcs [x0, x1, x2, x3, x4, x5, x6, x7] n A m c).toArray 34)) (w.heap.size + 1) 5 #[.int .u8 128] (by simp) (by decide)
    simpa using this
  have hS : base ≤ Y.heap.size := by
    rw [hY, hbe, hBe]
    simp
  rw [← hBe, ← hbe]
  have hwB : w.heap.size ≤ B := by omega
  have hBb : B < base := by omega
  have hwb : w.heap.size ≤ base := by omega
  obtain ⟨Z, hZe⟩ : ∃ Z, Z = padZ m := ⟨_, rfl⟩
  have HZ := Lib.hid hZe
  have hZ64 : Z < 64 := by rw [hZe, padZ]; omega
  have HS : Hid (PdR w B [x0, x1, x2, x3, x4, x5, x6, x7] n A m c base (.slice (some ⟨base, 0, none⟩) 1 1) (128 :: List.replicate 0 0) Y) := Lib.hid ⟨hBox, hO, hE, hS⟩
  clear hY hBe hbe hBox hE hO hS hZe
  go_loopw [4] (fun v4 wr => ∃ z : Nat, z ≤ Z ∧ Hid (PdR w B [x0, x1, x2, x3, x4, x5, x6, x7] n A m c base v4 (128 :: List.replicate z 0) wr)) (fun v4 _ => Z + 1 - lenOf v4)
  case atStart => exact ⟨0, Nat.zero_le _, HS⟩
  case round =>
    clear HS
    obtain ⟨z, hz, HS⟩ := hrel
    obtain ⟨A4, c4, hv4, hle4, hm4⟩ := own_form HS.out.own
    have hl4 : (128 :: List.replicate z (0 : Int)).length = z + 1 := by simp
    rw [hl4] at hv4 hle4
    subst hv4
    have p9 := HS.out.box.cell 9 (by simp)
    simp only [dcs, List.map_cons, List.map_nil, List.cons_append, List.nil_append, List.getElem?_cons_zero, List.getElem?_cons_succ] at p9
    by_cases hlt : z < Z
    · have hd : (((m : Int) + ((z : Int) + 1)) % 64 != 56) = true := by
        have := HZ.out
        unfold padZ at this
        rw [bne_iff_ne]
        omega
      have hli : (m : Int) + ((z : Int) + 1) ≤ 9223372036854775807 := by omega
      go_upto_region 4 with fail
      go_wp2_with (with_reducible show wpList _ _ _ (⟨some 24, _, _, _, _, _⟩ :: _) _ _; refine Lock.out ?_)
      refine ⟨?_, trivial⟩
      refine wl_at fun Y2 hY2 => ?_
      obtain ⟨V, hVe⟩ : ∃ V, V = wr.heap.size := ⟨_, rfl⟩
      have hs2 : PdR w B [x0, x1, x2, x3, x4, x5, x6, x7] n A m c base (.slice A4 (z + 1) c4) (128 :: List.replicate z 0) Y2 := by
        rw [hY2]
        exact PdR.ext' HS.out (by repeat (first | exact Ext.refl _ | assumption | apply Ext.plus_ | apply Ext.alloc | apply Ext.drew))
      have hb2 : Box 0 [.int .u8 0] V Y2 := by
        rw [hY2, hVe]
        repeat' (first | with_reducible assumption | ((with_reducible refine Box.fresh ?fb ?fn ?fr); (case fb => first | omega | (simp <;> omega)); (case fn => first | omega | (simp <;> omega)); (case fr => rfl)) | with_reducible apply Box.up | with_reducible apply Box.drew_ | with_reducible apply Box.drewN_ | with_reducible apply Box.plus_ | with_reducible apply Box.put | with_reducible refine Box.off ?_ (by omega))
        all_goals first | rfl | (simp; done)
      rw [← hVe]
      clear hY2 hVe p9 HS
      refine wpList_app _ rfl (.tmp 22) (.tmp 23) 22 rfl _ _ rfl rfl (app_own _ base 22 _ 5 i0 (.int .u8 0) 1 Tryd.underlying22 hi hz0 hz1 hz2 rfl _ _ _ hs2.own _ _ _ _ (bytes [0]) (Row.ofBox hb2) (bytes_one _) (by unfold maxLen; rw [hl4]; omega) (by rw [hl4]; omega) hs2.size) ?_
      rintro v' W2 ha
      have HS2 := Lib.hid (hs2.apped (nw' := [0]) rfl ha hBb hwb)
      have hl5 : (128 :: List.replicate z (0 : Int)) ++ [0] = 128 :: List.replicate (z + 1) 0 := by
        rw [List.cons_append, List.replicate_succ']
      rw [hl5] at HS2
      obtain ⟨A5, c5, hv5, _, _⟩ := own_form HS2.out.own
      have hl6 : (128 :: List.replicate (z + 1) (0 : Int)).length = z + 2 := by simp
      rw [hl6] at hv5
      subst hv5
      clear hs2 hb2 ha hl5
      go_wp2
      go_roundw
      case rel => exact ⟨z + 1, hlt, HS2⟩
      case measure => simp only [lenOf]; omega
    · obtain rfl : z = Z := by omega
      have hd : (((m : Int) + ((z : Int) + 1)) % 64 != 56) = false := by
        have := HZ.out
        unfold padZ at this
        rw [bne_eq_false_iff_eq]
        omega
      have hli : (m : Int) + ((z : Int) + 1) ≤ 9223372036854775807 := by omega
      clear hlt hz
      go_upto_region 5 with fail
      refine wp_at fun Y hY => ?_
      rw [← hY] at HS
      clear hY p9
      go_wp2
      obtain ⟨p0, hp0⟩ : ∃ p0, p0 = 128 :: List.replicate z (0 : Int) := ⟨_, rfl⟩
      rw [← hp0] at HS hl4
      have HP := Lib.hid (And.intro hp0 hl4)
      clear hp0 hl4 hd hli
      go_loopw [4, 5] (fun v4 v5 wr => ∃ i : Nat, i ≤ 8 ∧ v5 = .int .i64 (56 - 8 * (i : Int)) ∧ Hid (PdR w B [x0, x1, x2, x3, x4, x5, x6, x7] n A m c base v4 (p0 ++ (lenB n).take i) wr)) (fun v4 _ _ => z + 9 - lenOf v4)
      case atStart => exact ⟨0, Nat.zero_le _, rfl, by rw [List.take_zero, List.append_nil]; exact HS⟩
      case round =>
        clear HS
        obtain ⟨i, hi8, rfl, HS⟩ := hrel
        obtain ⟨A4, c4, hv4, hle4, hm4⟩ := own_form HS.out.own
        have hl4 : (p0 ++ (lenB n).take i).length = z + 1 + i := by
          rw [List.length_append, HP.out.2, List.length_take]
          have : (lenB n).length = 8 := by simp [lenB]
          omega
        rw [hl4] at hv4 hle4
        subst hv4
        by_cases hlt : i < 8
        · obtain ⟨sh, hsh⟩ : ∃ sh, sh = 56 - 8 * i := ⟨_, rfl⟩
          have e1 : (56 - 8 * (i : Int)) = (sh : Int) := by omega
          have e2 : (sh : Int) - 8 = 56 - 8 * ((i + 1 : Nat) : Int) := by omega
          have h0 : (0 : Int) ≤ (sh : Int) := by omega
          have h64 : (sh : Int) ≤ 64 := by omega
          rw [e1]
          have HE := Lib.hid (And.intro hsh e2)
          clear hsh e1 e2
          go_upto_region 8 with fail
          go_wp2_with (with_reducible show wpList _ _ _ (⟨some 35, _, _, _, _, _⟩ :: _) _ _; refine Lock.out ?_)
          refine ⟨?_, trivial⟩
          refine wl_at fun Y2 hY2 => ?_
          obtain ⟨V, hVe⟩ : ∃ V, V = wr.heap.size := ⟨_, rfl⟩
          obtain ⟨bt, hbt⟩ : ∃ bt : Int, bt = ((8 * n / 2 ^ sh % 256 : Nat) : Int) := ⟨_, rfl⟩
          have hs2 : PdR w B [x0, x1, x2, x3, x4, x5, x6, x7] n A m c base (.slice A4 (z + 1 + i) c4) (p0 ++ (lenB n).take i) Y2 := by
            rw [hY2]
            exact PdR.ext' HS.out (by repeat (first | exact Ext.refl _ | assumption | apply Ext.plus_ | apply Ext.alloc | apply Ext.drew))
          have hb2 : Box 0 [.int .u8 bt] V Y2 := by
            have e : (n : Int) * 8 / 2 ^ sh % 256 = bt := by rw [hbt, Nat.mul_comm]; simp
            rw [hY2, hVe, e]
            repeat' (first | with_reducible assumption | ((with_reducible refine Box.fresh ?fb ?fn ?fr); (case fb => first | omega | (simp <;> omega)); (case fn => first | omega | (simp <;> omega)); (case fr => rfl)) | with_reducible apply Box.up | with_reducible apply Box.drew_ | with_reducible apply Box.drewN_ | with_reducible apply Box.plus_ | with_reducible apply Box.put | with_reducible refine Box.off ?_ (by omega))
            all_goals first | rfl | (simp; done)
          rw [← hVe]
          have HBT := Lib.hid hbt
          clear hY2 hVe HS hbt
          refine wpList_app _ rfl (.tmp 29) (.tmp 34) 22 rfl _ _ rfl rfl (app_own _ base 22 _ 5 i0 (.int .u8 0) 1 Tryd.underlying22 hi hz0 hz1 hz2 rfl _ _ _ hs2.own _ _ _ _ (bytes [bt]) (Row.ofBox hb2) (bytes_one _) (by unfold maxLen; rw [hl4]; omega) (by rw [hl4]; omega) hs2.size) ?_
          rintro v' W2 ha
          have HS2 := Lib.hid (hs2.apped (nw' := [bt]) rfl ha hBb hwb)
          have hl5 : (p0 ++ (lenB n).take i) ++ [bt] = p0 ++ (lenB n).take (i + 1) := by
            rw [List.take_add_one, lenB_at n hlt, ← HE.out.1, ← HBT.out, List.append_assoc]
            rfl
          rw [hl5] at HS2
          obtain ⟨A5, c5, hv5, _, _⟩ := own_form HS2.out.own
          have hl6 : (p0 ++ (lenB n).take (i + 1)).length = z + 2 + i := by
            rw [← hl5, List.length_append, hl4]
            simp only [List.length_cons, List.length_nil]
            omega
          rw [hl6] at hv5
          subst hv5
          clear hs2 hb2 ha hl5
          go_wp2
          go_roundw
          case rel => exact ⟨i + 1, hlt, by rw [← HE.out.2], HS2⟩
          case measure => simp only [lenOf]; omega
        · obtain rfl : i = 8 := by omega
          have hall : p0 ++ (lenB n).take 8 = p0 ++ lenB n := by rw [List.take_of_length_le (by simp [lenB])]
          rw [hall] at HS hl4
          obtain ⟨pad, hpad⟩ : ∃ pad, pad = p0 ++ lenB n := ⟨_, rfl⟩
          rw [← hpad] at HS hl4
          have HPD := Lib.hid hpad
          clear hlt hi8 hall hpad
          obtain ⟨M, hMs, hmk⟩ : ∃ M : Array Value, M.size = 32 ∧ ∀ w : World, (Instr.makeSlice 22 (.int .i64 0) (.int .i64 32)).run Tryd.prog w = .ok (.slice (some ⟨w.heap.size, 0, none⟩) 0 32) (w.alloc (.cells M 5)) :=
            ⟨madeCells (Value.int .u8 0).cells 32, by rw [size_madeCells], fun w => by
              have := run_makeSlice (P := Tryd.prog) w 22 5 i0 (.int .u8 0) Tryd.underlying22 hi hz0 .i64 .i64 0 32 (by decide) (by decide) (by rw [hz1]; decide) (by rw [hz2]; decide) (by decide)
              rw [hz1] at this
              exact this⟩
          go_upto_region 10 with fail
          go_wp2_with (with_reducible show wpList _ _ _ (⟨some 37, _, _, _, _, _⟩ :: _) _ _; refine Lock.out ?_)
          refine ⟨?_, trivial⟩
          refine wl_at fun Y hY => ?_
          obtain ⟨O, hOe⟩ : ∃ O, O = wr.heap.size := ⟨_, rfl⟩
          have hOo : Y.ownsRow O 5 1 (.slice (some ⟨O, 0, none⟩) 0 32) 0 (bytes []) := by
            rw [hY, hOe]
            exact World.ownsRow_made wr M 32 (Nat.le_refl _) (by unfold maxLen; omega) (by rw [hMs])
          have hs2 : PdR w B [x0, x1, x2, x3, x4, x5, x6, x7] n A m c base (.slice A4 (z + 1 + 8) c4) pad Y := by
            rw [hY]
            exact PdR.ext' HS.out (by repeat (first | exact Ext.refl _ | assumption | apply Ext.plus_ | apply Ext.alloc | apply Ext.drew))
          have hwO : w.heap.size ≤ O := by
            rw [hOe]
            exact HS.out.ext.size
          have hOY : O ≤ Y.heap.size := by
            rw [hY, hOe]
            simp
          rw [← hOe]
          clear hY hOe hmk hMs M
          refine wl_load rfl 34 (.tmp 1) rfl hs2.box rfl Tryd.underlying34 rfl (by kernel_rfl) ?_
          obtain ⟨hT, hb1, hg, hml⟩ := HT.out
          have hbp : By pad := by
            rw [HPD.out, HP.out.1]
            exact by_pad z n
          have hpl : pad.length = z + 9 := by rw [hl4]
          have hW := write_core [x0, x1, x2, x3, x4, x5, x6, x7] rfl n A m c tl A4 (z + 1 + 8) c4 pad Y (hg.ext hs2.ext) (Nat.le_trans hg2 hs2.ext.size) (hT.lift hs2.ext) (by have := BS.of_own hs2.own; exact this) hb1 hbp (by omega) (by omega)
          have HW := Lib.hid hW
          have HK := Lib.hid (And.intro hOo (And.intro hs2.ext hml))
          clear hW hOo hs2 hT hb1 hg hml hbp HS
          go_wp2_with fail
          refine HW.out.mono ?_
          rintro e Y4 ⟨v, rfl, ⟨A7, c7, rfl, hown7⟩, hE7⟩
          obtain ⟨Q, hQ⟩ : ∃ Q, Q = run [x0, x1, x2, x3, x4, x5, x6, x7] (tl ++ pad) ((tl ++ pad).length / 64) := ⟨_, rfl⟩
          rw [← hQ]
          obtain ⟨q0, q1, q2, q3, q4, q5, q6, q7, rfl⟩ := list8 (show Q.length = 8 by rw [hQ]; exact run_len _ rfl _)
          have HQ := Lib.hid hQ
          have HS : Hid (SmR w O (.slice (some ⟨O, 0, none⟩) 0 32) (outB (([q0, q1, q2, q3, q4, q5, q6, q7] : List W32).take 0)) Y4) := Lib.hid ⟨own_ext HK.out.1 hE7, HK.out.2.1.trans hE7, Nat.le_trans hOY hE7.size⟩
          have hfd := run_field0 q0 q1 q2 q3 q4 q5 q6 q7
          clear hown7 hE7 hQ HW hOY
          go_wp2
          clear hfd
          go_loopw [6, 8, 41] (fun v6 _ v41 wr => ∃ k : Nat, k ≤ 8 ∧ v41 = nw k ∧ Hid (SmR w O v6 (outB (([q0, q1, q2, q3, q4, q5, q6, q7] : List W32).take k)) wr)) (fun _ _ v41 _ => 8 - (intOf v41).toNat)
          case atStart => exact ⟨0, Nat.zero_le _, rfl, HS⟩
          case round =>
            clear HS
            obtain ⟨k, hk8, rfl, HS⟩ := hrel
            have hl6 : (outB (([q0, q1, q2, q3, q4, q5, q6, q7] : List W32).take k)).length = 4 * k := by
              rw [outB_len, List.length_take]
              simp only [List.length_cons, List.length_nil]
              omega
            obtain ⟨A6, c6, hv6, hle6, hm6⟩ := own_form HS.out.own
            rw [hl6] at hv6 hle6
            subst hv6
            by_cases hlt : k < 8
            · have hki : (k : Int) < 8 := by omega
              obtain ⟨qk, hqk⟩ : ∃ qk, ([q0, q1, q2, q3, q4, q5, q6, q7] : List W32)[k]? = some qk := ⟨_, List.getElem?_eq_getElem (by simpa using hlt)⟩
              have hix := run_index8 q0 q1 q2 q3 q4 q5 q6 q7 qk k hqk
              have HQK := Lib.hid hqk
              clear hqk
              go_upto_region 13 with fail
              refine wp_at fun Z hZ => ?_
              rw [← hZ] at HS
              clear hZ hix
              refine act_at fun A0 hAq => ?_
              have hsz : A0.tmps.size = 60 := by
                rw [hAq]
                rfl
              have hA6 : A0.tmps.getD 6 undef = .slice A6 (4 * k) c6 := by
                rw [hAq]
                first | rfl | kernel_rfl
              have hA8 : A0.tmps.getD 8 undef = bw (qk) := by
                rw [hAq]
                first | rfl | kernel_rfl
              have HAq := Lib.hid hAq
              clear hAq
              apply wp_region_seq 13 [is (.slice A6 (4 * k) c6), is (bw (qk)), is (bw ((qk) >>> 24)), is (.int .u8 ((((qk) >>> 24).toNat % 256 : Nat) : Int)), is (bw (qk)), is (bw ((qk) >>> 16)), is (.int .u8 ((((qk) >>> 16).toNat % 256 : Nat) : Int)), is (bw (qk)), is (bw ((qk) >>> 8)), is (.int .u8 ((((qk) >>> 8).toNat % 256 : Nat) : Int)), is (bw (qk)), is (.int .u8 (((qk).toNat % 256 : Nat) : Int)), isRow [.int .u8 ((((qk) >>> 24).toNat % 256 : Nat) : Int), .int .u8 ((((qk) >>> 16).toNat % 256 : Nat) : Int), .int .u8 ((((qk) >>> 8).toNat % 256 : Nat) : Int), .int .u8 (((qk).toNat % 256 : Nat) : Int)]] (by kernel_rfl) (by kernel_rfl) rfl
              case hops =>
                simp only [List.take_succ_cons, List.take_zero]
                with_reducible refine xOps_cons ?_ ?_
                · with_reducible refine xop_un ?_ ?_
                  · rfl
                  · intro vs x F hF hd
                    have e1 : F.tmps.getD 6 undef = .slice A6 (4 * k) c6 := (hF.a 6 (by kernel_rfl) (by rw [hsz]; rfl)).trans hA6
                    exact m_v e1
                with_reducible refine xOps_cons ?_ ?_
                · with_reducible refine xop_un ?_ ?_
                  · rfl
                  · intro vs x F hF hd
                    have e1 : F.tmps.getD 8 undef = bw (qk) := (hF.a 8 (by kernel_rfl) (by rw [hsz]; rfl)).trans hA8
                    exact m_v e1
                with_reducible refine xOps_cons ?_ ?_
                · with_reducible refine xop_un ?_ ?_
                  · rfl
                  · intro vs x F hF hd
                    have e1 : F.tmps.getD 45 undef = bw (qk) := (hF.v 45 1 (by kernel_rfl) (by rw [hsz]; rfl)).trans (dep_at hd 0 1 (is (bw (qk))) (by kernel_rfl) (by kernel_rfl))
                    exact w_shr_u64 (n := 24) e1 rfl (by omega)
                with_reducible refine xOps_cons ?_ ?_
                · with_reducible refine xop_un ?_ ?_
                  · rfl
                  · intro vs x F hF hd
                    have e1 : F.tmps.getD 46 undef = bw ((qk) >>> 24) := (hF.v 46 2 (by kernel_rfl) (by rw [hsz]; rfl)).trans (dep_at hd 0 2 (is (bw ((qk) >>> 24))) (by kernel_rfl) (by kernel_rfl))
                    exact w_conv8 e1
                with_reducible refine xOps_cons ?_ ?_
                · with_reducible refine xop_un ?_ ?_
                  · rfl
                  · intro vs x F hF hd
                    have e1 : F.tmps.getD 8 undef = bw (qk) := (hF.a 8 (by kernel_rfl) (by rw [hsz]; rfl)).trans hA8
                    exact m_v e1
                with_reducible refine xOps_cons ?_ ?_
                · with_reducible refine xop_un ?_ ?_
                  · rfl
                  · intro vs x F hF hd
                    have e1 : F.tmps.getD 48 undef = bw (qk) := (hF.v 48 4 (by kernel_rfl) (by rw [hsz]; rfl)).trans (dep_at hd 0 4 (is (bw (qk))) (by kernel_rfl) (by kernel_rfl))
                    exact w_shr_u64 (n := 16) e1 rfl (by omega)
                with_reducible refine xOps_cons ?_ ?_
                · with_reducible refine xop_un ?_ ?_
                  · rfl
                  · intro vs x F hF hd
                    have e1 : F.tmps.getD 49 undef = bw ((qk) >>> 16) := (hF.v 49 5 (by kernel_rfl) (by rw [hsz]; rfl)).trans (dep_at hd 0 5 (is (bw ((qk) >>> 16))) (by kernel_rfl) (by kernel_rfl))
                    exact w_conv8 e1
                with_reducible refine xOps_cons ?_ ?_
                · with_reducible refine xop_un ?_ ?_
                  · rfl
                  · intro vs x F hF hd
                    have e1 : F.tmps.getD 8 undef = bw (qk) := (hF.a 8 (by kernel_rfl) (by rw [hsz]; rfl)).trans hA8
                    exact m_v e1
                with_reducible refine xOps_cons ?_ ?_
                · with_reducible refine xop_un ?_ ?_
                  · rfl
                  · intro vs x F hF hd
                    have e1 : F.tmps.getD 51 undef = bw (qk) := (hF.v 51 7 (by kernel_rfl) (by rw [hsz]; rfl)).trans (dep_at hd 0 7 (is (bw (qk))) (by kernel_rfl) (by kernel_rfl))
                    exact w_shr_u64 (n := 8) e1 rfl (by omega)
                with_reducible refine xOps_cons ?_ ?_
                · with_reducible refine xop_un ?_ ?_
                  · rfl
                  · intro vs x F hF hd
                    have e1 : F.tmps.getD 52 undef = bw ((qk) >>> 8) := (hF.v 52 8 (by kernel_rfl) (by rw [hsz]; rfl)).trans (dep_at hd 0 8 (is (bw ((qk) >>> 8))) (by kernel_rfl) (by kernel_rfl))
                    exact w_conv8 e1
                with_reducible refine xOps_cons ?_ ?_
                · with_reducible refine xop_un ?_ ?_
                  · rfl
                  · intro vs x F hF hd
                    have e1 : F.tmps.getD 8 undef = bw (qk) := (hF.a 8 (by kernel_rfl) (by rw [hsz]; rfl)).trans hA8
                    exact m_v e1
                with_reducible refine xOps_cons ?_ ?_
                · with_reducible refine xop_un ?_ ?_
                  · rfl
                  · intro vs x F hF hd
                    have e1 : F.tmps.getD 54 undef = bw (qk) := (hF.v 54 10 (by kernel_rfl) (by rw [hsz]; rfl)).trans (dep_at hd 0 10 (is (bw (qk))) (by kernel_rfl) (by kernel_rfl))
                    exact w_conv8 e1
                with_reducible refine xOps_cons ?_ ?_
                · with_reducible refine xop_un ?_ ?_
                  · rfl
                  · intro vs x F hF hd
                    have e47 : F.tmps.getD 47 undef = .int .u8 ((((qk) >>> 24).toNat % 256 : Nat) : Int) := (hF.v 47 3 (by kernel_rfl) (by rw [hsz]; rfl)).trans (dep_at hd 0 3 (is (.int .u8 ((((qk) >>> 24).toNat % 256 : Nat) : Int))) (by kernel_rfl) (by kernel_rfl))
                    have e50 : F.tmps.getD 50 undef = .int .u8 ((((qk) >>> 16).toNat % 256 : Nat) : Int) := (hF.v 50 6 (by kernel_rfl) (by rw [hsz]; rfl)).trans (dep_at hd 1 6 (is (.int .u8 ((((qk) >>> 16).toNat % 256 : Nat) : Int))) (by kernel_rfl) (by kernel_rfl))
                    have e53 : F.tmps.getD 53 undef = .int .u8 ((((qk) >>> 8).toNat % 256 : Nat) : Int) := (hF.v 53 9 (by kernel_rfl) (by rw [hsz]; rfl)).trans (dep_at hd 2 9 (is (.int .u8 ((((qk) >>> 8).toNat % 256 : Nat) : Int))) (by kernel_rfl) (by kernel_rfl))
                    have e55 : F.tmps.getD 55 undef = .int .u8 (((qk).toNat % 256 : Nat) : Int) := (hF.v 55 11 (by kernel_rfl) (by rw [hsz]; rfl)).trans (dep_at hd 3 11 (is (.int .u8 (((qk).toNat % 256 : Nat) : Int))) (by kernel_rfl) (by kernel_rfl))
                    rw [Array.getD_eq_getD_getElem?] at e47 e50 e53 e55
                    clear hF hd
                    simp only [comes]
                    go_simp
                    exact ⟨(Ext.refl _).alloc _, _, rfl, Cells.new _ _ _ _ rfl⟩
                exact xOps_nil
              case hst => exact ⟨is.st _, is.st _, is.st _, is.st _, is.st _, is.st _, is.st _, is.st _, is.st _, is.st _, is.st _, is.st _, isRow.st _, trivial⟩
              case hfin =>
                intro vs x hf
                have f0 : vs 0 = .slice A6 (4 * k) c6 := hf.1
                obtain ⟨E, f12, hC⟩ := hf.2.2.2.2.2.2.2.2.2.2.2.2.1
                have g12 : vs 12 = .slice (some ⟨E, 0, none⟩) 4 4 := f12
                clear hf f12
                have hAq := HAq.out
                subst hAq
                clear hsz hA6 hA8
                simp only [List.take_succ_cons, List.take_zero, List.drop_succ_cons, List.drop_zero, putAll, Act.put, List.setIfInBounds_toArray, List.set_cons_succ, List.set_cons_zero, Nat.zero_add, Nat.reduceAdd]
                clear HAq
                rw [f0]
                clear f0
                rw [g12]
                clear g12
                have hs := SmR.ext' HS.out (show Ext Z (Z.plus x) from (by repeat (first | exact Ext.refl _ | assumption | apply Ext.plus_ | apply Ext.alloc | apply Ext.drew)))
                have hrw := Row.ofCells hC
                refine wpList_app _ rfl (.tmp 44) (.tmp 56) 22 rfl (.slice A6 (4 * k) c6) _ rfl rfl (app_own _ O 22 _ 5 i0 (.int .u8 0) 1 Tryd.underlying22 hi hz0 hz1 hz2 rfl _ _ _ hs.own _ _ _ _ (bytes (outW qk)) hrw (bytes_one _) (by unfold maxLen; rw [hl6]; omega) (by rw [hl6]; omega) hs.size) ?_
                rintro v' W2 ha
                have HS2 := Lib.hid (hs.apped (nw' := outW qk) rfl ha hwO)
                have hl7 : outB (([q0, q1, q2, q3, q4, q5, q6, q7] : List W32).take k) ++ outW qk = outB (([q0, q1, q2, q3, q4, q5, q6, q7] : List W32).take (k + 1)) := by
                  rw [List.take_add_one, HQK.out]
                  simp [outB]
                rw [hl7] at HS2
                clear hs hrw ha hC hl7 HS
                go_wp2
                go_roundw
                case rel => exact ⟨k + 1, by omega, by go_num, HS2⟩
                case measure => simp [intOf]; omega
            · obtain rfl : k = 8 := by omega
              clear hlt hk8
              go_wp2
              go_ret
              have hS := HS.out
              have e1 : (([q0, q1, q2, q3, q4, q5, q6, q7] : List W32).take 8) = [q0, q1, q2, q3, q4, q5, q6, q7] := rfl
              rw [e1] at hS
              have e2 : pad = 128 :: (List.replicate (padZ tl.length) 0 ++ lenB n) := by
                rw [HPD.out, HP.out.1, HZ.out, ← HK.out.2.2]
                rfl
              rw [← e2, ← HQ.out]
              exact ⟨_, rfl, own_lower hS.own hwO, hS.ext⟩
end Go.Proofs.YtbdahlfakinagaaDoor
