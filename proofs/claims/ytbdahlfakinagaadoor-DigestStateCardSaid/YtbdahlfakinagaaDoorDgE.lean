/- The reference's SameDigest. -/
import Derived.Test.YtbdahlfakinagaaDoorDgK0
import Derived.ChangeKeysEq
set_option linter.unusedVariables false
namespace Go.Proofs.YtbdahlfakinagaaDoor
open Go.RowKit Go.Rg

theorem run_items_same {P : Program} (w : World) (d : Nat) {e : TypeId} {k : IntKind} (hu : P.underlying e = some (.int k)) (xs : Array Value) : ∀ is : List Nat, (∀ i ∈ is, ∃ n, xs[i]? = some (.int k n)) → (Op.eqItems (d + 1) e 1 xs xs is).run P w = .ok true w
  | [], _ => by simp [Op.eqItems]
  | i :: is, h => by
    obtain ⟨n, hn⟩ := h i (by simp)
    have hp : (part e xs (i * 1)).run P w = .ok (.int k n) w := run_part_plain w (by simp [Program.plainKey, hu]) (by rw [Nat.mul_one]; exact hn)
    have he : (Op.equalIn (d + 1) e (.int k n) (.int k n)).run P w = .ok true w := by
      rw [run_equalIn_int w d e k k n n hu]
      simp
    simp only [Op.eqItems, Sem.run_bind, hp, he, Result.andThen_ok]
    simpa using run_items_same w d hu xs is fun j hj => h j (by simp [hj])
theorem arr8 (x0 x1 x2 x3 x4 x5 x6 x7 : W32) : ∀ i, i < 8 → ∃ n, (#[bw x0, bw x1, bw x2, bw x3, bw x4, bw x5, bw x6, bw x7] : Array Value)[i]? = some (.int .u32 n) := fun i hi => by
  rcases i with _ | _ | _ | _ | _ | _ | _ | _ | i
  all_goals first | exact ⟨_, rfl⟩ | omega
theorem eq8_at {d : Option Tmp} {x y : Operand} {pos : String} {after : Array Edge} {guard : Option (Nat × Bool)} {F : Act} {W : World} {cs : Array Value} (hx : F.eval x = .agg cs) (hy : F.eval y = .agg cs) (h : ∀ i, i < 8 → ∃ n, cs[i]? = some (.int .u32 n)) :
    comes Tryd.prog { dst := d, op := .binOp .eql 32 x y 32, type := 4, pos := pos, after := after, guard := guard } F W (fun v w' => Ext W w' ∧ v = .bool true) := by
  obtain ⟨i0, hi⟩ : ∃ i, Tryd.prog.info? 31 = some i := info_of_underlying Tryd.underlying31
  have hc : Tryd.prog.cellsOf 31 = 1 := by kernel_rfl
  have h1 : (Op.equalIn 10000 32 (.agg cs) (.agg cs)).run Tryd.prog W = .ok true W := by
    rw [run_equalIn_array W 9999 cs cs Tryd.underlying32 hi, hc]
    exact run_items_same W 9998 Tryd.underlying31 cs _ fun i hi => h i (List.mem_range.1 hi)
  have h2 : (binOp .eql 32 (.agg cs) (.agg cs)).run Tryd.prog W = .ok (.bool true) W := by
    rw [run_eql_struct, h1]
    rfl
  have h3 : (eqGuard .eql 32 x y (.agg cs) (.agg cs)).run Tryd.prog W = .ok () W := run_eqGuard_agg W .eql 32 x y cs cs (by kernel_rfl)
  simp only [comes, execOp, hx, hy, Sem.run_bind, h2, h3, Result.andThen_ok, Sem.run_pure]
  first | exact ⟨Ext.refl _, rfl⟩ | (go_simp; first | exact ⟨Ext.refl _, rfl⟩ | exact Ext.refl _)
set_option maxRecDepth 100000 in
set_option maxHeartbeats 4000000 in
theorem same_core (s : List W32) (hs : s.length = 8) (n : Nat) (A A' : Option Addr) (m c m' c' : Nat) (tl : List Int) (w : World) (h1 : BS w (.slice A m c) tl) (h2 : BS w (.slice A' m' c') tl) :
    Calls Tryd.prog 18 #[dgv s n A m c, dgv s n A' m' c'] w fun e w' => e = .returned (.bool true) ∧ Ext w w' := by
  obtain ⟨x0, x1, x2, x3, x4, x5, x6, x7, rfl⟩ := list8 hs
  have HT := Lib.hid (And.intro h1 h2)
  clear h1 h2 hs
  go_enter Tryd.func18, Tryd.ntmps18
  go_upto_region 1 with fail
  refine wp_at fun Y hY => ?_
  obtain ⟨B, hBe⟩ : ∃ B, B = w.heap.size := ⟨_, rfl⟩
  obtain ⟨V, hVe⟩ : ∃ V, V = B + 1 := ⟨_, rfl⟩
  have hB : Box 0 (dcs [x0, x1, x2, x3, x4, x5, x6, x7] n A m c) B Y := by
    have h0 : Box 0 [bw x0, bw x1, bw x2, bw x3, bw x4, bw x5, bw x6, bw x7, .int .i64 (n : Int), .slice A m c] B Y := by
      rw [hY, hBe]
      repeat' (first | with_reducible assumption | ((with_reducible refine Box.fresh ?fb ?fn ?fr); (case fb => first | omega | (simp <;> omega)); (case fn => first | omega | (simp <;> omega)); (case fr => rfl)) | with_reducible apply Box.up | with_reducible apply Box.drew_ | with_reducible apply Box.drewN_ | with_reducible apply Box.plus_ | with_reducible apply Box.put | with_reducible refine Box.off ?_ (by omega))
      all_goals first | rfl | (simp; done)
    exact h0
  have hV : Box 0 (dcs [x0, x1, x2, x3, x4, x5, x6, x7] n A' m' c') V Y := by
    have h0 : Box 0 [bw x0, bw x1, bw x2, bw x3, bw x4, bw x5, bw x6, bw x7, .int .i64 (n : Int), .slice A' m' c'] V Y := by
      rw [hY, hVe, hBe]
      repeat' (first | with_reducible assumption | ((with_reducible refine Box.fresh ?fb ?fn ?fr); (case fb => first | omega | (simp <;> omega)); (case fn => first | omega | (simp <;> omega)); (case fr => rfl)) | with_reducible apply Box.up | with_reducible apply Box.drew_ | with_reducible apply Box.drewN_ | with_reducible apply Box.plus_ | with_reducible apply Box.put | with_reducible refine Box.off ?_ (by omega))
      all_goals first | rfl | (simp; done)
    exact h0
  have hE : Ext w Y := by
    rw [hY]
    repeat' (first | with_reducible assumption | with_reducible exact Ext.refl _ | with_reducible apply Ext.alloc | with_reducible apply Ext.drew | with_reducible apply Ext.drewN | with_reducible apply Ext.plus_ | with_reducible refine Ext.put ?_ (by omega))
  rw [← hBe, ← hVe]
  have H2 := Lib.hid hB
  have H3 := Lib.hid hV
  have HE := Lib.hid hE
  have K1 := Lib.hid (HT.out.1.lift hE)
  have K2 := Lib.hid (HT.out.2.lift hE)
  clear hB hV hE hY hBe hVe HT
  refine act_at fun A0 hAq => ?_
  have hsz : A0.tmps.size = 26 := by
    rw [hAq]
    rfl
  have hA2 : A0.tmps.getD 2 undef = .pointer (some ⟨B, 0, none⟩) := by
    rw [hAq]
    first | rfl | kernel_rfl
  have hA3 : A0.tmps.getD 3 undef = .pointer (some ⟨V, 0, none⟩) := by
    rw [hAq]
    first | rfl | kernel_rfl
  have HAq := Lib.hid hAq
  clear hAq
  apply wp_region_seq 21 [is (.pointer (some ⟨B, 0, none⟩)), is (.agg #[bw x0, bw x1, bw x2, bw x3, bw x4, bw x5, bw x6, bw x7]), is (.pointer (some ⟨V, 0, none⟩)), is (.agg #[bw x0, bw x1, bw x2, bw x3, bw x4, bw x5, bw x6, bw x7]), is (.bool true), is (.bool true), is (.pointer (some ⟨B, 8, none⟩)), is (nw n), is (.pointer (some ⟨V, 8, none⟩)), is (nw n), is (.bool true), is (.bool true), is (.bool true), is (.pointer (some ⟨B, 9, none⟩)), is (.slice A m c), is (.string (strOfNums tl)), is (.pointer (some ⟨V, 9, none⟩)), is (.slice A' m' c'), is (.string (strOfNums tl)), is (.bool true), is (.bool true)] (by kernel_rfl) (by kernel_rfl) rfl
  case hops =>
    simp only [List.take_succ_cons, List.take_zero]
    with_reducible refine xOps_cons ?_ ?_
    · with_reducible refine xop_un ?_ ?_
      · rfl
      · intro vs x F hF hd
        have e1 : F.tmps.getD 2 undef = .pointer (some ⟨B, 0, none⟩) := (hF.a 2 (by kernel_rfl) (by rw [hsz]; rfl)).trans hA2
        clear hF hd
        simp only [comes]
        go_simp
        first | exact ⟨Ext.refl _, rfl⟩ | exact Ext.refl _
    with_reducible refine xOps_cons ?_ ?_
    · with_reducible refine xop_un ?_ ?_
      · rfl
      · intro vs x F hF hd
        have e1 : F.tmps.getD 5 undef = .pointer (some ⟨B, 0, none⟩) := (hF.v 5 0 (by kernel_rfl) (by rw [hsz]; rfl)).trans (dep_at hd 0 0 (is (.pointer (some ⟨B, 0, none⟩))) (by kernel_rfl) (by kernel_rfl))
        exact comes_load_at 32 (.tmp 5) rfl (Box.preRange (cs := [x0, x1, x2, x3, x4, x5, x6, x7].map bw) (H2.out.ext (by repeat (first | exact Ext.refl _ | assumption | apply Ext.plus_ | apply Ext.alloc | apply Ext.drew)))) e1 Tryd.underlying32 rfl (by kernel_rfl)
    with_reducible refine xOps_cons ?_ ?_
    · with_reducible refine xop_un ?_ ?_
      · rfl
      · intro vs x F hF hd
        have e1 : F.tmps.getD 3 undef = .pointer (some ⟨V, 0, none⟩) := (hF.a 3 (by kernel_rfl) (by rw [hsz]; rfl)).trans hA3
        clear hF hd
        simp only [comes]
        go_simp
        first | exact ⟨Ext.refl _, rfl⟩ | exact Ext.refl _
    with_reducible refine xOps_cons ?_ ?_
    · with_reducible refine xop_un ?_ ?_
      · rfl
      · intro vs x F hF hd
        have e1 : F.tmps.getD 7 undef = .pointer (some ⟨V, 0, none⟩) := (hF.v 7 2 (by kernel_rfl) (by rw [hsz]; rfl)).trans (dep_at hd 0 2 (is (.pointer (some ⟨V, 0, none⟩))) (by kernel_rfl) (by kernel_rfl))
        exact comes_load_at 32 (.tmp 7) rfl (Box.preRange (cs := [x0, x1, x2, x3, x4, x5, x6, x7].map bw) (H3.out.ext (by repeat (first | exact Ext.refl _ | assumption | apply Ext.plus_ | apply Ext.alloc | apply Ext.drew)))) e1 Tryd.underlying32 rfl (by kernel_rfl)
    with_reducible refine xOps_cons ?_ ?_
    · with_reducible refine xop_un ?_ ?_
      · rfl
      · intro vs x F hF hd
        have e1 : F.tmps.getD 6 undef = .agg #[bw x0, bw x1, bw x2, bw x3, bw x4, bw x5, bw x6, bw x7] := (hF.v 6 1 (by kernel_rfl) (by rw [hsz]; rfl)).trans (dep_at hd 0 1 (is (.agg #[bw x0, bw x1, bw x2, bw x3, bw x4, bw x5, bw x6, bw x7])) (by kernel_rfl) (by kernel_rfl))
        have e2 : F.tmps.getD 8 undef = .agg #[bw x0, bw x1, bw x2, bw x3, bw x4, bw x5, bw x6, bw x7] := (hF.v 8 3 (by kernel_rfl) (by rw [hsz]; rfl)).trans (dep_at hd 1 3 (is (.agg #[bw x0, bw x1, bw x2, bw x3, bw x4, bw x5, bw x6, bw x7])) (by kernel_rfl) (by kernel_rfl))
        exact eq8_at e1 e2 (arr8 x0 x1 x2 x3 x4 x5 x6 x7)
    with_reducible refine xOps_cons ?_ ?_
    · with_reducible refine xop_un ?_ ?_
      · rfl
      · intro vs x F hF hd
        have e1 : F.tmps.getD 9 undef = .bool true := (hF.v 9 4 (by kernel_rfl) (by rw [hsz]; rfl)).trans (dep_at hd 0 4 (is (.bool true)) (by kernel_rfl) (by kernel_rfl))
        exact m_v e1
    with_reducible refine xOps_cons ?_ ?_
    · with_reducible refine xop_on 5 10 5 0 ?_ ?_ ?_ ?_ ?_ ?_ ?_
      · rfl
      · kernel_rfl
      · kernel_rfl
      · rw [hsz]; rfl
      · kernel_rfl
      · kernel_rfl
      · intro vs x F hF hd
        have e1 : F.tmps.getD 2 undef = .pointer (some ⟨B, 0, none⟩) := (hF.a 2 (by kernel_rfl) (by rw [hsz]; rfl)).trans hA2
        clear hF hd
        simp only [comes]
        go_simp
        first | exact ⟨Ext.refl _, rfl⟩ | exact Ext.refl _
    with_reducible refine xOps_cons ?_ ?_
    · with_reducible refine xop_on 5 10 5 1 ?_ ?_ ?_ ?_ ?_ ?_ ?_
      · rfl
      · kernel_rfl
      · kernel_rfl
      · rw [hsz]; rfl
      · kernel_rfl
      · kernel_rfl
      · intro vs x F hF hd
        have e1 : F.tmps.getD 11 undef = .pointer (some ⟨B, 8, none⟩) := (hF.v 11 6 (by kernel_rfl) (by rw [hsz]; rfl)).trans (dep_at hd 0 6 (is (.pointer (some ⟨B, 8, none⟩))) (by kernel_rfl) (by kernel_rfl))
        have c : Y.cell? ⟨B, 8, none⟩ = some (nw n) := (H2.out.cell 8 (by simp)).trans rfl
        clear hF hd
        simp only [comes]
        go_simp
        first | exact ⟨Ext.refl _, rfl⟩ | exact Ext.refl _
    with_reducible refine xOps_cons ?_ ?_
    · with_reducible refine xop_on 5 10 5 0 ?_ ?_ ?_ ?_ ?_ ?_ ?_
      · rfl
      · kernel_rfl
      · kernel_rfl
      · rw [hsz]; rfl
      · kernel_rfl
      · kernel_rfl
      · intro vs x F hF hd
        have e1 : F.tmps.getD 3 undef = .pointer (some ⟨V, 0, none⟩) := (hF.a 3 (by kernel_rfl) (by rw [hsz]; rfl)).trans hA3
        clear hF hd
        simp only [comes]
        go_simp
        first | exact ⟨Ext.refl _, rfl⟩ | exact Ext.refl _
    with_reducible refine xOps_cons ?_ ?_
    · with_reducible refine xop_on 5 10 5 1 ?_ ?_ ?_ ?_ ?_ ?_ ?_
      · rfl
      · kernel_rfl
      · kernel_rfl
      · rw [hsz]; rfl
      · kernel_rfl
      · kernel_rfl
      · intro vs x F hF hd
        have e1 : F.tmps.getD 13 undef = .pointer (some ⟨V, 8, none⟩) := (hF.v 13 8 (by kernel_rfl) (by rw [hsz]; rfl)).trans (dep_at hd 0 8 (is (.pointer (some ⟨V, 8, none⟩))) (by kernel_rfl) (by kernel_rfl))
        have c : Y.cell? ⟨V, 8, none⟩ = some (nw n) := (H3.out.cell 8 (by simp)).trans rfl
        clear hF hd
        simp only [comes]
        go_simp
        first | exact ⟨Ext.refl _, rfl⟩ | exact Ext.refl _
    with_reducible refine xOps_cons ?_ ?_
    · with_reducible refine xop_on 5 10 5 2 ?_ ?_ ?_ ?_ ?_ ?_ ?_
      · rfl
      · kernel_rfl
      · kernel_rfl
      · rw [hsz]; rfl
      · kernel_rfl
      · kernel_rfl
      · intro vs x F hF hd
        have e12 : F.tmps.getD 12 undef = nw n := (hF.v 12 7 (by kernel_rfl) (by rw [hsz]; rfl)).trans (dep_at hd 0 7 (is (nw n)) (by kernel_rfl) (by kernel_rfl))
        have e14 : F.tmps.getD 14 undef = nw n := (hF.v 14 9 (by kernel_rfl) (by rw [hsz]; rfl)).trans (dep_at hd 1 9 (is (nw n)) (by kernel_rfl) (by kernel_rfl))
        clear hF hd
        simp only [comes]
        go_simp
        first | exact ⟨Ext.refl _, rfl⟩ | exact Ext.refl _
    with_reducible refine xOps_cons ?_ ?_
    · with_reducible refine xop_un ?_ ?_
      · rfl
      · intro vs x F hF hd
        have e10 : F.tmps.getD 10 undef = .bool true := (hF.v 10 5 (by kernel_rfl) (by rw [hsz]; rfl)).trans (dep_at hd 0 5 (is (.bool true)) (by kernel_rfl) (by kernel_rfl))
        have e15 : F.tmps.getD 15 undef = .bool true := (hF.v 15 10 (by kernel_rfl) (by rw [hsz]; rfl)).trans (dep_at hd 1 10 (is (.bool true)) (by kernel_rfl) (by kernel_rfl))
        clear hF hd
        simp only [comes]
        go_simp
        first | exact ⟨Ext.refl _, rfl⟩ | exact Ext.refl _
    with_reducible refine xOps_cons ?_ ?_
    · with_reducible refine xop_un ?_ ?_
      · rfl
      · intro vs x F hF hd
        have e1 : F.tmps.getD 16 undef = .bool true := (hF.v 16 11 (by kernel_rfl) (by rw [hsz]; rfl)).trans (dep_at hd 0 11 (is (.bool true)) (by kernel_rfl) (by kernel_rfl))
        exact m_v e1
    with_reducible refine xOps_cons ?_ ?_
    · with_reducible refine xop_on 12 17 12 0 ?_ ?_ ?_ ?_ ?_ ?_ ?_
      · rfl
      · kernel_rfl
      · kernel_rfl
      · rw [hsz]; rfl
      · kernel_rfl
      · kernel_rfl
      · intro vs x F hF hd
        have e1 : F.tmps.getD 2 undef = .pointer (some ⟨B, 0, none⟩) := (hF.a 2 (by kernel_rfl) (by rw [hsz]; rfl)).trans hA2
        clear hF hd
        simp only [comes]
        go_simp
        first | exact ⟨Ext.refl _, rfl⟩ | exact Ext.refl _
    with_reducible refine xOps_cons ?_ ?_
    · with_reducible refine xop_on 12 17 12 1 ?_ ?_ ?_ ?_ ?_ ?_ ?_
      · rfl
      · kernel_rfl
      · kernel_rfl
      · rw [hsz]; rfl
      · kernel_rfl
      · kernel_rfl
      · intro vs x F hF hd
        have e1 : F.tmps.getD 18 undef = .pointer (some ⟨B, 9, none⟩) := (hF.v 18 13 (by kernel_rfl) (by rw [hsz]; rfl)).trans (dep_at hd 0 13 (is (.pointer (some ⟨B, 9, none⟩))) (by kernel_rfl) (by kernel_rfl))
        have c : Y.cell? ⟨B, 9, none⟩ = some (.slice A m c) := (H2.out.cell 9 (by simp)).trans rfl
        clear hF hd
        simp only [comes]
        go_simp
        first | exact ⟨Ext.refl _, rfl⟩ | exact Ext.refl _
    with_reducible refine xOps_cons ?_ ?_
    · with_reducible refine xop_on 12 17 12 1 ?_ ?_ ?_ ?_ ?_ ?_ ?_
      · rfl
      · kernel_rfl
      · kernel_rfl
      · rw [hsz]; rfl
      · kernel_rfl
      · kernel_rfl
      · intro vs x F hF hd
        have e1 : F.tmps.getD 19 undef = .slice A m c := (hF.v 19 14 (by kernel_rfl) (by rw [hsz]; rfl)).trans (dep_at hd 0 14 (is (.slice A m c)) (by kernel_rfl) (by kernel_rfl))
        have he1 := BS.lift K1.out (show Ext Y (Y.plus x) from (by repeat (first | exact Ext.refl _ | assumption | apply Ext.plus_ | apply Ext.alloc | apply Ext.drew)))
        exact comes_str (.tmp 19) rfl _ e1 tl he1 ⟨Ext.refl _, rfl⟩
    with_reducible refine xOps_cons ?_ ?_
    · with_reducible refine xop_on 12 17 12 0 ?_ ?_ ?_ ?_ ?_ ?_ ?_
      · rfl
      · kernel_rfl
      · kernel_rfl
      · rw [hsz]; rfl
      · kernel_rfl
      · kernel_rfl
      · intro vs x F hF hd
        have e1 : F.tmps.getD 3 undef = .pointer (some ⟨V, 0, none⟩) := (hF.a 3 (by kernel_rfl) (by rw [hsz]; rfl)).trans hA3
        clear hF hd
        simp only [comes]
        go_simp
        first | exact ⟨Ext.refl _, rfl⟩ | exact Ext.refl _
    with_reducible refine xOps_cons ?_ ?_
    · with_reducible refine xop_on 12 17 12 1 ?_ ?_ ?_ ?_ ?_ ?_ ?_
      · rfl
      · kernel_rfl
      · kernel_rfl
      · rw [hsz]; rfl
      · kernel_rfl
      · kernel_rfl
      · intro vs x F hF hd
        have e1 : F.tmps.getD 21 undef = .pointer (some ⟨V, 9, none⟩) := (hF.v 21 16 (by kernel_rfl) (by rw [hsz]; rfl)).trans (dep_at hd 0 16 (is (.pointer (some ⟨V, 9, none⟩))) (by kernel_rfl) (by kernel_rfl))
        have c : Y.cell? ⟨V, 9, none⟩ = some (.slice A' m' c') := (H3.out.cell 9 (by simp)).trans rfl
        clear hF hd
        simp only [comes]
        go_simp
        first | exact ⟨Ext.refl _, rfl⟩ | exact Ext.refl _
    with_reducible refine xOps_cons ?_ ?_
    · with_reducible refine xop_on 12 17 12 1 ?_ ?_ ?_ ?_ ?_ ?_ ?_
      · rfl
      · kernel_rfl
      · kernel_rfl
      · rw [hsz]; rfl
      · kernel_rfl
      · kernel_rfl
      · intro vs x F hF hd
        have e1 : F.tmps.getD 22 undef = .slice A' m' c' := (hF.v 22 17 (by kernel_rfl) (by rw [hsz]; rfl)).trans (dep_at hd 0 17 (is (.slice A' m' c')) (by kernel_rfl) (by kernel_rfl))
        have he1 := BS.lift K2.out (show Ext Y (Y.plus x) from (by repeat (first | exact Ext.refl _ | assumption | apply Ext.plus_ | apply Ext.alloc | apply Ext.drew)))
        exact comes_str (.tmp 22) rfl _ e1 tl he1 ⟨Ext.refl _, rfl⟩
    with_reducible refine xOps_cons ?_ ?_
    · with_reducible refine xop_on 12 17 12 2 ?_ ?_ ?_ ?_ ?_ ?_ ?_
      · rfl
      · kernel_rfl
      · kernel_rfl
      · rw [hsz]; rfl
      · kernel_rfl
      · kernel_rfl
      · intro vs x F hF hd
        have e0 : F.tmps.getD 20 undef = .string (strOfNums tl) := (hF.v 20 15 (by kernel_rfl) (by rw [hsz]; rfl)).trans (dep_at hd 0 15 (is (.string (strOfNums tl))) (by kernel_rfl) (by kernel_rfl))
        have e1 : F.tmps.getD 23 undef = .string (strOfNums tl) := (hF.v 23 18 (by kernel_rfl) (by rw [hsz]; rfl)).trans (dep_at hd 1 18 (is (.string (strOfNums tl))) (by kernel_rfl) (by kernel_rfl))
        exact s_eqs e0 e1
    with_reducible refine xOps_cons ?_ ?_
    · with_reducible refine xop_un ?_ ?_
      · rfl
      · intro vs x F hF hd
        have e17 : F.tmps.getD 17 undef = .bool true := (hF.v 17 12 (by kernel_rfl) (by rw [hsz]; rfl)).trans (dep_at hd 0 12 (is (.bool true)) (by kernel_rfl) (by kernel_rfl))
        have e24 : F.tmps.getD 24 undef = .bool true := (hF.v 24 19 (by kernel_rfl) (by rw [hsz]; rfl)).trans (dep_at hd 1 19 (is (.bool true)) (by kernel_rfl) (by kernel_rfl))
        clear hF hd
        simp only [comes]
        go_simp
        first | exact ⟨Ext.refl _, rfl⟩ | exact Ext.refl _
    exact xOps_nil
  case hst => exact ⟨is.st _, is.st _, is.st _, is.st _, is.st _, is.st _, is.st _, is.st _, is.st _, is.st _, is.st _, is.st _, is.st _, is.st _, is.st _, is.st _, is.st _, is.st _, is.st _, is.st _, is.st _, trivial⟩
  case hfin =>
    intro vs x hf
    have f20 : vs 20 = .bool true := hf.2.2.2.2.2.2.2.2.2.2.2.2.2.2.2.2.2.2.2.2.1
    clear hf
    have hAq := HAq.out
    subst hAq
    clear hsz hA2 hA3
    simp only [List.take_succ_cons, List.take_zero, List.drop_succ_cons, List.drop_zero, putAll, Act.put, List.setIfInBounds_toArray, List.set_cons_succ, List.set_cons_zero, Nat.zero_add, Nat.reduceAdd]
    clear HAq
    rw [f20]
    clear f20
    go_wp2
    go_ret
    exact ⟨rfl, HE.out.trans (by repeat (first | exact Ext.refl _ | assumption | apply Ext.plus_ | apply Ext.alloc | apply Ext.drew))⟩
theorem same_dg (b1 b2 : Nat) (v1 v2 : Value) (a : List Int) (w : World) (h1 : IsDg b1 w v1 a) (h2 : IsDg b2 w v2 a) :
    Calls Tryd.prog 18 #[v1, v2] w fun e w' => e = .returned (.bool true) ∧ Ext w w' := by
  obtain ⟨A, c, rfl, ho⟩ := h1
  obtain ⟨A', c', rfl, ho'⟩ := h2
  exact same_core (stOf a) (stOf_len a) a.length A A' _ c _ c' (tlOf a) w (BS.of_own ho) (BS.of_own ho')
end Go.Proofs.YtbdahlfakinagaaDoor
