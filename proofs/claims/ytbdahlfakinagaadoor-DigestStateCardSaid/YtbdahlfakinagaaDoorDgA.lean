/- awake. -/
import Derived.Test.YtbdahlfakinagaaDoorDgA0
import Derived.Lib.SlBytesConst
set_option linter.unusedVariables false
namespace Go.Proofs.YtbdahlfakinagaaDoor
open Go.RowKit Go.Rg

theorem sha_abc2 : strOfNums (hexI (shaOf [97, 98, 99])) = ⟨#[98, 97, 55, 56, 49, 54, 98, 102, 56, 102, 48, 49, 99, 102, 101, 97, 52, 49, 52, 49, 52, 48, 100, 101, 53, 100, 97, 101, 50, 50, 50, 51, 98, 48, 48, 51, 54, 49, 97, 51, 57, 54, 49, 55, 55, 97, 57, 99, 98, 52, 49, 48, 102, 102, 54, 49, 102, 50, 48, 48, 49, 53, 97, 100]⟩ := by decide +kernel
theorem by_abc : By [97, 98, 99] := fun x hx => by
  simp at hx
  rcases hx with rfl | rfl | rfl <;> decide
/-- A slice of one slice of the bytes l. -/
def isOne (l : List Int) : Value → World → Prop := fun v w => ∃ b u, v = .slice (some ⟨b, 0, none⟩) 1 1 ∧ Cells w b [u] ∧ BS w u l
theorem isOne.st (l : List Int) : Stable (isOne l) := fun _ _ _ e ⟨b, u, h1, h2, h3⟩ => ⟨b, u, h1, h2.ext e, h3.lift e⟩
theorem BS.lit (w : World) (C : Array Value) (l : List Int) (t : TypeId) (fr : Nat × Nat) (n : Nat) (h : C.toList = bytes l) (hn : l.length = n) (h63 : n ≤ 9223372036854775807) : BS (w.alloc (.cells C t fr)) (.slice (some ⟨w.heap.size, 0, none⟩) n n) l := by
  refine ⟨_, n, n, rfl, ⟨by simpa using hn, fun _ => ⟨w.heap.size, 0, rfl, by simp, fun j u hu => ?_⟩⟩, Nat.le_refl _, h63, fun h => by cases h⟩
  rw [Nat.zero_add, World.cell?_alloc_mark, ← hu, ← h]
  simp
theorem s_eqs {d : Option Tmp} {x y : Operand} {pos : String} {after : Array Edge} {guard : Option (Nat × Bool)} {F : Act} {W : World} {a : ByteArray} (hx : F.eval x = .string a) (hy : F.eval y = .string a) :
    comes Tryd.prog { dst := d, op := .binOp .eql 9 x y 9, type := 4, pos := pos, after := after, guard := guard } F W (fun v w' => Ext W w' ∧ v = .bool true) := by
  simp only [comes, execOp, hx, hy]
  go_simp
  first | exact ⟨Ext.refl _, rfl⟩ | exact Ext.refl _
set_option maxRecDepth 100000 in
set_option maxHeartbeats 4000000 in
theorem awake_any (w : World) (hg : Glob w) (hg2 : 2 ≤ w.heap.size) : Calls Tryd.prog 14 #[] w fun e w' => e = .returned (.bool true) ∧ Ext w w' := by
  go_enter Tryd.func14, Tryd.ntmps14
  go_wp2_with fail
  refine (of_none _ hg hg2).mono ?_
  rintro e w1 ⟨u, rfl, hb, hE⟩
  have H1 := Lib.hid (And.intro hb hE)
  clear hb hE
  go_wp2_with fail
  refine (text_bs u (shaOf []) w1 H1.out.1 (by_sha _) (by rw [sha_len]; decide)).mono ?_
  rw [sha_empty2]
  rintro e w2 ⟨rfl, hE2⟩
  have H2 := Lib.hid (H1.out.2.trans hE2)
  clear hE2 H1
  have kc := Lib.run_convert_bytes_const (P := Tryd.prog) w2 22 5 #[.int .u8 97, .int .u8 98, .int .u8 99] 3 3 Tryd.underlying22 Tryd.underlying5
  go_wp2_with fail
  refine calls_at fun W hW => ?_
  obtain ⟨E, hEe⟩ : ∃ E, E = w2.heap.size := ⟨_, rfl⟩
  obtain ⟨V, hVe⟩ : ∃ V, V = E + 1 := ⟨_, rfl⟩
  have hbs : BS W (.slice (some ⟨E, 0, none⟩) 3 3) [97, 98, 99] := by
    rw [hW, hEe]
    exact BS.lift (BS.lit w2 #[.int .u8 97, .int .u8 98, .int .u8 99] [97, 98, 99] 5 _ 3 rfl rfl (by decide)) (by repeat (first | exact Ext.refl _ | assumption | apply Ext.plus_ | apply Ext.alloc | apply Ext.drew))
  have hcl : Box 0 [.slice (some ⟨E, 0, none⟩) 3 3] V W := by
    rw [hW, hVe, hEe]
    repeat' (first | with_reducible assumption | ((with_reducible refine Box.fresh ?fb ?fn ?fr); (case fb => first | omega | (simp <;> omega)); (case fn => first | omega | (simp <;> omega)); (case fr => rfl)) | with_reducible apply Box.up | with_reducible apply Box.drew_ | with_reducible apply Box.drewN_ | with_reducible apply Box.plus_ | with_reducible apply Box.put | with_reducible refine Box.off ?_ (by omega))
    all_goals first | rfl | (simp; done)
  have hE3 : Ext w2 W := by
    rw [hW]
    repeat' (first | with_reducible assumption | with_reducible exact Ext.refl _ | with_reducible apply Ext.alloc | with_reducible apply Ext.drew | with_reducible apply Ext.drewN | with_reducible apply Ext.plus_ | with_reducible refine Ext.put ?_ (by omega))
  rw [← hEe, ← hVe]
  have hEw := H2.out.trans hE3
  have hgW := hg.ext hEw
  have h2W : 2 ≤ W.heap.size := Nat.le_trans hg2 hEw.size
  clear hW hEe hVe kc hE3 H2
  have HE := Lib.hid hEw
  refine (of_one W hgW h2W V (.slice (some ⟨E, 0, none⟩) 3 3) [97, 98, 99] ⟨hcl.lt, fun j u hu => by
    have hj : j < [Value.slice (some ⟨E, 0, none⟩) 3 3].length := (List.getElem?_eq_some_iff.1 hu).1
    rw [hcl.cell j hj]
    exact hu⟩ hbs by_abc (by decide)).mono ?_
  rintro e w4 ⟨u, rfl, hb, hE⟩
  have H4 := Lib.hid (And.intro hb (HE.out.trans hE))
  clear hb hE hcl hbs hgW h2W hEw HE
  go_wp2_with fail
  refine (text_bs u (shaOf [97, 98, 99]) w4 H4.out.1 (by_sha _) (by rw [sha_len]; decide)).mono ?_
  rw [sha_abc2]
  rintro e w5 ⟨rfl, hE5⟩
  have H5 := Lib.hid (H4.out.2.trans hE5)
  clear hE5 H4
  go_wp2
  go_ret
  exact ⟨rfl, H5.out.trans (by repeat (first | exact Ext.refl _ | assumption | apply Ext.plus_ | apply Ext.alloc | apply Ext.drew))⟩
end Go.Proofs.YtbdahlfakinagaaDoor
