/- Copies: slices.Clone. -/
import Derived.Test.YtbdahlfakinagaaDoorByt
import Derived.Test.YtbdahlfakinagaaDoorOwn
import Derived.Lib.SliceRun
set_option linter.unusedVariables false
namespace Go.Proofs.YtbdahlfakinagaaDoor
open Go.RowKit Go.Rg

theorem Tryd.infoByte : (Tryd.prog.info? 5).map (fun i => (i.zero, i.size, i.bytes)) = some (some (.int .u8 0), 1, 1) := by kernel_rfl

/-- What a copy is: n bytes in memory of the call's own. -/
def Copied (w : World) (l : List Int) (n : Nat) (e : Ending) (w' : World) : Prop :=
  ∃ v, e = .returned v ∧ w'.ownsRow w.heap.size 5 1 v n (bytes l) ∧ Ext w w'

set_option maxHeartbeats 1000000 in
theorem clone_any (A : Option Addr) (n c : Nat) (l : List Int) (w : World) (hr : Row w w.heap.size 1 A n (bytes l)) (hA : A = none → n = 0 ∧ c = 0) (hn : n ≤ 140737488355328) :
    Calls Tryd.prog 24 #[.slice A n c] w (Copied w l n) := by
  have q22 : ∀ (w : World) (a : Option Addr) (n c n' c' : Nat), (binOp .eql 22 (.slice a n c) (.slice none n' c')).run Tryd.prog w = .ok (.bool a.isNone) w := fun w a n c n' c' => Lib.run_eql_slice_nil w _ _ a n c n' c' Tryd.underlying22
  cases A with
  | none =>
    obtain ⟨rfl, rfl⟩ := hA rfl
    have hl := hr.len
    go_enter Tryd.func24, Tryd.ntmps24
    go_wp2
    go_ret
    exact ⟨_, rfl, ⟨by simpa using hl, .inl ⟨rfl, rfl⟩⟩, (by repeat (first | exact Ext.refl _ | assumption | apply Ext.plus_ | apply Ext.alloc | apply Ext.drew))⟩
  | some ad =>
    obtain ⟨i0, hi, hz0, hz1, hz2⟩ := info_parts Tryd.infoByte
    have hown0 := own_empty w w.heap.size 5 (Nat.le_refl _)
    have HR := Lib.hid hr
    have hl := hr.len
    clear hr hA
    go_enter Tryd.func24, Tryd.ntmps24
    go_wp2_with (at_builtin; refine wpList_append_own _ rfl (.tmp 5) (.tmp 6) 22 rfl w.heap.size 5 i0 (.int .u8 0) 1 1 Tryd.underlying22 hi hz0 hz1 hz2 rfl (by decide) _ _ _ rfl hown0 ad n c (bytes l) rfl (by simpa using hl) ?c1 ?c2 ?c3 ?c4 ?c5 ?_)
    case c1 =>
      intro j u hj
      have hlt : j < n := by rw [← hl]; exact (List.getElem?_eq_some_iff.1 hj).1
      obtain ⟨b, o, e, hb, hc⟩ := HR.out.2 (by omega)
      injection e with e
      subst e
      have eA : Addr.add ⟨b, o, none⟩ j = ⟨b, o + j, none⟩ := by
        unfold Addr.add
        by_cases h0 : j = 0
        · subst h0; simp
        · simp [h0]
      rw [eA, World.cell?_alloc_lt w _ _ hb]
      exact hc j u hj
    case c2 => intro u hu; simp at hu; obtain ⟨z, _, rfl⟩ := hu; rfl
    case c3 => unfold maxLen; omega
    case c4 => omega
    case c5 => simp
    intro v2 w2 hown2 hg2 _
    have hE2 := Ext.grown ((Ext.refl w).alloc (.cells #[] 5)) hown0 (Nat.le_refl _) hg2
    have H2 := Lib.hid (And.intro hown2 hE2)
    clear hown2 hE2 hg2 hown0
    go_wp2
    go_ret
    exact ⟨_, rfl, by simpa using H2.out.1, H2.out.2⟩
end Go.Proofs.YtbdahlfakinagaaDoor
