/- The card DigestPiecesCardSaid: for every input the law returns true, and each argument reads as it did. -/
import Derived.Test.YtbdahlfakinagaaDoorLawDgPieces
import Derived.Test.YtbdahlfakinagaaDoorOpenD
namespace Go.Proofs.YtbdahlfakinagaaDoor
open Go.ChangeShapes Go.WideShapes Go.ChangeAt Go.RowKit Go.Deep Go.Rg
set_option linter.unusedVariables false

theorem digestPieces_laid (os : Os) : laidMet Tryd.prog Rows.digestPiecesRow.laid ((laidWorld os).forCall (fun _ _ => 0) ⟨#[], #[Value.slice .none 0 0], []⟩).memory :=
  laidMet_of_run' 8 (by kernel_rfl) (by kernel_rfl)
theorem digestPieces_reads (os : Os) {H : Type} (enc : TypeId × Value → H) : ∃ places, DataW.whole enc Tryd.prog ((laidWorld os).forCall (fun _ _ => 0) ⟨#[], #[Value.slice .none 0 0], []⟩).memory Tryd.f4.params.toList Rows.digestPiecesSpec.vars false (#[Value.slice .none 0 0]).toList 8 = some ([.nil], [], places) :=
  ⟨[], by kernel_rfl⟩
set_option maxRecDepth 100000 in
theorem digestPieces_lifted (os : Os) (started : os.Started) (H : Type) (enc : TypeId × Value → H) (F : Stop.Interp) :
    ReturnsInHanded {} Tryd.checked os 4 .any ((OpenSpec.ofChange Rows.digestPiecesSpec).preRow enc Tryd.prog Tryd.f4 Rows.digestPiecesRow.domain false Rows.digestPiecesRow.laid) (((OpenSpec.ofChange Rows.digestPiecesSpec).at F).post enc Tryd.prog Tryd.f4 false true false false) := by
  obtain ⟨places, hx⟩ := digestPieces_reads os enc
  refine returnsInHanded_of_row (C := Tryd.checked) (s := OpenSpec.ofChange Rows.digestPiecesSpec) own started (by kernel_rfl) Tryd.func4
    (witness_row_at (enc := enc) (C := Tryd.checked) false (laidWorld os) #[Value.slice .none 0 0] rfl (by kernel_rfl) (by kernel_rfl) (by kernel_rfl)
      (OpenSpec.preRow_of_cond 8 hx (by kernel_rfl) (fun k hk => by cases hk) (by kernel_rfl) (digestPieces_laid os))) ?_
  intro W base args ds gs before hval0 hW _ _ _ hL _ _
  have hval : ∀ (j : Nat) t v, Tryd.f4.params[j]? = some t → args[j]? = some v → Value.okWide Tryd.prog W .any base t v := hval0
  have hW' := hW
  obtain ⟨p, q, hA0, hV, rfl, hfz, hnd⟩ := hW
  have hA : DataW.TrodAll enc Tryd.prog W 0 (fun _ => true) true Tryd.f4.params.toList args.toList ds p := hA0
  rw [Tryd.params4] at hA hval
  obtain ⟨v0, vs0, d0, ds0, p0, q0, hargs, rfl, rfl, h0, r0⟩ := trodAll_cons hA
  obtain ⟨rfl, rfl, rfl⟩ := trodAll_nil r0
  obtain rfl : args = #[v0] := by cases args; simp_all
  obtain ⟨rfl, rfl⟩ := trodVars_none hV
  have lt0 : ∀ x ∈ p0, x.block < W.heap.size := by obtain ⟨m, hm⟩ := h0; exact DataW.trod_lt m _ _ _ hm
  obtain ⟨A0, n0, c0, V, rfl, g0, gn, gc, gv⟩ := open_bss (hval 0 30 v0 rfl rfl) h0
  clear hA0 hval0
  obtain ⟨hg, hg2⟩ := glob hL
  refine (digestPieces_any A0 n0 c0 V W hg hg2 g0 gn gc gv).mono fun e W' ⟨he, bel⟩ => ?_
  subst he
  exact ⟨_, rfl, _, _, _, [], _, [], hW', trodAll_mk1 (shut_bool Tryd.underlying4 _), (trodAll_cons_mk (Below.trod laidOut (by kernel_rfl) (of_decide_eq_true (by kernel_rfl)) h0 bel lt0) trodAll_mk0), rfl, bel.frame _, fun h => by cases h⟩

theorem digestPieces_said : Rows.DigestPiecesSaid :=
  OpenClaim.holds_of_cond 4 Tryd.f4 rfl rfl rfl rfl rfl rfl rfl ⟨rfl, rfl, rfl, rfl, rfl⟩ rfl rfl rfl rfl rfl (by kernel_rfl) Tryd.func4 (by kernel_rfl)
    (of_decide_eq_true (by kernel_rfl)) (by unfold Func.isWrapper; rw [if_neg (of_decide_eq_false (by kernel_rfl))]; exact ⟨rfl, rfl⟩)
    (fun os started H enc _ F => by rw [OpenClaim.pre_eq_preRow]; exact digestPieces_lifted os started H enc F)
/-- No parameter wants a stand-in; the program's own looks are off. -/
theorem digestPieces_plain (f : FuncId) (fn : Func) (hf : Tryd.pinned.checked.prog.funcNamed "canary/canarylaw04.DigestPieces" = some f) (hfn : Tryd.pinned.checked.prog.funcs[f]? = some fn) :
    false = Tryd.pinned.checked.prog.looks [] ∧ ∀ (j : Nat) t, fn.params[j]? = some t → Tryd.pinned.checked.prog.wantsStandIn t = false := by
  obtain rfl : f = 4 := Option.some.inj ((show Tryd.prog.funcNamed "canary/canarylaw04.DigestPieces" = some 4 by kernel_rfl).symm.trans hf) |>.symm
  obtain rfl : fn = Tryd.f4 := (Option.some.inj (Tryd.func4.symm.trans hfn)).symm
  refine ⟨by kernel_rfl, fun j t ht => ?_⟩
  rw [Tryd.params4] at ht
  have hm := Array.mem_of_getElem? ht
  have hc : t = 30 := by simpa using hm
  rcases hc with rfl
  · exact (show Tryd.prog.wantsStandIn 30 = false by kernel_rfl)
/-- ████ THE CARD ████ -/
theorem digestPieces_card : Rows.DigestPiecesCardSaid :=
  Claim7.holds_tied_plain_at .later [] _ _ _ _ digestPieces_said (fun _ h => by cases h) (by kernel_rfl) (fun _ h => by cases h) digestPieces_row_tie rfl ⟨rfl, rfl⟩ (by kernel_rfl) rfl digestPieces_plain (by kernel_rfl)
end Go.Proofs.YtbdahlfakinagaaDoor
