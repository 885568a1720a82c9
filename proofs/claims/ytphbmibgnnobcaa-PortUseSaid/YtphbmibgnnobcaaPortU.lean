/- PortUse: what each of its calls gives, with the numbers named. -/
import Derived.Test.YtphbmibgnnobcaaPortM0
set_option linter.unusedVariables false
namespace Go.Proofs.Ytphbmibgnnobcaa
open Go.RowKit Go.Rg

def OffsP (W : World) (id cl ic : Int) (l : List Int) (oc : Int) (k : List Int) (bu : Int) (en cg : Bool) (q : Int) (e : Ending) (w' : World) : Prop :=
  ∃ A n c B m d, e = .returned (.tuple #[pv id cl ic A n c oc B m d bu en cg, .int .i64 q]) ∧ RB w' A n c l ∧ RB w' B m d k ∧ Ext W w'
def EatsP (W : World) (id cl ic : Int) (l : List Int) (oc : Int) (k : List Int) (bu : Int) (en cg : Bool) (e : Ending) (w' : World) : Prop :=
  ∃ A n c B m d, e = .returned (pv id cl ic A n c oc B m d bu en cg) ∧ RB w' A n c l ∧ RB w' B m d k ∧ Ext W w'
def PutsP (W : World) (id cl ic : Int) (l : List Int) (oc : Int) (k : List Int) (bu : Int) (en cg : Bool) (x : List Int) (er : Int) (e : Ending) (w' : World) : Prop :=
  ∃ A n c B m d A2 n2 c2, e = .returned (.tuple #[pv id cl ic A n c oc B m d bu en cg, .slice A2 n2 c2, .int .i64 er]) ∧ RB w' A n c l ∧ RB w' B m d k ∧ RB w' A2 n2 c2 x ∧ Ext W w'
def GrtsP (W : World) (id cl ic : Int) (l : List Int) (oc : Int) (k : List Int) (bu : Int) (en cg : Bool) (x : List Int) (e : Ending) (w' : World) : Prop :=
  ∃ A n c B m d A2 n2 c2, e = .returned (.tuple #[pv id cl ic A n c oc B m d bu en cg, .slice A2 n2 c2]) ∧ RB w' A n c l ∧ RB w' B m d k ∧ RB w' A2 n2 c2 x ∧ Ext W w'
section
variable {Y : World} {id cl ic : Int} {A : Option Addr} {n c : Nat} {l : List Int} {oc : Int} {B : Option Addr} {m d : Nat} {k : List Int} {bu : Int} {en cg : Bool} {V : Option Addr} {vn vc : Nat} {b : List Int}
theorem offs_both (hA : RB Y A n c l) (hn : n ≤ 1000) (hB : RB Y B m d k) (hm : m ≤ 1000) (hV : RB Y V vn vc b) (hv : vn ≤ 140737488355328) :
    ∃ L q, (∀ W, Ext Y W → Calls Try.prog 23 #[pv id cl ic A n c oc B m d bu en cg, .slice V vn vc] W (OffsP W id cl ic L oc k bu en cg q)) ∧
      (∀ W, Ext Y W → Calls Try.prog 24 #[pv id cl ic A n c oc B m d bu en cg, .slice V vn vc] W (OffsP W id cl ic L oc k bu en cg q)) := by
  refine ⟨(if en || cg then l else l ++ b.take (qput ic l.length b.length)), ((if en || cg then 0 else qput ic l.length b.length : Nat) : Int), fun W hE => (poffer_any id cl ic A n c l oc B m d k bu en cg V vn vc b W (hA.lift hE) (by omega) (hB.lift hE) (by omega) (hV.lift hE) hv).mono ?_, fun W hE => (refOffer_any id cl ic A n c l oc B m d k bu en cg V vn vc b W (hA.lift hE) (by omega) (hB.lift hE) (by omega) (hV.lift hE) hv).mono ?_⟩
  · rintro e w' ⟨v, rfl, ⟨A1, n1, c1, B1, m1, d1, rfl, h1, h2⟩, hX⟩
    exact ⟨A1, n1, c1, B1, m1, d1, rfl, h1, h2, hX⟩
  · rintro e w' ⟨v, rfl, ⟨A1, n1, c1, B1, m1, d1, rfl, h1, h2⟩, hX⟩
    exact ⟨A1, n1, c1, B1, m1, d1, rfl, h1, h2, hX⟩
theorem eats_both (g : Int) (hA : RB Y A n c l) (hn : n ≤ 1000) (hB : RB Y B m d k) (hm : m ≤ 1000) :
    ∃ L, (∀ W, Ext Y W → Calls Try.prog 27 #[pv id cl ic A n c oc B m d bu en cg, .int .i64 g] W (EatsP W id cl ic L oc k bu en cg)) ∧
      (∀ W, Ext Y W → Calls Try.prog 28 #[pv id cl ic A n c oc B m d bu en cg, .int .i64 g] W (EatsP W id cl ic L oc k bu en cg)) := by
  refine ⟨l.drop (qfirst ic n g).toNat, fun W hE => (peat_any id cl ic A n c l oc B m d k bu en cg g W (hA.lift hE) (by omega) (hB.lift hE) (by omega)).mono ?_, fun W hE => (refEat_any id cl ic A n c l oc B m d k bu en cg g W (hA.lift hE) (by omega) (hB.lift hE) (by omega)).mono ?_⟩
  · rintro e w' ⟨v, rfl, ⟨A1, n1, c1, B1, m1, d1, rfl, h1, h2⟩, hX⟩
    exact ⟨A1, n1, c1, B1, m1, d1, rfl, h1, h2, hX⟩
  · rintro e w' ⟨v, rfl, ⟨A1, n1, c1, B1, m1, d1, rfl, h1, h2⟩, hX⟩
    exact ⟨A1, n1, c1, B1, m1, d1, rfl, h1, h2, hX⟩
theorem grts_both (g : Int) (hA : RB Y A n c l) (hn : n ≤ 1000) (hB : RB Y B m d k) (hm : m ≤ 1000) :
    ∃ K b2 x, (∀ W, Ext Y W → Calls Try.prog 16 #[pv id cl ic A n c oc B m d bu en cg, .int .i64 g] W (GrtsP W id cl ic l oc K b2 en cg x)) ∧
      (∀ W, Ext Y W → Calls Try.prog 26 #[pv id cl ic A n c oc B m d bu en cg, .int .i64 g] W (GrtsP W id cl ic l oc K b2 en cg x)) := by
  refine ⟨k.drop (min (addTo 1000000 [bu, g] 2) k.length).toNat, addTo 1000000 [bu, g] 2 - min (addTo 1000000 [bu, g] 2) k.length, k.take (min (addTo 1000000 [bu, g] 2) k.length).toNat, fun W hE => (grant_any id cl ic A n c l oc B m d k bu en cg g W (hA.lift hE) (by omega) (hB.lift hE) (by omega)).mono ?_, fun W hE => (refGrant_any id cl ic A n c l oc B m d k bu en cg g W (hA.lift hE) (hB.lift hE) (by omega)).mono ?_⟩
  · rintro e w' ⟨v, v2, rfl, ⟨A1, n1, c1, B1, m1, d1, rfl, h1, h2, _, _⟩, ⟨A2, n2, c2, rfl, h3, _⟩, hX⟩
    exact ⟨A1, n1, c1, B1, m1, d1, A2, n2, c2, rfl, h1, h2, h3, hX⟩
  · rintro e w' ⟨v, v2, rfl, ⟨A1, n1, c1, B1, m1, d1, rfl, h1, h2⟩, ⟨A2, n2, c2, rfl, h3⟩, hX⟩
    exact ⟨A1, n1, c1, B1, m1, d1, A2, n2, c2, rfl, h1, h2, h3, hX⟩
theorem puts_both (hA : RB Y A n c l) (hn : n ≤ 1000) (hB : RB Y B m d k) (hm : m ≤ 1000) (hV : RB Y V vn vc b) (hv : vn ≤ 140737488355328) (hb2 : 0 ≤ bu) (hb3 : bu ≤ 1000000) :
    ∃ id1 cl1 ic1 L oc1 K bu1 en1 cg1 x er, (∀ W, Ext Y W → Calls Try.prog 18 #[pv id cl ic A n c oc B m d bu en cg, .slice V vn vc] W (PutsP W id1 cl1 ic1 L oc1 K bu1 en1 cg1 x er)) ∧
      (∀ W, Ext Y W → Calls Try.prog 25 #[pv id cl ic A n c oc B m d bu en cg, .slice V vn vc] W (PutsP W id1 cl1 ic1 L oc1 K bu1 en1 cg1 x er)) := by
  by_cases hr : (vn : Int) ≤ prm oc m bu
  · have hvn : m + vn ≤ 140737488355328 := by
      unfold prm at hr
      omega
    refine ⟨id, cl, ic, l, oc, (k ++ b).drop (min bu (k ++ b).length).toNat, bu - min bu (k ++ b).length, en, cg, (k ++ b).take (min bu (k ++ b).length).toNat, 0, fun W hE => (pput_yes id cl ic A n c l oc B m d k bu en cg V vn vc b W (hA.lift hE) (by omega) (hB.lift hE) hvn (hV.lift hE) hb2 hb3 hr).mono ?_, fun W hE => (refPput_yes id cl ic A n c l oc B m d k bu en cg V vn vc b W (hA.lift hE) (hB.lift hE) hvn (hV.lift hE) hb2 hb3 hr).mono ?_⟩
    · rintro e w' ⟨v, v2, rfl, ⟨A1, n1, c1, B1, m1, d1, rfl, h1, h2, _, _⟩, ⟨A2, n2, c2, rfl, h3, _⟩, hX⟩
      exact ⟨A1, n1, c1, B1, m1, d1, A2, n2, c2, rfl, h1, h2, h3, hX⟩
    · rintro e w' ⟨v, v2, rfl, ⟨A1, n1, c1, B1, m1, d1, rfl, h1, h2⟩, ⟨A2, n2, c2, rfl, h3⟩, hX⟩
      exact ⟨A1, n1, c1, B1, m1, d1, A2, n2, c2, rfl, h1, h2, h3, hX⟩
  · refine ⟨0, 0, 0, [], 0, [], 0, false, false, [], 9, fun W hE => (pput_no id cl ic A n c oc B m d bu en cg V vn vc W (by omega) hb2 hb3 (by omega) hv).mono ?_, fun W hE => (refPput_no id cl ic A n c oc B m d bu en cg V vn vc W (by omega) hb2 hb3 (by omega) hv).mono ?_⟩
    · rintro e w' ⟨rfl, hX⟩
      exact ⟨none, 0, 0, none, 0, 0, none, 0, 0, rfl, RB.zero _, RB.zero _, RB.zero _, hX⟩
    · rintro e w' ⟨rfl, hX⟩
      exact ⟨none, 0, 0, none, 0, 0, none, 0, 0, rfl, RB.zero _, RB.zero _, RB.zero _, hX⟩
end
end Go.Proofs.Ytphbmibgnnobcaa
