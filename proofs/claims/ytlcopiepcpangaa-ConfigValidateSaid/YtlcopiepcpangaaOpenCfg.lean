/- The argument of the type api.Config, opened. -/
import Derived.Test.YtlcopiepcpangaaOpen
import Derived.Test.YtlcopiepcpangaaCfg2
set_option linter.unusedVariables false
namespace Go.Proofs.Ytlcopiepcpangaa
open Go.ChangeShapes Go.WideShapes Go.ChangeAt Go.RowKit Go.Deep
section
variable {H : Type} {enc : TypeId × Value → H} {w : World} {spare : Nat → Bool} {held : Bool} {r : Reach} {b0 : Nat} {v : Value} {d : DataW H} {p : List MemPlace}

theorem strCells : Try.prog.cellsOf 9 = 1 := by kernel_rfl
theorem boolCells1 : Try.prog.cellsOf 4 = 1 := by kernel_rfl
theorem isCells : Try.prog.cellsOf 22 = 1 := by kernel_rfl
theorem ssCells : Try.prog.cellsOf 25 = 1 := by kernel_rfl
theorem cfgCells : Try.prog.cellsOf 27 = 26 := by kernel_rfl
theorem cell_string {fuel : Nat} {x : Value} {y : DataW H × List MemPlace} (h : DataW.trod enc Try.prog w 0 spare held fuel 9 [x] = some y) : ∃ s : ByteArray, x = .string s ∧ s.size ≤ 9223372036854775807 := by
  obtain ⟨s, hc, _, hs⟩ := DataW.trod_string Try.underlying9 h
  simp at hc
  exact ⟨s, hc, hs⟩
theorem cell_strs {fuel : Nat} {x : Value} {y : DataW H × List MemPlace} (hf : DataW.trod enc Try.prog w 0 spare held fuel 25 [x] = some y) : ∃ A n c, ∃ l : List ByteArray, x = .slice A n c ∧ ArgRow w A n c (l.map Value.string) ∧ ∀ s ∈ l, s.size ≤ 9223372036854775807 := by
  obtain ⟨A, n, c, V, rfl, ha, hi⟩ := row1_cells Try.underlying25 strCells hf
  obtain ⟨l, _, he, hq⟩ := choose_list2 n V Value.string (fun s => s.size ≤ 9223372036854775807) fun i h => by obtain ⟨_, _, hy⟩ := hi i h; exact cell_string hy
  exact ⟨A, n, c, l, rfl, by rw [← he]; exact ha, hq⟩
theorem open_str (hv : Value.okWide Try.prog w r b0 9 v) (h : DataW.Trod enc Try.prog w 0 spare held 9 v d p) : ∃ s : ByteArray, v = .string s ∧ s.size ≤ 9223372036854775807 := by
  obtain ⟨s, rfl⟩ := okWide_string Try.underlying9 hv
  obtain ⟨fuel, hf⟩ := h
  have hf' : DataW.trod enc Try.prog w 0 spare held fuel 9 [.string s] = some (d, p) := by simpa [Value.cells] using hf
  obtain ⟨s', e, hs⟩ := cell_string hf'
  injection e with e
  exact ⟨s, rfl, by rw [e]; exact hs⟩
theorem plan_cells {fuel : Nat} {a0 a1 a2 a3 a4 a5 : Value} {y : DataW H × List MemPlace} (hf : DataW.trod enc Try.prog w 0 spare held fuel 24 [a0, a1, a2, a3, a4, a5] = some y) :
    ∃ A n c, ∃ (l : List Int) (mi nu de ho wi : Int), a0 = .slice A n c ∧ a1 = .int .i64 mi ∧ a2 = .int .i64 nu ∧ a3 = .int .i64 de ∧ a4 = .int .i64 ho ∧ a5 = .int .i64 wi ∧ ArgRow w A n c (l.map (Value.int .i64)) := by
  obtain ⟨xs, n, _, _, _, hlen, hg⟩ := DataW.trod_struct Try.underlying24 hf
  match xs, hlen with
  | [y0, y1, y2, y3, y4, y5], _ =>
    have h0 : DataW.trod enc Try.prog w 0 spare held n 22 [a0] = some y0 := by simpa [isCells] using hg 0 _ rfl
    have h1 : DataW.trod enc Try.prog w 0 spare held n 3 [a1] = some y1 := by simpa [intCells] using hg 1 _ rfl
    have h2 : DataW.trod enc Try.prog w 0 spare held n 3 [a2] = some y2 := by simpa [intCells] using hg 2 _ rfl
    have h3 : DataW.trod enc Try.prog w 0 spare held n 3 [a3] = some y3 := by simpa [intCells] using hg 3 _ rfl
    have h4 : DataW.trod enc Try.prog w 0 spare held n 3 [a4] = some y4 := by simpa [intCells] using hg 4 _ rfl
    have h5 : DataW.trod enc Try.prog w 0 spare held n 3 [a5] = some y5 := by simpa [intCells] using hg 5 _ rfl
    obtain ⟨A, m, c, l, rfl, ha, _⟩ := cell_ints h0
    obtain ⟨mi, rfl, _⟩ := cell_i64 h1
    obtain ⟨nu, rfl, _⟩ := cell_i64 h2
    obtain ⟨de, rfl, _⟩ := cell_i64 h3
    obtain ⟨ho, rfl, _⟩ := cell_i64 h4
    obtain ⟨wi, rfl, _⟩ := cell_i64 h5
    exact ⟨A, m, c, l, mi, nu, de, ho, wi, rfl, rfl, rfl, rfl, rfl, rfl, ha⟩
set_option maxHeartbeats 4000000 in
theorem open_config (hv : Value.okWide Try.prog w r b0 27 v) (h : DataW.Trod enc Try.prog w 0 spare held 27 v d p) :
    ∃ (c : Cf) (wl : List Int) (ig : List ByteArray), v = cv c ∧ CfOK c w wl ig := by
  obtain ⟨cs, rfl, hsz⟩ := okWide_struct Try.underlying27 hv
  obtain ⟨l⟩ := cs
  match l, hsz.trans cfgCells with
  | [c0, c1, c2, c3, c4, c5, c6, c7, c8, c9, c10, c11, c12, c13, c14, c15, c16, c17, c18, c19, c20, c21, c22, c23, c24, c25], _ =>
    obtain ⟨fuel, hf⟩ := h
    obtain ⟨xs, n, _, _, _, hlen, hg⟩ := DataW.trod_struct Try.underlying27 hf
    match xs, hlen with
    | [y0, y1, y2, y3, y4, y5, y6, y7, y8, y9, y10, y11, y12, y13, y14, y15, y16, y17, y18, y19, y20], _ =>
      have h0 : DataW.trod enc Try.prog w 0 spare held n 3 [c0] = some y0 := by simpa [Value.cells, intCells] using hg 0 _ rfl
      have h1 : DataW.trod enc Try.prog w 0 spare held n 3 [c1] = some y1 := by simpa [Value.cells, intCells] using hg 1 _ rfl
      have h2 : DataW.trod enc Try.prog w 0 spare held n 3 [c2] = some y2 := by simpa [Value.cells, intCells] using hg 2 _ rfl
      have h3 : DataW.trod enc Try.prog w 0 spare held n 3 [c3] = some y3 := by simpa [Value.cells, intCells] using hg 3 _ rfl
      have h4 : DataW.trod enc Try.prog w 0 spare held n 3 [c4] = some y4 := by simpa [Value.cells, intCells] using hg 4 _ rfl
      have h5 : DataW.trod enc Try.prog w 0 spare held n 3 [c5] = some y5 := by simpa [Value.cells, intCells] using hg 5 _ rfl
      have h6 : DataW.trod enc Try.prog w 0 spare held n 3 [c6] = some y6 := by simpa [Value.cells, intCells] using hg 6 _ rfl
      have h7 : DataW.trod enc Try.prog w 0 spare held n 3 [c7] = some y7 := by simpa [Value.cells, intCells] using hg 7 _ rfl
      have h8 : DataW.trod enc Try.prog w 0 spare held n 3 [c8] = some y8 := by simpa [Value.cells, intCells] using hg 8 _ rfl
      have h9 : DataW.trod enc Try.prog w 0 spare held n 3 [c9] = some y9 := by simpa [Value.cells, intCells] using hg 9 _ rfl
      have h10 : DataW.trod enc Try.prog w 0 spare held n 3 [c10] = some y10 := by simpa [Value.cells, intCells] using hg 10 _ rfl
      have h11 : DataW.trod enc Try.prog w 0 spare held n 3 [c11] = some y11 := by simpa [Value.cells, intCells] using hg 11 _ rfl
      have h12 : DataW.trod enc Try.prog w 0 spare held n 3 [c12] = some y12 := by simpa [Value.cells, intCells] using hg 12 _ rfl
      have h13 : DataW.trod enc Try.prog w 0 spare held n 3 [c13] = some y13 := by simpa [Value.cells, intCells] using hg 13 _ rfl
      have h14 : DataW.trod enc Try.prog w 0 spare held n 3 [c14] = some y14 := by simpa [Value.cells, intCells] using hg 14 _ rfl
      have h15 : DataW.trod enc Try.prog w 0 spare held n 3 [c15] = some y15 := by simpa [Value.cells, intCells] using hg 15 _ rfl
      have h16 : DataW.trod enc Try.prog w 0 spare held n 24 [c16, c17, c18, c19, c20, c21] = some y16 := by simpa [Value.cells, planCells] using hg 16 _ rfl
      have h17 : DataW.trod enc Try.prog w 0 spare held n 9 [c22] = some y17 := by simpa [Value.cells, strCells] using hg 17 _ rfl
      have h18 : DataW.trod enc Try.prog w 0 spare held n 9 [c23] = some y18 := by simpa [Value.cells, strCells] using hg 18 _ rfl
      have h19 : DataW.trod enc Try.prog w 0 spare held n 4 [c24] = some y19 := by simpa [Value.cells, boolCells1] using hg 19 _ rfl
      have h20 : DataW.trod enc Try.prog w 0 spare held n 25 [c25] = some y20 := by simpa [Value.cells, ssCells] using hg 20 _ rfl
      obtain ⟨mh, rfl, _⟩ := cell_i64 h0
      obtain ⟨mb, rfl, _⟩ := cell_i64 h1
      obtain ⟨mr, rfl, _⟩ := cell_i64 h2
      obtain ⟨ci, rfl, _⟩ := cell_i64 h3
      obtain ⟨co, rfl, _⟩ := cell_i64 h4
      obtain ⟨cl, rfl, _⟩ := cell_i64 h5
      obtain ⟨ad, rfl, _⟩ := cell_i64 h6
      obtain ⟨li, rfl, _⟩ := cell_i64 h7
      obtain ⟨st, rfl, _⟩ := cell_i64 h8
      obtain ⟨ca, rfl, _⟩ := cell_i64 h9
      obtain ⟨sh, rfl, _⟩ := cell_i64 h10
      obtain ⟨te, rfl, _⟩ := cell_i64 h11
      obtain ⟨di, rfl, _⟩ := cell_i64 h12
      obtain ⟨dr, rfl, _⟩ := cell_i64 h13
      obtain ⟨ds, rfl, _⟩ := cell_i64 h14
      obtain ⟨rp, rfl, _⟩ := cell_i64 h15
      obtain ⟨pA, pn, pc, wl, mi, nu, de, ho, wi, rfl, rfl, rfl, rfl, rfl, rfl, ha⟩ := plan_cells h16
      obtain ⟨salt, rfl, hs⟩ := cell_string h17
      obtain ⟨cook, rfl, hc⟩ := cell_string h18
      obtain ⟨mir, rfl⟩ := cell_bool h19
      obtain ⟨iA, im, ik, ig, rfl, hi, hq⟩ := cell_strs h20
      exact ⟨⟨mh, mb, mr, ci, co, cl, ad, li, st, ca, sh, te, di, dr, ds, rp, pA, pn, pc, mi, nu, de, ho, wi, salt, cook, mir, iA, im, ik⟩, wl, ig, rfl, ⟨ha.1, hi.1, ha.2.1, hi.2.1, ha.2.2.1, hi.2.2.1, hq, hs, hc⟩⟩
end
end Go.Proofs.Ytlcopiepcpangaa
