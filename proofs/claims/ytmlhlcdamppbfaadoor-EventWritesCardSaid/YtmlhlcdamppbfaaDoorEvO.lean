/- An event that came in, opened. -/
import Derived.Test.YtmlhlcdamppbfaaDoorProg
import Derived.Lib.SmallJoins
namespace Go.Proofs.YtmlhlcdamppbfaaDoor.Ext
open Go.Joins Go.ChangeShapes Go.WideShapes Go.RowKit Go.Deep
set_option linter.unusedVariables false
theorem open_event {H : Type} {enc : TypeId × Value → H} {w : World} {base : Nat} {spare : Nat → Bool} {held : Bool} {r : Reach} {b0 : Nat} {v : Value} {d : DataW H} {p : List MemPlace}
    (hv : Value.okWide Tryd.prog w r b0 24 v) (h : DataW.Trod enc Tryd.prog w base spare held 24 v d p) :
    ∃ (a0 a1 a2 : Int) (a3 a4 a5 a6 : ByteArray) (a7 a8 a9 : Int), v = .agg #[.int .i64 a0, .int .u64 a1, .int .u64 a2, .string a3, .string a4, .string a5, .string a6, .int .i64 a7, .int .i64 a8, .int .i64 a9] ∧
      (Lit.int .i64 a0).wf = true ∧ (Lit.int .u64 a1).wf = true ∧ (Lit.int .u64 a2).wf = true ∧ a3.size ≤ maxLen ∧ a4.size ≤ maxLen ∧ a5.size ≤ maxLen ∧ a6.size ≤ maxLen ∧ (Lit.int .i64 a7).wf = true ∧ (Lit.int .i64 a8).wf = true ∧ (Lit.int .i64 a9).wf = true := by
  obtain ⟨cs, rfl, hsz⟩ := okWide_struct Tryd.underlying24 hv
  obtain ⟨l⟩ := cs
  have hC : Tryd.prog.cellsOf 24 = 10 := by kernel_rfl
  have c3 : Tryd.prog.cellsOf 3 = 1 := by kernel_rfl
  have c9 : Tryd.prog.cellsOf 9 = 1 := by kernel_rfl
  have c22 : Tryd.prog.cellsOf 22 = 1 := by kernel_rfl
  match l, hsz.trans hC with
  | [q0, q1, q2, q3, q4, q5, q6, q7, q8, q9], _ =>
    obtain ⟨fuel, hf⟩ := h
    obtain ⟨xs, n, _, hx, _, hlen, hg⟩ := DataW.trod_struct Tryd.underlying24 hf
    match xs, hlen with
    | [y0, y1, y2, y3, y4, y5, y6, y7, y8, y9], _ =>
      have g0 : DataW.trod enc Tryd.prog w base spare held n 3 [q0] = some y0 := by simpa [Value.cells, c3] using hg 0 _ rfl
      have g1 : DataW.trod enc Tryd.prog w base spare held n 22 [q1] = some y1 := by simpa [Value.cells, c22] using hg 1 _ rfl
      have g2 : DataW.trod enc Tryd.prog w base spare held n 22 [q2] = some y2 := by simpa [Value.cells, c22] using hg 2 _ rfl
      have g3 : DataW.trod enc Tryd.prog w base spare held n 9 [q3] = some y3 := by simpa [Value.cells, c9] using hg 3 _ rfl
      have g4 : DataW.trod enc Tryd.prog w base spare held n 9 [q4] = some y4 := by simpa [Value.cells, c9] using hg 4 _ rfl
      have g5 : DataW.trod enc Tryd.prog w base spare held n 9 [q5] = some y5 := by simpa [Value.cells, c9] using hg 5 _ rfl
      have g6 : DataW.trod enc Tryd.prog w base spare held n 9 [q6] = some y6 := by simpa [Value.cells, c9] using hg 6 _ rfl
      have g7 : DataW.trod enc Tryd.prog w base spare held n 3 [q7] = some y7 := by simpa [Value.cells, c3] using hg 7 _ rfl
      have g8 : DataW.trod enc Tryd.prog w base spare held n 3 [q8] = some y8 := by simpa [Value.cells, c3] using hg 8 _ rfl
      have g9 : DataW.trod enc Tryd.prog w base spare held n 3 [q9] = some y9 := by simpa [Value.cells, c3] using hg 9 _ rfl
      obtain ⟨a0, e0, _, w0⟩ := DataW.trod_int Tryd.underlying3 g0
      obtain ⟨a1, e1, _, w1⟩ := DataW.trod_int Tryd.underlying22 g1
      obtain ⟨a2, e2, _, w2⟩ := DataW.trod_int Tryd.underlying22 g2
      obtain ⟨a3, e3, _, w3⟩ := DataW.trod_string Tryd.underlying9 g3
      obtain ⟨a4, e4, _, w4⟩ := DataW.trod_string Tryd.underlying9 g4
      obtain ⟨a5, e5, _, w5⟩ := DataW.trod_string Tryd.underlying9 g5
      obtain ⟨a6, e6, _, w6⟩ := DataW.trod_string Tryd.underlying9 g6
      obtain ⟨a7, e7, _, w7⟩ := DataW.trod_int Tryd.underlying3 g7
      obtain ⟨a8, e8, _, w8⟩ := DataW.trod_int Tryd.underlying3 g8
      obtain ⟨a9, e9, _, w9⟩ := DataW.trod_int Tryd.underlying3 g9
      simp only [List.cons.injEq, and_true] at e0 e1 e2 e3 e4 e5 e6 e7 e8 e9
      subst e0 e1 e2 e3 e4 e5 e6 e7 e8 e9
      exact ⟨a0, a1, a2, a3, a4, a5, a6, a7, a8, a9, rfl, w0, w1, w2, w3, w4, w5, w6, w7, w8, w9⟩
end Go.Proofs.YtmlhlcdamppbfaaDoor.Ext
