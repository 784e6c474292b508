/- An event that came in, opened. -/
import Derived.Test.YtmlhlcdamppbfaaDoorProg
import Derived.Lib.SmallJoins
import Derived.Test.YtmlhlcdamppbfaaDoorExt
import Derived.Test.YtmlhlcdamppbfaaDoorRows
import Derived.Lib.LaidTab
namespace Go.Proofs.YtmlhlcdamppbfaaDoor.Ext
open Go.Joins Go.ChangeShapes Go.WideShapes Go.RowKit Go.Deep
set_option linter.unusedVariables false
theorem open_event {H : Type} {enc : TypeId × Value → H} {w : World} {base : Nat} {spare : Nat → Bool} {held : Bool} {r : Reach} {b0 : Nat} {v : Value} {d : DataW H} {p : List MemPlace}
    (hv : Value.okWide Tryd.prog w r b0 24 v) (h : DataW.Trod enc Tryd.prog w base spare held 24 v d p) :
    ∃ (a0 a1 a2 : Int) (a3 a4 a5 a6 : ByteArray) (a7 a8 a9 : Int), v = .agg #[.int .i64 a0, .int .u64 a1, .int .u64 a2, .string a3, .string a4, .string a5, .string a6, .int .i64 a7, .int .i64 a8, .int .i64 a9] ∧
      (Lit.int .i64 a0).wf = true ∧ (Lit.int .u64 a1).wf = true ∧ (Lit.int .u64 a2).wf = true ∧ a3.size ≤ maxLen ∧ a4.size ≤ maxLen ∧ a5.size ≤ maxLen ∧ a6.size ≤ maxLen ∧ (Lit.int .i64 a7).wf = true ∧ (Lit.int .i64 a8).wf = true ∧ (Lit.int .i64 a9).wf = true := by
  obtain ⟨cs, rfl, hsz⟩ := okWide_struct Tryd.underlying24 hv
  obtain ⟨l⟩ := cs
  have hC : Tryd.prog.cellsOf 24 = 10 := by kernel_rfl
  have c3 : Tryd.prog.cellsOf 3 = 1 := by kernel_rfl
  have c9 : Tryd.prog.cellsOf 9 = 1 := by kernel_rfl
  have c22 : Tryd.prog.cellsOf 22 = 1 := by kernel_rfl
  match l, hsz.trans hC with
  | [q0, q1, q2, q3, q4, q5, q6, q7, q8, q9], _ =>
    obtain ⟨fuel, hf⟩ := h
    obtain ⟨xs, n, _, hx, _, hlen, hg⟩ := DataW.trod_struct Tryd.underlying24 hf
    match xs, hlen with
    | [y0, y1, y2, y3, y4, y5, y6, y7, y8, y9], _ =>
      have g0 : DataW.trod enc Tryd.prog w base spare held n 3 [q0] = some y0 := by simpa [Value.cells, c3] using hg 0 _ rfl
      have g1 : DataW.trod enc Tryd.prog w base spare held n 22 [q1] = some y1 := by simpa [Value.cells, c22] using hg 1 _ rfl
      have g2 : DataW.trod enc Tryd.prog w base spare held n 22 [q2] = some y2 := by simpa [Value.cells, c22] using hg 2 _ rfl
      have g3 : DataW.trod enc Tryd.prog w base spare held n 9 [q3] = some y3 := by simpa [Value.cells, c9] using hg 3 _ rfl
      have g4 : DataW.trod enc Tryd.prog w base spare held n 9 [q4] = some y4 := by simpa [Value.cells, c9] using hg 4 _ rfl
      have g5 : DataW.trod enc Tryd.prog w base spare held n 9 [q5] = some y5 := by simpa [Value.cells, c9] using hg 5 _ rfl
      have g6 : DataW.trod enc Tryd.prog w base spare held n 9 [q6] = some y6 := by simpa [Value.cells, c9] using hg 6 _ rfl
      have g7 : DataW.trod enc Tryd.prog w base spare held n 3 [q7] = some y7 := by simpa [Value.cells, c3] using hg 7 _ rfl
      have g8 : DataW.trod enc Tryd.prog w base spare held n 3 [q8] = some y8 := by simpa [Value.cells, c3] using hg 8 _ rfl
      have g9 : DataW.trod enc Tryd.prog w base spare held n 3 [q9] = some y9 := by simpa [Value.cells, c3] using hg 9 _ rfl
      obtain ⟨a0, e0, _, w0⟩ := DataW.trod_int Tryd.underlying3 g0
      obtain ⟨a1, e1, _, w1⟩ := DataW.trod_int Tryd.underlying22 g1
      obtain ⟨a2, e2, _, w2⟩ := DataW.trod_int Tryd.underlying22 g2
      obtain ⟨a3, e3, _, w3⟩ := DataW.trod_string Tryd.underlying9 g3
      obtain ⟨a4, e4, _, w4⟩ := DataW.trod_string Tryd.underlying9 g4
      obtain ⟨a5, e5, _, w5⟩ := DataW.trod_string Tryd.underlying9 g5
      obtain ⟨a6, e6, _, w6⟩ := DataW.trod_string Tryd.underlying9 g6
      obtain ⟨a7, e7, _, w7⟩ := DataW.trod_int Tryd.underlying3 g7
      obtain ⟨a8, e8, _, w8⟩ := DataW.trod_int Tryd.underlying3 g8
      obtain ⟨a9, e9, _, w9⟩ := DataW.trod_int Tryd.underlying3 g9
      simp only [List.cons.injEq, and_true] at e0 e1 e2 e3 e4 e5 e6 e7 e8 e9
      subst e0 e1 e2 e3 e4 e5 e6 e7 e8 e9
      exact ⟨a0, a1, a2, a3, a4, a5, a6, a7, a8, a9, rfl, w0, w1, w2, w3, w4, w5, w6, w7, w8, w9⟩
end Go.Proofs.YtmlhlcdamppbfaaDoor.Ext
namespace Go.Proofs.YtmlhlcdamppbfaaDoor.Ext
open Go.RowKit
set_option linter.unusedVariables false
/-- A kind's cells. -/
theorem quad_of_trod {H : Type} {enc : TypeId × Value → H} {w : World} {base : Nat} {sp : Nat → Bool} {held : Bool} {fuel : Nat} {cs : List Value} {a b c d : Int} {p : List MemPlace} (hl : cs.length = 4)
    (h : DataW.trod enc Tryd.prog w base sp held fuel 47 cs = some (.agg [.lit (.int .i64 a), .agg [.lit (.int .i64 b), .lit (.int .i64 c), .lit (.int .i64 d)]], p)) :
    cs = [.int .i64 a, .int .i64 b, .int .i64 c, .int .i64 d] := by
  have c47 : Tryd.prog.cellsOf 47 = 4 := by kernel_rfl
  have c45 : Tryd.prog.cellsOf 45 = 3 := by kernel_rfl
  have c3 : Tryd.prog.cellsOf 3 = 1 := by kernel_rfl
  cases fuel with
  | zero => simp [DataW.trod] at h
  | succ fuel =>
    simp only [DataW.trod, Tryd.underlying47, c47, hl, if_true] at h
    obtain ⟨xs, hm, hx⟩ := Option.map_eq_some_iff.1 h
    obtain ⟨x0, h0, f0⟩ := Lib.mapM_at hm 0 _ rfl
    obtain ⟨x1, h1, f1⟩ := Lib.mapM_at hm 1 _ rfl
    have hlen := Lib.mapM_length hm
    obtain ⟨y0, y1, rfl⟩ : ∃ y0 y1, xs = [y0, y1] := by
      match xs, hlen with
      | [y0, y1], _ => exact ⟨y0, y1, rfl⟩
    simp only [List.getElem?_cons_zero, Option.some.injEq] at h0
    simp only [List.getElem?_cons_succ, List.getElem?_cons_zero, Option.some.injEq] at h1
    subst h0 h1
    simp only [List.map_cons, List.map_nil, Prod.mk.injEq, DataW.agg.injEq, List.cons.injEq, and_true] at hx
    obtain ⟨⟨e0, e1⟩, _⟩ := hx
    rw [c3] at f0
    rw [c45] at f1
    obtain ⟨z, hz, e2, _⟩ := DataW.trod_int Tryd.underlying3 f0
    obtain ⟨u, v⟩ := y1
    simp only at e1
    subst e1
    have hn := Lib.cells_of_tab (zs := [b, c, d]) Tryd.underlying45 Tryd.underlying3 c3 c45 f1
    rw [e2] at e0
    obtain rfl : z = a := by simpa using e0
    match cs, hl with
    | [q0, q1, q2, q3], _ =>
      simp at hz hn
      simp [hz, hn]
/-- The table, as the row lists it. -/
def kindData {H : Type} (l : List (Int × Int × Int × Int)) : DataW H := .agg (l.map fun x => .agg [.lit (.int .i64 x.1), .agg [.lit (.int .i64 x.2.1), .lit (.int .i64 x.2.2.1), .lit (.int .i64 x.2.2.2)]])
def kindList : List (Int × Int × Int × Int) := [(0, 0, 0, 0), (1, 0, 0, 0), (1, 0, 0, 0), (4, 4, 3, 3), (2, 0, 0, 0), (0, 0, 0, 0), (2, 0, 0, 0), (0, 1000, 0, 0), (0, 0, 0, 0), (2, 0, 0, 0), (0, 1000, 0, 0), (1, 0, 0, 0), (1, 0, 0, 0), (0, 0, 0, 0), (0, 4, 0, 0)]
theorem kinds_cells {H : Type} {enc : TypeId × Value → H} {w : World} {base : Nat} {sp : Nat → Bool} {held : Bool} {fuel : Nat} {cs : List Value} {p : List MemPlace}
    (h : DataW.trod enc Tryd.prog w base sp held fuel 48 cs = some (kindData kindList, p)) : ∀ j, j < 60 → cs[j]? = some (.int .i64 (tab.getD j 0)) := by
  have c48 : Tryd.prog.cellsOf 48 = 60 := by kernel_rfl
  have c47 : Tryd.prog.cellsOf 47 = 4 := by kernel_rfl
  cases fuel with
  | zero => simp [DataW.trod] at h
  | succ fuel =>
    simp only [DataW.trod, Tryd.underlying48, c48, c47] at h
    split at h
    · rename_i hl
      obtain ⟨xs, hm, hx⟩ := Option.map_eq_some_iff.1 h
      have hxs : xs.map (·.1) = kindList.map fun x => (DataW.agg [.lit (.int .i64 x.1), .agg [.lit (.int .i64 x.2.1), .lit (.int .i64 x.2.2.1), .lit (.int .i64 x.2.2.2)]] : DataW H) := by
        have := congrArg Prod.fst hx
        simpa [kindData] using this
      intro j hj
      obtain ⟨b, hb, hf⟩ := Lib.mapM_at hm (j / 4) (j / 4) (List.getElem?_range (by omega))
      have h2 : (xs.map (·.1))[j / 4]? = some b.1 := by simp [hb]
      rw [hxs, List.getElem?_map] at h2
      obtain ⟨x, hx1, hx2⟩ := Option.map_eq_some_iff.1 h2
      obtain ⟨b1, b2⟩ := b
      simp only at hx2
      subst hx2
      have hq := quad_of_trod (by rw [List.length_take, List.length_drop]; omega) hf
      have hc : cs[j]? = (((cs.drop (j / 4 * 4)).take 4))[j % 4]? := by
        rw [List.getElem?_take, if_pos (by omega), List.getElem?_drop, show j / 4 * 4 + j % 4 = j by omega]
      rw [hc, hq]
      have hall : ∀ i : Fin 60, ∀ x, kindList[i.val / 4]? = some x → ([x.1, x.2.1, x.2.2.1, x.2.2.2] : List Int)[i.val % 4]? = some (tab.getD i.val 0) := by decide +kernel
      have := hall ⟨j, hj⟩ x hx1
      have e : ([Value.int .i64 x.1, .int .i64 x.2.1, .int .i64 x.2.2.1, .int .i64 x.2.2.2] : List Value) = ([x.1, x.2.1, x.2.2.1, x.2.2.2] : List Int).map (Value.int .i64) := rfl
      rw [e, List.getElem?_map, this]; rfl
    · simp at h
theorem gTab : Tryd.prog.globalNamed "transept/event.kinds" = some 0 := by kernel_rfl
theorem gTabType : (Tryd.prog.globals[0]?).map (·.type) = some 48 := by kernel_rfl
theorem glob_of {W : World} (h : laidMet Tryd.prog [("transept/event.kinds", Rows.laid_transept_event_kinds)] W) : Glob W := by
  obtain ⟨ps, ⟨g', t', cs, fuel, p, q, hg', ht', hvar, hd, _, _⟩, _⟩ := h
  obtain rfl := Option.some.inj (gTab.symm.trans hg')
  obtain rfl := Option.some.inj (gTabType.symm.trans ht')
  intro j hj
  have := kinds_cells (show DataW.trod _ Tryd.prog W _ _ _ _ 48 cs.toList = some (kindData kindList, p) from hd) j hj
  rw [World.var?_cell gTab hvar j]
  simpa using this
end Go.Proofs.YtmlhlcdamppbfaaDoor.Ext
