/- The table of kinds is what the row lists. -/
import Derived.Test.YtjflbjlkcifpdaaDoorRight
import Derived.Test.YtjflbjlkcifpdaaDoorRows
import Derived.Lib.LaidTab
namespace Go.Proofs.YtjflbjlkcifpdaaDoor.Ext
open Go.RowKit
set_option linter.unusedVariables false
/-- A kind's cells. -/
theorem quad_of_trod {H : Type} {enc : TypeId × Value → H} {w : World} {base : Nat} {sp : Nat → Bool} {held : Bool} {fuel : Nat} {cs : List Value} {a b c d : Int} {p : List MemPlace} (hl : cs.length = 4)
    (h : DataW.trod enc Tryd.prog w base sp held fuel 56 cs = some (.agg [.lit (.int .i64 a), .agg [.lit (.int .i64 b), .lit (.int .i64 c), .lit (.int .i64 d)]], p)) :
    cs = [.int .i64 a, .int .i64 b, .int .i64 c, .int .i64 d] := by
  have c56 : Tryd.prog.cellsOf 56 = 4 := by kernel_rfl
  have c54 : Tryd.prog.cellsOf 54 = 3 := by kernel_rfl
  have c3 : Tryd.prog.cellsOf 3 = 1 := by kernel_rfl
  cases fuel with
  | zero => simp [DataW.trod] at h
  | succ fuel =>
    simp only [DataW.trod, Tryd.underlying56, c56, hl, if_true] at h
    obtain ⟨xs, hm, hx⟩ := Option.map_eq_some_iff.1 h
    obtain ⟨x0, h0, f0⟩ := Lib.mapM_at hm 0 _ rfl
    obtain ⟨x1, h1, f1⟩ := Lib.mapM_at hm 1 _ rfl
    have hlen := Lib.mapM_length hm
    obtain ⟨y0, y1, rfl⟩ : ∃ y0 y1, xs = [y0, y1] := by
      match xs, hlen with
      | [y0, y1], _ => exact ⟨y0, y1, rfl⟩
    simp only [List.getElem?_cons_zero, Option.some.injEq] at h0
    simp only [List.getElem?_cons_succ, List.getElem?_cons_zero, Option.some.injEq] at h1
    subst h0 h1
    simp only [List.map_cons, List.map_nil, Prod.mk.injEq, DataW.agg.injEq, List.cons.injEq, and_true] at hx
    obtain ⟨⟨e0, e1⟩, _⟩ := hx
    rw [c3] at f0
    rw [c54] at f1
    obtain ⟨z, hz, e2, _⟩ := DataW.trod_int Tryd.underlying3 f0
    obtain ⟨u, v⟩ := y1
    simp only at e1
    subst e1
    have hn := Lib.cells_of_tab (zs := [b, c, d]) Tryd.underlying54 Tryd.underlying3 c3 c54 f1
    rw [e2] at e0
    obtain rfl : z = a := by simpa using e0
    match cs, hl with
    | [q0, q1, q2, q3], _ =>
      simp at hz hn
      simp [hz, hn]
/-- The table, as the row lists it. -/
def kindData {H : Type} (l : List (Int × Int × Int × Int)) : DataW H := .agg (l.map fun x => .agg [.lit (.int .i64 x.1), .agg [.lit (.int .i64 x.2.1), .lit (.int .i64 x.2.2.1), .lit (.int .i64 x.2.2.2)]])
def kindList : List (Int × Int × Int × Int) := [(0, 0, 0, 0), (1, 0, 0, 0), (1, 0, 0, 0), (4, 4, 3, 3), (2, 0, 0, 0), (0, 0, 0, 0), (2, 0, 0, 0), (0, 1000, 0, 0), (0, 0, 0, 0), (2, 0, 0, 0), (0, 1000, 0, 0), (1, 0, 0, 0), (1, 0, 0, 0), (0, 0, 0, 0), (0, 4, 0, 0)]
theorem kinds_cells {H : Type} {enc : TypeId × Value → H} {w : World} {base : Nat} {sp : Nat → Bool} {held : Bool} {fuel : Nat} {cs : List Value} {p : List MemPlace}
    (h : DataW.trod enc Tryd.prog w base sp held fuel 57 cs = some (kindData kindList, p)) : ∀ j, j < 60 → cs[j]? = some (.int .i64 (tab.getD j 0)) := by
  have c57 : Tryd.prog.cellsOf 57 = 60 := by kernel_rfl
  have c56 : Tryd.prog.cellsOf 56 = 4 := by kernel_rfl
  cases fuel with
  | zero => simp [DataW.trod] at h
  | succ fuel =>
    simp only [DataW.trod, Tryd.underlying57, c57, c56] at h
    split at h
    · rename_i hl
      obtain ⟨xs, hm, hx⟩ := Option.map_eq_some_iff.1 h
      have hxs : xs.map (·.1) = kindList.map fun x => (DataW.agg [.lit (.int .i64 x.1), .agg [.lit (.int .i64 x.2.1), .lit (.int .i64 x.2.2.1), .lit (.int .i64 x.2.2.2)]] : DataW H) := by
        have := congrArg Prod.fst hx
        simpa [kindData] using this
      intro j hj
      obtain ⟨b, hb, hf⟩ := Lib.mapM_at hm (j / 4) (j / 4) (List.getElem?_range (by omega))
      have h2 : (xs.map (·.1))[j / 4]? = some b.1 := by simp [hb]
      rw [hxs, List.getElem?_map] at h2
      obtain ⟨x, hx1, hx2⟩ := Option.map_eq_some_iff.1 h2
      obtain ⟨b1, b2⟩ := b
      simp only at hx2
      subst hx2
      have hq := quad_of_trod (by rw [List.length_take, List.length_drop]; omega) hf
      have hc : cs[j]? = (((cs.drop (j / 4 * 4)).take 4))[j % 4]? := by
        rw [List.getElem?_take, if_pos (by omega), List.getElem?_drop, show j / 4 * 4 + j % 4 = j by omega]
      rw [hc, hq]
      have hall : ∀ i : Fin 60, ∀ x, kindList[i.val / 4]? = some x → ([x.1, x.2.1, x.2.2.1, x.2.2.2] : List Int)[i.val % 4]? = some (tab.getD i.val 0) := by decide +kernel
      have := hall ⟨j, hj⟩ x hx1
      have e : ([Value.int .i64 x.1, .int .i64 x.2.1, .int .i64 x.2.2.1, .int .i64 x.2.2.2] : List Value) = ([x.1, x.2.1, x.2.2.1, x.2.2.2] : List Int).map (Value.int .i64) := rfl
      rw [e, List.getElem?_map, this]; rfl
    · simp at h
theorem gTab : Tryd.prog.globalNamed "transept/event.kinds" = some 0 := by kernel_rfl
theorem gTabType : (Tryd.prog.globals[0]?).map (·.type) = some 57 := by kernel_rfl
theorem glob_of {W : World} (h : laidMet Tryd.prog [("transept/event.kinds", Rows.laid_transept_event_kinds)] W) : Glob W := by
  obtain ⟨ps, ⟨g', t', cs, fuel, p, q, hg', ht', hvar, hd, _, _⟩, _⟩ := h
  obtain rfl := Option.some.inj (gTab.symm.trans hg')
  obtain rfl := Option.some.inj (gTabType.symm.trans ht')
  intro j hj
  have := kinds_cells (show DataW.trod _ Tryd.prog W _ _ _ _ 57 cs.toList = some (kindData kindList, p) from hd) j hj
  rw [World.var?_cell gTab hvar j]
  simpa using this
end Go.Proofs.YtjflbjlkcifpdaaDoor.Ext
