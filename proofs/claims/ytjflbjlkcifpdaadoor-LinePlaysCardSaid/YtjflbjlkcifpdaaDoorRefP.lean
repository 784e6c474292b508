/- The document's answers for a row of events, in plain words. -/
import Derived.Test.YtjflbjlkcifpdaaDoorRefR
import Derived.Test.YtjflbjlkcifpdaaDoorLineQ
import Derived.Test.YtjflbjlkcifpdaaDoorXax24
namespace Go.Proofs.YtjflbjlkcifpdaaDoor.Pure
open Go.RowKit Go.Proofs.YtjflbjlkcifpdaaDoor.Xa Go.Proofs.YtjflbjlkcifpdaaDoor.Ext Go.Proofs.YtjflbjlkcifpdaaDoorW.PrintWords Go.Proofs.YtjflbjlkcifpdaaDoorW.PrintLast
set_option linter.unusedVariables false
set_option linter.unusedSimpArgs false
/-- From which states a kind leads, and to which, as the document says. -/
def gF (K : Int) : List Int × Int := (transeptref15_goes.f K).getD ([], 0)
theorem goes_f (K : Int) : transeptref15_goes.f K = some (gF K) := by
  unfold gF
  cases h : transeptref15_goes.f K with
  | some x => rfl
  | none =>
    unfold transeptref15_goes.f at h
    repeat (split at h; · cases h)
    cases h
/-- A fetch's state behind one event more. -/
def stepS (id s : Int) (e : S31) : Int :=
  if e.f2 = id ∧ ¬ e.f0 < 3 then (if e.f0 = 3 then 1 else if (gF e.f0).2 ≥ 0 then (gF e.f0).2 else s) else s
def refSt (l : List S31) (id : Int) : Int := l.foldl (stepS id) 0
theorem drop_cons (l : List S31) (j : Nat) (hj : j < l.length) : l.drop j = rd_T31 l (j : Int) :: l.drop (j + 1) := by
  rw [List.drop_eq_getElem_cons hj]
  simp [rd_T31, List.getD_eq_getElem?_getD, List.getElem?_eq_getElem hj]
theorem wrapN (j : Nat) (h : j < 1000000) : wrap64 ((j : Int) + 1) = ((j + 1 : Nat) : Int) := by rw [w64 _ (by omega) (by omega)]; omega
theorem state_from (l : List S31) (id : Int) (hl : l.length < 1000000) : ∀ (d j k : Nat) (s : Int), j + d = l.length → 2 * d < k → transeptref15_State.l0 k l id s (j : Int) = some ((l.drop j).foldl (stepS id) s)
  | 0, j, k + 1, s, h, _ => by
    rw [transeptref15_State.l0, if_neg (by omega), List.drop_eq_nil_of_le (by omega)]; rfl
  | d + 1, j, k + 2, s, h, hk => by
    have hj : j < l.length := by omega
    have ih := fun s => state_from l id hl d (j + 1) k s (by omega) (by omega)
    rw [drop_cons l j hj, List.foldl_cons, transeptref15_State.l0, if_pos (by omega), if_pos (by omega)]
    generalize hx : rd_T31 l (j : Int) = x
    rw [show stepS id s x = if x.f2 = id ∧ ¬ x.f0 < 3 then (if x.f0 = 3 then 1 else if (gF x.f0).2 ≥ 0 then (gF x.f0).2 else s) else s from rfl]
    by_cases h2 : x.f2 = id
    · rw [if_pos h2]
      by_cases h3 : x.f0 < 3
      · rw [transeptref15_State.j1, if_pos (by simp [h3]), wrapN j (by omega), ih, if_neg (fun hh => hh.2 h3)]
      · rw [transeptref15_State.j1, if_neg (by simp [h3]), if_pos (by omega), if_pos (by omega), hx, wrapN j (by omega), if_pos (show x.f2 = id ∧ ¬ x.f0 < 3 from ⟨h2, h3⟩)]
        by_cases h4 : x.f0 = 3
        · rw [if_pos h4, if_pos h4, ih]
        · rw [if_neg h4, if_neg h4, goes_f, bind_s]
          by_cases h5 : (gF x.f0).2 ≥ 0
          · rw [if_pos h5, if_pos h5, ih]
          · rw [if_neg h5, if_neg h5, ih]
    · rw [if_neg h2, transeptref15_State.j1, if_pos rfl, wrapN j (by omega), ih, if_neg (fun hh => h2 hh.1)]
theorem state_f (l : List S31) (id : Int) (k : Nat) (hl : l.length ≤ 200) (hk : 500 ≤ k) : transeptref15_State.f k l id = some (refSt l id) := by
  unfold transeptref15_State.f
  have := state_from l id (by omega) l.length 0 k 0 (by omega) (by omega)
  simpa [refSt] using this
/-- Was a fetch ever; any, if it is 0? -/
def isSt (id : Int) (e : S31) : Bool := e.f0 == 3 && (id == 0 || e.f2 == id)
theorem started_from (l : List S31) (id : Int) (hl : l.length < 1000000) : ∀ (d j k : Nat), j + d = l.length → d < k → transeptref15_started.l0 k l id (j : Int) = some ((l.drop j).any (isSt id))
  | 0, j, k + 1, h, _ => by
    rw [transeptref15_started.l0, if_neg (by omega), List.drop_eq_nil_of_le (by omega)]; rfl
  | d + 1, j, k + 1, h, hk => by
    have hj : j < l.length := by omega
    have ih := started_from l id hl d (j + 1) k (by omega) (by omega)
    rw [drop_cons l j hj, List.any_cons, transeptref15_started.l0, if_pos (by omega), if_pos (by omega)]
    generalize hx : rd_T31 l (j : Int) = x
    rw [show isSt id x = (x.f0 == 3 && (id == 0 || x.f2 == id)) from rfl]
    by_cases h3 : x.f0 = 3
    · rw [if_pos h3]
      by_cases h0 : id = 0
      · rw [if_pos h0]; simp [h3, h0]
      · rw [if_neg h0]
        by_cases h2 : x.f2 = id
        · rw [if_pos h2]; simp [h3, h2]
        · rw [if_neg h2, wrapN j (by omega), ih]; simp [h0, h2]
    · rw [if_neg h3, wrapN j (by omega), ih]; simp [h3]
theorem started_f (l : List S31) (id : Int) (k : Nat) (hl : l.length ≤ 200) (hk : 500 ≤ k) : transeptref15_started.f k l id = some (l.any (isSt id)) := by
  unfold transeptref15_started.f
  have := started_from l id (by omega) l.length 0 k (by omega) (by omega)
  simpa using this
/-- How many fetches are open. -/
def isOp (l : List S31) (e : S31) : Bool := e.f0 == 3 && decide (refSt l e.f2 > 0)
theorem open_from (l : List S31) (hl : l.length ≤ 200) : ∀ (d j k : Nat) (s : Nat), j + d = l.length → d + 500 < k → s ≤ 1000 + j → transeptref15_Open.l0 k l (s : Int) (j : Int) = some ((s + (l.drop j).countP (isOp l) : Nat) : Int)
  | 0, j, k + 1, s, h, _, _ => by
    rw [transeptref15_Open.l0, if_neg (by omega), List.drop_eq_nil_of_le (by omega)]; rfl
  | d + 1, j, k + 1, s, h, hk, hs => by
    have hj : j < l.length := by omega
    have ih := fun s hs => open_from l hl d (j + 1) k s (by omega) (by omega) hs
    rw [drop_cons l j hj, List.countP_cons, transeptref15_Open.l0, if_pos (by omega), if_pos (by omega)]
    generalize hx : rd_T31 l (j : Int) = x
    by_cases h3 : x.f0 = 3
    · rw [if_pos h3, state_f l x.f2 k hl (by omega), bind_s, wrapN j (by omega)]
      by_cases h0 : refSt l x.f2 > 0
      · rw [if_pos h0, wrapN s (by omega), ih (s + 1) (by omega)]
        have : isOp l x = true := by simp [isOp, h3, h0]
        rw [if_pos this]; congr 1; omega
      · rw [if_neg h0, ih s (by omega)]
        have : ¬ isOp l x = true := by simp [isOp, h3, h0]
        rw [if_neg this]; congr 1
    · rw [if_neg h3, wrapN j (by omega), ih s (by omega)]
      have : ¬ isOp l x = true := by simp [isOp, h3]
      rw [if_neg this]; congr 1
def refOp (l : List S31) : Nat := l.countP (isOp l)
theorem open_f (l : List S31) (k : Nat) (hl : l.length ≤ 200) (hk : 750 ≤ k) : transeptref15_Open.f k l = some ((refOp l : Nat) : Int) := by
  unfold transeptref15_Open.f
  have := open_from l hl l.length 0 k 0 (by omega) (by omega) (by omega)
  simpa [refOp] using this
end Go.Proofs.YtjflbjlkcifpdaaDoor.Pure
