/- More of what a line is behind an event. -/
import Derived.Test.YtjflbjlkcifpdaaDoorLineP
namespace Go.Proofs.YtjflbjlkcifpdaaDoor.Ext
set_option linter.unusedVariables false
open Go.Proofs.YtjflbjlkcifpdaaDoor.Xa
theorem next_op_alone (X : LS) {e : S31} (h : alone e) : (next X e).op = X.op := by
  unfold next
  have : e.f0 ≠ 3 := by rcases h with h | h <;> omega
  rw [if_neg this, if_pos (show (e.f0 = 1 ∨ e.f0 = 2) from h)]
end Go.Proofs.YtjflbjlkcifpdaaDoor.Ext
