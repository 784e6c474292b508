/- FieldNumbers, in plain words. -/
import Derived.Test.YtbldmicpnibnpaaXax9
import Derived.Test.YtbldmicpnibnpaaSho
namespace Go.Proofs.Ytbldmicpnibnpaa.Pure
open Go.RowKit Go.Proofs.Ytbldmicpnibnpaa.Xa Go.Proofs.Ytbldmicpnibnpaa.Ext Go.Proofs.YtbldmicpnibnpaaW.PrintWords Go.Proofs.YtbldmicpnibnpaaW.PrintLast
theorem FieldNumbers : transeptlaw10_FieldNumbers.Pure := by
  intro a0 a1 _ _
  refine ⟨20, ?_⟩
  unfold transeptlaw10_FieldNumbers.f
  rw [shown20, bind_s, show field_Number.f a0 a1 = some (numF a0 a1) from rfl, bind_s, num_ref a0 a1 20 (by omega), bind_s, if_pos rfl, if_pos rfl]
  simp
end Go.Proofs.Ytbldmicpnibnpaa.Pure
