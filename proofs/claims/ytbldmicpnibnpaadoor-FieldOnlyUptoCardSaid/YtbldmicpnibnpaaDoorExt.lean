/- What the print takes from a contract by hand. -/
import Derived.Test.YtbldmicpnibnpaaDoorNumb
namespace Go.Proofs.YtbldmicpnibnpaaDoor.Ext
open Go.RowKit Go.Proofs.YtbldmicpnibnpaaDoorW.PrintWords Go.Proofs.YtbldmicpnibnpaaDoorW.PrintLast Go.Proofs.YtbldmicpnibnpaaDoorW.PrintMore
set_option linter.unusedVariables false
def token_Lower.f (a0 : ByteArray) : Option ByteArray := if a0.size ≤ 9223372036854775807 then some (lower a0) else none
theorem token_Lower.calls (a0 r : ByteArray) (w : World) (h : token_Lower.f a0 = some r) : Calls Tryd.prog 7 #[.string a0] w fun e w' => e = .returned (.string r) ∧ Below w.heap.size w w' := by
  unfold token_Lower.f at h
  split at h
  · rename_i hs
    obtain rfl := Option.some.inj h
    exact lower_calls a0 w hs
  · cases h
def field_Number.f (a0 : ByteArray) (a1 : Int) : Option (Int × Bool) := some (numF a0 a1)
theorem field_Number.calls (a0 : ByteArray) (a1 r1 : Int) (r2 : Bool) (w : World) (h : field_Number.f a0 a1 = some (r1, r2)) : Calls Tryd.prog 11 #[.string a0, .int .i64 a1] w fun e w' => e = .returned (.tuple #[.int .i64 r1, .bool r2]) ∧ Below w.heap.size w w' := by
  have h' := Option.some.inj h
  have e1 : (numF a0 a1).1 = r1 := by rw [h']
  have e2 : (numF a0 a1).2 = r2 := by rw [h']
  subst e1
  subst e2
  exact number_calls a0 a1 w
end Go.Proofs.YtbldmicpnibnpaaDoor.Ext
