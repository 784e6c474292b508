/- The contracts of percent.In, Encode and Decode, in the print's shape. -/
import Derived.Test.YtpofepfkalighaaDec
namespace Go.Proofs.Ytpofepfkalighaa.Ext
open Go.RowKit Go.Proofs.YtpofepfkalighaaW.PrintWords

def percent_In.f (a0 a1 : Int) : Option Bool := some (inSet a0 a1)
theorem percent_In.calls (a0 a1 : Int) (r : Bool) (w : World) (h : percent_In.f a0 a1 = some r) :
    Calls Try.prog 11 #[.int .i64 a0, .int .u8 a1] w fun e w' => e = .returned (.bool r) ∧ Below w.heap.size w w' := by
  obtain rfl := Option.some.inj h
  exact in_calls a0 a1 w
def percent_Encode.f (a0 : Int) (a1 : ByteArray) : Option ByteArray := if a1.size ≤ 35184372088832 then some ⟨(encL a0 a1.data.toList).toArray⟩ else none
theorem percent_Encode.calls (a0 : Int) (a1 : ByteArray) (r : ByteArray) (w : World) (h : percent_Encode.f a0 a1 = some r) :
    Calls Try.prog 13 #[.int .i64 a0, .string a1] w fun e w' => e = .returned (.string r) ∧ Below w.heap.size w w' := by
  unfold percent_Encode.f at h
  split at h
  · rename_i hs
    obtain rfl := Option.some.inj h
    exact encode_calls a0 a1 hs w
  · simp at h
def percent_Decode.f (a0 : ByteArray) : Option ByteArray := if a0.size ≤ 35184372088832 then some ⟨(decL a0.data.toList).toArray⟩ else none
theorem percent_Decode.calls (a0 : ByteArray) (r : ByteArray) (w : World) (h : percent_Decode.f a0 = some r) :
    Calls Try.prog 15 #[.string a0] w fun e w' => e = .returned (.string r) ∧ Below w.heap.size w w' := by
  unfold percent_Decode.f at h
  split at h
  · rename_i hs
    obtain rfl := Option.some.inj h
    exact decode_calls a0 hs w
  · simp at h
end Go.Proofs.Ytpofepfkalighaa.Ext
