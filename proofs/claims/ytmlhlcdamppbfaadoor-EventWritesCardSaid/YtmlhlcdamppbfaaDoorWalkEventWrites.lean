/- The law EventWrites: what its walk asks, out of the plain words on events. No condition. -/
import Derived.Test.YtmlhlcdamppbfaaDoorHwW
import Derived.Test.YtmlhlcdamppbfaaDoorEvR
namespace Go.Proofs.YtmlhlcdamppbfaaDoor.Xa
open Go.RowKit Go.Proofs.YtmlhlcdamppbfaaDoor.Ext Go.Proofs.YtmlhlcdamppbfaaDoor.Pure Go.Proofs.YtmlhlcdamppbfaaDoorW.PrintWords Go.Proofs.YtmlhlcdamppbfaaDoorW.PrintLast Go.Proofs.YtmlhlcdamppbfaaDoorW.PrintMore
set_option linter.unusedVariables false
def transeptlaw05_EventWrites.Pure : Prop := True
theorem transeptlaw05_EventWrites.walk (P : transeptlaw05_EventWrites.Pure) (a0 a1 a2 : Int) (a3 a4 a5 a6 : ByteArray) (a7 a8 a9 : Int) (hu : u64s (a0, a1, a2, a3, a4, a5, a6, a7, a8, a9)) (w : World) (hG : Glob w) :
    Calls Tryd.prog 3 #[.agg #[.int .i64 a0, .int .u64 a1, .int .u64 a2, .string a3, .string a4, .string a5, .string a6, .int .i64 a7, .int .i64 a8, .int .i64 a9]] w fun e w' => e = .returned (.bool true) ∧ Below w.heap.size w w' := by
  have hc : u64s (cutE (a0, a1, a2, a3, a4, a5, a6, a7, a8, a9)) := hu
  exact writes_walk a0 a1 a2 a3 a4 a5 a6 a7 a8 a9 (cutS a3) (cutS a4) (cutS a5) (cutS a6) _ _ _ _ (0 + 60) (cut_calls _ _ _ _ _ _ _ _ _ _) (encode_f _ hc) (ref_encode 0 _ hc) rfl (right_f (cutE (a0, a1, a2, a3, a4, a5, a6, a7, a8, a9))) (ref_right 20 (cutE (a0, a1, a2, a3, a4, a5, a6, a7, a8, a9))) w hG
end Go.Proofs.YtmlhlcdamppbfaaDoor.Xa
