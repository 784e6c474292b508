/- There may be so many frames, of so many bytes, and no more. No condition. -/
import Derived.Test.YtojagnoobaleaaaDoorLim
namespace Go.Proofs.YtojagnoobaleaaaDoor.Pure
open Go.RowKit Go.Proofs.YtojagnoobaleaaaDoor.Xp Go.Proofs.YtojagnoobaleaaaDoor.Ext Go.Proofs.YtojagnoobaleaaaDoorW.PrintWords Go.Proofs.YtojagnoobaleaaaDoorW.PrintLast Go.Proofs.YtojagnoobaleaaaDoorW.PrintMore
theorem FrameLimits_walk (a0 a1 : Int) (w : World) (hG : Glob w) (_w0 : (Lit.int .i64 a0).wf = true) (_w1 : (Lit.int .i64 a1).wf = true) :
    Calls Tryd.prog 8 #[.int .i64 a0, .int .i64 a1] w fun e w' => e = .returned (.bool true) ∧ Below w.heap.size w w' := limits_calls a0 a1 w hG
end Go.Proofs.YtojagnoobaleaaaDoor.Pure
