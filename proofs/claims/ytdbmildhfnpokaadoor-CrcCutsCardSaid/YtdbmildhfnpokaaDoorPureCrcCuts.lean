/- Cut anywhere it is the same sum. No condition. The maths is in the walk's own text. -/
import Derived.Test.YtdbmildhfnpokaaDoorCuts
namespace Go.Proofs.YtdbmildhfnpokaaDoor.Pure
open Go.RowKit Go.Proofs.YtdbmildhfnpokaaDoor.Xa Go.Proofs.YtdbmildhfnpokaaDoor.Ext
theorem CrcCuts : transeptlaw02_CrcCuts.Pure := by
  intro l0 a1 a2 _ _ hw _ _
  unfold transeptlaw02_CrcCuts.f
  rw [if_pos]
  simp only [List.all_eq_true, Bool.and_eq_true, decide_eq_true_eq]
  exact bytes_wf hw
end Go.Proofs.YtdbmildhfnpokaaDoor.Pure
