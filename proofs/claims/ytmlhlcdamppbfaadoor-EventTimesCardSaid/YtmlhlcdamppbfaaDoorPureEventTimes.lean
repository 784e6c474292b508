/- The law EventTimes: all of it is in the walk's own text. No condition. -/
import Derived.Test.YtmlhlcdamppbfaaDoorWalkEventTimes
namespace Go.Proofs.YtmlhlcdamppbfaaDoor.Pure
theorem EventTimes : Xa.transeptlaw05_EventTimes.Pure := trivial
end Go.Proofs.YtmlhlcdamppbfaaDoor.Pure
