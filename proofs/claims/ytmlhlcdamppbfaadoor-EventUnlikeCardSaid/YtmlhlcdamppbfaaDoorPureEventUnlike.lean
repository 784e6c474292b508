/- Unlike events have unlike bytes, and none's are a beginning of another one's: all of it is in the walk's text. No condition. -/
import Derived.Test.YtmlhlcdamppbfaaDoorWalkEventUnlike
namespace Go.Proofs.YtmlhlcdamppbfaaDoor.Pure
theorem EventUnlike : Xa.transeptlaw05_EventUnlike.Pure := trivial
end Go.Proofs.YtmlhlcdamppbfaaDoor.Pure
