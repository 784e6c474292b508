/- The law EventWrites: all of it is in the walk's own text. No condition. -/
import Derived.Test.YtmlhlcdamppbfaaDoorWalkEventWrites
namespace Go.Proofs.YtmlhlcdamppbfaaDoor.Pure
theorem EventWrites : Xa.transeptlaw05_EventWrites.Pure := trivial
end Go.Proofs.YtmlhlcdamppbfaaDoor.Pure
