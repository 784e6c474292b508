/- The law EventBack: all of it is in the walk's own text. No condition. -/
import Derived.Test.YtmlhlcdamppbfaaDoorWalkEventBack
namespace Go.Proofs.YtmlhlcdamppbfaaDoor.Pure
theorem EventBack : Xa.transeptlaw05_EventBack.Pure := trivial
end Go.Proofs.YtmlhlcdamppbfaaDoor.Pure
