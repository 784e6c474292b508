/- The law EventFields: all of it is in the walk's own text. No condition. -/
import Derived.Test.YtmlhlcdamppbfaaDoorWalkEventFields
namespace Go.Proofs.YtmlhlcdamppbfaaDoor.Pure
theorem EventFields : Xa.transeptlaw05_EventFields.Pure := trivial
end Go.Proofs.YtmlhlcdamppbfaaDoor.Pure
