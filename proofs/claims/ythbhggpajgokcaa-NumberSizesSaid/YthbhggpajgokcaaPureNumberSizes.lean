/- The law NumberSizes: all of it is in the walk's own text. No condition. -/
import Derived.Test.YthbhggpajgokcaaSizes
namespace Go.Proofs.Ythbhggpajgokcaa.Pure
theorem NumberSizes : Xa.transeptlaw01_NumberSizes.Pure := trivial
end Go.Proofs.Ythbhggpajgokcaa.Pure
