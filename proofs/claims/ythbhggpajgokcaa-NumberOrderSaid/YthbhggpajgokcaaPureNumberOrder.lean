/- The law NumberOrder: all of it is in the walk's own text. No condition. -/
import Derived.Test.YthbhggpajgokcaaOrder
namespace Go.Proofs.Ythbhggpajgokcaa.Pure
theorem NumberOrder : Xa.transeptlaw01_NumberOrder.Pure := trivial
end Go.Proofs.Ythbhggpajgokcaa.Pure
