/- A larger set encodes more. No condition. -/
import Derived.Test.YtpofepfkalighaaXax15
import Derived.Test.YtpofepfkalighaaPct
namespace Go.Proofs.Ytpofepfkalighaa.Pure
open Go.RowKit Go.Proofs.Ytpofepfkalighaa.Xa Go.Proofs.Ytpofepfkalighaa.Ext Go.Proofs.YtpofepfkalighaaW.PrintWords Go.Proofs.YtpofepfkalighaaW.PrintLast
theorem sets_all : ∀ c : Fin 256, transeptlaw06_PercentSets.f 10 (c.val : Int) = some true := by decide +kernel
theorem PercentSets : transeptlaw06_PercentSets.Pure := by
  intro a0 w0
  obtain ⟨h0, h1⟩ := u8_bounds w0
  obtain ⟨n, rfl⟩ := Int.eq_ofNat_of_zero_le h0
  exact ⟨10, sets_all ⟨n, by omega⟩⟩
end Go.Proofs.Ytpofepfkalighaa.Pure
