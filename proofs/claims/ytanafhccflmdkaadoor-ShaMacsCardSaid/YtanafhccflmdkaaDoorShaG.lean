/- Bytes that are well formed. -/
import Derived.Test.YtanafhccflmdkaaDoorShaF
namespace Go.Proofs.YtanafhccflmdkaaDoor.Ext
open Go.RowKit
theorem bytes_wf {l : List Int} (h : ∀ x ∈ l, (Lit.int .u8 x).wf = true) : Bytes l := fun x hx => by
  have h2 := h x hx
  simp [Lit.wf, IntKind.min, IntKind.max, IntKind.bits, IntKind.signed] at h2; omega
end Go.Proofs.YtanafhccflmdkaaDoor.Ext
