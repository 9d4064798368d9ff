/- What comes in as 32-bit words. Conditions: none. -/
import Derived.Test.YteidkdpfjponfaaDoorBits2
import Derived.ProofKit
namespace Go.Proofs.YteidkdpfjponfaaDoor
theorem Ww_of_wf {l : List Int} (h : ∀ x ∈ l, (Lit.int .u32 x).wf = true) : Ww l := fun x hx => by
  have := h x hx
  simp [Lit.wf, IntKind.min, IntKind.max, IntKind.bits, IntKind.signed] at this
  exact ⟨by omega, by omega⟩
end Go.Proofs.YteidkdpfjponfaaDoor
