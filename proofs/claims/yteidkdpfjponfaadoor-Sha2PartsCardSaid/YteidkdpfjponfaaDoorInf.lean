/- Facts on the type of bytes. Conditions: none. -/
import Derived.Test.YteidkdpfjponfaaDoorProg
import Derived.Test.YteidkdpfjponfaaDoorRow
namespace Go.Proofs.YteidkdpfjponfaaDoor
theorem inf_u8 : (Tryd.prog.info? 5).map (fun i => (i.zero, i.size, i.bytes)) = some (some (.int .u8 0), 1, 1) := by kernel_rfl
end Go.Proofs.YteidkdpfjponfaaDoor
