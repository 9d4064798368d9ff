/- Facts on the type of bytes. Conditions: none. -/
import Derived.Test.YtigedohalangbaaProg
import Derived.Test.YtigedohalangbaaRow
namespace Go.Proofs.Ytigedohalangbaa
theorem inf_u8 : (Try.prog.info? 5).map (fun i => (i.zero, i.size, i.bytes)) = some (some (.int .u8 0), 1, 1) := by kernel_rfl
end Go.Proofs.Ytigedohalangbaa
