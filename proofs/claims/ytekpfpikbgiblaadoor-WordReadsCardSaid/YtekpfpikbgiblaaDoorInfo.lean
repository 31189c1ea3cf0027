/- Closed facts on the rows of this translation's table of types. -/
import Derived.Test.YtekpfpikbgiblaaDoorChecked
import Derived.Test.YtekpfpikbgiblaaDoorLib
namespace Go.Proofs.YtekpfpikbgiblaaDoor
theorem info_u8 : (Tryd.prog.info? 5).map (fun i => (i.zero, i.size, i.bytes)) = some (some (.int .u8 0), 1, 1) := by kernel_rfl
theorem info_u32 : (Tryd.prog.info? 23).map (fun i => (i.zero, i.size, i.bytes)) = some (some (.int .u32 0), 1, 4) := by kernel_rfl
end Go.Proofs.YtekpfpikbgiblaaDoor
