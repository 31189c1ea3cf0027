/- Closed facts on the rows of this translation's table of types. -/
import Derived.Test.YtneebohaanjejaaDoorChecked
import Derived.Test.YtneebohaanjejaaDoorLib
namespace Go.Proofs.YtneebohaanjejaaDoor
theorem info_u8 : (Tryd.prog.info? 5).map (fun i => (i.zero, i.size, i.bytes)) = some (some (.int .u8 0), 1, 1) := by kernel_rfl
theorem info_u32 : (Tryd.prog.info? 40).map (fun i => (i.zero, i.size, i.bytes)) = some (some (.int .u32 0), 1, 4) := by kernel_rfl
theorem info_int : (Tryd.prog.info? 3).map (fun i => (i.zero, i.size, i.bytes)) = some (some (.int .i64 0), 1, 8) := by kernel_rfl
end Go.Proofs.YtneebohaanjejaaDoor
