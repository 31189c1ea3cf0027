/- Closed facts on the rows of this translation's table of types. -/
import Derived.Test.YtknonabeagbjeaaGreatDoorChecked
import Derived.Test.YtknonabeagbjeaaGreatDoorLib
namespace Go.Proofs.YtknonabeagbjeaaGreatDoor
theorem info_u8 : (Tryz.prog.info? 5).map (fun i => (i.zero, i.size, i.bytes)) = some (some (.int .u8 0), 1, 1) := by kernel_rfl
theorem info_u32 : (Tryz.prog.info? 43).map (fun i => (i.zero, i.size, i.bytes)) = some (some (.int .u32 0), 1, 4) := by kernel_rfl
end Go.Proofs.YtknonabeagbjeaaGreatDoor
