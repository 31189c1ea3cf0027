/- Closed facts on the rows of this translation's table of types. -/
import Derived.Test.YtepgnnlihnajeaaChecked
import Derived.Test.YtepgnnlihnajeaaLib
namespace Go.Proofs.Ytepgnnlihnajeaa
theorem info_u8 : (Try.prog.info? 5).map (fun i => (i.zero, i.size, i.bytes)) = some (some (.int .u8 0), 1, 1) := by kernel_rfl
theorem info_u32 : (Try.prog.info? 43).map (fun i => (i.zero, i.size, i.bytes)) = some (some (.int .u32 0), 1, 4) := by kernel_rfl
theorem info_int : (Try.prog.info? 3).map (fun i => (i.zero, i.size, i.bytes)) = some (some (.int .i64 0), 1, 8) := by kernel_rfl
end Go.Proofs.Ytepgnnlihnajeaa
