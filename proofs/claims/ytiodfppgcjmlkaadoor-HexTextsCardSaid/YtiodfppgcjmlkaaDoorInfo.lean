/- Closed facts on the rows of this translation's table of types. -/
import Derived.Test.YtiodfppgcjmlkaaDoorChecked
import Derived.Test.YtiodfppgcjmlkaaDoorLib
namespace Go.Proofs.YtiodfppgcjmlkaaDoor
theorem info_u8 : (Tryd.prog.info? 5).map (fun i => (i.zero, i.size, i.bytes)) = some (some (.int .u8 0), 1, 1) := by kernel_rfl
end Go.Proofs.YtiodfppgcjmlkaaDoor
