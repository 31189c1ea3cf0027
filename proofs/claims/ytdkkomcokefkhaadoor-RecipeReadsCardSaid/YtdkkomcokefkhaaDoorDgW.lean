/- Layer 3: what the laws' own texts share: boxes of states, and the tables, through calls. -/
import Derived.Test.YtdkkomcokefkhaaDoorDgE
import Derived.Test.YtdkkomcokefkhaaDoorDgZ
import Derived.Test.YtdkkomcokefkhaaDoorDgV
namespace Go.Proofs.YtdkkomcokefkhaaDoor
open Go.RowKit

theorem mixL (f : Nat → UInt32) (W : World) (hP : Places W) : Calls Tryd.prog 39 #[.agg #[.int .u32 (f 0).toNat, .int .u32 (f 1).toNat, .int .u32 (f 2).toNat, .int .u32 (f 3).toNat, .int .u32 (f 4).toNat, .int .u32 (f 5).toNat, .int .u32 (f 6).toNat, .int .u32 (f 7).toNat]] W fun e W' => e = .returned (.agg (stv (mix f))) ∧ Below W.heap.size W W' := digest_Mix f W hP
theorem refMixL (f : Nat → UInt32) (W : World) : Calls Tryd.prog 40 #[.agg #[.int .u32 (f 0).toNat, .int .u32 (f 1).toNat, .int .u32 (f 2).toNat, .int .u32 (f 3).toNat, .int .u32 (f 4).toNat, .int .u32 (f 5).toNat, .int .u32 (f 6).toNat, .int .u32 (f 7).toNat]] W fun e W' => e = .returned (.agg (stv (mix f))) ∧ Below W.heap.size W W' := ref_Mix f W
end Go.Proofs.YtdkkomcokefkhaaDoor
