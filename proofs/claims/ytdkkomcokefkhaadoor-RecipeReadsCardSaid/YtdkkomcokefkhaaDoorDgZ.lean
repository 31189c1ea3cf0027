/- Layer 3's example, walked. -/
import Derived.Test.YtdkkomcokefkhaaDoorDgY
import Derived.Test.YtdkkomcokefkhaaDoorDgU
namespace Go.Proofs.YtdkkomcokefkhaaDoor
open Go.RowKit

section
variable {w W W' : World} {g1 g5 : Nat}
end
def exF : Nat → UInt32 := fun k => UInt32.ofNat (k + 1)
def exD : Nat → UInt32 := fun k => if k = 3 then 255 else UInt32.ofNat (k + 1)
def exText : List UInt8 := [48, 48, 48, 48, 48, 48, 48, 49, 48, 48, 48, 48, 48, 48, 48, 50, 48, 48, 48, 48, 48, 48, 48, 51, 48, 48, 48, 48, 48, 48, 70, 70]
theorem ex_parse : (parseI exText).2.2 = true := by decide +kernel
theorem ex_digest : dgv (deB (parseI exText).1) = #[.int .u32 1, .int .u32 2, .int .u32 3, .int .u32 255] := by
  have h0 : deB (parseI exText).1 0 = 1 := by decide +kernel
  have h1 : deB (parseI exText).1 1 = 2 := by decide +kernel
  have h2 : deB (parseI exText).1 2 = 3 := by decide +kernel
  have h3 : deB (parseI exText).1 3 = 255 := by decide +kernel
  unfold dgv
  rw [h0, h1, h2, h3]
  rfl
theorem ex_text : hexT (beB exD) = [48, 48, 48, 48, 48, 48, 48, 49, 48, 48, 48, 48, 48, 48, 48, 50, 48, 48, 48, 48, 48, 48, 48, 51, 48, 48, 48, 48, 48, 48, 102, 102] := by decide +kernel
theorem ex_mix : stv (mix exF) = #[.int .u32 2423752598, .int .u32 2489644812, .int .u32 755327620, .int .u32 4151819776, .int .u32 2197377647, .int .u32 4195358711, .int .u32 2872994903, .int .u32 3928952227] := by
  have h0 : mix exF 0 = 2423752598 := by decide +kernel
  have h1 : mix exF 1 = 2489644812 := by decide +kernel
  have h2 : mix exF 2 = 755327620 := by decide +kernel
  have h3 : mix exF 3 = 4151819776 := by decide +kernel
  have h4 : mix exF 4 = 2197377647 := by decide +kernel
  have h5 : mix exF 5 = 4195358711 := by decide +kernel
  have h6 : mix exF 6 = 2872994903 := by decide +kernel
  have h7 : mix exF 7 = 3928952227 := by decide +kernel
  unfold stv
  rw [h0, h1, h2, h3, h4, h5, h6, h7]
  rfl
theorem ex_unmix : stv (unmix (mix exF)) = #[.int .u32 1, .int .u32 2, .int .u32 3, .int .u32 4, .int .u32 5, .int .u32 6, .int .u32 7, .int .u32 8] := by
  have h0 : unmix (mix exF) 0 = 1 := by decide +kernel
  have h1 : unmix (mix exF) 1 = 2 := by decide +kernel
  have h2 : unmix (mix exF) 2 = 3 := by decide +kernel
  have h3 : unmix (mix exF) 3 = 4 := by decide +kernel
  have h4 : unmix (mix exF) 4 = 5 := by decide +kernel
  have h5 : unmix (mix exF) 5 = 6 := by decide +kernel
  have h6 : unmix (mix exF) 6 = 7 := by decide +kernel
  have h7 : unmix (mix exF) 7 = 8 := by decide +kernel
  unfold stv
  rw [h0, h1, h2, h3, h4, h5, h6, h7]
  rfl

theorem exD_vals : dgv exD = #[.int .u32 1, .int .u32 2, .int .u32 3, .int .u32 255] := by rfl
theorem exF_vals : stv exF = #[.int .u32 1, .int .u32 2, .int .u32 3, .int .u32 4, .int .u32 5, .int .u32 6, .int .u32 7, .int .u32 8] := by rfl
theorem ex_Mix (W : World) (hP : Places W) : Calls Tryd.prog 39 #[.agg #[.int .u32 1, .int .u32 2, .int .u32 3, .int .u32 4, .int .u32 5, .int .u32 6, .int .u32 7, .int .u32 8]] W fun e W' => e = .returned (.agg #[.int .u32 2423752598, .int .u32 2489644812, .int .u32 755327620, .int .u32 4151819776, .int .u32 2197377647, .int .u32 4195358711, .int .u32 2872994903, .int .u32 3928952227]) ∧ Below W.heap.size W W' := by
  rw [← exF_vals, ← ex_mix]
  exact digest_Mix exF W hP
end Go.Proofs.YtdkkomcokefkhaaDoor
