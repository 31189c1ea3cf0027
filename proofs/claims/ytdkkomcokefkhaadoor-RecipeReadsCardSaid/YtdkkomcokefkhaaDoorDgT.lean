/- Layer 3: the laid tables. -/
import Derived.Test.YtdkkomcokefkhaaDoorDg
namespace Go.Proofs.YtdkkomcokefkhaaDoor
open Go.RowKit

/-- The table of the turns, as it was laid. -/
def Places (w : World) : Prop := 0 < w.heap.size ∧ ∀ i, i < 4 → w.cell? ⟨0, i, none⟩ = some (.int .i64 (turnAt i))
theorem Places.below {B : Nat} {w w' : World} (h : Places w) (hb : Below B w w') (hB : 0 < B) : Places w' :=
  ⟨by have := hb.size; have := h.1; omega, fun i hi => (hb.cell (p := ⟨0, i, none⟩) hB).trans (h.2 i hi)⟩
end Go.Proofs.YtdkkomcokefkhaaDoor
