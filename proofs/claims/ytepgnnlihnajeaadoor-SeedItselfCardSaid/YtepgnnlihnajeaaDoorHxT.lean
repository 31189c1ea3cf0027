/- Layer 2: the laid table of digits; what a digit is worth, walked. -/
import Derived.Test.YtepgnnlihnajeaaDoorHx
import Derived.Test.YtepgnnlihnajeaaDoorInfo
namespace Go.Proofs.YtepgnnlihnajeaaDoor
open Go.RowKit

/-- The table of the small digits, as it was laid. -/
def Small (w : World) : Prop := 0 < w.heap.size ∧ ∀ i, i < 16 → w.cell? ⟨0, i, none⟩ = some (.int .u8 (smallN i : Nat))
theorem Small.below {B : Nat} {w w' : World} (h : Small w) (hb : Below B w w') (hB : 0 < B) : Small w' :=
  ⟨by have := hb.size; have := h.1; omega, fun i hi => (hb.cell (p := ⟨0, i, none⟩) hB).trans (h.2 i hi)⟩

end Go.Proofs.YtepgnnlihnajeaaDoor
