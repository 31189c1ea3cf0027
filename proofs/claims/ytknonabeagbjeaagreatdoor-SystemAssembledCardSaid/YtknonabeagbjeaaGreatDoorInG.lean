/- Layer 7, the document's 'Right', walked case by case (printed by ing.py). -/
import Derived.Deep.DrawnRows
import Derived.Test.YtknonabeagbjeaaGreatDoorInF
namespace Go.Proofs.YtknonabeagbjeaaGreatDoor
open Go.RowKit

theorem Ib.drew {w W : World} {op a b c : Int} (h : Ib w op a b c W) : Ib w op a b c W.drew := h.below (Below.refl _ W).drew
theorem Ib.held {w W : World} {op a b c : Int} (h : Ib w op a b c W) : W.cell? ⟨w.heap.size, 0, none⟩ = some (.int .i64 op) ∧ W.cell? ⟨w.heap.size, 1, none⟩ = some (.int .i64 a) ∧ W.cell? ⟨w.heap.size, 2, none⟩ = some (.int .i64 b) ∧ W.cell? ⟨w.heap.size, 3, none⟩ = some (.int .i64 c) ∧ Ib w op a b c W := ⟨h.all.1, h.all.2.1, h.all.2.2.1, h.all.2.2.2, h⟩

end Go.Proofs.YtknonabeagbjeaaGreatDoor
