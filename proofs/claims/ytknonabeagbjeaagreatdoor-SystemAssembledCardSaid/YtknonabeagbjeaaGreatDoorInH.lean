/- Layer 7, the document's 'Right', 'Encode', 'Decode', walked. -/
import Derived.Test.YtknonabeagbjeaaGreatDoorInG
namespace Go.Proofs.YtknonabeagbjeaaGreatDoor
open Go.RowKit

theorem part_has (A B : Bool) (C : Int) (hC : C = 0 ∨ C = 1 ∨ C = 2) : hasB (partL A B C) 97 = A ∧ hasB (partL A B C) 98 = B ∧ hasB (partL A B C) 99 = decide (C = 1) ∧ hasB (partL A B C) 114 = decide (C = 2) ∧ partL A B C ≠ [63] ∧ (partL A B C).length ≤ 3 := by
  rcases hC with rfl | rfl | rfl <;> cases A <;> cases B <;> decide

end Go.Proofs.YtknonabeagbjeaaGreatDoor
