/- Layer 7, the document's names and fields of operations, walked. -/
/- Layer 7, the document's instructions, walked. -/
import Derived.Test.YtknonabeagbjeaaGreatDoorIn
import Derived.Test.YtknonabeagbjeaaGreatDoorChecked
import Derived.Test.YtknonabeagbjeaaGreatDoorInC
namespace Go.Proofs.YtknonabeagbjeaaGreatDoor
open Go.RowKit

/-- Which fields an operation has. -/
def partL (a b : Bool) (c : Int) : List UInt8 := (if a then [97] else []) ++ ((if b then [98] else []) ++ (if c = 1 then [99] else if c = 2 then [114] else []))
def partsI (op : Int) : List UInt8 := if isOp op then partL (shA op) (shB op) (shC op) else [63]

end Go.Proofs.YtknonabeagbjeaaGreatDoor
namespace Go.Proofs.YtknonabeagbjeaaGreatDoor
open Go.RowKit

/-- Does a byte stand in a text? -/
def hasB (l : List UInt8) (c : UInt8) : Bool := l.any fun x => decide (x.toNat = c.toNat)
end Go.Proofs.YtknonabeagbjeaaGreatDoor
