/- Layer 1 (word): what the program's functions compute, each walked once. -/
/- Layer 1, the document's answer: the bytes of words, walked. -/
import Derived.Test.YtknonabeagbjeaaGreatDoorChecked
import Derived.Test.YtknonabeagbjeaaGreatDoorInfo
import Derived.Test.YtknonabeagbjeaaGreatDoorPb
namespace Go.Proofs.YtknonabeagbjeaaGreatDoor
open Go.RowKit


end Go.Proofs.YtknonabeagbjeaaGreatDoor
namespace Go.Proofs.YtknonabeagbjeaaGreatDoor
open Go.RowKit

end Go.Proofs.YtknonabeagbjeaaGreatDoor
