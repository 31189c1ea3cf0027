/- Layer 2: the laid table of digits; what a digit is worth, walked. -/
import Derived.Test.YtepgnnlihnajeaaHx
import Derived.Test.YtepgnnlihnajeaaInfo
namespace Go.Proofs.Ytepgnnlihnajeaa
open Go.RowKit

end Go.Proofs.Ytepgnnlihnajeaa
