/- Layer 1, the document's answer: the bytes of words, walked. -/
import Derived.Test.YtepgnnlihnajeaaDoorInfo
import Derived.Test.YtepgnnlihnajeaaDoorPb
namespace Go.Proofs.YtepgnnlihnajeaaDoor
open Go.RowKit

end Go.Proofs.YtepgnnlihnajeaaDoor
