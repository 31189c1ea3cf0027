/- Layer 3: a digest's text, and its reading, walked. -/
import Derived.Test.YtdkkomcokefkhaaDoorDgQ
import Derived.Test.YtdkkomcokefkhaaDoorHxB
import Derived.Test.YtdkkomcokefkhaaDoorDgT
namespace Go.Proofs.YtdkkomcokefkhaaDoor
open Go.RowKit

end Go.Proofs.YtdkkomcokefkhaaDoor
