/- Layer 2: the laid table of digits; what a digit is worth, walked. -/
import Derived.Test.YtdkkomcokefkhaaDoorHx
import Derived.Test.YtdkkomcokefkhaaDoorInfo
namespace Go.Proofs.YtdkkomcokefkhaaDoor
open Go.RowKit

end Go.Proofs.YtdkkomcokefkhaaDoor
