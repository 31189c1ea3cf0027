/- Appending a slice that came in to a row of the call's own. -/
import Derived.Test.YtekpfpikbgiblaaImgM
import Derived.Test.YtekpfpikbgiblaaApp
namespace Go.Proofs.Ytekpfpikbgiblaa
open Go.RowKit

end Go.Proofs.Ytekpfpikbgiblaa
