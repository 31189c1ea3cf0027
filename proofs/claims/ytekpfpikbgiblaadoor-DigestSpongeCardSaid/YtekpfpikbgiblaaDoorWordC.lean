/- Layer 1: words of bytes, walked: the program's and the document's. -/
import Derived.Test.YtekpfpikbgiblaaDoorInfo
import Derived.Test.YtekpfpikbgiblaaDoorPb
namespace Go.Proofs.YtekpfpikbgiblaaDoor
open Go.RowKit

end Go.Proofs.YtekpfpikbgiblaaDoor
