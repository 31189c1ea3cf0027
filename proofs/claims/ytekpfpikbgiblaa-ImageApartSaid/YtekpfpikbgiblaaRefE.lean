/- Layer 1, the document's answer: the bytes of words, walked. -/
import Derived.Test.YtekpfpikbgiblaaInfo
import Derived.Test.YtekpfpikbgiblaaPb
namespace Go.Proofs.Ytekpfpikbgiblaa
open Go.RowKit

end Go.Proofs.Ytekpfpikbgiblaa
