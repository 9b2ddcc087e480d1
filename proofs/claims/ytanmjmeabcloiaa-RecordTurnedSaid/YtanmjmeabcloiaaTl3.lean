/- The two lists: Victim. -/
import Derived.Test.YtanmjmeabcloiaaTl2
namespace Go.Proofs.Ytanmjmeabcloiaa
open Go.RowKit
open Go.Proofs

end Go.Proofs.Ytanmjmeabcloiaa
