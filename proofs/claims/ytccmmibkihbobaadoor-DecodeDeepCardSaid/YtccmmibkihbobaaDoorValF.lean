/- What SameValue, SameValues and ref Equal compute. No condition. -/
import Derived.Test.YtccmmibkihbobaaDoorValE
import Derived.StillTailTactics
namespace Go.Proofs.YtccmmibkihbobaaDoor
open Go.ChangeShapes Go.WideShapes Go.ChangeAt Go.RowKit
end Go.Proofs.YtccmmibkihbobaaDoor
