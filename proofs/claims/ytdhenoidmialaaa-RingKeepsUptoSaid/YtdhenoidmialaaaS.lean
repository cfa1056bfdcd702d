/- The shelf's laws of slices.SortFunc, at this program. No condition. -/
import Derived.Test.YtdhenoidmialaaaE
import Derived.Test.YtdhenoidmialaaaK13
import Derived.Ground.SlsfProg
import Derived.Shelf.Lay
namespace Go.Proofs.Ytdhenoidmialaaa
namespace Fw
open Go.Shelf Go.RowKit
shelf_lay_g SlLaysF0.n6 Slsf 6 at Try 31 as sort31
end Fw
end Go.Proofs.Ytdhenoidmialaaa
