/- The answers that are fixed. No condition. -/
import Derived.Test.YtangaamigenjjaaGreatM
namespace Go.Proofs.YtangaamigenjjaaGreat
namespace Fw
set_option maxRecDepth 100000 in
theorem wy:ig=some true:=by decide +kernel
end Fw
end Go.Proofs.YtangaamigenjjaaGreat
