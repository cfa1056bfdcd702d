/- The answers that are fixed. No condition. -/
import Derived.Test.YtlfmppjcgaekhaaGreatM
namespace Go.Proofs.YtlfmppjcgaekhaaGreat
namespace Fw
set_option maxRecDepth 100000 in
theorem wS : dw = some true := by decide +kernel
end Fw
end Go.Proofs.YtlfmppjcgaekhaaGreat
