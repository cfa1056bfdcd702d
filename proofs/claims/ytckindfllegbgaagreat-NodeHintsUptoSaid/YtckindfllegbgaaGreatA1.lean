/- awake. No condition. -/
import Derived.Test.YtckindfllegbgaaGreatM
namespace Go.Proofs.YtckindfllegbgaaGreat
namespace Fw
theorem e_awake:m_firthlaw15_awake=some true:=by decide +kernel
end Fw
end Go.Proofs.YtckindfllegbgaaGreat
