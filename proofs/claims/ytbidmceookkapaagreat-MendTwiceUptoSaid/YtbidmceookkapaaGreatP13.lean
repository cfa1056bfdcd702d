/- The closed run by which the laws of layer 14 are awake. No condition. -/
import Derived.Test.YtbidmceookkapaaGreatP12
namespace Go.Proofs.YtbidmceookkapaaGreat
namespace Fw
theorem awake14 : m_firthlaw14_awake = some true := by decide +kernel
end Fw
end Go.Proofs.YtbidmceookkapaaGreat
