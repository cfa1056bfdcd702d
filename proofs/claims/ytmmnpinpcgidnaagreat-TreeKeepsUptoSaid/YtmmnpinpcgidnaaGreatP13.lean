/- The closed run by which the laws of layer 11 are awake. No condition. -/
import Derived.Test.YtmmnpinpcgidnaaGreatP12
namespace Go.Proofs.YtmmnpinpcgidnaaGreat
namespace Fw
theorem awake11 : m_firthlaw11_awake = some true := by decide +kernel
end Fw
end Go.Proofs.YtmmnpinpcgidnaaGreat
