/- The closed run by which the laws of layer 11 are awake. No condition. -/
import Derived.Test.YtmmnpinpcgidnaaP12
namespace Go.Proofs.Ytmmnpinpcgidnaa
namespace Fw
theorem awake11 : m_firthlaw11_awake = some true := by decide +kernel
end Fw
end Go.Proofs.Ytmmnpinpcgidnaa
