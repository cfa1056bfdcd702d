/- awake. No condition. -/
import Derived.Test.YtgaplodcdhhefaaGreatM
namespace Go.Proofs.YtgaplodcdhhefaaGreat
namespace Fw
theorem AD:fk=some true:=by decide +kernel
end Fw
end Go.Proofs.YtgaplodcdhhefaaGreat
