/- Merging, out of layer 16. No condition. -/
import Derived.Test.YtckindfllegbgaaGreatG5
namespace Go.Proofs.YtckindfllegbgaaGreat
namespace Fw
namespace Mg
set_option linter.unusedVariables false
set_option linter.unusedSimpArgs false
set_option linter.unusedSectionVars false
end Mg
end Fw
end Go.Proofs.YtckindfllegbgaaGreat
