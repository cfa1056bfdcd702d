/- Merging, out of layer 16. No condition. -/
import Derived.Test.YtckindfllegbgaaGreatG2
namespace Go.Proofs.YtckindfllegbgaaGreat
namespace Fw
namespace Mg
set_option linter.unusedVariables false
set_option linter.unusedSimpArgs false
set_option linter.unusedSectionVars false
def kept (A B : List Ver) (y : Ver) : Bool := !(r5Behind A y.dot) && !(r5Behind B y.dot)
end Mg
end Fw
end Go.Proofs.YtckindfllegbgaaGreat
