/- The plain law RingParts: the program's hash is the document's. No condition. -/
import Derived.Test.YtckindfllegbgaaGreatPJ1
namespace Go.Proofs.YtckindfllegbgaaGreat
namespace Fw
set_option linter.unusedVariables false
set_option linter.unusedSimpArgs false
set_option linter.unusedSectionVars false

end Fw
end Go.Proofs.YtckindfllegbgaaGreat
