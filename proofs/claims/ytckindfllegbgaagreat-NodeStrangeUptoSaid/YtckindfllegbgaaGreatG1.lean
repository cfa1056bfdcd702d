/- Merging, out of layer 16. No condition. -/
import Derived.Test.YtckindfllegbgaaGreatA1
namespace Go.Proofs.YtckindfllegbgaaGreat
namespace Fw
namespace Mg
set_option linter.unusedVariables false
set_option linter.unusedSimpArgs false
set_option linter.unusedSectionVars false
def r3Has : List Span → Dot → Bool
  | [], _ => false
  | x :: l, d => ((x.s == d.s) && decide (x.f ≤ d.n)) && decide (d.n ≤ x.t) || r3Has l d
def r5Behind : List Ver → Dot → Bool
  | [], _ => false
  | v :: l, d => r3Has v.past d || r5Behind l d
end Mg
end Fw
end Go.Proofs.YtckindfllegbgaaGreat
