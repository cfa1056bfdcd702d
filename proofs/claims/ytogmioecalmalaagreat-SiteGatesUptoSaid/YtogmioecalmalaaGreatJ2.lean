/- Closed facts of the row, each reckoned by itself. No condition. -/
import Derived.Test.YtogmioecalmalaaGreatJ1
import Derived.Test.YtogmioecalmalaaGreatChecked
namespace Go.Proofs.YtogmioecalmalaaGreat
namespace Fw
set_option linter.unusedVariables false
set_option linter.unusedSimpArgs false
set_option linter.unusedSectionVars false
set_option maxRecDepth 100000
open Go.RowKit Go.ChangeShapes
theorem jf10 : (Rows.siteGatesUptoRow.unfollowed == Tryz.pinned.checked.prog.unfollowed 5) = true := by kernel_rfl
theorem jf11 : (Rows.siteGatesUptoRow.recurses == Tryz.pinned.checked.prog.recurses 5) = true := by kernel_rfl
end Fw
end Go.Proofs.YtogmioecalmalaaGreat
