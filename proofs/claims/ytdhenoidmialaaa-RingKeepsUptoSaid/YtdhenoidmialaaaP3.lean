/- The order of a partition: what stands behind the sorting, all cases. No condition. -/
import Derived.Test.YtdhenoidmialaaaP2
namespace Go.Proofs.Ytdhenoidmialaaa
namespace Fw
set_option linter.unusedVariables false
set_option linter.unusedSimpArgs false
set_option linter.unusedSectionVars false
theorem tail_0 : ∀ ms ∈ ups 8, tailO (sorted ms) 0 = some ((gt fullO 0).filter (inM ms)) ∨ ms = [] := by decide +kernel
theorem ref_0 : ∀ ms ∈ ups 8, orderG (fstT 0) ms (gt fromT 0) = some ((gt fullO 0).filter (inM ms)) := by decide +kernel
theorem tail_1 : ∀ ms ∈ ups 8, tailO (sorted ms) 1 = some ((gt fullO 1).filter (inM ms)) ∨ ms = [] := by decide +kernel
theorem ref_1 : ∀ ms ∈ ups 8, orderG (fstT 1) ms (gt fromT 1) = some ((gt fullO 1).filter (inM ms)) := by decide +kernel
theorem tail_2 : ∀ ms ∈ ups 8, tailO (sorted ms) 2 = some ((gt fullO 2).filter (inM ms)) ∨ ms = [] := by decide +kernel
theorem ref_2 : ∀ ms ∈ ups 8, orderG (fstT 2) ms (gt fromT 2) = some ((gt fullO 2).filter (inM ms)) := by decide +kernel
theorem tail_3 : ∀ ms ∈ ups 8, tailO (sorted ms) 3 = some ((gt fullO 3).filter (inM ms)) ∨ ms = [] := by decide +kernel
theorem ref_3 : ∀ ms ∈ ups 8, orderG (fstT 3) ms (gt fromT 3) = some ((gt fullO 3).filter (inM ms)) := by decide +kernel
end Fw
end Go.Proofs.Ytdhenoidmialaaa
