/- The order of a partition: what stands behind the sorting, all cases. No condition. -/
import Derived.Test.YtdhenoidmialaaaP3
namespace Go.Proofs.Ytdhenoidmialaaa
namespace Fw
set_option linter.unusedVariables false
set_option linter.unusedSimpArgs false
set_option linter.unusedSectionVars false
theorem tail_4 : ∀ ms ∈ ups 8, tailO (sorted ms) 4 = some ((gt fullO 4).filter (inM ms)) ∨ ms = [] := by decide +kernel
theorem ref_4 : ∀ ms ∈ ups 8, orderG (fstT 4) ms (gt fromT 4) = some ((gt fullO 4).filter (inM ms)) := by decide +kernel
theorem tail_5 : ∀ ms ∈ ups 8, tailO (sorted ms) 5 = some ((gt fullO 5).filter (inM ms)) ∨ ms = [] := by decide +kernel
theorem ref_5 : ∀ ms ∈ ups 8, orderG (fstT 5) ms (gt fromT 5) = some ((gt fullO 5).filter (inM ms)) := by decide +kernel
theorem tail_6 : ∀ ms ∈ ups 8, tailO (sorted ms) 6 = some ((gt fullO 6).filter (inM ms)) ∨ ms = [] := by decide +kernel
theorem ref_6 : ∀ ms ∈ ups 8, orderG (fstT 6) ms (gt fromT 6) = some ((gt fullO 6).filter (inM ms)) := by decide +kernel
theorem tail_7 : ∀ ms ∈ ups 8, tailO (sorted ms) 7 = some ((gt fullO 7).filter (inM ms)) ∨ ms = [] := by decide +kernel
theorem ref_7 : ∀ ms ∈ ups 8, orderG (fstT 7) ms (gt fromT 7) = some ((gt fullO 7).filter (inM ms)) := by decide +kernel
end Fw
end Go.Proofs.Ytdhenoidmialaaa
