/- The closed run awake answers true, whatever else there is. No condition. -/
import Derived.Test.YtogmioecalmalaaGreatV33
namespace Go.Proofs.YtogmioecalmalaaGreat
namespace Fw
set_option linter.unusedVariables false
set_option linter.unusedSimpArgs false
set_option linter.unusedSectionVars false
set_option maxRecDepth 100000
open Go.RowKit
noncomputable section
theorem zO : TB.fs.toL.all (fun q => plF TB q.1 q.2) = true := by kernel_rfl
theorem Af {Γ : Gh} : ExOK Tryz.prog Γ (exT 392 318) := yB Tryz.func392 (by kernel_rfl) (by kernel_rfl) (by kernel_rfl) (by kernel_rfl) Tryz.func318 (by kernel_rfl) (by kernel_rfl) (by kernel_rfl) (by kernel_rfl)
end
end Fw
end Go.Proofs.YtogmioecalmalaaGreat
