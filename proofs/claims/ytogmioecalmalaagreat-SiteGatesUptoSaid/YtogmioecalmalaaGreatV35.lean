/- The closed run awake answers true, whatever else there is. No condition. -/
import Derived.Test.YtogmioecalmalaaGreatV34
namespace Go.Proofs.YtogmioecalmalaaGreat
namespace Fw
set_option linter.unusedVariables false
set_option linter.unusedSimpArgs false
set_option linter.unusedSectionVars false
set_option maxRecDepth 100000
open Go.RowKit
noncomputable section
theorem uK : (@Option.rec (AV × Hp × Nat) (fun _ => Option AV) none (fun r => some r.1) (ry TB (exT 392 318) (drP TB (exT 392 318)) 100 10 [] .lf 0)) = some (.v (.bool true)) := by kernel_rfl
theorem tf {Γ : Gh} {w0 : World} (hs : Sat Γ w0) : Calls Tryz.prog 10 #[] w0 fun e w' => e = .returned (.bool true) ∧ Fr no w0 w' := vJ (T := TB) (by kernel_rfl) Af (zb zO) uK hs
end
end Fw
end Go.Proofs.YtogmioecalmalaaGreat
