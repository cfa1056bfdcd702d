/- Functions that give up: a panic with a value, which a caller recovers. No condition. -/
import Derived.Test.YtogmioecalmalaaGreatK10
namespace Go.Proofs.YtogmioecalmalaaGreat
namespace Fw
set_option linter.unusedVariables false
set_option linter.unusedSimpArgs false
set_option linter.unusedSectionVars false
open Go.RowKit

section
variable {P : Program} {N : FN} {F : Fm} {Γ Δ : Gh} {L U : List Rowb} {C : World → Prop} {Q : Exit → Env → World → Prop} {σ : Env} {w : World} {ops : Array Oper} {o : Oper} {rest : List Oper}
end
end Fw
end Go.Proofs.YtogmioecalmalaaGreat
