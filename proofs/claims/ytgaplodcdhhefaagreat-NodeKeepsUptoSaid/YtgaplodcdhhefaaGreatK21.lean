/- Slices cut out of a row of the call's own and put together again in place; tails that are cleared; arrays told by their cells. No condition. -/
import Derived.Test.YtgaplodcdhhefaaGreatK19
import Derived.Laws.CopyRow
namespace Go.Proofs.YtgaplodcdhhefaaGreat
namespace Fw
set_option linter.unusedVariables false
set_option linter.unusedSimpArgs false
set_option linter.unusedSectionVars false
open Go.RowKit
section
variable {α:Type} [Inhabited α] {T:Ty α} {P:Program} {N:FN} {C:World→Prop} {Q:Exit→Env→World→Prop} {σ:Env} {o:Oper} {F:Fm} {Γ:Gh} {L:List Rowb} {ops:Array Oper} {rest:List Oper} {e:TypeId} {row:Rowb} {A:Option Addr} {c:Nat} {xs:List α}
end
end Fw
end Go.Proofs.YtgaplodcdhhefaaGreat
