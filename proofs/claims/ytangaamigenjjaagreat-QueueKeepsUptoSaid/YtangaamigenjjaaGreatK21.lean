/- Slices cut out of a row of the call's own and put together again in place; tails that are cleared; arrays told by their cells. No condition. -/
import Derived.Test.YtangaamigenjjaaGreatK19
import Derived.Laws.CopyRow
namespace Go.Proofs.YtangaamigenjjaaGreat
namespace Fw
set_option linter.unusedVariables false
set_option linter.unusedSimpArgs false
set_option linter.unusedSectionVars false
open Go.RowKit
theorem xy{β:Type}{L:List β}{i:Nat}{x:β}(h:L[i]? = some x):L.set i x=L:=by
 apply List.ext_getElem?
 intro q
 rw [List.getElem?_set]
 split
 ·rename_i hq; subst hq; split
  ·exact h.symm
  ·rename_i hlt; rw [List.getElem?_eq_none (by omega)]
 ·rfl
section
variable {α:Type} [Inhabited α] {T:Ty α} {P:Program} {N:FN} {C:World→Prop} {Q:Exit→Env→World→Prop} {σ:Env} {o:Oper} {F:Fm} {Γ:Gh} {L:List Rowb} {ops:Array Oper} {rest:List Oper} {e:TypeId} {row:Rowb} {A:Option Addr} {c:Nat} {xs:List α}
end
end Fw
end Go.Proofs.YtangaamigenjjaaGreat
