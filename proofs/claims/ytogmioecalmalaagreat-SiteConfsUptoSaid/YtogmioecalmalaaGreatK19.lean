/- More effects: a string appended to bytes, a part of an element stored, arrays as rows: loaded whole, sliced, copied into. No condition. -/
import Derived.Test.YtogmioecalmalaaGreatK14
import Derived.Lib.AppendStr
import Derived.Laws.CopyRow
import Derived.Laws.IdiomCopy
namespace Go.Proofs.YtogmioecalmalaaGreat
namespace Fw
set_option linter.unusedVariables false
set_option linter.unusedSimpArgs false
set_option linter.unusedSectionVars false
open Go.RowKit

section
variable {P : Program} {N : FN} {Q : Exit → Env → World → Prop} {σ : Env} {o : Oper} {F : Fm} {Γ Δ : Gh} {L : List Rowb} {ops : Array Oper} {rest : List Oper}
section
variable {α : Type} [Inhabited α] {T : Ty α} {row : Rowb} {e : TypeId} {A : Option Addr} {c : Nat} {xs : List α}
end
end
end Fw
end Go.Proofs.YtogmioecalmalaaGreat
