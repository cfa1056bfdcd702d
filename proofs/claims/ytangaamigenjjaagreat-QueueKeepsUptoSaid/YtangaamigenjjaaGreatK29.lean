/- Calls that are told of the world in which they are made: for objects whose inner data are lent. No condition. -/
import Derived.Test.YtangaamigenjjaaGreatK27
import Derived.Test.YtangaamigenjjaaGreatK26
import Derived.Test.YtangaamigenjjaaGreatK25
namespace Go.Proofs.YtangaamigenjjaaGreat
namespace Fw
set_option linter.unusedVariables false
set_option linter.unusedSimpArgs false
set_option linter.unusedSectionVars false
open Go.RowKit
section
variable {P:Program} {N:FN} {F:Fm} {Γ Δ Bo:Gh} {L U:List Rowb} {C:World→Prop} {Q:Exit→Env→World→Prop} {σ:Env} {w:World} {ops:Array Oper} {o:Oper} {rest:List Oper}
theorem Lent.pre{is:List Nat}(hL:Lent F Bo)(hw:Cur F Γ L w)(hi:okp is L.length=true):Pre (pkU is L) Bo w:=
 ⟨hL.sat hw,(hw.only hi).loc,hL.sep (hw.only hi),(hw.only hi).nodup⟩
end
end Fw
end Go.Proofs.YtangaamigenjjaaGreat
