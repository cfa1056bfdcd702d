/- Strings in order and joined; bytes of a literal; small numbers. No condition. -/
import Derived.Test.YtgaplodcdhhefaaGreatK14
import Derived.Test.YtgaplodcdhhefaaGreatK11
import Derived.Sort.Walk0
import Derived.Laws.Strings
import Derived.Laws.Cover1
namespace Go.Proofs.YtgaplodcdhhefaaGreat
namespace Fw
set_option linter.unusedVariables false
set_option linter.unusedSimpArgs false
set_option linter.unusedSectionVars false
open Go.RowKit
section
variable {P:Program} {C:World→Prop} {σ:Env} {o:Oper} {x y:Operand} {t ty:TypeId} {a b:ByteArray}
theorem og(ho:o.op = .binOp .add t x y ty)(hx:ev σ x = .string a)(hy:ev σ y = .string b)(ha:a.size≤lim)(hb:b.size≤lim):QV P C σ o (.string (a++b)):=
 λw _=>by
  have h1:lim=2147483648:=aK
  have h:((a.size+b.size:Nat):Int)≤9223372036854775807:=by omega
  have h2:IntKind.i64.max=9223372036854775807:=by decide
  simp only [execOp,ho,hx,hy,eqGuard,binOp,Op.stringOp,h2,Int.not_lt.2 h,if_false,E4,E3,gt_iff_lt,Bool.not_false,if_true,Result.andThen_ok,bne_self_eq_false]
  try rfl
end
@[reducible] def U16 (x:Int):Prop:=0≤x∧x≤65535
section
variable {P:Program} {N:FN} {F:Fm} {Γ:Gh} {L:List Rowb} {σ:Env} {o:Oper} {Q:Exit→Env→World→Prop} {rest:List Oper} {ops:Array Oper}
end
end Fw
end Go.Proofs.YtgaplodcdhhefaaGreat
