/- Strings in order and joined; bytes of a literal; small numbers. No condition. -/
import Derived.Test.YtiakfgdgafljnaaGreatK14
import Derived.Test.YtiakfgdgafljnaaGreatK11
import Derived.Sort.Walk0
import Derived.Laws.Strings
import Derived.Laws.Cover1
namespace Go.Proofs.YtiakfgdgafljnaaGreat
namespace Fw
set_option linter.unusedVariables false
set_option linter.unusedSimpArgs false
set_option linter.unusedSectionVars false
open Go.RowKit
/-- is a string ahead of another one? -/
def strLt(a b:ByteArray):Bool:=decide (a.data.toList<b.data.toList)
theorem bl_lt(a b:ByteArray):Op.bytesLess a.toList b.toList=strLt a b:=by
  rw [bytesLess_eq]; unfold strLt
  rw [Lib.toList_data,Lib.toList_data]
section
variable {P:Program} {C:World→Prop} {σ:Env} {o:Oper} {x y:Operand} {t ty:TypeId} {a b:ByteArray}
theorem q_slss(ho:o.op = .binOp .lss t x y ty)(hx:ev σ x = .string a)(hy:ev σ y = .string b):QV P C σ o (.bool (strLt a b)):=
  λw _=>by simp [execOp,ho,hx,hy,eqGuard,binOp,Op.stringOp,bl_lt,Sem.run_pure,Sem.run_bind]
end
/-! ### numbers of two and four bytes -/
@[reducible] def U16 (x:Int):Prop:=0≤x∧x≤65535
/-- a cell of an object that is folded -/
theorem q_ldr{P:Program}{F:Fm}{Γ:Gh}{L:List Rowb}{σ:Env}{o:Oper}{x:Operand}{t e:TypeId}{i g j:Nat}{row:Rowb}{cs:Array Value}{v:Value}(hi:L[i]? = some row)(hm:(g,.cells cs e (0,0))∈row)(ho:o.op = .load t x)(ht:∀w,(isAgg t).run P w = .ok false w)(hx:ev σ x = .pointer (some ⟨g,j,none⟩))(hv:cs[j]? = some v):
    QV P (CC F Γ L) σ o v:=
  λw hw=>by
    simp only [execOp,ho,hx,Sem.run_bind]
    rw [run_loadAt_cell ht ((cell_of_row w g j cs e (0,0) (hw.at_ hi hm)).trans hv)]; rfl
/-! ### the bytes of a literal -/
section
variable {P:Program} {N:Nat} {F:Fm} {Γ:Gh} {L:List Rowb} {σ:Env} {o:Oper} {Q:Exit→Env→World→Prop} {rest:List Oper} {ops:Array Oper}
end
end Fw
end Go.Proofs.YtiakfgdgafljnaaGreat
