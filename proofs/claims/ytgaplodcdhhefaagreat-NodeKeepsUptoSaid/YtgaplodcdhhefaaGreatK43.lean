/- Calls that are walked in place, loops that are walked round by round, maps of pointers. No condition. -/
import Derived.Test.YtgaplodcdhhefaaGreatK10
import Derived.Test.YtgaplodcdhhefaaGreatK6
import Derived.Test.YtgaplodcdhhefaaGreatK5
namespace Go.Proofs.YtgaplodcdhhefaaGreat
namespace Fw
set_option linter.unusedVariables false
set_option linter.unusedSimpArgs false
set_option linter.unusedSectionVars false
open Go.RowKit
section
variable {P:Program} {N N':FN} {C:World→Prop} {Q:Exit→Env→World→Prop} {σ σ':Env} {o:Oper} {ops:Array Oper} {rest:List Oper} {d:Option Nat} {R:Ending→World→Prop}
def inlQ(P:Program)(N:FN)(ops:Array Oper)(Q:Exit→Env→World→Prop)(rest:List Oper)(σ:Env)(d:Option Nat):Ending→World→Prop:=λe w' => ∃v,e = .returned v∧WRp P N ops Q rest (updo σ d v) w'
theorem x3{n:Nat}{f:FuncId}{fn:Func}{c:Code}{args:List Value}{rs:List Nat}(hg:o.guard=none)(hd:bR N o.dst=true)(hr:∀w,(execOp (ev σ) o).run P w = .ok (.enter f args.toArray) w)
  (hf:P.funcs[f]? = some fn) (hb:fn.body=some c) (hn:fn.ntmps=n) (hrs:fn.results=(rs.map ResultVar.tmp).toArray) (ha:Nat.ble args.length n=true)
  (k:∀R,R=inlQ P N ops Q rest σ o.dst→WC P ⟨n,[]⟩ C c (fq rs R) (env0 args)):WR P N ops C Q (o::rest) σ:=
 WR.call hg hd hr λw hw=>sy hf hb hn hrs ha (k _ rfl w hw)
theorem uh{n:Nat}{f:FuncId}{fn:Func}{c:Code}{args:List Value}{rs:List ResultVar}(hg:o.guard=none)(hd:bR N o.dst=true)(hr:∀w,(execOp (ev σ) o).run P w = .ok (.enter f args.toArray) w)
  (hf:P.funcs[f]? = some fn) (hb:fn.body=some c) (hn:fn.ntmps=n) (hrs:fn.results=rs.toArray) (ha:Nat.ble args.length n=true)
  (k:∀R,R=inlQ P N ops Q rest σ o.dst→WC P ⟨n,[]⟩ C c (fqr P rs R) (env0 args)):WR P N ops C Q (o::rest) σ:=
 WR.call hg hd hr λw hw=>cH hf hb hn hrs ha (k _ rfl w hw)
theorem q7{v:Value}(hR:R=inlQ P N ops Q rest σ d)(h:WR P N ops C Q rest (updo σ d v) ):∀w,C w→R (.returned v) w:=by
 subst hR; exact λw hw=>⟨_,rfl,h w hw⟩
theorem ri{rs:List ResultVar}{vs:List Value}(hR:R=inlQ P N ops Q rest σ d)(hv:∀w,C w→gY P σ' w rs vs)(h:WR P N ops C Q rest (updo σ d (retW vs))):∀w,C w→∃vs,gY P σ' w rs vs∧R (.returned (retW vs)) w:=by
 subst hR; exact λw hw=>⟨vs,hv w hw,_,rfl,h w hw⟩
theorem Aft.slots{X:Env→World→Prop}{σ:Env}{w:World}{l:List (Nat×Value)}(h:slots σ l)(k:X (upds σ l) w):X σ w:=by rw [pT h] at k; exact k
theorem Aft.here{X:World→Prop}{C:World→Prop}{w:World}(h:∀w,C w→X w)(hw:C w):X w:=h w hw
def UL(P:Program)(N:FN)(body:Code)(Q:Exit→Env→World→Prop):Nat→Env→World→Prop
 | 0=>λ_ _=>False
 | n+1=>λσ w=>Wpt P N body (jq (UL P N body Q n) Q) σ w
theorem WU.step{body:Code}{n:Nat}(h:WC P N C body (jq (UL P N body Q n) Q) σ):∀w,C w→UL P N body Q (n+1) σ w:=h
end
section
variable {Γ:Gh} {A:Option Addr} {e:TypeId} {row:Rowb} {c i:Nat} {xs:List (Option Nat)}
end
section
variable {P:Program} {N:FN} {F:Fm} {Γ:Gh} {L:List Rowb} {Q:Exit→Env→World→Prop} {σ:Env} {o:Oper} {ops:Array Oper} {rest:List Oper} {t:TypeId} {d:Nat}
end
theorem zW{P:Program}{C:World→Prop}{σ:Env}{o:Oper}{a b:Bool}(h:a=b)(hv:QO P C σ o (.bool a)):QO P C σ o (.bool b):=h▸hv
end Fw
end Go.Proofs.YtgaplodcdhhefaaGreat
