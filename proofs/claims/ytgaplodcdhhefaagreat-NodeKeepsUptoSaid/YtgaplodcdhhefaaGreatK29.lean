/- Calls that are told of the world in which they are made: for objects whose inner data are lent. No condition. -/
import Derived.Test.YtgaplodcdhhefaaGreatK27
import Derived.Test.YtgaplodcdhhefaaGreatK26
import Derived.Test.YtgaplodcdhhefaaGreatK25
namespace Go.Proofs.YtgaplodcdhhefaaGreat
namespace Fw
set_option linter.unusedVariables false
set_option linter.unusedSimpArgs false
set_option linter.unusedSectionVars false
open Go.RowKit
section
variable {P:Program} {N:FN} {F:Fm} {Γ Δ Bo:Gh} {L U:List Rowb} {C:World→Prop} {Q:Exit→Env→World→Prop} {σ:Env} {w:World} {ops:Array Oper} {o:Oper} {rest:List Oper}
theorem Lent.pre{is:List Nat}(hL:Lent F Bo)(hw:Cur F Γ L w)(hi:okp is L.length=true):Pre (pkU is L) Bo w:=
 ⟨hL.sat hw,(hw.only hi).loc,hL.sep (hw.only hi),(hw.only hi).nodup⟩
theorem cw{is:List Nat}{f:FuncId}{args:Array Value}{Res:List Rowb→Gh→Value→Prop}(hg:o.guard=none)(hd:bR N o.dst=true)(hr:∀w,(execOp (ev σ) o).run P w = .ok (.enter f args) w)(hi:okp is L.length=true)
  (h:∀w,Cur F Γ L w→Pre (pkU is L) Γ w→Calls P f args w (Outc Γ (pkU is L) w Res))
  (k:∀Δ U' v,Γ.le Δ→Res U' Δ v→WR P N ops (CC F Δ (U'++pkR is L)) Q rest (updo σ o.dst v)):WR P N ops (CC F Γ L) Q (o::rest) σ:=by
 refine WR.call hg hd hr λw hw=>?_
 have hp:=hw.pick hi
 refine(h w hw (hw.only hi).pre).mono ?_
 rintro e w' ⟨v,rfl,Δ,U',he,hres⟩
 exact⟨v,rfl,k Δ U' v he.le hres w' (hp.eff he)⟩
theorem cK{is:List Nat}{f:FuncId}{args:Array Value}{ch:List PanicEntry}(hg:o.guard=none)(hr:∀w,(execOp (ev σ) o).run P w = .ok (.enter f args) w)(hi:okp is L.length=true)
  (h:∀w,Cur F Γ L w→Pre (pkU is L) Γ w→Calls P f args w λe w'=>e = .panicked ch∧∃Δ,Eff Γ Δ (pkU is L) [] w w')
  (k:∀Δ,Γ.le Δ→∀w,Cur F Δ (pkR is L) w→Q (.panic ch) σ w):WR P N ops (CC F Γ L) Q (o::rest) σ:=by
 refine WR.e hg λw hw a ha K hK=>?_
 unfold Oper.wp
 rw [ha.eval,hr w]
 have hp:=hw.pick hi
 refine(h w hw (hw.only hi).pre).mono ?_
 rintro e w' ⟨rfl,Δ,he⟩
 exact⟨σ,ha,k Δ he.le w' (by simpa using hp.eff he)⟩
end
end Fw
end Go.Proofs.YtgaplodcdhhefaaGreat
