/- Functions that give up: a panic with a value, which a caller recovers. No condition. -/
import Derived.Test.YtgaplodcdhhefaaGreatK10
namespace Go.Proofs.YtgaplodcdhhefaaGreat
namespace Fw
set_option linter.unusedVariables false
set_option linter.unusedSimpArgs false
set_option linter.unusedSectionVars false
open Go.RowKit
def jK{α:Type}(ch:List PanicEntry)(Γ:Gh)(U:List Rowb)(w:World)(Res:α→List Rowb→Gh→Value→Prop):Option α→Ending→World→Prop
 | some r=>Outc Γ U w (Res r)
 | none=>λe w'=>e = .panicked ch∧∃Δ,Eff Γ Δ U [] w w'
section
variable {P:Program} {N:FN} {F:Fm} {Γ Δ:Gh} {L U:List Rowb} {C:World→Prop} {Q:Exit→Env→World→Prop} {σ:Env} {w:World} {ops:Array Oper} {o:Oper} {rest:List Oper}
theorem dY{is:List Nat}{f:FuncId}{args:Array Value}{ch:List PanicEntry}(hg:o.guard=none)(hr:∀w,(execOp (ev σ) o).run P w = .ok (.enter f args) w)(hi:okp is L.length=true)
  (h:∀w,Pre (pkU is L) Γ w→Calls P f args w λe w'=>e = .panicked ch∧∃Δ,Eff Γ Δ (pkU is L) [] w w')
  (k:∀Δ,Γ.le Δ→∀w,Cur F Δ (pkR is L) w→Q (.panic ch) σ w):WR P N ops (CC F Γ L) Q (o::rest) σ:=by
 refine WR.e hg λw hw a ha K hK=>?_
 unfold Oper.wp
 rw [ha.eval,hr w]
 have hp:=hw.pick hi
 refine(h w (hw.only hi).pre).mono ?_
 rintro e w' ⟨rfl,Δ,he⟩
 exact⟨σ,ha,k Δ he.le w' (by simpa using hp.eff he)⟩
theorem fK{v:Value}(hg:o.guard=none)(hr:∀w,(execOp (ev σ) o).run P w = .halt (.panic v) w)(k:∀w,C w→Q (.panic [{ v:=v,recovered:=false }]) σ w):WR P N ops C Q (o::rest) σ:=by
 refine WR.e hg λw hw a ha K hK=>?_
 unfold Oper.wp
 rw [ha.eval,hr w]
 exact⟨σ,ha,k w hw⟩
theorem aE{Γ0:Gh}{E:World}{ch:List PanicEntry}(hw:Cur ⟨ids U,E,Γ0⟩ Δ L w):Ending.panicked ch=Ending.panicked ch∧∃Δ,Eff Γ0 Δ U [] E w:=
 ⟨rfl,Δ,hw.fr,hw.sat,hw.le,hw.gnew,(λr hr=>by cases hr),(λr hr=>by cases hr),(λr hr=>by cases hr),by simp⟩
theorem bC{x:Operand}{t:TypeId}{v:Value}(ho:o.op = .panic x)(hx:ev σ x = .iface t v)(w:World):(execOp (ev σ) o).run P w = .halt (.panic (.iface t v)) w:=by
 simp [execOp,ho,hx,Instr.panic,goPanic,E3]
theorem mkif{t:TypeId}{fs:Array Field}{v:Value}(ht:P.underlying t=some (.struct fs))(w:World):(Instr.makeInterface t v).run P w = .ok (.iface t v) w:=by
 simp [Instr.makeInterface,run_underlying ht,E4,E3]
theorem fQ{x:Operand}{t:TypeId}{v:Value}(ho:o.op = .makeInterface t x)(hx:ev σ x=v)(hm:∀w,(Instr.makeInterface t v).run P w = .ok (.iface t v) w):QV P C σ o (.iface t v):=λw _=>by
 simp [execOp,ho,hx,hm,E4,E3]
theorem bp{x:Operand}{as:Array Operand}{f:FuncId}{tys:Array TypeId}{args first:Array Value}{ρ:Operand→Value}(hc:∀(args:Array Value) (w:World),(callFunc f args).run P w = .ok (.enter f args) w)(ho:o.op = .call { callee:=.value x,args:=as,argTypes:=tys })
  (hf:ρ x = .func (.func f) first #[]) (ha:first++as.map ρ=args) (w:World):(execOp ρ o).run P w = .ok (.enter f args) w:=by
 subst ha
 simp [execOp,ho,resolve,hf,Deferred.ofValue,invoke,hc,E4,E3]
theorem B6{t ti:TypeId}{ms:Array (String×TypeId)}{v:Value}(ht:P.underlying t=some (.interface ms))(w:World):(Op.equal t (.iface ti v) .nilIface).run P w = .ok false w:=by
 unfold Op.equal
 rw [show Op.maxDepth=9999+1 from rfl,Op.equalIn]
 simp only [E3,run_underlying ht,Result.andThen_ok,E4]
theorem zO{x y:Operand}{t1 t3 ti:TypeId}{v:Value}(ho:o.op = .binOp .eql t1 x y t3)(hx:ev σ x = .iface ti v)(hy:ev σ y = .nilIface)(he:∀w,(Op.equal t1 (.iface ti v) .nilIface).run P w = .ok false w):QV P C σ o (.bool false):=λw _=>by
 simp [execOp,ho,hx,hy,eqGuard,binOp,he,E4,E3]
theorem xY{t:TypeId}{ms:Array (String×TypeId)}(ht:P.underlying t=some (.interface ms))(w:World):(Op.equal t .nilIface .nilIface).run P w = .ok true w:=by
 unfold Op.equal
 rw [show Op.maxDepth=9999+1 from rfl,Op.equalIn]
 simp only [E3,run_underlying ht,Result.andThen_ok,E4]
theorem Ay{x:Operand}{t1 t3:TypeId}(ho:o.op = .binOp .eql t1 x (.const .nilIface) t3)(hx:ev σ x = .nilIface)(he:∀w,(Op.equal t1 .nilIface .nilIface).run P w = .ok true w):QV P C σ o (.bool true):=λw _=>by
 have hy:ev σ (.const .nilIface) = .nilIface:=rfl
 simp [execOp,ho,hx,hy,eqGuard,binOp,he,E4,E3]
theorem yc{x:Operand}{t1 t2:TypeId}{fs:Array Field}{v:Value}(ht:P.underlying t2=some (.struct fs))(ho:o.op = .typeAssert x t1 t2 true)(hx:ev σ x = .iface t2 v):QV P C σ o (.tuple #[v,.bool true]):=λw _=>by
 simp [execOp,ho,hx,Instr.typeAssert,run_underlying ht,E4,E3]
end
end Fw
end Go.Proofs.YtgaplodcdhhefaaGreat
