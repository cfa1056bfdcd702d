/- Steps, more briefly. No condition. -/
import Derived.Test.YtiakfgdgafljnaaGreatK21
namespace Go.Proofs.YtiakfgdgafljnaaGreat
namespace Fw
set_option linter.unusedVariables false
set_option linter.unusedSimpArgs false
set_option linter.unusedSectionVars false
open Go.RowKit
abbrev pq(g:Nat):Value:=.pointer (some ⟨g,0,none⟩)
section
variable {P:Program} {N:Nat} {C S0:World→Prop} {Q:Exit→Env→World→Prop} {σ:Env} {o:Oper} {ops:Array Oper} {rest:List Oper} {d:Nat} {F:Fm} {Γ Δ:Gh} {L L':List Rowb}
theorem mv{x:Operand}{v:Value}(k:WR P N ops C Q rest (upd σ d v))(hg:o.guard=none:=by exact rfl)(hdst:o.dst=some d:=by exact rfl)(hd:Nat.blt d N=true:=by exact rfl)(ho:o.op = .move x:=by exact rfl)(hv:ev σ x=v:=by kernel_rfl):WR P N ops C Q (o::rest) σ:=va hg hdst hd (q_move ho hv) k
theorem as_{x:Operand}{v:Value}(k:WR P N ops C Q rest (upd σ d v))(hg:o.guard=none:=by exact rfl)(hdst:o.dst=some d:=by exact rfl)(hd:Nat.blt d N=true:=by exact rfl)(ho:o.op = .assign x:=by exact rfl)(hv:ev σ x=v:=by kernel_rfl):WR P N ops C Q (o::rest) σ:=va hg hdst hd (q_assign ho hv) k
theorem vb{v:Value}(h:QV P C σ o v)(k:WR P N ops C Q rest (upd σ d v))(hg:o.guard=none:=by exact rfl)(hdst:o.dst=some d:=by exact rfl)(hd:Nat.blt d N=true:=by exact rfl):WR P N ops C Q (o::rest) σ:=va hg hdst hd h k
theorem bk_(hle:Γ.le Δ)(h0:F.G.le Γ)(hsub:L'.Sublist L):∀w,CC F Δ L w→CC F Γ L' w:=λw h=>h.back hle h0 hsub
theorem hu{fuel:Nat}{listed:Array Bool}(i:Nat){v:Value}(hi:ops[i]? = some o)(hSC:∀w,C w→S0 w)(hv:QV P S0 σ o v)(k:WH P N ops S0 C Q fuel (listed.setIfInBounds i true) (upd σ d v))(hk:tk ops listed i=true:=by kernel_rfl)(hg:o.guard=none:=by exact rfl)(hdst:o.dst=some d:=by exact rfl)(hd:Nat.blt d N=true:=by exact rfl):WH P N ops S0 C Q (fuel+1) listed σ:=ht hi hk hg hdst hd hSC hv k
end
end Fw
end Go.Proofs.YtiakfgdgafljnaaGreat
