/- Steps, more briefly. No condition. -/
import Derived.Test.YtgaplodcdhhefaaGreatK21
namespace Go.Proofs.YtgaplodcdhhefaaGreat
namespace Fw
set_option linter.unusedVariables false
set_option linter.unusedSimpArgs false
set_option linter.unusedSectionVars false
open Go.RowKit
abbrev pq(g:Nat):Value:=.pointer (some ⟨g,0,none⟩)
section
variable {P:Program} {N:FN} {C S0:World→Prop} {Q:Exit→Env→World→Prop} {σ:Env} {o:Oper} {ops:Array Oper} {rest:List Oper} {d:Nat} {F:Fm} {Γ Δ:Gh} {L L':List Rowb}
theorem as_{x:Operand}{v:Value}(k:WR P N ops C Q rest (upd σ d v))(hg:o.guard=none:=by exact rfl)(hdst:o.dst=some d:=by exact rfl)(hd:Nat.blt d N.n=true:=by exact rfl)(ho:o.op = .assign x:=by exact rfl)(hv:ev σ x=v:=by kernel_rfl):WR P N ops C Q (o::rest) σ:=va hg hdst hd (ij ho hv) k
theorem bk_(hle:Γ.le Δ)(h0:F.G.le Γ)(hsub:L'.Sublist L):∀w,CC F Δ L w→CC F Γ L' w:=λw h=>h.back hle h0 hsub
theorem wl_{fuel:Nat}{listed:Array Bool}(i:Nat)(hi:ops[i]? = some o)(h:WR P N ops C (hq P N ops S0 Q fuel (listed.setIfInBounds i true)) [o] σ)(hr:Region.ready .any ops listed = [i]:=by kernel_rfl):WH P N ops S0 C Q (fuel+1) listed σ:=WH.lone hr hi h
theorem bo_(is:List Nat)(hle:Γ.le Δ)(h0:F.G.le Γ)(hi:okp is L.length=true:=by exact rfl)(hs:pkU is L=L':=by exact rfl):∀w,CC F Δ L w→CC F Γ L' w:=λw h=>(hs▸h.only hi:Cur F Δ L' w).back hle h0 (List.Sublist.refl _)
theorem go_{n:Nat}{f:FuncId}{fn:Func}{c:Code}{args:List Value}{R:Ending→World→Prop}{rs:List Nat}{U:List Rowb}{w:World}(hf:P.funcs[f]? = some fn)(hb:fn.body=some c)(hn:fn.ntmps=n)(hrs:fn.results=(rs.map ResultVar.tmp).toArray)(ha:Nat.ble args.length n=true)(hp:Pre U Γ w)
  (h:∀F:Fm,F=⟨ids U,w,Γ⟩→WC P ⟨n,[]⟩ (CC F Γ U) c (fq rs R) (env0 args)):Calls P f args.toArray w R:=sy hf hb hn hrs ha (DN (h _ rfl) hp.start)
theorem goq_{n:Nat}{f:FuncId}{fn:Func}{c:Code}{args:List Value}{R:Ending→World→Prop}{rs:List Nat}{w:World}(hf:P.funcs[f]? = some fn)(hb:fn.body=some c)(hn:fn.ntmps=n)(hrs:fn.results=(rs.map ResultVar.tmp).toArray)(ha:Nat.ble args.length n=true)(hs:Sat Γ w)
  (h:∀F:Fm,F=⟨no,w,Γ⟩→WC P ⟨n,[]⟩ (CC F Γ []) c (fq rs R) (env0 args)):Calls P f args.toArray w R:=sy hf hb hn hrs ha (DN (h _ rfl) (Cur.start0 hs))
theorem hu{fuel:Nat}{listed:Array Bool}(i:Nat){v:Value}(hi:ops[i]? = some o)(hSC:∀w,C w→S0 w)(hv:QV P S0 σ o v)(k:WH P N ops S0 C Q fuel (listed.setIfInBounds i true) (upd σ d v))(hk:tk ops listed i=true:=by kernel_rfl)(hg:o.guard=none:=by exact rfl)(hdst:o.dst=some d:=by exact rfl)(hd:Nat.blt d N.n=true:=by exact rfl):WH P N ops S0 C Q (fuel+1) listed σ:=ht hi hk hg hdst hd hSC hv k
end
end Fw
end Go.Proofs.YtgaplodcdhhefaaGreat
