/- Steps, more briefly still. No condition. -/
import Derived.Test.YtgaplodcdhhefaaGreatK22
import Derived.Test.YtgaplodcdhhefaaGreatK7
import Derived.Test.YtgaplodcdhhefaaGreatK10
namespace Go.Proofs.YtgaplodcdhhefaaGreat
namespace Fw
set_option linter.unusedVariables false
set_option linter.unusedSimpArgs false
set_option linter.unusedSectionVars false
open Go.RowKit
abbrev ii(x:Int):Value:=.int .i64 x
section
variable {P:Program} {N:FN} {C S0:World→Prop} {Q:Exit→Env→World→Prop} {σ:Env} {o:Oper} {ops:Array Oper} {rest:List Oper} {d:Nat} {F:Fm} {Γ Δ G:Gh} {L L' U:List Rowb} {v:Value}
theorem moV{x:Operand}(ho:o.op = .move x:=by exact rfl)(hv:ev σ x=v:=by first | exact(rfl:_=Value.int _ _) | exact(rfl:_=Value.slice _ _ _) | exact(rfl:_=Value.bool _) | exact(rfl:_=Value.pointer _) | exact(rfl:_=Value.string _) | exact(rfl:_=Value.tuple _) | exact(rfl:_=Value.agg _)):QV P C σ o v:=b4 ho hv
theorem aoV{x:Operand}(ho:o.op = .assign x:=by exact rfl)(hv:ev σ x=v:=by first | exact(rfl:_=Value.int _ _) | exact(rfl:_=Value.slice _ _ _) | exact(rfl:_=Value.bool _) | exact(rfl:_=Value.pointer _) | exact(rfl:_=Value.string _) | exact(rfl:_=Value.tuple _) | exact(rfl:_=Value.agg _)):QV P C σ o v:=ij ho hv
theorem mV{x:Operand}(hg:o.guard=none:=by exact rfl)(hdst:o.dst=some d:=by exact rfl)(hd:Nat.blt d N.n=true:=by exact rfl)(ho:o.op = .move x:=by exact rfl)(hv:ev σ x=v:=by first | exact(rfl:_=Value.int _ _) | exact(rfl:_=Value.slice _ _ _) | exact(rfl:_=Value.bool _) | exact(rfl:_=Value.pointer _) | exact(rfl:_=Value.string _) | exact(rfl:_=Value.tuple _) | exact(rfl:_=Value.agg _))(k:WR P N ops C Q rest (upd σ d v)):WR P N ops C Q (o::rest) σ:=va hg hdst hd (b4 ho hv) k
theorem mU{x:Operand}(hg:o.guard=none:=by exact rfl)(hdst:o.dst=some d:=by exact rfl)(hd:Nat.blt d N.n=true:=by exact rfl)(ho:o.op = .move x:=by exact rfl)(hv:ev σ x=v:=by kernel_rfl)(k:WR P N ops C Q rest (upd σ d v)):WR P N ops C Q (o::rest) σ:=va hg hdst hd (b4 ho hv) k
theorem aV{x:Operand}(hg:o.guard=none:=by exact rfl)(hdst:o.dst=some d:=by exact rfl)(hd:Nat.blt d N.n=true:=by exact rfl)(ho:o.op = .assign x:=by exact rfl)(hv:ev σ x=v:=by first | exact(rfl:_=Value.int _ _) | exact(rfl:_=Value.slice _ _ _) | exact(rfl:_=Value.bool _) | exact(rfl:_=Value.pointer _) | exact(rfl:_=Value.string _) | exact(rfl:_=Value.tuple _) | exact(rfl:_=Value.agg _))(k:WR P N ops C Q rest (upd σ d v)):WR P N ops C Q (o::rest) σ:=va hg hdst hd (ij ho hv) k
theorem aU{x:Operand}(hg:o.guard=none:=by exact rfl)(hdst:o.dst=some d:=by exact rfl)(hd:Nat.blt d N.n=true:=by exact rfl)(ho:o.op = .assign x:=by exact rfl)(hv:ev σ x=v:=by kernel_rfl)(k:WR P N ops C Q rest (upd σ d v)):WR P N ops C Q (o::rest) σ:=va hg hdst hd (ij ho hv) k
theorem pkO{c a b:Operand}{g y:Bool}(ho:o.op = .pick c a b:=by exact rfl)(hc:ev σ c = .bool g:=by exact rfl)(hv:(bif g then ev σ a else ev σ b) = .bool (g||y):=by exact Ca):QV P C σ o (.bool (g||y)):=eV ho hc hv
theorem pkA{c a b:Operand}{g y:Bool}(ho:o.op = .pick c a b:=by exact rfl)(hc:ev σ c = .bool g:=by exact rfl)(hv:(bif g then ev σ a else ev σ b) = .bool (g&&y):=by exact AY):QV P C σ o (.bool (g&&y)):=eV ho hc hv
theorem nlV{x:Operand}{a:Addr}(ho:o.op = .nilCheck x:=by exact rfl)(hv:ev σ x = .pointer (some a):=by exact rfl):QV P C σ o (.pointer (some a)):=D9 ho hv rfl
theorem exV{x:Operand}{i:Nat}{vs:Array Value}(ho:o.op = .extract x i:=by exact rfl)(hx:ev σ x = .tuple vs:=by exact rfl)(hv:vs[i]? = some v:=by exact rfl):QV P C σ o v:=y6 ho hx hv
theorem ldV{x:Operand}{t e:TypeId}{g j:Nat}{cs:Array Value}(i:Nat)(ht:∀w,(isAgg t).run P w = .ok false w)(ho:o.op = .load t x:=by exact rfl)(hx:ev σ x = .pointer (some ⟨g,j,none⟩):=by exact rfl)(hi:L[i]? = some [(g,.cells cs e (0,0))]:=by exact rfl)(hv:cs[j]? = some v:=by exact rfl):QV P (CC F Γ L) σ o v:=CO hi ho ht hx hv
theorem ldaV{x:Operand}{t e:TypeId}{g j:Nat}{cs:Array Value}(i:Nat)(vs:List Value)(ht:∀w,(isAgg t).run P w = .ok true w)(hz:∀w,(sizeOf t).run P w = .ok vs.length w)(ho:o.op = .load t x:=by exact rfl)(hx:ev σ x = .pointer (some ⟨g,j,none⟩):=by exact rfl)(hi:L[i]? = some [(g,.cells cs e (0,0))]:=by exact rfl)(hv:(cs.toList.drop j).take vs.length=vs:=by exact rfl):QV P (CC F Γ L) σ o (.agg vs.toArray):=Cq hi ho ht hz hx hv
theorem grV{x:Value}{c:Bool}(hc:c=true)(h:x=gv c v:=by exact rfl):x=v:=gu hc h
theorem caV{ops':Array Operand}{f:FuncId}{tys:Array TypeId}{args:Array Value}{ρ:Operand→Value}(hc:∀(args:Array Value) (w:World),(callFunc f args).run P w = .ok (.enter f args) w)(ho:o.op = .call { callee:=.value (.func f),args:=ops',argTypes:=tys }:=by exact rfl)(hf:ρ (.func f) = .func (.func f) #[] #[]:=by exact rfl)(ha:ops'.map ρ=args:=by kernel_rfl)(w:World):(execOp ρ o).run P w = .ok (.enter f args) w:=aC hc ho hf ha w
theorem ecV{f:FuncId}{args:Array Value}{Res:List Rowb→Gh→Value→Prop}(is:List Nat)(hr:∀w,(execOp (ev σ) o).run P w = .ok (.enter f args) w)(h:∀w,Pre (pkU is L) Γ w→Calls P f args w (Outc Γ (pkU is L) w Res))(k:∀Δ U' v,Γ.le Δ→Res U' Δ v→WR P N ops (CC F Δ (U'++pkR is L)) Q rest (updo σ o.dst v))(hg:o.guard=none:=by exact rfl)(hd:bR N o.dst=true:=by exact rfl)(hi:okp is L.length=true:=by exact rfl):WR P N ops (CC F Γ L) Q (o::rest) σ:=CE hg hd hr hi h k
theorem vqV{f:FuncId}{args:Array Value}(hr:∀w,(execOp (ev σ) o).run P w = .ok (.enter f args) w)(h:∀w,Cur F Γ L w→Calls P f args w λe w'=>e = .returned v∧Fr no w w')(hg:o.guard=none:=by exact rfl)(hdst:o.dst=some d:=by exact rfl)(hd:Nat.blt d N.n=true:=by exact rfl)(k:WR P N ops (CC F Γ L) Q rest (upd σ d v)):WR P N ops (CC F Γ L) Q (o::rest) σ:=vc hg hdst hd (aH hr h) k
theorem sV(h:QV P C σ o v)(hg:o.guard=none:=by exact rfl)(hdst:o.dst=some d:=by exact rfl)(hd:Nat.blt d N.n=true:=by exact rfl)(k:WR P N ops C Q rest (upd σ d v)):WR P N ops C Q (o::rest) σ:=va hg hdst hd h k
theorem zV(h:QV P C σ o v)(hg:o.guard=none:=by exact rfl)(hdst:o.dst=some d:=by exact rfl)(hd:Nat.blt d N.n=true:=by exact rfl)(k:WQ P N ops C Q rest (upd σ d v)):WQ P N ops C Q (o::rest) σ:=wa hg hdst hd h k
theorem cwV(d:Nat)(L:List Rowb)(h:WR P N ops (CC F Γ L) Q rest (upd σ d v)):WR P N ops (CC F Γ L) Q rest (upd σ d v):=h
theorem wc_{c:Code}(h:WC P N C c Q σ):∀w,C w→Wpt P N c Q σ w:=h
theorem ciV{R:Type}{c:Operand}{x y:Code}{b:Bool}{mx my:Option R}{r:R}(h:(bif b then mx else my)=some r)(ht:b=true→mx=some r→WC P N C x Q σ)(hf:b=false→my=some r→WC P N C y Q σ)(hc:ev σ c = .bool b:=by kernel_rfl):WC P N C (.cond c x y) Q σ:=WC.cif h hc ht hf
theorem fr_{w w0:World}(hF:F=⟨no,w0,G⟩)(hw:CC F Γ L w):Fr no w0 w:=by subst hF; exact hw.fr
theorem rq_{α:Type}{a:α}(r:α){x:Value}{V:α→Value}{w w0:World}(h:some a=some r)(hF:F=⟨no,w0,G⟩)(hw:CC F Γ L w)(hv:x=V a:=by kernel_rfl):Ending.returned x = .returned (V r)∧Fr no w0 w:=by
 cases h
 subst hF; exact⟨by rw [hv],hw.fr⟩
theorem re_{α:Type}{a:α}(r:α){x:Value}{R:α→List Rowb→Gh→Value→Prop}{w w0:World}(is:List Nat)(h:some a=some r)(hF:F=⟨ids U,w0,G⟩)(hw:CC F Δ L w)(hr:R a (pkU is L) Δ v)(hv:x=v:=by kernel_rfl)(hi:okp is L.length=true:=by exact rfl):Outc G U w0 (R r) (.returned x) w:=by
 cases h
 subst hF; exact aI hv hw hi hr
theorem bxV{t:TypeId}{x:Operand}(k:∀g,WR P N ops (CC F Γ ([(g,.cells v.cells t)]::L)) Q rest (upd σ d (.pointer (some ⟨g,0,none⟩))))(hg:o.guard=none:=by exact rfl)(hdst:o.dst=some d:=by exact rfl)(hd:bR N (some d)=true:=by exact rfl)(ho:o.op = .box t x:=by exact rfl)(hx:ev σ x=v:=by kernel_rfl):WR P N ops (CC F Γ L) Q (o::rest) σ:=CS hg hdst hd ho hx k
theorem alV{t:TypeId}{z:Value}(hz:∀w,(zeroValue t).run P w = .ok z w)(k:∀g,WR P N ops (CC F Γ ([(g,.cells z.cells t)]::L)) Q rest (upd σ d (.pointer (some ⟨g,0,none⟩))))(hg:o.guard=none:=by exact rfl)(hdst:o.dst=some d:=by exact rfl)(hd:bR N (some d)=true:=by exact rfl)(ho:o.op = .alloc t:=by exact rfl):WR P N ops (CC F Γ L) Q (o::rest) σ:=AV hz hg hdst hd ho k
theorem stV{t e:TypeId}{ad x:Operand}{g j sz:Nat}{old:Array Value}(i:Nat)(v:Value)(new:Array Value)(hz:∀w,(sizeOf t).run P w = .ok sz w)(hi:L[i]? = some [(g,.cells old e (0,0))]:=by exact rfl)(hg:o.guard=none:=by exact rfl)(hdst:o.dst=none:=by exact rfl)(ho:o.op = .store t ad x:=by exact rfl)(ha:ev σ ad = .pointer (some ⟨g,j,none⟩):=by exact rfl)(hx:ev σ x=v:=by kernel_rfl)
  (hsz:v.cells.size=sz:=by exact rfl) (h1:v.cells.toList.all (·.oneCell')=true:=by exact rfl) (hfit:Nat.ble (j+v.cells.toList.length) old.size=true:=by exact rfl) (hnew:(old.toList.take j++v.cells.toList++old.toList.drop (j+v.cells.toList.length)).toArray=new:=by exact rfl) (k:WR P N ops (CC F Γ (L.set i [(g,.cells new e (0,0))])) Q rest σ):WR P N ops (CC F Γ L) Q (o::rest) σ:=e_st hi hz hg hdst ho ha hx hsz h1 hfit hnew k
theorem bsV{t:TypeId}{n:Nat}{parts:Array (Nat×Operand)}(cs:Array Value)(e:TypeId)(k:∀g,WR P N ops (CC F Γ ([(g,.cells cs e)]::L)) Q rest (upd σ d (.slice (some ⟨g,0,none⟩) n n)))(hg:o.guard=none:=by exact rfl)(hdst:o.dst=some d:=by exact rfl)(hd:bR N (some d)=true:=by exact rfl)(ho:o.op = .buildSlice t n parts:=by exact rfl)
  (hr:∀w,(Instr.buildSlice t n (parts.map λ(i,x)=>(i,ev σ x))).run P w = .ok (.slice (some ⟨w.heap.size,0,none⟩) n n) (w.alloc (.cells cs e)):=by (intro w; kernel_rfl)):WR P N ops (CC F Γ L) Q (o::rest) σ:=tZ hg hdst hd ho hr k
theorem goV{n:Nat}{f:FuncId}{fn:Func}{c:Code}{args:List Value}{R:Ending→World→Prop}{w:World}(rs:List Nat)(hf:P.funcs[f]? = some fn)(hn:fn.ntmps=n)(hrs:fn.results=(rs.map ResultVar.tmp).toArray)(hp:Pre U Γ w)(h:∀F:Fm,F=⟨ids U,w,Γ⟩→WC P ⟨n,[]⟩ (CC F Γ U) c (fq rs R) (env0 args))(hb:fn.body=some c:=by exact rfl)(ha:Nat.ble args.length n=true:=by exact rfl):Calls P f args.toArray w R:=go_ hf hb hn hrs ha hp h
theorem goQ{n:Nat}{f:FuncId}{fn:Func}{c:Code}{args:List Value}{R:Ending→World→Prop}{w:World}(rs:List Nat)(hf:P.funcs[f]? = some fn)(hn:fn.ntmps=n)(hrs:fn.results=(rs.map ResultVar.tmp).toArray)(hs:Sat Γ w)(h:∀F:Fm,F=⟨no,w,Γ⟩→WC P ⟨n,[]⟩ (CC F Γ []) c (fq rs R) (env0 args))(hb:fn.body=some c:=by exact rfl)(ha:Nat.ble args.length n=true:=by exact rfl):Calls P f args.toArray w R:=goq_ hf hb hn hrs ha hs h
theorem leV{c:Code}(h:F.G.le Γ→WC P N (CC F Γ L) c Q σ):WC P N (CC F Γ L) c Q σ:=λw hw=>h hw.le w hw
section
variable {c:Code} {row:Rowb}
theorem ufC(i:Nat)(hr:row=U.flatten)(L':List Rowb)(k:WC P N (CC F Γ L') c Q σ)(hi:L[i]? = some row:=by exact rfl)(hL:U++L.eraseIdx i=L':=by exact rfl):WC P N (CC F Γ L) c Q σ:=λw hw=>k w (hL▸hw.unfold hi hr)
theorem ufR(i:Nat)(hr:row=U.flatten)(L':List Rowb)(k:WR P N ops (CC F Γ L') Q rest σ)(hi:L[i]? = some row:=by exact rfl)(hL:U++L.eraseIdx i=L':=by exact rfl):WR P N ops (CC F Γ L) Q rest σ:=λw hw=>k w (hL▸hw.unfold hi hr)
theorem foC(is:List Nat)(hr:row=(pkU is L).flatten)(L':List Rowb)(k:WC P N (CC F Γ L') c Q σ)(hi:okp is L.length=true:=by exact rfl)(hL:row::pkR is L=L':=by exact rfl):WC P N (CC F Γ L) c Q σ:=λw hw=>k w (hL▸hw.fold hi hr)
theorem foR(is:List Nat)(hr:row=(pkU is L).flatten)(L':List Rowb)(k:WR P N ops (CC F Γ L') Q rest σ)(hi:okp is L.length=true:=by exact rfl)(hL:row::pkR is L=L':=by exact rfl):WR P N ops (CC F Γ L) Q rest σ:=λw hw=>k w (hL▸hw.fold hi hr)
theorem seC(i:Nat)(L':List Rowb)(k:∀Δ,Γ.le Δ→(∀p∈row,Δ p.1=some p.2)→WC P N (CC F Δ L') c Q σ)(hi:L[i]? = some row:=by exact rfl)(hL:L.set i []=L':=by exact rfl):WC P N (CC F Γ L) c Q σ:=λw hw=>by
 obtain⟨Δ,h1,h2,h3⟩:=hw.seal hi
 exact k Δ h2 h3 w (hL▸h1)
theorem seR(i:Nat)(L':List Rowb)(k:∀Δ,Γ.le Δ→(∀p∈row,Δ p.1=some p.2)→WR P N ops (CC F Δ L') Q rest σ)(hi:L[i]? = some row:=by exact rfl)(hL:L.set i []=L':=by exact rfl):WR P N ops (CC F Γ L) Q rest σ:=λw hw=>by
 obtain⟨Δ,h1,h2,h3⟩:=hw.seal hi
 exact k Δ h2 h3 w (hL▸h1)
theorem slV{w:World}{l:List (Nat×Value)}(hsl:slots σ l)(hw:CC F Γ L w)(L':List Rowb)(k:WC P N (CC F Γ L') c Q (upds σ l))(hL:L=L':=by exact rfl):Wpt P N c Q σ w:=Wpt.slots hsl (k w (hL▸hw))
end
theorem Cur.on{w:World}(h:Cur F Γ L w)(is:List Nat)(hi:okp is L.length=true:=by exact rfl):Cur F Γ (pkU is L) w:=h.only hi
theorem coV{c:Operand}{x y:Code}{b:Bool}(ht:b=true→WC P N C x Q σ)(hf:b=false→WC P N C y Q σ)(hc:ev σ c = .bool b:=by exact rfl):WC P N C (.cond c x y) Q σ:=WC.cond hc ht hf
theorem drV{id:Nat}{l:List Oper}(h:WQ P N l.toArray C Q l σ)(hm:P.follows .mixedOrders=true:=by kernel_rfl)(hB:lexF l=true:=by kernel_rfl)(hC:∀w,C w→C { w with drawn:=w.drawn+1 }:=by (exact λw hw=>hw.drawn _)):WC P N C (.region id l.toArray true) Q σ:=WC.dr hm hB hC h
theorem slK{l:List (Nat×Value)}(h:l.map (λp=>σ p.1)=l.map (λp=>p.2):=by kernel_rfl):slots σ l:=h
theorem iV{x:Int}(h:i64b x=true:=by kernel_rfl):I64 x:=cj h
theorem gR:Gh.le Γ Γ:=Gh.refl Γ
theorem nilV{α:Type}[Inhabited α]{T:Ty α}{A:Option Addr}{c:Nat}:([]:List α).length≤c∧Sl T Γ A []:=⟨E7 _,Sl.nil _ _ _⟩
abbrev CQ(P:Program)(f:FuncId)(args:Array Value)(w0:World)(v:Value):Prop:=Calls P f args w0 λe w'=>e = .returned v∧Fr no w0 w'
theorem apV{α:Type}[Inhabited α]{T:Ty α}{t e:TypeId}{x y:Operand}{A:Option Addr}{c:Nat}{xs:List α}{row:Rowb}{A2:Option Addr}{c2:Nat}(i:Nat)(ys:List α)(hE:ir P t e T)(hown:Own T Γ e row A c xs)(hlen:xs.length+ys.length≤lim)
  (hsrc:∀w,Cur F Γ L w→(A2=none∧ys = [])∨∃a2,A2=some a2∧∃css:List (List Value),css.length=ys.length∧(∀k (h1:k<css.length),T.rd Γ css[k] (gt ys k))∧∀j u,css.flatten[j]? = some u→w.cell? (a2.add j)=some u)
  (k:∀row' A' c',Own T Γ e row' A' c' (xs++ys)→WR P N ops (CC F Γ (L.set i row')) Q rest (upd σ d (.slice A' (xs++ys).length c')))
  (hg:o.guard=none:=by exact rfl) (hdst:o.dst=some d:=by exact rfl) (hd:bR N (some d)=true:=by exact rfl) (ho:o.op = .call { callee:=.builtin .append,args:=#[x,y],argTypes:=#[t,t] }:=by exact rfl) (hx:ev σ x = .slice A xs.length c:=by exact rfl) (hy:ev σ y = .slice A2 ys.length c2:=by exact rfl) (hL:L[i]? = some row:=by exact rfl):WR P N ops (CC F Γ L) Q (o::rest) σ:=l7 hE hg hdst hd ho hx hy hL hown hlen hsrc k
section
variable {j dj:Nat} {g:Bool}
theorem vG1(hg:o.guard=some (j,true):=by exact rfl)(hj:(ops[j]?).bind (·.dst)=some dj:=by exact rfl)(hs:σ dj = .bool g:=by exact rfl)(hdst:o.dst=some d:=by exact rfl)(hd:Nat.blt d N.n=true:=by exact rfl)(h:g=true→QV P C σ o v)(k:WR P N ops C Q rest (upd σ d (gv g v))):WR P N ops C Q (o::rest) σ:=vg1 hg hj hs hdst hd (λe=>(h e).qo) k
theorem vG0(hg:o.guard=some (j,false):=by exact rfl)(hj:(ops[j]?).bind (·.dst)=some dj:=by exact rfl)(hs:σ dj = .bool g:=by exact rfl)(hdst:o.dst=some d:=by exact rfl)(hd:Nat.blt d N.n=true:=by exact rfl)(h:(!g)=true→QV P C σ o v)(k:WR P N ops C Q rest (upd σ d (gv (!g) v))):WR P N ops C Q (o::rest) σ:=vg0 hg hj hs hdst hd (λe=>(h e).qo) k
theorem wG1(hg:o.guard=some (j,true):=by exact rfl)(hj:(ops[j]?).bind (·.dst)=some dj:=by exact rfl)(hs:σ dj = .bool g:=by exact rfl)(hdst:o.dst=some d:=by exact rfl)(hd:Nat.blt d N.n=true:=by exact rfl)(h:g=true→QV P C σ o v)(k:WQ P N ops C Q rest (upd σ d (gv g v))):WQ P N ops C Q (o::rest) σ:=wg1 hg hj hs hdst hd (λe=>(h e).qo) k
theorem wG0(hg:o.guard=some (j,false):=by exact rfl)(hj:(ops[j]?).bind (·.dst)=some dj:=by exact rfl)(hs:σ dj = .bool g:=by exact rfl)(hdst:o.dst=some d:=by exact rfl)(hd:Nat.blt d N.n=true:=by exact rfl)(h:(!g)=true→QV P C σ o v)(k:WQ P N ops C Q rest (upd σ d (gv (!g) v))):WQ P N ops C Q (o::rest) σ:=wg0 hg hj hs hdst hd (λe=>(h e).qo) k
theorem vC1(hg:o.guard=some (j,true):=by exact rfl)(hj:(ops[j]?).bind (·.dst)=some dj:=by exact rfl)(hs:σ dj = .bool g:=by exact rfl)(hdst:o.dst=some d:=by exact rfl)(hd:Nat.blt d N.n=true:=by exact rfl)(h:g=true→QO P C σ o v)(k:WR P N ops C Q rest (upd σ d (gv g v))):WR P N ops C Q (o::rest) σ:=vg1 hg hj hs hdst hd h k
theorem vC0(hg:o.guard=some (j,false):=by exact rfl)(hj:(ops[j]?).bind (·.dst)=some dj:=by exact rfl)(hs:σ dj = .bool g:=by exact rfl)(hdst:o.dst=some d:=by exact rfl)(hd:Nat.blt d N.n=true:=by exact rfl)(h:(!g)=true→QO P C σ o v)(k:WR P N ops C Q rest (upd σ d (gv (!g) v))):WR P N ops C Q (o::rest) σ:=vg0 hg hj hs hdst hd h k
theorem wC1(hg:o.guard=some (j,true):=by exact rfl)(hj:(ops[j]?).bind (·.dst)=some dj:=by exact rfl)(hs:σ dj = .bool g:=by exact rfl)(hdst:o.dst=some d:=by exact rfl)(hd:Nat.blt d N.n=true:=by exact rfl)(h:g=true→QO P C σ o v)(k:WQ P N ops C Q rest (upd σ d (gv g v))):WQ P N ops C Q (o::rest) σ:=wg1 hg hj hs hdst hd h k
theorem wC0(hg:o.guard=some (j,false):=by exact rfl)(hj:(ops[j]?).bind (·.dst)=some dj:=by exact rfl)(hs:σ dj = .bool g:=by exact rfl)(hdst:o.dst=some d:=by exact rfl)(hd:Nat.blt d N.n=true:=by exact rfl)(h:(!g)=true→QO P C σ o v)(k:WQ P N ops C Q rest (upd σ d (gv (!g) v))):WQ P N ops C Q (o::rest) σ:=wg0 hg hj hs hdst hd h k
end
section
variable {fuel:Nat} {listed:Array Bool} {j dj:Nat} {g:Bool}
theorem db{id:Nat}{l:List Oper}(S0:World→Prop)(kk:∀w,C w→S0 w)(h:(∀w,C w→S0 w)→WH P N l.toArray S0 C Q l.toArray.size (Array.replicate l.toArray.size false) σ)(hm:P.follows .mixedOrders=true:=by kernel_rfl)(hC:∀w,C w→C { w with drawn:=w.drawn+1 }:=by (exact λw hw=>hw.drawn _)):WC P N C (.region id l.toArray true) Q σ:=WC.held S0 hm hC (h kk)
theorem nxV{C':World→Prop}(hS:∀w,C' w→S0 w)(h:(∀w,C' w→S0 w)→WH P N ops S0 C' Q fuel listed σ):∀w,C' w→hq P N ops S0 Q fuel listed .normal σ w:=WH.next hS (h hS)
theorem hV(i:Nat)(hSC:∀w,C w→S0 w)(hi:ops[i]? = some o:=by exact rfl)(hk:tk ops listed i=true:=by kernel_rfl)(hg:o.guard=none:=by exact rfl)(hdst:o.dst=some d:=by exact rfl)(hd:Nat.blt d N.n=true:=by exact rfl)(q:QV P S0 σ o v)(k:WH P N ops S0 C Q fuel (listed.setIfInBounds i true) (upd σ d v)):WH P N ops S0 C Q (fuel+1) listed σ:=ht hi hk hg hdst hd hSC q k
theorem hV1(i:Nat)(hSC:∀w,C w→S0 w)(hi:ops[i]? = some o:=by exact rfl)(hk:tk ops listed i=true:=by kernel_rfl)(hg:o.guard=some (j,true):=by exact rfl)(hj:(ops[j]?).bind (·.dst)=some dj:=by exact rfl)(hs:σ dj = .bool g:=by exact rfl)(hdst:o.dst=some d:=by exact rfl)(hd:Nat.blt d N.n=true:=by exact rfl)(h:g=true→QV P S0 σ o v)(k:WH P N ops S0 C Q fuel (listed.setIfInBounds i true) (upd σ d (gv g v))):WH P N ops S0 C Q (fuel+1) listed σ:=hg1 hi hk hg hj hs hdst hd hSC h k
theorem hV0(i:Nat)(hSC:∀w,C w→S0 w)(hi:ops[i]? = some o:=by exact rfl)(hk:tk ops listed i=true:=by kernel_rfl)(hg:o.guard=some (j,false):=by exact rfl)(hj:(ops[j]?).bind (·.dst)=some dj:=by exact rfl)(hs:σ dj = .bool g:=by exact rfl)(hdst:o.dst=some d:=by exact rfl)(hd:Nat.blt d N.n=true:=by exact rfl)(h:(!g)=true→QV P S0 σ o v)(k:WH P N ops S0 C Q fuel (listed.setIfInBounds i true) (upd σ d (gv (!g) v))):WH P N ops S0 C Q (fuel+1) listed σ:=hg0 hi hk hg hj hs hdst hd hSC h k
end
end
end Fw
end Go.Proofs.YtgaplodcdhhefaaGreat
