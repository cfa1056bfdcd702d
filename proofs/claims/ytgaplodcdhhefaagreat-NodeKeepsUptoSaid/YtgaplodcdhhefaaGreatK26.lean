/- Doors: a deferred closure that recovers. No condition. -/
import Derived.Test.YtgaplodcdhhefaaGreatK25
import Derived.Recover
import Derived.Defers
namespace Go.Proofs.YtgaplodcdhhefaaGreat
namespace Fw
set_option linter.unusedVariables false
set_option linter.unusedSimpArgs false
set_option linter.unusedSectionVars false
open Go.RowKit
def Dh(n:Nat)(Q:List Deferred→Exit→Env→World→Prop):Exit→Act→World→Prop:=λe a w => ∃ds σ,Agr ⟨n,ds⟩ a σ∧Q ds e σ w
def WXp(P:Program)(n:Nat)(ds:List Deferred)(c:Code)(Q:List Deferred→Exit→Env→World→Prop)(σ:Env)(w:World):Prop := ∀a,Agr ⟨n,ds⟩ a σ→c.wp P (Dh n Q) a w
def WX(P:Program)(n:Nat)(ds:List Deferred)(C:World→Prop)(c:Code)(Q:List Deferred→Exit→Env→World→Prop)(σ:Env):Prop := ∀w,C w→WXp P n ds c Q σ w
def sqx(P:Program)(n:Nat)(ds:List Deferred)(y:Code)(Q:List Deferred→Exit→Env→World→Prop):Exit→Env→World→Prop
 | .normal,σ,w=>WXp P n ds y Q σ w
 | e,σ,w=>Q ds e σ w
section
variable {P:Program} {n:Nat} {ds:List Deferred} {C:World→Prop} {Q:List Deferred→Exit→Env→World→Prop} {σ:Env}
theorem WX.here{c:Code}{w:World}(h:WX P n ds C c Q σ)(hw:C w):WXp P n ds c Q σ w:=h w hw
theorem WX.seq{x y:Code}(h:WC P ⟨n,ds⟩ C x (sqx P n ds y Q) σ):WX P n ds C (.seq x y) Q σ:=by
 intro w hw a ha
 refine wp_seq (wp_mono (h w hw a ha) ?_)
 rintro e a' w' ⟨σ',ha',hq⟩
 cases e with
 | normal=>exact hq a' ha'
 | _=>exact⟨ds,σ',ha',hq⟩
theorem WX.last{c:Code}(h:WC P ⟨n,ds⟩ C c (Q ds) σ):WX P n ds C c Q σ:=λw hw a ha=>wp_mono (h w hw a ha) (λe a' w' ⟨σ',ha',hq⟩=>⟨ds,σ',ha',hq⟩)
theorem WX.defer{id:Nat}{o1 o2:Oper}{y:Code}{v:Value}{d:Deferred}(g1:o1.guard=none)(g2:o2.guard=none)(hd:bR ⟨n,ds⟩ o1.dst=true)(hd2:o2.dst=none)(h1:QV P C σ o1 v)
  (h2:∀w,(execOp (ev (updo σ o1.dst v)) o2).run P w = .ok (.defer d) w) (k:WX P n (d::ds) C y Q (updo σ o1.dst v)):WX P n ds C (.seq (.region id #[o1,o2] false) y) Q σ:=by
 intro w hw a ha
 refine wp_seq (wp_region_lit (l:=[o1,o2]) (wpList_plain g1 λK hK=>?_))
 unfold Oper.wp
 rw [ha.eval,h1 w hw]
 refine hK _ _ (wpList_plain g2 λK2 hK2=>?_)
 have ha1:=ha.put hd v
 unfold Oper.wp
 rw [ha1.eval,h2 w]
 refine hK2 _ _ (wpList_nil ?_)
 refine k w hw _ ⟨?_,?_,?_⟩
 ·have:=ha1.size
  rw [hd2]; exact this
 ·have:=ha1.defs
  rw [hd2]; show d::(a.put o1.dst v).defers=d::ds; rw [this]
 ·have:=ha1.read
  rw [hd2]; exact this
end
def Ar(P:Program)(n:Nat)(fn:Func)(R:Ending→World→Prop)(ds:List Deferred)(e:Exit)(σ:Env)(w:World):Prop := ∀a,Agr ⟨n,ds⟩ a σ→bodyPostD P fn R e a w
section
variable {P:Program} {n:Nat} {fn:Func} {R:Ending→World→Prop} {σ:Env} {w:World} {C:World→Prop} {rs:List ResultVar} {fcl:FuncId} {caps:Array Value}
theorem rR{f:FuncId}{c:Code}{args:List Value}(hf:P.funcs[f]? = some fn)(hb:fn.body=some c)(hn:fn.ntmps=n)(ha:Nat.ble args.length n=true)(h:WXp P n [] c (Ar P n fn R) (env0 args) w):Calls P f args.toArray w R:=by
 have hle:args.length≤n:=Nat.le_of_ble_eq_true ha
 refine calls_of_wp_defers hf hb (wp_mono (h _ ⟨by simp [hn]; omega,rfl,λt=>?_⟩) ?_)
 ·by_cases ht:t<args.length
  ·simp [env0,Array.getD_eq_getD_getElem?,Array.getElem?_append,ht,List.getD]
  ·simp only [env0,Array.getD_eq_getD_getElem?,Array.getElem?_append,List.size_toArray,ht,if_false,List.getD,Array.getElem?_replicate]
   rw [List.getElem?_eq_none (by omega)]
   split <;> rfl
 ·rintro e a w' ⟨ds,σ',ha',hq⟩
  exact hq a ha'
def WRt(P:Program)(rs:List ResultVar)(R:Ending→World→Prop)(C:World→Prop)(σ:Env):Prop := ∀w,C w→∃vs,gY P σ w rs vs∧R (.returned (retW vs)) w
def idle(P:Program)(fcl:FuncId)(caps:Array Value):Prop := ∀w,CallsD P fcl caps .returning w λe u' w'=>(∃v,e = .returned v)∧u' = .returning∧w'=w
theorem ux(hrs:fn.results=rs.toArray)(hinv:∀w,(invoke (.fn (.func fcl) caps) #[]).run P w = .ok (.enter fcl caps) w)(hcl:idle P fcl caps)(k:WRt P rs R C σ):∀w,C w→Ar P n fn R [⟨.fn (.func fcl) caps, #[]⟩] .ret σ w:=by
 intro w hw a ha
 show Leaves P fn a.tmps R a.defers .returning w
 rw [ha.defs]
 refine leaves_cons (by simp) (hinv w) ((hcl w).mono ?_)
 rintro e u' w' ⟨⟨v,rfl⟩,rfl,rfl⟩
 obtain⟨vs,h1,h2⟩:=k w' hw
 exact⟨retW vs,jc ha hrs h1,h2⟩
section
variable {F:Fm} {Γ:Gh} {L:List Rowb} {ch ch':List PanicEntry} {Res:List Rowb→Gh→Value→Prop} {is:List Nat}
theorem lB(hrs:fn.results=rs.toArray)(hinv:∀w,(invoke (.fn (.func fcl) caps) #[]).run P w = .ok (.enter fcl caps) w)(hset:settle (.panicking ch') = .returning)(hi:okp is L.length=true)
  (h:∀w,Pre (pkU is L) Γ w→CallsD P fcl caps (.panicking ch) w (λe u' w'=>u' = .panicking ch'∧Outc Γ (pkU is L) w Res e w'))
  (k:∀Δ U' v,Γ.le Δ→Res U' Δ v→WRt P rs R (CC F Δ (U'++pkR is L)) σ):∀w,CC F Γ L w→Ar P n fn R [⟨.fn (.func fcl) caps, #[]⟩] (.panic ch) σ w:=by
 intro w hw a ha
 show Leaves P fn a.tmps R a.defers (.panicking ch) w
 rw [ha.defs]
 have hp:=hw.pick hi
 refine leaves_cons (by simp) (hinv w) ((h w (hw.only hi).pre).mono ?_)
 rintro e u' w' ⟨rfl,v,rfl,Δ,U',he,hres⟩
 show Leaves P fn a.tmps R [] (settle (.panicking ch')) w'
 rw [hset]
 obtain⟨vs,h1,h2⟩:=k Δ U' v he.le hres w' (hp.eff he)
 exact⟨retW vs,jc ha hrs h1,h2⟩
end
theorem vU{id d:Nat}{o:Oper}{rest:Code}{args:List Value}{t:TypeId}{pv:Value}{older:List PanicEntry}(hf:P.funcs[fcl]? = some fn)(hb:fn.body=some (.seq (.region id #[o] false) rest))(hn:fn.ntmps=n)(hr:fn.results = #[])
  (ho:∀ρ w,(execOp ρ o).run P w = .ok .recover w) (hg:o.guard=none) (hd:o.dst=some d) (hdn:Nat.blt d n=true) (ha:Nat.ble args.length n=true)
  (h:Wpt P ⟨n,[]⟩ rest (fq [] R) (updo (env0 args) (some d) (.iface t pv)) w) :
  CallsD P fcl args.toArray (.panicking ({ v:=.iface t pv,recovered:=false }::older)) w λe u' w'=>u' = .panicking ({ v:=.iface t pv,recovered:=true }::older)∧R e w':=by
 have hle:args.length≤n:=Nat.le_of_ble_eq_true ha
 refine callsD_of_wpS hf hb λc₀ cs hu=>?_
 have agr0:Agr ⟨n,[]⟩ { tmps:=args.toArray++Array.replicate (fn.ntmps - args.toArray.size) undef,defers:=[] } (env0 args):=⟨by simp [hn]; omega,rfl,λt=>by
  by_cases ht:t<args.length
  ·simp [env0,Array.getD_eq_getD_getElem?,Array.getElem?_append,ht,List.getD]
  ·simp only [env0,Array.getD_eq_getD_getElem?,Array.getElem?_append,List.size_toArray,ht,if_false,List.getD,Array.getElem?_replicate]
   rw [List.getElem?_eq_none (by omega)]
   split <;> rfl⟩
 apply wpS_seq
 apply wpS_region
 have hrng:List.range (#[o]:Array Oper).size = [0]:=rfl
 have hget:(#[o]:Array Oper)[0]? = some o:=rfl
 have hwant:∀y,Region.wanted o y=true:=λy=>by simp [Region.wanted,hg]
 rw [hrng]
 unfold wpOpsS
 rw [hget]
 simp only [hwant,if_true,ho]
 have hrec:recoverD (c₀::cs)=some (.iface t pv,{ c₀ with mode:=.panicking ({ v:=.iface t pv,recovered:=true }::older) }::cs):=by
  unfold recoverD
  simp only [hu]
 rw [hrec]
 simp only
 unfold wpOpsS
 have agr1:=agr0.put (dst:=some d) hdn (.iface t pv)
 rw [hd]
 refine wpS_of_wp (wp_mono (h _ agr1) ?_)
 rintro e a w' ⟨σ',ha',hq⟩
 cases e with
 | normal=>exact⟨ha'.defs,_,rfl,_,eP ha' (rs:=[]) (by rw [hr]; rfl) w',rfl,hq⟩
 | ret=>exact⟨ha'.defs,_,rfl,_,eP ha' (rs:=[]) (by rw [hr]; rfl) w',rfl,hq⟩
 | panic ch=>exact⟨ha'.defs,_,rfl,rfl,hq⟩
 | outgrown=>exact⟨_,rfl,hq⟩
 | exit id=>exact hq
 | goto l=>exact hq
theorem uT{id d:Nat}{o:Oper}{rest:Code}{args:List Value}(hf:P.funcs[fcl]? = some fn)(hb:fn.body=some (.seq (.region id #[o] false) rest))(hn:fn.ntmps=n)(hr:fn.results = #[])
  (ho:∀ρ w,(execOp ρ o).run P w = .ok .recover w) (hg:o.guard=none) (hd:o.dst=some d) (hdn:Nat.blt d n=true) (ha:Nat.ble args.length n=true)
  (h:Wpt P ⟨n,[]⟩ rest (fq [] λe w'=>(∃v,e = .returned v)∧w'=w) (updo (env0 args) (some d) .nilIface) w) :
  CallsD P fcl args.toArray .returning w λe u' w'=>(∃v,e = .returned v)∧u' = .returning∧w'=w:=by
 have hle:args.length≤n:=Nat.le_of_ble_eq_true ha
 refine callsD_of_wpS hf hb λc₀ cs hu=>?_
 have agr0:Agr ⟨n,[]⟩ { tmps:=args.toArray++Array.replicate (fn.ntmps - args.toArray.size) undef,defers:=[] } (env0 args):=⟨by simp [hn]; omega,rfl,λt=>by
  by_cases ht:t<args.length
  ·simp [env0,Array.getD_eq_getD_getElem?,Array.getElem?_append,ht,List.getD]
  ·simp only [env0,Array.getD_eq_getD_getElem?,Array.getElem?_append,List.size_toArray,ht,if_false,List.getD,Array.getElem?_replicate]
   rw [List.getElem?_eq_none (by omega)]
   split <;> rfl⟩
 apply wpS_seq
 apply wpS_region
 have hrng:List.range (#[o]:Array Oper).size = [0]:=rfl
 have hget:(#[o]:Array Oper)[0]? = some o:=rfl
 have hwant:∀y,Region.wanted o y=true:=λy=>by simp [Region.wanted,hg]
 rw [hrng]
 unfold wpOpsS
 rw [hget]
 simp only [hwant,if_true,ho]
 have hrec:recoverD (c₀::cs)=none:=by
  unfold recoverD
  simp only [hu]
 rw [hrec]
 simp only
 unfold wpOpsS
 have agr1:=agr0.put (dst:=some d) hdn .nilIface
 rw [hd]
 have hc:(c₀::cs) = { c₀ with mode:=.returning }::cs:=by rw [← hu]
 refine wpS_of_wp (wp_mono (h _ agr1) ?_)
 rintro e a w' ⟨σ',ha',hq⟩
 cases e with
 | normal=>exact⟨ha'.defs,_,hc,_,eP ha' (rs:=[]) (by rw [hr]; rfl) w',hq.1,rfl,hq.2⟩
 | ret=>exact⟨ha'.defs,_,hc,_,eP ha' (rs:=[]) (by rw [hr]; rfl) w',hq.1,rfl,hq.2⟩
 | panic ch=>obtain⟨⟨v,hv⟩,_⟩:=hq; cases hv
 | outgrown=>obtain⟨⟨v,hv⟩,_⟩:=hq; cases hv
 | exit id=>exact hq
 | goto l=>exact hq
theorem qy{o:Oper}{as:Array Operand}{tys:Array TypeId}(ho:o.op = .call { callee:=.builtin .recover,args:=as,argTypes:=tys })(has:as = #[])(ρ:Operand→Value)(w:World):(execOp ρ o).run P w = .ok .recover w:=by
 subst has
 simp [execOp,ho,resolve,invoke,builtin,E4,E3]
theorem jW(hc:∀(args:Array Value) (w:World),(callFunc fcl args).run P w = .ok (.enter fcl args) w):∀w,(invoke (.fn (.func fcl) caps) #[]).run P w = .ok (.enter fcl caps) w:=λw=>by simp [invoke,hc]
theorem tB{o:Oper}{x:Operand}{tys:Array TypeId}{ρ:Operand→Value}(ho:o.op = .defer { callee:=.value x,args:=#[],argTypes:=tys })(hx:ρ x = .func (.func fcl) #[] caps)(w:World):(execOp ρ o).run P w = .ok (.defer ⟨.fn (.func fcl) caps, #[]⟩) w:=by
 simp [execOp,ho,resolve,hx,Deferred.ofValue,E4,E3]
end
end Fw
end Go.Proofs.YtgaplodcdhhefaaGreat
