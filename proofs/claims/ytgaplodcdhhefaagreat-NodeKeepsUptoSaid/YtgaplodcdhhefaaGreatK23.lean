/- Ranges over functions: the loop, a round of it, a call of yield. No condition. -/
import Derived.Test.YtgaplodcdhhefaaGreatK10
import Derived.Test.YtgaplodcdhhefaaGreatK7
import Derived.RangeFuncNested
import Derived.RangeFuncLeaves
import Derived.RangeFuncCalls
import Derived.TacticsIn
import Derived.Scope
namespace Go.Proofs.YtgaplodcdhhefaaGreat
namespace Fw
set_option linter.unusedVariables false
set_option linter.unusedSimpArgs false
set_option linter.unusedSectionVars false
open Go.RowKit
abbrev FR(ro:Option Nat):Fence:={ Fence.wide with round:=ro }
theorem vA{ro:Option Nat}{n:Nat}{P:Program}{f:FuncId}{args:Array Value}{w:World}{R:Ending→World→Prop}(h:Calls P f args w R):CallsIn (FR ro) n P f args w R:=(callsIn_wide (n:=n)).2 h
theorem uB{n:Nat}{P:Program}{f:FuncId}{args:Array Value}{w:World}{R:Ending→World→Prop}(h:CallsIn (FR none) n P f args w R):Calls P f args w R:=(callsIn_wide (n:=n)).1 h
theorem AM{ro:Option Nat}{n:Nat}{P:Program}{row:String}{args:Array Value}{w:World}{R:Value→World→Prop}(h:Rows P row args w R):RowsIn (FR ro) n P row args w R:=λc cs _=>let ⟨v,w1,r,s⟩:=h c cs; ⟨v,w1,r,stepsIn_wide.2 s⟩
def ngQ(Q:Exit→Env→World→Prop):Exit→Env→World→Prop
 | .goto _,_,_=>False
 | e,σ,w=>Q e σ w
theorem WC.scope{P:Program}{N:FN}{C:World→Prop}{Q:Exit→Env→World→Prop}{σ:Env}{c:Code}(h:WC P N C c (ngQ Q) σ):WC P N C (.scope c) Q σ:=by
 intro w hw a ha
 refine wp_scope_straight (wp_mono (h w hw a ha) ?_)
 rintro e a' w' ⟨σ',ha',hq⟩
 cases e with
 | goto l=>exact hq.elim
 | _=>exact⟨σ',ha',hq⟩
def kq(K:Env→World→Prop):Exit→Env→World→Prop
 | .normal,σ,w=>K σ w
 | _,_,_=>False
section
variable {P:Program} {N:FN} {ro:Option Nat} {C:World→Prop} {Q:Exit→Env→World→Prop} {σ:Env} {w:World} {ops:Array Oper} {o:Oper} {rest:List Oper}
def WIp(P:Program)(ro:Option Nat)(N:FN)(ops:Array Oper)(Q:Exit→Env→World→Prop)(rest:List Oper)(σ:Env)(w:World):Prop := ∀a,Agr N a σ→wpListIn (FR ro) 0 P ops (lift N Q) rest a w
def WI(P:Program)(ro:Option Nat)(N:FN)(ops:Array Oper)(C:World→Prop)(Q:Exit→Env→World→Prop)(rest:List Oper)(σ:Env):Prop := ∀w,C w→WIp P ro N ops Q rest σ w
def WCIp(P:Program)(ro:Option Nat)(N:FN)(c:Code)(Q:Exit→Env→World→Prop)(σ:Env)(w:World):Prop := ∀a,Agr N a σ→c.wpIn (FR ro) 0 P (lift N Q) a w
def WCI(P:Program)(ro:Option Nat)(N:FN)(C:World→Prop)(c:Code)(Q:Exit→Env→World→Prop)(σ:Env):Prop := ∀w,C w→WCIp P ro N c Q σ w
def sqI(P:Program)(ro:Option Nat)(N:FN)(y:Code)(Q:Exit→Env→World→Prop):Exit→Env→World→Prop
 | .normal,σ,w=>WCIp P ro N y Q σ w
 | e,σ,w=>Q e σ w
theorem WI.nil(h:∀w,C w→Q .normal σ w):WI P ro N ops C Q [] σ:=λw hw a ha=>wpListIn_nil ⟨σ,ha,h w hw⟩
theorem WI.op(hd:∀c,o.op≠.defer c)(h:WR P N ops C (kq (WIp P ro N ops Q rest)) [o] σ):WI P ro N ops C Q (o::rest) σ:=by
 intro w hw a ha
 have h1:=h w hw a ha
 have nx0:∀a' w',wpList P ops (lift N (kq (WIp P ro N ops Q rest))) [] a' w'→wpListIn (FR ro) 0 P ops (lift N Q) rest a' w':=by
  rintro a' w' ⟨σ',ha',hk⟩
  exact hk _ ha'
 unfold wpList at h1
 unfold wpListIn
 by_cases hwn:Region.wanted o (yielded ops a.tmps)=true
 case neg=>
  rw [if_neg hwn] at h1 ⊢
  exact⟨λf _=>trivial,nx0 _ _ h1⟩
 rw [if_pos hwn] at h1 ⊢
 rcases h1 with h1 | ⟨_,h1⟩
 ·refine⟨λf _=>trivial,?_⟩
  rw [Oper.semAt_eq _ _ o hd]
  have nx:∀a' w',wpList P ops (lift N (kq (WIp P ro N ops Q rest))) [] a' w'→wpListIn (FR ro) 0 P ops (lift N Q) rest a' w':=nx0
  unfold Oper.wp at h1
  revert h1
  cases (execOp a.eval o).run P w with
  | ok n w'=>
   cases n with
   | value v=>intro h1; exact nx _ _ h1
   | skip=>intro h1; exact nx _ _ h1
   | defer d=>intro h1; exact nx _ _ h1
   | enter f args=>
    intro h1
    refine⟨λh=>absurd h (by simp [Fence.wide]),(vA h1).mono ?_⟩
    intro e w'' he
    cases e with
    | returned v=>exact nx _ _ he
    | panicked ch=>obtain⟨_,_,hf⟩:=he; exact hf.elim
    | outgrown=>obtain⟨_,_,_,_,hf⟩:=he; exact hf.elim
   | row r args=>
    intro h1
    exact⟨λh=>absurd h (by simp [Fence.wide]),(AM h1).mono λv w'' he=>nx _ _ he⟩
   | _=>intro h1; exact h1.elim
  | halt x w'=>
   cases x with
   | panic v=>intro h1; obtain⟨_,_,hf⟩:=h1; exact hf.elim
   | _=>intro h1; exact h1.elim
 ·obtain⟨_,_,_,_,hf⟩:=h1; exact hf.elim
theorem DG{os:Array Oper}(h:WI P ro N ops C Q rest σ):WR P N os C (kq (WIp P ro N ops Q rest)) [] σ:=Dz h
theorem WI.here(h:WI P ro N ops C Q rest σ)(hw:C w):WIp P ro N ops Q rest σ w:=h w hw
theorem WCI.here{c:Code}(h:WCI P ro N C c Q σ)(hw:C w):WCIp P ro N c Q σ w:=h w hw
theorem WCI.region{id:Nat}{l:List Oper}(h:WI P ro N l.toArray C Q l σ):WCI P ro N C (.region id l.toArray false) Q σ:=λw hw a ha=>wpIn_region_lit (h w hw a ha)
theorem WCI.seq{x y:Code}(h:WCI P ro N C x (sqI P ro N y Q) σ):WCI P ro N C (.seq x y) Q σ:=by
 intro w hw a ha
 refine wpIn_seq (wpIn_mono (h w hw a ha) ?_)
 rintro e a' w' ⟨σ',ha',hq⟩
 cases e with
 | normal=>exact hq a' ha'
 | _=>exact⟨σ',ha',hq⟩
theorem WCI.rs{id:Nat}{l:List Oper}{y:Code}(h:WI P ro N l.toArray C (sqI P ro N y Q) l σ):WCI P ro N C (.seq (.region id l.toArray false) y) Q σ:=WCI.seq (WCI.region h)
theorem WCI.cond{c:Operand}{x y:Code}{b:Bool}(hc:ev σ c = .bool b)(ht:b=true→WCI P ro N C x Q σ)(hf:b=false→WCI P ro N C y Q σ):WCI P ro N C (.cond c x y) Q σ:=by
 intro w hw a ha
 exact wpIn_cond_split (t:=b) (by rw [ha.eval]; exact hc) (λh=>ht h w hw a ha) (λh=>hf h w hw a ha)
theorem WCI.block{id:Nat}{c:Code}(h:WCI P ro N C c (bk id Q) σ):WCI P ro N C (.block id c) Q σ:=by
 intro w hw a ha
 refine wpIn_block (wpIn_mono (h w hw a ha) ?_)
 rintro e a' w' ⟨σ',ha',hq⟩
 cases e with
 | exit i=>
  simp only [Exit.inBlock]
  by_cases hi:i=id
  ·subst hi
   simp only [bk,Nat.beq_refl,cond_true] at hq
   simp only [if_true]
   exact⟨σ',ha',hq⟩
  ·have:Nat.beq i id=false:=by
    cases hb:Nat.beq i id with
    | false=>rfl
    | true=>exact absurd (Nat.eq_of_beq_eq_true hb) hi
   simp only [bk,this,cond_false] at hq
   simp only [hi,if_false]
   exact⟨σ',ha',hq⟩
 | _=>exact⟨σ',ha',hq⟩
theorem WCI.skip(h:∀w,C w→Q .normal σ w):WCI P ro N C .skip Q σ:=λw hw a ha=>wpIn_skip ⟨σ,ha,h w hw⟩
theorem WCI.label{l:Nat}(h:∀w,C w→Q .normal σ w):WCI P ro N C (.label l) Q σ:=λw hw a ha=>wpIn_label ⟨σ,ha,h w hw⟩
theorem WI.done{y:Code}(h:WCI P ro N C y Q σ):WI P ro N ops C (sqI P ro N y Q) [] σ:=WI.nil h
theorem WC.ofI{c:Code}(h:WCI P none N C c Q σ):WC P N C c Q σ:=λw hw a ha=>(wpIn_wide (n:=0)).1 (h w hw a ha)
theorem WI.sub{C':World→Prop}(h:∀w,C w→C' w)(k:WI P ro N ops C' Q rest σ):WI P ro N ops C Q rest σ:=λw hw=>k w (h w hw)
end
section
variable {P:Program} {N:FN} {F:Fm} {Γ Δ:Gh} {L U:List Rowb} {Q:Exit→Env→World→Prop} {σ:Env} {w:World} {ops:Array Oper} {o:Oper} {rest:List Oper} {l:Nat} {args:Array Value}
theorem tm{x:Operand}{as:Array Operand}{tys:Array TypeId}{ρ:Operand→Value}(ho:o.op = .call { callee:=.value x,args:=as,argTypes:=tys })
  (hf:ρ x = .func (.yield l) #[] #[]) (ha:as.map ρ=args) (w:World):(execOp ρ o).run P w=(Instr.yield l args).run P w:=by
 subst ha
 simp [execOp,ho,resolve,hf,Deferred.ofValue,invoke,E4,E3]
theorem WI.yield{is:List Nat}{Res:List Rowb→Gh→Value→Prop}(hg:o.guard=none)(hd:bR N o.dst=true)(hdf:∀c,o.op≠.defer c)(hr:∀w,(execOp (ev σ) o).run P w=(Instr.yield l args).run P w)(hi:okp is L.length=true)
  (h:∀w,Pre (pkU is L) Γ w→YieldAt (FR none) 0 P l args w (Outc Γ (pkU is L) w Res))
  (k:∀Δ U' v,Γ.le Δ→Res U' Δ v→WI P none N ops (CC F Δ (U'++pkR is L)) Q rest (updo σ o.dst v)):WI P none N ops (CC F Γ L) Q (o::rest) σ:=by
 intro w hw a ha
 refine wpListIn_plain hg λK hK=>⟨λf _=>trivial,?_⟩
 obtain⟨fn,tmps,assign,body,hy,hR⟩:=h w (hw.only hi).pre
 have h1:((o.semAt (FR none).round a.eval).run P w) = .ok (.round l fn tmps assign body) w:=by
  rw [Oper.semAt_eq _ _ o hdf,ha.eval,hr,hy]
 rw [h1]
 refine⟨λh=>absurd h (by simp [Fence.wide]),hR.mono ?_⟩
 rintro e w' ⟨v,rfl,Δ,U',he,hres⟩
 exact hK _ _ (k Δ U' v he.le hres w' ((hw.pick hi).eff he) _ (ha.put hd v))
theorem WI.sat{C:World→Prop}{ro:Option Nat}{j dj:Nat}{c0 g want:Bool}(hg:o.guard=some (j,want))(hj:(ops[j]?).bind (·.dst)=some dj)(hs:σ dj=gv c0 (.bool g))(hc:(c0&&(bif want then g else !g))=true)
  (k:WI P ro N ops C Q ({ o with guard:=none }::rest) σ):WI P ro N ops C Q (o::rest) σ:=by
 intro w hw a ha
 have h:=k w hw a ha
 have hc0:c0=true:=bV hc
 have hgw:g=want:=by have:=de hc; cases want <;> cases g <;> simp_all
 have hy:yielded ops a.tmps j=some g:=ha.yield hj (by rw [hs,hc0]; rfl)
 unfold wpListIn at h ⊢
 have h1:Region.wanted o (yielded ops a.tmps)=true:=by simp [Region.wanted,hg,hy,hgw]
 have h2:Region.wanted { o with guard:=none } (yielded ops a.tmps)=true:=by simp [Region.wanted]
 rw [if_pos h1]
 rw [if_pos h2] at h
 exact h
theorem xU(w:World)(k:Nat)(o:Obj):Fr (λj=>j=k) w (w.putObj k o):=
 ⟨rfl,rfl,rfl,λ_=>E6 _,by simp,λj _ hj=>World.putObj_heap_other hj⟩
theorem Cur.putObj(h:Cur F Γ L w){i k:Nat}{o o':Obj}(hi:L[i]? = some [(k,o)]):Cur F Γ (L.set i [(k,o')]) (w.putObj k o'):=by
 have hk:w.heap[k]? = some o:=h.loc _ (List.mem_of_getElem? hi) (k,o) (by simp)
 exact h.set hi ((xU w k o').mono λj hj=>⟨(k,o),by simp,hj.symm⟩)
  (λp hp=>by rw [List.mem_singleton.1 hp]; exact World.putObj_heap_same (dC hk))
  (λp hp=>.inl ⟨(k,o),by simp,by rw [List.mem_singleton.1 hp]⟩) (by simp)
theorem Outc.quiet{U:List Rowb}{w w':World}{e:Ending}{x:Value}{Res:List Rowb→Gh→Value→Prop}(hp:Pre U Γ w)(h:Outc Γ U w Res e w')(hr:∀U' Δ v,Res U' Δ v→v=x∧U'=U):e = .returned x∧Fr no w w':=by
 obtain⟨v,rfl,Δ,U',he,hres⟩:=h
 obtain⟨rfl,rfl⟩:=hr _ _ _ hres
 refine⟨rfl,he.fr.os,he.fr.tape,he.fr.output,he.fr.draw,he.fr.size,λk hk _=>?_⟩
 by_cases hs:ids U' k
 ·obtain⟨r,h1,p,h2,rfl⟩:=hs
  rw [he.loc r h1 p h2,hp.loc r h1 p h2]
 ·exact he.fr.keep k hk hs
theorem rW{U:List Rowb}{k:Nat}:ids [U.flatten] k↔ids U k:=by
 rw [mS,mS]; simp
theorem Eff.glue{U U':List Rowb}{w w':World}(h:Eff Γ Δ U U' w w'):Eff Γ Δ [U.flatten] [U'.flatten] w w':=
 ⟨h.fr.mono λk hk=>rW.2 hk,h.sat,h.le,λb o hb=>(h.gnew b o hb).imp id (Or.imp (λhk=>rW.2 hk) id),
  λr hr p hp=>by
   rw [List.mem_singleton.1 hr] at hp
   obtain⟨r',h1,h2⟩:=List.mem_flatten.1 hp
   exact h.loc r' h1 p h2,
  λr hr p hp=>by
   rw [List.mem_singleton.1 hr] at hp
   obtain⟨r',h1,h2⟩:=List.mem_flatten.1 hp
   exact(h.new r' h1 p h2).imp (λhk=>rW.2 hk) id,
  λr hr p hp=>by
   rw [List.mem_singleton.1 hr] at hp
   obtain⟨r',h1,h2⟩:=List.mem_flatten.1 hp
   exact h.out r' h1 p h2,
  by simpa using h.nodup⟩
theorem Pre.parts{U:List Rowb}(h:Pre [U.flatten] Γ w):Pre U Γ w:=by
 have:=h.start.unfold (i:=0) (U:=U) rfl rfl
 simpa using this.pre
theorem Agr.par2{n p q:Nat}{T:Array Value}{a b:Value}(h:Agr ⟨n,[]⟩ { tmps:=T,defers:=[] } σ)(hp:Nat.blt p n=true)(hq:Nat.blt q n=true):
  Agr ⟨n,[]⟩ { tmps:=((#[p,q]:Array Tmp).zip #[a,b]).foldl (λtmps (t,a)=>tmps.setIfInBounds t a) T,defers:=[] } (upd (upd σ p a) q b):=by
 have e:((#[p,q]:Array Tmp).zip #[a,b]).foldl (λtmps (t,a)=>tmps.setIfInBounds t a) T=(T.setIfInBounds p a).setIfInBounds q b:=by simp [← Array.foldl_toList]
 rw [e]
 exact(h.put (dst:=some p) hp a).put (dst:=some q) hq b
def YS.ob{S:Type}(J:Gh→Rowb→S→Prop)(Γ:Gh)(g:Nat)(row:Rowb)(x:S):Prop := ∃Γ',Γ'.le Γ∧J Γ' row x
theorem YS.ob.mono{S:Type}{J:Gh→Rowb→S→Prop}{Γ Δ:Gh}{g:Nat}{row:Rowb}{x:S}(h:YS.ob J Γ g row x)(hs:Γ.le Δ):YS.ob J Δ g row x:=by
 obtain⟨Γ',h1,h2⟩:=h; exact⟨Γ',h1.trans hs,h2⟩
theorem YS.of{S:Type}{J:Gh→Rowb→S→Prop}{Γ:Gh}{g:Nat}{row:Rowb}{x:S}(h:J Γ row x):YS.ob J Γ g row x:=⟨Γ,Gh.refl _,h⟩
def rq(F:Fm)(l:Nat)(rec:Loop)(Res:List Rowb→Gh→Value→Prop):Exit→Env→World→Prop:=
 kq λ_ w => ∃Δ L',Cur F Δ ([(l,.loop { rec with state:=.busy })]::L') w∧Res ([(l,.loop rec)]::L') Δ (.bool true)
theorem uJ{rec:Loop}{as_ bo_:Code}{Res:List Rowb→Gh→Value→Prop}(has:rec.assign=as_)(hbo:rec.body=bo_)(hp:Pre ([(l,.loop rec)]::U) Γ w)(hr:rec.state = .ready)(hn:rec.pending=none)(hs:args.size=rec.params.size){σ1:Env}
  (hA:Agr N { tmps:=(rec.params.zip args).foldl (λtmps (t,a)=>tmps.setIfInBounds t a) rec.tmps,defers:=[] } σ1)
  (h:∀F:Fm,F=⟨ids ([(l,.loop rec)]::U),w,Γ⟩→WCI P (some l) N (CC F Γ ([(l,.loop rec)]::U)) as_
   (kq λσ2 w2 => ∃Γ2 L2,Cur F Γ2 ([(l,.loop rec)]::L2) w2∧WCI P (some l) N (CC F Γ2 ([(l,.loop { rec with state:=.busy })]::L2)) bo_ (rq F l rec Res) σ2) σ1) :
  YieldAt (FR none) 0 P l args w (Outc Γ ([(l,.loop rec)]::U) w Res):=by
 subst has hbo
 have hl:w.heap[l]? = some (.loop rec):=hp.loc [(l,.loop rec)] (DT ..) (l,.loop rec) (List.mem_singleton.2 rfl)
 refine⟨rec.fn,_,rec.assign,rec.body,run_yield hl hs,roundIn_of_wpIn (F:=FR none) trivial ?_⟩
 refine wpIn_mono (h _ rfl w hp.start _ hA) ?_
 rintro e a2 w2 ⟨σ2,ha2,hq⟩
 cases e with
 | normal=>
  obtain⟨Γ2,L2,hc,hb⟩:=hq
  have hl2:w2.heap[l]? = some (.loop rec):=hc.loc [(l,.loop rec)] (DT ..) (l,.loop rec) (List.mem_singleton.2 rfl)
  refine⟨_,run_beginRound hl2 hr,wpIn_mono (hb _ (hc.putObj (i:=0) rfl) _ ha2) ?_⟩
  rintro e a3 w3 ⟨σ3,ha3,hq3⟩
  cases e with
  | normal=>
   obtain⟨Δ,L3,hc3,hres⟩:=hq3
   have hl3:w3.heap[l]? = some (.loop { rec with state:=.busy }):=hc3.loc [(l,.loop { rec with state:=.busy })] (DT ..) (l,.loop { rec with state:=.busy }) (List.mem_singleton.2 rfl)
   refine⟨_,_,run_endRound none hl3,?_⟩
   have he:({ rec with state:=.busy }:Loop) = { rec with state:=.busy }:=rfl
   have h4:=hc3.putObj (i:=0) (o':=.loop { ({ rec with state:=.busy }:Loop) with state:=if (none:Option Code).isNone then .ready else .done,pending:=none }) rfl
   have h5:({ ({ rec with state:=.busy }:Loop) with state:=if (none:Option Code).isNone then .ready else .done,pending:=none }:Loop)=rec:=by
    cases rec; simp at hr hn ⊢; exact⟨hr.symm,hn.symm⟩
   rw [h5] at h4 ⊢
   exact⟨.bool true,rfl,Δ,_,h4.toEff,hres⟩
  | _=>exact hq3.elim
 | _=>exact hq.elim
def uF(Q:FN→Exit→Env→World→Prop):Exit→Act→World→Prop:=λe a w => ∃N σ,Agr N a σ∧Q N e σ w
def Wpt2(P:Program)(N:FN)(c:Code)(Q:FN→Exit→Env→World→Prop)(σ:Env)(w:World):Prop := ∀a,Agr N a σ→c.wp P (uF Q) a w
def WC2(P:Program)(N:FN)(C:World→Prop)(c:Code)(Q:FN→Exit→Env→World→Prop)(σ:Env):Prop := ∀w,C w→Wpt2 P N c Q σ w
def sq2(P:Program)(N:FN)(y:Code)(Q:FN→Exit→Env→World→Prop):Exit→Env→World→Prop
 | .normal,σ,w=>Wpt2 P N y Q σ w
 | e,σ,w=>Q N e σ w
end
section
variable {P:Program} {N:FN} {C:World→Prop} {Q2:FN→Exit→Env→World→Prop} {σ:Env} {w:World} {F:Fm} {Γ:Gh} {L:List Rowb}
theorem WC2.seq{x y:Code}(h:WC P N C x (sq2 P N y Q2) σ):WC2 P N C (.seq x y) Q2 σ:=by
 intro w hw a ha
 refine wp_seq (wp_mono (h w hw a ha) ?_)
 rintro e a' w' ⟨σ',ha',hq⟩
 cases e with
 | normal=>exact hq a' ha'
 | _=>exact⟨N,σ',ha',hq⟩
theorem WC2.of{c:Code}(h:WC P N C c (Q2 N) σ):WC2 P N C c Q2 σ:=by
 intro w hw a ha
 refine wp_mono (h w hw a ha) ?_
 rintro e a' w' ⟨σ',ha',hq⟩
 exact⟨N,σ',ha',hq⟩
theorem WC2.here{c:Code}(h:WC2 P N C c Q2 σ)(hw:C w):Wpt2 P N c Q2 σ w:=h w hw
def WC3(P:Program)(N:FN)(C:World→Prop)(y z:Code)(Q:FN→Exit→Env→World→Prop)(σ:Env):Prop := ∀w,C w→∀a,Agr N a σ→y.wp P (Exit.then (z.wp P (uF Q)) (uF Q)) a w
def sq3(P:Program)(N:FN)(y z:Code)(Q:FN→Exit→Env→World→Prop):Exit→Env→World→Prop
 | .normal,σ,w => ∀a,Agr N a σ→y.wp P (Exit.then (z.wp P (uF Q)) (uF Q)) a w
 | e,σ,w=>Q N e σ w
theorem WC2.seq3{x y z:Code}(h:WC P N C x (sq3 P N y z Q2) σ):WC2 P N C (.seq (.seq x y) z) Q2 σ:=by
 intro w hw a ha
 refine wp_seq (wp_seq (wp_mono (h w hw a ha) ?_))
 rintro e a' w' ⟨σ',ha',hq⟩
 cases e with
 | normal=>exact hq a' ha'
 | _=>exact⟨N,σ',ha',hq⟩
abbrev mark(D:Nat):Deferred:={ target:=.collected D,args:=#[] }
theorem WC3.rangeF{g:Operand}{ps:Array Tmp}{assign body y:Code}{gf id:Nat}{lb:Array Value}{n:Nat}(hg:ev σ g = .func (.func gf) #[] lb)(eg:∀(args:Array Value) (w:World),(callFunc gf args).run P w = .ok (.enter gf args) w)
  (h:∀(l D:Nat) (rec:Loop) (w:World),rec.state = .ready→rec.pending=none→rec.params=ps→rec.assign=assign→rec.body=body→Agr ⟨n,[]⟩ { tmps:=rec.tmps,defers:=[] } σ →
   Cur F Γ ([(l,.loop rec)]::[(D,.deferred (some []))]::L) w →
   Calls P gf (#[.func (.yield l) #[] #[]]++lb) w λe w' => ∃v,e = .returned v∧∃Δ L',Cur F Δ ([(l,.loop rec)]::[(D,.deferred (some []))]::L') w'∧WC2 P ⟨n,[mark D]⟩ (CC F Δ ([(D,.deferred (some []))]::L')) y Q2 σ) :
  WC3 P ⟨n,[]⟩ (CC F Γ L) (.block id (.rangeFunc g ps assign body)) y Q2 σ:=by
 intro w hw a ha
 refine(wp_block ((wpIn_wide (n:=0)).1 (wpIn_rangeFunc (F:=Fence.wide) λfn _=>?_)))
 obtain⟨rec,hrec⟩:∃rec:Loop,rec = { state:=.ready,pending:=none,fn,tmps:=a.tmps,params:=ps,assign,body,defers:=w.heap.size }:=⟨_,rfl⟩
 obtain⟨W1,hW1⟩:∃W1,W1=(w.alloc (.deferred (some []))).alloc (.loop { state:=.ready,pending:=none,fn,tmps:=a.tmps,params:=ps,assign,body,defers:=w.heap.size }):=⟨_,rfl⟩
 refine⟨w.heap.size+1,[mark w.heap.size],W1,{ target:=.fn (.func gf) lb,args:=#[.func (.yield (w.heap.size+1)) #[] #[]] },W1,gf, #[.func (.yield (w.heap.size+1)) #[] #[]]++lb,W1,hW1▸run_enterLoop_outer _ _ _ _ _,?_,λ_ _=>trivial,?_,λh=>absurd h (by simp [Fence.wide]),?_⟩
 ·simp only [resolve,ha.eval,hg]
  simp [go_sem,ev]
 ·simp [invoke,go_sem,eg]
 ·have h1:=hw.new (.deferred (some []))
  have h2:=h1.new (.loop rec)
  rw [World.size_alloc] at h2
  rw [hrec, ← hW1, ← hrec] at h2
  refine vA ((h _ _ rec _ (by rw [hrec]) (by rw [hrec]) (by rw [hrec]) (by rw [hrec]) (by rw [hrec]) ⟨by rw [hrec]; exact ha.size,rfl,by rw [hrec]; exact ha.read⟩ h2).mono ?_)
  rintro e w' ⟨v,rfl,Δ,L',hc,hk⟩
  have hl:w'.heap[w.heap.size+1]? = some (.loop rec):=hc.loc [(_,.loop rec)] (DT ..) (_,.loop rec) (List.mem_singleton.2 rfl)
  refine⟨none,w'.putObj (w.heap.size+1) (.loop { rec with state:=.exhausted,pending:=none }),?_,?_⟩
  ·have h7:=run_endLoop (P:=P) hl (by rw [hrec]; simp)
   rw [show rec.pending=none by rw [hrec]] at h7
   exact h7
  ·have h5:=hc.putObj (i:=0) (o':=.loop { rec with state:=.exhausted,pending:=none }) rfl
   have h6:Cur F Δ ([(w.heap.size,.deferred (some []))]::L') _:=h5.sub (List.sublist_cons_self _ _)
   exact hk _ h6 _ ⟨ha.size,by simp [ha.defs],ha.read⟩
def fq2(rs:List Nat)(R:Ending→World→Prop):FN→Exit→Env→World→Prop
 | N,.normal,σ,w | N,.ret,σ,w => ∃D,N.ds = [mark D]∧w.heap[D]? = some (.deferred (some []))∧R (.returned (retV σ rs)) (w.putObj D (.deferred none))
 | _,_,_,_=>False
theorem tz{n:Nat}{f:FuncId}{fn:Func}{c:Code}{args:List Value}{R:Ending→World→Prop}{rs:List Nat}(hf:P.funcs[f]? = some fn)(hb:fn.body=some c)(hn:fn.ntmps=n)(hrs:fn.results=(rs.map ResultVar.tmp).toArray)
  (ha:Nat.ble args.length n=true) (h:Wpt2 P ⟨n,[]⟩ c (fq2 rs R) (env0 args) w):Calls P f args.toArray w R:=by
 have hle:args.length≤n:=Nat.le_of_ble_eq_true ha
 refine uB (n:=0) (callsIn_of_wp_marks (F:=FR none) (n:=0) hf hb trivial ((wpIn_wide (n:=0)).2 (wp_mono (h _ ⟨by simp [hn]; omega,rfl,λt=>?_⟩) ?_)) rfl)
 ·by_cases ht:t<args.length
  ·simp [env0,Array.getD_eq_getD_getElem?,Array.getElem?_append,ht,List.getD]
  ·simp only [env0,Array.getD_eq_getD_getElem?,Array.getElem?_append,List.size_toArray,ht,if_false,List.getD,Array.getElem?_replicate]
   rw [List.getElem?_eq_none (by omega)]
   split <;> rfl
 ·rintro e a w' ⟨N,σ',ha',hq⟩
  cases e with
  | normal=>
   obtain⟨D,hd,hw,hr⟩:=hq
   show LeavesInM _ _ _ _ _ _ _ _ _
   rw [ha'.defs,hd]
   exact⟨by simp,.inl ⟨D,_,rfl,run_takeDeferred hw,_,eP ha' hrs _,hr⟩⟩
  | ret=>
   obtain⟨D,hd,hw,hr⟩:=hq
   show LeavesInM _ _ _ _ _ _ _ _ _
   rw [ha'.defs,hd]
   exact⟨by simp,.inl ⟨D,_,rfl,run_takeDeferred hw,_,eP ha' hrs _,hr⟩⟩
  | _=>exact hq.elim
theorem BI{Γ0:Gh}{E:World}{D:Nat}{U:List Rowb}{rs:List Nat}{is:List Nat}{Res:List Rowb→Gh→Value→Prop}{x:Value}(hx:retV σ rs=x)(hw:Cur ⟨ids U,E,Γ0⟩ Γ ([(D,.deferred (some []))]::L) w)(hi:okp is L.length=true)
  (hr:Res (pkU is L) Γ x):fq2 rs (Outc Γ0 U E Res) ⟨N.n,[mark D]⟩ .ret σ w:=by
 have hd:w.heap[D]? = some (.deferred (some [])):=hw.loc [(D,.deferred (some []))] (DT ..) (D,_) (List.mem_singleton.2 rfl)
 have h1:=(hw.putObj (i:=0) (o':=.deferred none) rfl).sub (List.sublist_cons_self _ _)
 exact⟨D,rfl,hd,x,by rw [hx],Γ,_,(h1.only hi).toEff,hr⟩
theorem BV{Γ0:Gh}{E:World}{D:Nat}{U:List Rowb}{rs:List Nat}{is:List Nat}{Res:List Rowb→Gh→Value→Prop}{x:Value}(hx:retV σ rs=x)(hw:Cur ⟨ids U,E,Γ0⟩ Γ ([(D,.deferred (some []))]::L) w)(hi:okp is L.length=true)
  (hr:Res (pkU is L) Γ x):fq2 rs (Outc Γ0 U E Res) ⟨N.n,[mark D]⟩ .normal σ w:=BI hx hw hi hr
end
end Fw
end Go.Proofs.YtgaplodcdhhefaaGreat
