/- Maps that the call knows whole, rows opened and folded. No condition. -/
import Derived.Test.YtgaplodcdhhefaaGreatK5
import Derived.MapKept
namespace Go.Proofs.YtgaplodcdhhefaaGreat
namespace Fw
set_option linter.unusedVariables false
set_option linter.unusedSimpArgs false
set_option linter.unusedSectionVars false
open Go.RowKit Go.MapKept
section
variable {κ α:Type} [DecidableEq κ]
def mget(x:κ):List (κ×α)→Option α
 | []=>none
 | p::ps=>if x=p.1 then some p.2 else mget x ps
def mput(x:κ)(v:α):List (κ×α)→List (κ×α)
 | []=>[(x,v)]
 | p::ps=>if x=p.1 then (x,v)::ps else p::mput x v ps
theorem kX(x y:κ)(v:α):∀es:List (κ×α),mget y (mput x v es)=if y=x then some v else mget y es
 | []=>by simp [mput,mget]
 | p::ps=>by
  have ih:=kX x y v ps
  unfold mput
  split
  ·rename_i h; simp only [mget, ← h]; by_cases hy:y=x <;> simp [hy]
  ·rename_i h; simp only [mget,ih]; by_cases hy:y=p.1
   ·have hne:¬ y=x:=λe=>h (e.symm.trans hy)
    simp [hy]; intro e; exact absurd e.symm h
   ·simp [hy]
theorem rj{x:κ}{v:α}:∀{es:List (κ×α)},mget x es=none→mput x v es=es++[(x,v)]
 | [],_=>rfl
 | p::ps,h=>by
  unfold mget at h
  unfold mput
  split at h
  ·cases h
  ·rename_i hne; simp [hne,rj h]
def fnd(x:κ):List (κ×Value)→Nat→Option (Nat×Value)
 | [],_=>none
 | p::ps,i=>if x=p.1 then some (i,p.2) else fnd x ps (i+1)
end
structure KeyT (P:Program) (k:TypeId) (κ:Type) [DecidableEq κ] where
 val:κ→Value
 check:∀w em x,(Instr.checkKey em 10000 k (val x)).run P w = .ok () w
 find:∀w x (es:List MapEntry) (ps:List (κ×Value)),es.map (λe=>(e.key,e.val))=ps.map (λp=>(val p.1,p.2))→(Instr.findKey k (val x) es).run P w = .ok (fnd x ps 0) w
 stays:∀w x,(Instr.keyThatStays (val x) (val x)).run P w = .ok (val x) w
 inj:∀{x y},val x=val y→x=y
 ok:κ→Prop
theorem qB{κ:Type}[DecidableEq κ]{d:TypeDesc}{val:κ→Value}(h:∀a b,Instr.sameNow d (val a) (val b)=some (decide (a=b)))(x:κ):
  ∀(es:List MapEntry) (ps:List (κ×Value)) (i:Nat),es.map (λe=>(e.key,e.val))=ps.map (λp=>(val p.1,p.2))→Instr.findNow d (val x) es i=some (fnd x ps i)
 | [],[],i,_=>rfl
 | [],p::ps,i,he=>by simp at he
 | e::es,[],i,he=>by simp at he
 | e::es,p::ps,i,he=>by
  simp only [E0,List.cons.injEq,Prod.mk.injEq] at he
  obtain⟨⟨h1,h2⟩,h3⟩:=he
  unfold Instr.findNow fnd
  rw [h1,h]
  by_cases hx:x=p.1
  ·simp [hx,h2]
  ·simp [hx,qB h x es ps (i+1) h3]
def KeyT.of_now{P:Program}{k:TypeId}{κ:Type}[DecidableEq κ]{d:TypeDesc}(hk:P.underlying k=some d)(val:κ→Value)(h:∀a b,Instr.sameNow d (val a) (val b)=some (decide (a=b)))
  (hc:∀w em x,(Instr.checkKey em 10000 k (val x)).run P w = .ok () w) (hs:∀w x,(Instr.keyThatStays (val x) (val x)).run P w = .ok (val x) w) (hi:∀{x y},val x=val y→x=y) (ok:κ→Prop):KeyT P k κ where
 val:=val
 check:=hc
 find:=λw x es ps he=>by
  unfold Instr.findKey
  simp [run_underlying hk,qB h x es ps 0 he,E3,E4]
 stays:=hs
 inj:=hi
 ok:=ok
def KeyT.of_eq{P:Program}{k:TypeId}{κ:Type}[DecidableEq κ]{d:TypeDesc}(hk:P.underlying k=some d)(val:κ→Value)(hno:∀a b,Instr.sameNow d (val a) (val b)=none)(heq:∀w a b,(Op.equal k (val a) (val b)).run P w = .ok (decide (a=b)) w)
  (hc:∀w em x,(Instr.checkKey em 10000 k (val x)).run P w = .ok () w) (hs:∀w x,(Instr.keyThatStays (val x) (val x)).run P w = .ok (val x) w) (hi:∀{x y},val x=val y→x=y) (ok:κ→Prop):KeyT P k κ where
 val:=val
 check:=hc
 find:=λw x es ps he=>by
  have ask:∀(es:List MapEntry) (ps:List (κ×Value)) (i:Nat),es.map (λe=>(e.key,e.val))=ps.map (λp=>(val p.1,p.2))→(Instr.findAsking k (val x) es i).run P w = .ok (fnd x ps i) w:=by
   intro es
   induction es with
   | nil=>intro ps i he; cases ps with
    | nil=>rfl
    | cons _ _=>simp at he
   | cons e es ih=>intro ps i he; cases ps with
    | nil=>simp at he
    | cons p ps=>
     simp only [E0,List.cons.injEq,Prod.mk.injEq] at he
     obtain⟨⟨h1,h2⟩,h3⟩:=he
     unfold Instr.findAsking fnd
     rw [h1]
     by_cases hx:x=p.1
     ·simp [heq,hx,h2,E3,E4]
     ·simp [heq,hx,ih ps (i+1) h3,E3,E4]
  cases es with
  | nil=>cases ps with
   | nil=>simp [Instr.findKey,run_underlying hk,Instr.findNow,fnd,E3,E4]
   | cons _ _=>simp at he
  | cons e es=>cases ps with
   | nil=>simp at he
   | cons p ps=>
    have h0:=he
    simp only [E0,List.cons.injEq,Prod.mk.injEq] at h0
    have h4:Instr.findNow d (val x) (e::es) 0=none:=by unfold Instr.findNow; rw [h0.1.1,hno]
    simp [Instr.findKey,run_underlying hk,h4,ask (e::es) (p::ps) 0 he,E3,E4]
 stays:=hs
 inj:=hi
 ok:=ok
def intK{P:Program}{k:TypeId}(hk:P.underlying k=some (.int .i64)):KeyT P k Int:=
 KeyT.of_now hk (λx=>.int .i64 x) (λa b=>by simp only [Instr.sameNow,if_true]; by_cases h:a=b <;> simp [h])
  (λw em x=>run_checkKey hk (show IsKey _ (.int .i64 x) from rfl) em 9999) (λw x=>run_keyThatStays (d:=.int .i64) rfl) (λh=>by injection h) I64
theorem iZ(a b:ByteArray):(a==b)=decide (a=b):=by
 rcases a with ⟨a⟩
 rcases b with ⟨b⟩
 show (a==b)=_
 by_cases h:a=b <;> simp [h]
def strK{P:Program}{k:TypeId}(hk:P.underlying k=some .string):KeyT P k ByteArray:=
 KeyT.of_now hk (λx=>.string x) (λa b=>by simp only [Instr.sameNow,iZ])
  (λw em x=>run_checkKey hk (show IsKey _ (.string x) from trivial) em 9999) (λw x=>run_keyThatStays (d:=.string) trivial) (λh=>by injection h) (λs=>s.size≤lim)
structure Tv (α:Type) where
 rv:Gh→Value→α→Prop
 mono:∀{Γ Δ v x},rv Γ v x→Γ.le Δ→rv Δ v x
def Ty.v{α:Type}(T:Ty α):Tv α:=⟨λΓ v x=>T.rd Γ [v] x,λh hs=>T.mono h hs⟩
section
variable {κ α:Type}
def mrd(V:Tv α)(Γ:Gh):List (κ×Value)→List (κ×α)→Prop
 | [],[]=>True
 | p::ps,e::es=>p.1=e.1∧V.rv Γ p.2 e.2∧mrd V Γ ps es
 | _,_=>False
theorem rU{V:Tv α}{Γ Δ:Gh}(hs:Γ.le Δ):∀{ps:List (κ×Value)} {es:List (κ×α)},mrd V Γ ps es→mrd V Δ ps es
 | [],[],_=>trivial
 | [],_::_,h=>h.elim
 | _::_,[],h=>h.elim
 | _::_,_::_,⟨h1,h2,h3⟩=>⟨h1,V.mono h2 hs,rU hs h3⟩
theorem pD{V:Tv α}{Γ:Gh}:∀{ps:List (κ×Value)} {es:List (κ×α)},mrd V Γ ps es→ps.length=es.length
 | [],[],_=>rfl
 | [],_::_,h=>h.elim
 | _::_,[],h=>h.elim
 | _::_,_::_,⟨_,_,h3⟩=>by simp [pD h3]
end
section
variable {κ α:Type} [DecidableEq κ]
theorem pk{V:Tv α}{Γ:Gh}{x:κ}:∀{ps:List (κ×Value)} {es:List (κ×α)} (i:Nat),mrd V Γ ps es →
  (fnd x ps i=none∧mget x es=none)∨∃j v a,fnd x ps i=some (i+j,v)∧mget x es=some a∧V.rv Γ v a∧∃q,ps[j]? = some q∧q.1=x
 | [],[],_,_=>.inl ⟨rfl,rfl⟩
 | [],_::_,_,h=>h.elim
 | _::_,[],_,h=>h.elim
 | p::ps,e::es,i,⟨h1,h2,h3⟩=>by
  unfold fnd mget
  rw [← h1]
  by_cases hx:x=p.1
  ·right; exact⟨0,p.2,e.2,by simp [hx],by simp [hx],h2,p,by simp,hx.symm⟩
  ·simp only [hx,if_false]
   rcases pk (x:=x) (i+1) h3 with h | ⟨j,v,a,g1,g2,g3,q,g4,g5⟩
   ·exact .inl h
   ·exact .inr ⟨j+1,v,a,by rw [g1,Nat.add_assoc,Nat.add_comm 1 j],g2,g3,q,by simpa using g4,g5⟩
theorem wO{V:Tv α}{Γ:Gh}{x:κ}{v:Value}{a:α}(hv:V.rv Γ v a):∀{ps:List (κ×Value)} {es:List (κ×α)},mrd V Γ ps es→mrd V Γ (mput x v ps) (mput x a es)
 | [],[],_=>⟨rfl,hv,trivial⟩
 | [],_::_,h=>h.elim
 | _::_,[],h=>h.elim
 | p::ps,e::es,⟨h1,h2,h3⟩=>by
  unfold mput
  rw [← h1]
  by_cases hx:x=p.1
  ·simp only [hx,if_true]; exact⟨rfl,hv,h3⟩
  ·simp only [hx,if_false]; exact⟨h1,h2,wO hv h3⟩
theorem uN{x:κ}:∀{ps:List (κ×Value)} {i:Nat},fnd x ps i=none→∀p∈ps,p.1≠x
 | [],_,_,p,hp=>by cases hp
 | q::ps,i,h,p,hp=>by
  unfold fnd at h
  split at h
  ·cases h
  ·rename_i hne
   rcases List.mem_cons.1 hp with e | e
   ·subst e; exact λe2=>hne e2.symm
   ·exact uN h p e
theorem tj{x:κ}{v:Value}:∀{ps:List (κ×Value)} {i:Nat},fnd x ps i=none→mput x v ps=ps++[(x,v)]
 | [],_,_=>rfl
 | p::ps,i,h=>by
  unfold fnd at h
  unfold mput
  split at h
  ·cases h
  ·rename_i hne; simp [hne,tj h]
theorem tD{x:κ}{v u:Value}:∀{ps:List (κ×Value)} {i j:Nat},fnd x ps i=some (i+j,u)→mput x v ps=ps.set j (x,v)∧j<ps.length
 | [],_,_,h=>by simp [fnd] at h
 | p::ps,i,j,h=>by
  unfold fnd at h
  unfold mput
  split at h
  ·rename_i he
   simp only [Ec,Prod.mk.injEq] at h
   have:j=0:=by omega
   subst this
   simp [he]
  ·rename_i hne
   have hj:∃j',j=j'+1:=by
    have hge:∀(ps:List (κ×Value)) (i q:Nat) (u:Value),fnd x ps i=some (q,u)→i≤q:=by
     intro ps
     induction ps with
     | nil=>intro i q u h; simp [fnd] at h
     | cons p ps ih=>
      intro i q u h
      unfold fnd at h
      split at h
      ·simp only [Ec,Prod.mk.injEq] at h; omega
      ·have:=ih _ _ _ h; omega
    have:=hge _ _ _ _ h
    exact⟨j - 1,by omega⟩
   obtain⟨j',rfl⟩:=hj
   have:=tD (v:=v) (i:=i+1) (j:=j') (u:=u) (ps:=ps) (by rw [h]; congr 2; omega)
   simp [hne,this.1,this.2]
end
theorem lf{P:Program}{w:World}{r:Nat}{es:Array MapEntry}{clock:Nat}(hb:w.heap[r]? = some (.map es clock)):(getObj r).run P w = .ok (.map es clock) w:=by
 simp [getObj,Sem.run,hb]
theorem p6{P:Program}{w:World}{r:Nat}{es:Array MapEntry}{clock:Nat}(o:Obj)(hb:w.heap[r]? = some (.map es clock)):(setObj r o).run P w = .ok () { w with heap:=w.heap.setIfInBounds r o }:=by
 simp [setObj,Sem.run,hb]
structure MapE {P:Program} {k:TypeId} {κ α:Type} [DecidableEq κ] (K:KeyT P k κ) (V:Tv α) (Γ:Gh) (row:Rowb) (g:Nat) (es:List (κ×α)):Prop where
 is:∃arr clock ps,row = [(g,.map arr clock)]∧arr.toList.map (λe=>(e.key,e.val))=ps.map (λp=>(K.val p.1,p.2))∧mrd V Γ ps es
 st:∃arr clock,row = [(g,.map arr clock)]∧Stamped arr clock
 ks:∀p∈es,K.ok p.1
def MAt{P:Program}{k:TypeId}{κ:Type}[DecidableEq κ](K:KeyT P k κ)(row:Rowb)(g:Nat)(x:κ)(z v:Value)(b:Bool):Prop:=
 ∃arr clock ps,row = [(g,.map arr clock)]∧arr.toList.map (λe=>(e.key,e.val))=ps.map (λp=>(K.val p.1,p.2))∧((fnd x ps 0=none∧v=z∧b=false)∨∃j,fnd x ps 0=some (j,v)∧b=true)
section
variable {P:Program} {N:FN} {Q:Exit→Env→World→Prop} {σ:Env} {o:Oper} {F:Fm} {Γ Δ:Gh} {w w':World} {L U U' R:List Rowb} {ops:Array Oper} {rest:List Oper} {κ α:Type} [DecidableEq κ] {k t e:TypeId} {K:KeyT P k κ} {V:Tv α} {row:Rowb} {g:Nat} {es:List (κ×α)}
theorem MapE.mono(h:MapE K V Γ row g es)(hs:Γ.le Δ):MapE K V Δ row g es:=by
 obtain⟨arr,clock,ps,h1,h2,h3⟩:=h.is
 exact⟨⟨arr,clock,ps,h1,h2,rU hs h3⟩,h.st,h.ks⟩
theorem MapE.stamped{arr:Array MapEntry}{clock:Nat}(h:MapE K V Γ [(g,.map arr clock)] g es):Stamped arr clock:=by
 obtain⟨arr2,clock2,h1,h2⟩:=h.st
 simp only [List.cons.injEq,Prod.mk.injEq,Obj.map.injEq,true_and,and_true] at h1
 obtain⟨rfl,rfl⟩:=h1
 exact h2
theorem MapE.one(h:MapE K V Γ row g es):∃obj,row = [(g,obj)]:=by
 obtain⟨arr,clock,ps,h1,_⟩:=h.is
 exact⟨_,h1⟩
theorem MapE.new(K:KeyT P k κ)(V:Tv α)(Γ:Gh)(g:Nat):MapE K V Γ [(g,.map #[] 0)] g ([]:List (κ×α)):=⟨⟨#[],0,[],rfl,rfl,trivial⟩,⟨#[],0,rfl,stamped_empty 0⟩,by simp⟩
theorem MapE.look(h:MapE K V Γ row g es)(x:κ){z:Value}{zx:α}(hz:V.rv Γ z zx):∃v,V.rv Γ v ((mget x es).getD zx)∧MAt K row g x z v (mget x es).isSome:=by
 obtain⟨arr,clock,ps,h1,h2,h3⟩:=h.is
 rcases pk (x:=x) 0 h3 with ⟨g1,g2⟩ | ⟨j,v,a,g1,g2,g3,q,g4,g5⟩
 ·exact⟨z,by rw [g2]; exact hz,arr,clock,ps,h1,h2,.inl ⟨g1,rfl,by rw [g2]; rfl⟩⟩
 ·exact⟨v,by rw [g2]; exact g3,arr,clock,ps,h1,h2,.inr ⟨_,g1,by rw [g2]; rfl⟩⟩
theorem k6{x:κ}{z v:Value}{b ok:Bool}{w:World}(ht:P.underlying t=some (.map k e))(hz:∀w,(zeroValue e).run P w = .ok z w)(hat:MAt K row g x z v b)(hr:∀p∈row,w.heap[p.1]? = some p.2):
  (Instr.lookup t (.map (some g)) (K.val x) ok).run P w = .ok (if ok then .tuple #[v,.bool b] else v) w:=by
 obtain⟨arr,clock,ps,rfl,h2,h3⟩:=hat
 have hb:=hr (g,.map arr clock) (by simp)
 have hf:=K.find w x arr.toList ps h2
 rcases h3 with ⟨g1,rfl,rfl⟩ | ⟨j,g1,rfl⟩
 ·simp [Instr.lookup,run_underlying ht,lf hb,K.check,hf,g1,hz,E3,E4,Result.andThen]
 ·simp [Instr.lookup,run_underlying ht,lf hb,K.check,hf,g1,E3,E4,Result.andThen]
theorem yl{mo xo:Operand}{i:Nat}{x:κ}{z v:Value}{b:Bool}(hat:MAt K row g x z v b)(ho:o.op = .lookup t mo xo true)(ht:P.underlying t=some (.map k e))(hz:∀w,(zeroValue e).run P w = .ok z w)
  (hm:ev σ mo = .map (some g)) (hx:ev σ xo=K.val x) (hi:L[i]? = some row):QV P (CC F Γ L) σ o (.tuple #[v,.bool b]):=
 λw hw=>by
  have:=k6 (ok:=true) ht hz hat (λp hp=>hw.at_ hi hp)
  simp only [execOp,ho,hm,hx,E3,this,if_true,Result.andThen_ok,E4]
theorem hZ{mo xo:Operand}{i:Nat}{x:κ}{z v:Value}{b:Bool}(hat:MAt K row g x z v b)(ho:o.op = .lookup t mo xo false)(ht:P.underlying t=some (.map k e))(hz:∀w,(zeroValue e).run P w = .ok z w)
  (hm:ev σ mo = .map (some g)) (hx:ev σ xo=K.val x) (hi:L[i]? = some row):QV P (CC F Γ L) σ o v:=
 λw hw=>by
  have:=k6 (ok:=false) ht hz hat (λp hp=>hw.at_ hi hp)
  simp only [execOp,ho,hm,hx,E3,this,Ed,if_false,Result.andThen_ok,E4]
theorem MapE.len(h:MapE K V Γ row g es):∃arr clock,row = [(g,.map arr clock)]∧arr.size=es.length:=by
 obtain⟨arr,clock,ps,h1,h2,h3⟩:=h.is
 refine⟨arr,clock,h1,?_⟩
 have:=congrArg List.length h2
 simp only [E8,Array.length_toList] at this
 rw [this,pD h3]
theorem nv{w:World}{g:Nat}{arr:Array MapEntry}{c:Nat}(obj:Obj)(hb:w.heap[g]? = some (.map arr c)):Fr (λk=>k=g) w { w with heap:=w.heap.setIfInBounds g obj }∧({ w with heap:=w.heap.setIfInBounds g obj }:World).heap[g]? = some obj:=by
 have hlt:g<w.heap.size:=by
  rcases Nat.lt_or_ge g w.heap.size with h | h
  ·exact h
  ·rw [Array.getElem?_eq_none h] at hb; cases hb
 refine⟨⟨rfl,rfl,rfl,λ_=>E6 _,by simp,λk _ hk=>?_⟩,?_⟩
 ·simp only [Array.getElem?_setIfInBounds]
  rw [if_neg (λe=>hk e.symm)]
 ·simp [Array.getElem?_setIfInBounds,hlt]
theorem tV{ok:κ→Prop}{x:κ}{a:α}:∀{es:List (κ×α)},(∀p∈es,ok p.1)→ok x→∀p∈mput x a es,ok p.1
 | [],_,hx,p,hp=>by
  simp only [mput,List.mem_singleton] at hp
  rw [hp]; exact hx
 | e::es,h,hx,p,hp=>by
  unfold mput at hp
  split at hp
  ·rcases List.mem_cons.1 hp with e2 | e2
   ·rw [e2]; exact hx
   ·exact h p (DU _ e2)
  ·rcases List.mem_cons.1 hp with e2 | e2
   ·rw [e2]; exact h e DT
   ·exact tV (λq hq=>h q (DU _ hq)) hx p e2
theorem um{mo xo vo:Operand}{i:Nat}{x:κ}{v:Value}{a:α}(hg:o.guard=none)(hdst:o.dst=none)(ho:o.op = .mapUpdate t mo xo vo)(ht:P.underlying t=some (.map k e))
  (hm:ev σ mo = .map (some g)) (hx:ev σ xo=K.val x) (hv:ev σ vo=v) (hi:L[i]? = some row) (hmap:MapE K V Γ row g es) (hrv:V.rv Γ v a) (hok:K.ok x)
  (k':∀row',MapE K V Γ row' g (mput x a es)→WR P N ops (CC F Γ (L.set i row')) Q rest σ):WR P N ops (CC F Γ L) Q (o::rest) σ:=by
 refine WR.eff hg (by rw [hdst]; rfl) λw hw=>?_
 obtain⟨arr,clock,ps,rfl,h2,h3⟩:=hmap.is
 have hb:=hw.at_ hi (p:=(g,.map arr clock)) (by simp)
 have hf:=K.find w x arr.toList ps h2
 have hset:∀obj,Cur F Γ L w→Cur F Γ (L.set i [(g,obj)]) { w with heap:=w.heap.setIfInBounds g obj }:=λobj hw=>
  hw.set hi ((nv obj hb).1.mono λk hk=>⟨(g,.map arr clock),by simp,hk.symm⟩) (λp hp=>by rw [List.mem_singleton.1 hp]; exact(nv obj hb).2)
   (λp hp=>.inl ⟨(g,.map arr clock),by simp,by rw [List.mem_singleton.1 hp]⟩) (by simp)
 have hmr:=wO (x:=x) hrv h3
 rcases pk (x:=x) 0 h3 with ⟨g1,g2⟩ | ⟨j,u,a',g1,g2,g3,q,g4,g5⟩
 ·refine⟨undef,{ w with heap:=w.heap.setIfInBounds g (.map (arr.push { key:=K.val x,val:=v,born:=clock }) (clock+1)) },.inr ⟨?_,rfl⟩,?_⟩
  rotate_left 1
  ·rw [hdst]
   refine k' [(g,.map (arr.push { key:=K.val x,val:=v,born:=clock }) (clock+1))] ?_ _ (hset _ hw)
   refine⟨⟨_,_,mput x v ps,rfl,?_,hmr⟩,⟨_,_,rfl,stamped_push hmap.stamped λy hy he=>?_⟩,tV hmap.ks hok⟩
   ·rw [tj g1]
    simp [h2]
   ·have:(y.key,y.val)∈ps.map (λp=>(K.val p.1,p.2)):=by rw [← h2]; exact List.mem_map.2 ⟨y,hy,rfl⟩
    obtain⟨p,hp,he2⟩:=List.mem_map.1 this
    have h5:p.1=x:=K.inj ((Prod.ext_iff.1 he2).1.trans he)
    exact uN g1 p hp h5
  ·simp [execOp,ho,hm,hx,hv,Instr.mapUpdate,run_underlying ht,lf hb,K.check,hf,g1,p6 _ hb,E3,E4,Result.andThen]
 ·obtain⟨hp1,hp2⟩:=tD (v:=v) g1
  have hlt:j<arr.size:=by
   have:=congrArg List.length h2
   simp only [E8,Array.length_toList] at this
   omega
  have hkey:arr[j].key=K.val x:=by
   have h4:=congrArg (λl=>l[j]?) h2
   simp only [List.getElem?_map,g4,Eh,Array.getElem?_toList,Array.getElem?_eq_getElem hlt,Ec,Prod.mk.injEq] at h4
   rw [h4.1,g5]
  refine⟨undef,{ w with heap:=w.heap.setIfInBounds g (.map (arr.modify j λe=>{ e with key:=K.val x,val:=v }) clock) },.inr ⟨?_,rfl⟩,?_⟩
  rotate_left 1
  ·rw [hdst]
   refine k' [(g,.map (arr.modify j λe=>{ e with key:=K.val x,val:=v }) clock)] ?_ _ (hset _ hw)
   refine⟨⟨_,_,mput x v ps,rfl,?_,hmr⟩,⟨_,_,rfl,stamped_modify hmap.stamped _ _ (λ_ _=>rfl) λy _ hy=>by
    rw [Array.getElem?_eq_getElem hlt] at hy
    injection hy with hy
    rw [← hy]; exact hkey.symm⟩,tV hmap.ks hok⟩
   rw [hp1]
   apply List.ext_getElem?
   intro q'
   have h4:=congrArg (λl=>l[q']?) h2
   simp only [List.getElem?_map,Array.getElem?_toList,Array.getElem?_modify,List.getElem?_set] at h4 ⊢
   by_cases hq:j=q'
   ·subst hq
    simp [hp2,Array.getElem?_eq_getElem hlt]
   ·simp only [hq,if_false]; exact h4
  ·have hst:=K.stays w x
   rw [← hkey] at hst
   simp [execOp,ho,hm,hx,hv,Instr.mapUpdate,run_underlying ht,lf hb,K.check,hf,g1,Array.getElem?_eq_getElem hlt,hkey,K.stays,p6 _ hb,E3,E4,Result.andThen]
theorem wg{d:Nat}(K:KeyT P k κ)(V:Tv α)(hg:o.guard=none)(hdst:o.dst=some d)(hd:bR N (some d)=true)(ho:o.op = .makeMap t none)
  (k':∀g row,MapE K V Γ row g ([]:List (κ×α))→WR P N ops (CC F Γ (row::L)) Q rest (upd σ d (.map (some g)))):WR P N ops (CC F Γ L) Q (o::rest) σ:=
 WR.new (mk:=λg=>.map (some g)) (obj:=.map #[] 0) hg hdst hd (λw _=>by simp [execOp,ho,Instr.makeMap,newObj,Sem.run,E4,E3]) λg=>k' g _ (MapE.new K V Γ g)
theorem wt{mo xo:Operand}{x:κ}{z v:Value}{b:Bool}(hi:∀p∈row,Γ p.1=some p.2)(hat:MAt K row g x z v b)(ho:o.op = .lookup t mo xo true)(ht:P.underlying t=some (.map k e))(hz:∀w,(zeroValue e).run P w = .ok z w)
  (hm:ev σ mo = .map (some g)) (hx:ev σ xo=K.val x):QV P (CC F Γ L) σ o (.tuple #[v,.bool b]):=
 λw hw=>by
  have:=k6 (ok:=true) ht hz hat (λp hp=>hw.sat _ _ (hi p hp))
  simp only [execOp,ho,hm,hx,E3,this,if_true,Result.andThen_ok,E4]
theorem ws{mo xo:Operand}{x:κ}{z v:Value}{b:Bool}(hi:∀p∈row,Γ p.1=some p.2)(hat:MAt K row g x z v b)(ho:o.op = .lookup t mo xo false)(ht:P.underlying t=some (.map k e))(hz:∀w,(zeroValue e).run P w = .ok z w)
  (hm:ev σ mo = .map (some g)) (hx:ev σ xo=K.val x):QV P (CC F Γ L) σ o v:=
 λw hw=>by
  have:=k6 (ok:=false) ht hz hat (λp hp=>hw.sat _ _ (hi p hp))
  simp only [execOp,ho,hm,hx,E3,this,Ed,if_false,Result.andThen_ok,E4]
def mdel(x:κ){β:Type}:List (κ×β)→List (κ×β)
 | []=>[]
 | p::ps=>if x=p.1 then ps else p::mdel x ps
theorem wM{x:κ}:∀{ps:List (κ×Value)} {es:List (κ×α)},mrd V Γ ps es→mrd V Γ (mdel x ps) (mdel x es)
 | [],[],_=>trivial
 | [],_::_,h=>h.elim
 | _::_,[],h=>h.elim
 | p::ps,e::es,⟨h1,h2,h3⟩=>by
  unfold mdel
  rw [← h1]
  by_cases hx:x=p.1
  ·simp only [hx,if_true]; exact h3
  ·simp only [hx,if_false]; exact⟨h1,h2,wM h3⟩
theorem tT{ok:κ→Prop}{x:κ}:∀{es:List (κ×α)},(∀p∈es,ok p.1)→∀p∈mdel x es,ok p.1
 | [],_,p,hp=>by cases hp
 | e::es,h,p,hp=>by
  unfold mdel at hp
  split at hp
  ·exact h p (DU _ hp)
  ·rcases List.mem_cons.1 hp with e2 | e2
   ·rw [e2]; exact h e DT
   ·exact tT (λq hq=>h q (DU _ hq)) p e2
theorem sW{x:κ}:∀{ps:List (κ×Value)} {i:Nat},fnd x ps i=none→mdel x ps=ps
 | [],_,_=>rfl
 | p::ps,i,h=>by
  unfold fnd at h
  unfold mdel
  split at h
  ·cases h
  ·rename_i hne; simp [hne,sW h]
theorem tG{x:κ}{u:Value}:∀{ps:List (κ×Value)} {i j:Nat},fnd x ps i=some (i+j,u)→mdel x ps=ps.eraseIdx j
 | [],_,_,h=>by simp [fnd] at h
 | p::ps,i,j,h=>by
  unfold fnd at h
  unfold mdel
  split at h
  ·rename_i he
   simp only [Ec,Prod.mk.injEq] at h
   have:j=0:=by omega
   subst this
   simp [he]
  ·rename_i hne
   have hge:∀(ps:List (κ×Value)) (i q:Nat) (u:Value),fnd x ps i=some (q,u)→i≤q:=by
    intro ps
    induction ps with
    | nil=>intro i q u h; simp [fnd] at h
    | cons p ps ih=>
     intro i q u h
     unfold fnd at h
     split at h
     ·simp only [Ec,Prod.mk.injEq] at h; omega
     ·have:=ih _ _ _ h; omega
   have:=hge _ _ _ _ h
   obtain⟨j',rfl⟩:∃j',j=j'+1:=⟨j - 1,by omega⟩
   have:=tG (i:=i+1) (j:=j') (u:=u) (ps:=ps) (by rw [h]; congr 2; omega)
   simp [hne,this]
theorem xI{ty2:TypeId}{mo xo:Operand}{i:Nat}{x:κ}(hi:L[i]? = some row)(hmap:MapE K V Γ row g es)(hg:o.guard=none)(hd:bR N o.dst=true)(ho:o.op = .call { callee:=.builtin .delete,args:=#[mo,xo],argTypes:=#[t,ty2] })(ht:P.underlying t=some (.map k e))
  (hm:ev σ mo = .map (some g)) (hx:ev σ xo=K.val x)
  (k':∀row',MapE K V Γ row' g (mdel x es)→WR P N ops (CC F Γ (L.set i row')) Q rest (updo σ o.dst (.tuple #[]))):WR P N ops (CC F Γ L) Q (o::rest) σ:=by
 refine WR.eff hg hd λw hw=>?_
 obtain⟨arr,clock,ps,rfl,h2,h3⟩:=hmap.is
 have hb:=hw.at_ hi (p:=(g,.map arr clock)) (by simp)
 have hf:=K.find w x arr.toList ps h2
 have hset:∀obj,Cur F Γ L w→Cur F Γ (L.set i [(g,obj)]) { w with heap:=w.heap.setIfInBounds g obj }:=λobj hw=>
  hw.set hi ((nv obj hb).1.mono λk hk=>⟨(g,.map arr clock),by simp,hk.symm⟩) (λp hp=>by rw [List.mem_singleton.1 hp]; exact(nv obj hb).2)
   (λp hp=>.inl ⟨(g,.map arr clock),by simp,by rw [List.mem_singleton.1 hp]⟩) (by simp)
 have hmr:=wM (x:=x) h3
 rcases pk (x:=x) 0 h3 with ⟨g1,g2⟩ | ⟨j,u,a',g1,g2,g3,q,g4,g5⟩
 ·refine⟨.tuple #[],{ w with heap:=w.heap.setIfInBounds g (.map arr clock) },.inl ?_,?_⟩
  rotate_left 1
  ·exact k' [(g,.map arr clock)] ⟨⟨_,_,mdel x ps,rfl,by rw [sW g1]; exact h2,hmr⟩,⟨_,_,rfl,hmap.stamped⟩,tT hmap.ks⟩ _ (hset _ hw)
  ·simp [execOp,ho,hm,hx,resolve,invoke,builtin,Builtin.delete_,run_underlying ht,lf hb,K.check,hf,g1,p6 _ hb,E3,E4,Result.andThen]
 ·refine⟨.tuple #[],{ w with heap:=w.heap.setIfInBounds g (.map (arr.eraseIdxIfInBounds j) clock) },.inl ?_,?_⟩
  rotate_left 1
  ·refine k' [(g,.map (arr.eraseIdxIfInBounds j) clock)] ⟨⟨_,_,mdel x ps,rfl,?_,hmr⟩,⟨_,_,rfl,stamped_erase hmap.stamped _⟩,tT hmap.ks⟩ _ (hset _ hw)
   have:mdel x ps=ps.eraseIdx j:=tG (i:=0) (u:=u) (by rw [g1])
   have e1:∀{β γ:Type} (f:β→γ) (l:List β) (j:Nat),(l.eraseIdx j).map f=(l.map f).eraseIdx j:=by
    intro β γ f l
    induction l with
    | nil=>intro j; rfl
    | cons a l ih=>intro j; cases j <;> simp [ih]
   rw [this,e1, ← h2, ← e1]
   congr 1
   simp
  ·have g1':fnd x ps 0=some (j,u):=by rw [g1]; simp
   simp [execOp,ho,hm,hx,resolve,invoke,builtin,Builtin.delete_,run_underlying ht,lf hb,K.check,hf,g1',p6 _ hb,E3,E4,Result.andThen]
theorem MapE.nodup(h:MapE K V Γ row g es):(es.map (·.1)).Nodup:=by
 obtain⟨arr,clock,ps,h1,h2,h3⟩:=h.is
 subst h1
 have h5:=((stamped_iff arr clock).1 h.stamped).2.2
 have hpk:∀{ps:List (κ×Value)} {es:List (κ×α)},mrd V Γ ps es→ps.map (·.1)=es.map (·.1):=by
  intro ps
  induction ps with
  | nil=>intro es h; cases es with
   | nil=>rfl
   | cons _ _=>exact h.elim
  | cons p ps ih=>intro es h; cases es with
   | nil=>exact h.elim
   | cons e es=>obtain⟨h1,_,h4⟩:=h; simp [h1,ih h4]
 have h6:arr.toList.map (·.key)=(es.map (·.1)).map K.val:=by
  have h7:=congrArg (List.map Prod.fst) h2
  rw [Eg,Eg] at h7
  rw [← hpk h3,Eg]
  exact h7
 have h8:(arr.toList.map (·.key)).Pairwise (·≠·):=by rw [List.pairwise_map]; exact h5
 rw [h6,List.pairwise_map] at h8
 exact h8.imp λhne he=>hne (by rw [he])
theorem vj{x:κ}:∀{l:List (κ×α)} {a:α},mget x l=some a→(x,a)∈l
 | [],_,h=>by cases h
 | p::l,a,h=>by
  unfold mget at h
  split at h
  ·rename_i he; injection h with h; subst h he; exact DT
  ·exact DU _ (vj h)
theorem qI{x:κ}{a:α}:∀{l:List (κ×α)},(l.map (·.1)).Nodup→(x,a)∈l→mget x l=some a
 | [],_,h=>by cases h
 | p::l,hn,h=>by
  rw [E0,List.nodup_cons] at hn
  unfold mget
  rcases List.mem_cons.1 h with e | e
  ·subst e; simp
  ·have:x≠p.1:=λhe=>hn.1 (by rw [← he]; exact List.mem_map.2 ⟨_,e,rfl⟩)
   simp only [this,if_false]
   exact qI hn.2 e
theorem nz{x:κ}:∀{l:List (κ×α)},mget x l=none↔x ∉ l.map (·.1)
 | []=>by simp [mget]
 | p::l=>by
  unfold mget
  by_cases he:x=p.1
  ·simp [he]
  ·simp only [he,if_false,E0,DX,false_or]
   exact nz
theorem tP{l l':List (κ×α)}(hp:l.Perm l')(hn:(l.map (·.1)).Nodup)(x:κ):mget x l=mget x l':=by
 have hn':(l'.map (·.1)).Nodup:=(hp.map _).nodup_iff.1 hn
 cases h:mget x l with
 | some a=>rw [qI hn' (hp.mem_iff.1 (vj h))]
 | none=>
  symm
  rw [nz] at h ⊢
  exact λhm=>h ((hp.map _).mem_iff.2 hm)
theorem tQ{x:κ}{a:α}:∀{l:List (κ×α)},(mput x a l).map (·.1)=if x∈l.map (·.1) then l.map (·.1) else l.map (·.1)++[x]
 | []=>by simp [mput]
 | p::l=>by
  unfold mput
  by_cases he:x=p.1
  ·simp [he]
  ·simp only [he,if_false,E0,DX,false_or,tQ (l:=l)]
   split <;> simp
theorem rC{x:κ}{a:α}{l:List (κ×α)}(hn:(l.map (·.1)).Nodup):((mput x a l).map (·.1)).Nodup:=by
 rw [tQ]
 split
 ·exact hn
 ·rename_i h
  rw [List.nodup_append]
  exact⟨hn,by simp,λp hp q hq e=>h (by rw [List.mem_singleton.1 hq] at e; rw [← e]; exact hp)⟩
theorem uX{x:κ}:∀{l:List (κ×α)},(mdel x l).Sublist l
 | []=>List.Sublist.refl _
 | p::l=>by
  unfold mdel
  split
  ·exact List.sublist_cons_self _ _
  ·exact List.Sublist.cons_cons _ uX
theorem sE{x:κ}{l:List (κ×α)}(hn:(l.map (·.1)).Nodup):((mdel x l).map (·.1)).Nodup:=hn.sublist (uX.map _)
theorem rJ{x:κ}{a:α}{q:κ×α}:∀{l:List (κ×α)},(l.map (·.1)).Nodup→(q∈mput x a l↔q=(x,a)∨(q∈l∧q.1≠x))
 | [],_=>by simp [mput]
 | p::l,hn=>by
  rw [E0,List.nodup_cons] at hn
  unfold mput
  by_cases he:x=p.1
  ·simp only [he,if_true,DX]
   constructor
   ·rintro (h | h)
    ·exact .inl h
    ·exact .inr ⟨.inr h,λe=>hn.1 (by rw [← e]; exact List.mem_map.2 ⟨q,h,rfl⟩)⟩
   ·rintro (h | ⟨h | h,h2⟩)
    ·exact .inl h
    ·subst h; exact absurd rfl h2
    ·exact .inr h
  ·simp only [he,if_false,DX,rJ hn.2]
   constructor
   ·rintro (h | h | h)
    ·subst h; exact .inr ⟨.inl rfl,λe=>he e.symm⟩
    ·exact .inl h
    ·exact .inr ⟨.inr h.1,h.2⟩
   ·rintro (h | ⟨h | h,h2⟩)
    ·exact .inr (.inl h)
    ·exact .inl h
    ·exact .inr (.inr ⟨h,h2⟩)
theorem rN{x:κ}{q:κ×α}:∀{l:List (κ×α)},(l.map (·.1)).Nodup→(q∈mdel x l↔q∈l∧q.1≠x)
 | [],_=>by simp [mdel]
 | p::l,hn=>by
  rw [E0,List.nodup_cons] at hn
  unfold mdel
  by_cases he:x=p.1
  ·simp only [he,if_true,DX]
   constructor
   ·exact λh=>⟨.inr h,λe=>hn.1 (by rw [← e]; exact List.mem_map.2 ⟨q,h,rfl⟩)⟩
   ·rintro⟨h | h,h2⟩
    ·subst h; exact absurd rfl h2
    ·exact h
  ·simp only [he,if_false,DX,rN hn.2]
   constructor
   ·rintro (h | h)
    ·subst h; exact⟨.inl rfl,λe=>he e.symm⟩
    ·exact⟨.inr h.1,h.2⟩
   ·rintro⟨h | h,h2⟩
    ·exact .inl h
    ·exact .inr ⟨h,h2⟩
theorem qx{β:Type}{l l':List β}(hn:l.Nodup)(hn':l'.Nodup)(h:∀q,q∈l↔q∈l'):l.Perm l':=(List.perm_ext_iff_of_nodup hn hn').2 h
theorem jg{l:List (κ×α)}(h:(l.map (·.1)).Nodup):l.Nodup:=(List.pairwise_map.1 h).imp λhne he=>hne (by rw [he])
theorem yk{l l':List (κ×α)}(hp:l.Perm l')(hn:(l.map (·.1)).Nodup)(x:κ)(a:α):(mput x a l).Perm (mput x a l'):=by
 have hn':(l'.map (·.1)).Nodup:=(hp.map _).nodup_iff.1 hn
 exact qx (jg (rC hn)) (jg (rC hn')) λq=>by rw [rJ hn,rJ hn',hp.mem_iff]
theorem yf{l l':List (κ×α)}(hp:l.Perm l')(hn:(l.map (·.1)).Nodup)(x:κ):(mdel x l).Perm (mdel x l'):=by
 have hn':(l'.map (·.1)).Nodup:=(hp.map _).nodup_iff.1 hn
 exact qx (jg (sE hn)) (jg (sE hn')) λq=>by rw [rN hn,rN hn',hp.mem_iff]
def MapO{P:Program}{k:TypeId}{κ α:Type}[DecidableEq κ](K:KeyT P k κ)(V:Tv α)(Γ:Gh)(row:Rowb)(g:Nat)(es:List (κ×α)):Prop := ∃es',es'.Perm es∧MapE K V Γ row g es'
theorem MapO.perm{es2:List (κ×α)}(h:MapO K V Γ row g es)(hp:es.Perm es2):MapO K V Γ row g es2:=let ⟨es',h1,h2⟩:=h; ⟨es',h1.trans hp,h2⟩
theorem MapO.mono(h:MapO K V Γ row g es)(hs:Γ.le Δ):MapO K V Δ row g es:=let ⟨es',h1,h2⟩:=h; ⟨es',h1,h2.mono hs⟩
theorem MapO.one(h:MapO K V Γ row g es):∃obj,row = [(g,obj)]:=let ⟨es',h1,h2⟩:=h; h2.one
theorem MapO.new(K:KeyT P k κ)(V:Tv α)(Γ:Gh)(g:Nat):MapO K V Γ [(g,.map #[] 0)] g ([]:List (κ×α)):=⟨[],List.Perm.refl _,MapE.new K V Γ g⟩
theorem MapO.nodup(h:MapO K V Γ row g es):(es.map (·.1)).Nodup:=let ⟨_,h1,h2⟩:=h; (h1.map _).nodup_iff.1 h2.nodup
theorem MapO.ks(h:MapO K V Γ row g es):∀p∈es,K.ok p.1:=let ⟨_,h1,h2⟩:=h; λp hp=>h2.ks p (h1.mem_iff.2 hp)
theorem MapO.look(h:MapO K V Γ row g es)(x:κ){z:Value}{zx:α}(hz:V.rv Γ z zx):∃v,V.rv Γ v ((mget x es).getD zx)∧MAt K row g x z v (mget x es).isSome:=by
 obtain⟨es',h1,h2⟩:=h
 rw [← tP h1 h2.nodup x]
 exact h2.look x hz
theorem cv{mo xo vo:Operand}{i:Nat}{x:κ}{v:Value}{a:α}(hg:o.guard=none)(hdst:o.dst=none)(ho:o.op = .mapUpdate t mo xo vo)(ht:P.underlying t=some (.map k e))
  (hm:ev σ mo = .map (some g)) (hx:ev σ xo=K.val x) (hv:ev σ vo=v) (hi:L[i]? = some row) (hmap:MapO K V Γ row g es) (hrv:V.rv Γ v a) (hok:K.ok x)
  (k':∀row',MapO K V Γ row' g (mput x a es)→WR P N ops (CC F Γ (L.set i row')) Q rest σ):WR P N ops (CC F Γ L) Q (o::rest) σ:=by
 obtain⟨es',h1,h2⟩:=hmap
 exact um hg hdst ho ht hm hx hv hi h2 hrv hok λrow' h3=>k' row' ⟨_,yk h1 h2.nodup x a,h3⟩
theorem lk{d:Nat}(K:KeyT P k κ)(V:Tv α)(hg:o.guard=none)(hdst:o.dst=some d)(hd:bR N (some d)=true)(ho:o.op = .makeMap t none)
  (k':∀g row,MapO K V Γ row g ([]:List (κ×α))→WR P N ops (CC F Γ (row::L)) Q rest (upd σ d (.map (some g)))):WR P N ops (CC F Γ L) Q (o::rest) σ:=
 wg K V hg hdst hd ho λg row h=>k' g row ⟨_,List.Perm.refl _,h⟩
theorem sc{ty2:TypeId}{mo xo:Operand}{i:Nat}{x:κ}(hi:L[i]? = some row)(hmap:MapO K V Γ row g es)(hg:o.guard=none)(hd:bR N o.dst=true)(ho:o.op = .call { callee:=.builtin .delete,args:=#[mo,xo],argTypes:=#[t,ty2] })(ht:P.underlying t=some (.map k e))
  (hm:ev σ mo = .map (some g)) (hx:ev σ xo=K.val x)
  (k':∀row',MapO K V Γ row' g (mdel x es)→WR P N ops (CC F Γ (L.set i row')) Q rest (updo σ o.dst (.tuple #[]))):WR P N ops (CC F Γ L) Q (o::rest) σ:=by
 obtain⟨es',h1,h2⟩:=hmap
 exact xI hi h2 hg hd ho ht hm hx λrow' h3=>k' row' ⟨_,yf h1 h2.nodup x,h3⟩
end
end Fw
end Go.Proofs.YtgaplodcdhhefaaGreat
