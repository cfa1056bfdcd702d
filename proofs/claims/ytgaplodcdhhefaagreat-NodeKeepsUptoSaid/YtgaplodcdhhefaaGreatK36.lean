/- Maps whose values are pointers to objects; maps of functions. No condition. -/
import Derived.Test.YtgaplodcdhhefaaGreatK34
namespace Go.Proofs.YtgaplodcdhhefaaGreat
namespace Fw
set_option linter.unusedVariables false
set_option linter.unusedSimpArgs false
set_option linter.unusedSectionVars false
open Go.RowKit Go.MapKept
def yM:Tv Nat:=⟨λ_ v g=>v = .pointer (some ⟨g,0,none⟩),λh _=>h⟩
structure Tob (ο:Type) where
 rd:Gh→Nat→Rowb→ο→Prop
 mono:∀{Γ Δ:Gh} {g:Nat} {row:Rowb} {x:ο},rd Γ g row x→Γ.le Δ→rd Δ g row x
section
variable {P:Program} {k:TypeId} {κ ο:Type} [DecidableEq κ]
def MJs(T:Tob ο)(Γ:Gh):List (κ×Nat)→List Rowb→List (κ×ο)→Prop
 | [],[],[]=>True
 | a::refs,r::rs,b::bs=>a.1=b.1∧T.rd Γ a.2 r b.2∧MJs T Γ refs rs bs
 | _,_,_=>False
structure MapJ (K:KeyT P k κ) (T:Tob ο) (Γ:Gh) (row:Rowb) (g:Nat) (bs:List (κ×ο)):Prop where
 is:∃(refs:List (κ×Nat)) (rowM:Rowb) (rs:List Rowb),MapO K yM Γ rowM g refs∧row=rowM++rs.flatten∧MJs T Γ refs rs bs
variable {K:KeyT P k κ} {T:Tob ο} {Γ Δ B:Gh} {row:Rowb} {g:Nat} {bs:List (κ×ο)}
theorem MJs.mono(hs:Γ.le Δ):∀{refs:List (κ×Nat)} {rs:List Rowb} {bs:List (κ×ο)},MJs T Γ refs rs bs→MJs T Δ refs rs bs
 | [],[],[],_=>trivial
 | _::_,_::_,_::_,⟨h1,h2,h3⟩=>⟨h1,T.mono h2 hs,MJs.mono hs h3⟩
 | [],_::_,_,h=>h.elim
 | [],[],_::_,h=>h.elim
 | _::_,[],_,h=>h.elim
 | _::_,_::_,[],h=>h.elim
theorem MapJ.mono(h:MapJ K T Γ row g bs)(hs:Γ.le Δ):MapJ K T Δ row g bs:=by
 obtain⟨refs,rowM,rs,h1,h2,h3⟩:=h.is
 exact⟨⟨refs,rowM,rs,h1.mono hs,h2,MJs.mono hs h3⟩⟩
theorem MJs.keys:∀{refs:List (κ×Nat)} {rs:List Rowb} {bs:List (κ×ο)},MJs T Γ refs rs bs→refs.map (·.1)=bs.map (·.1)
 | [],[],[],_=>rfl
 | _::_,_::_,_::_,⟨h1,_,h3⟩=>by rw [E0,E0,h1,MJs.keys h3]
 | [],_::_,_,h=>h.elim
 | [],[],_::_,h=>h.elim
 | _::_,[],_,h=>h.elim
 | _::_,_::_,[],h=>h.elim
theorem MJs.at_{x:κ}:∀{refs:List (κ×Nat)} {rs:List Rowb} {bs:List (κ×ο)},MJs T Γ refs rs bs →
  (mget x refs=none∧mget x bs=none)∨∃gs es rA r rB,mget x refs=some gs∧mget x bs=some es∧rs.flatten=rA++(r++rB)∧T.rd Γ gs r es ∧
   ∀Δ r' es',Γ.le Δ→T.rd Δ gs r' es'→∃rs',rs'.flatten=rA++(r'++rB)∧MJs T Δ refs rs' (mput x es' bs)
 | [],[],[],_=>.inl ⟨rfl,rfl⟩
 | [],_::_,_,h=>h.elim
 | [],[],_::_,h=>h.elim
 | _::_,[],_,h=>h.elim
 | _::_,_::_,[],h=>h.elim
 | a::refs,r::rs,b::bs,⟨h1,h2,h3⟩=>by
  by_cases he:x=a.1
  ·have he2:x=b.1:=he.trans h1
   refine .inr ⟨a.2,b.2,[],r,rs.flatten,by simp [mget,he],by simp [mget,he2],by simp,h2,λΔ r' es' hs hm=>⟨r'::rs,by simp,?_⟩⟩
   rw [show mput x es' (b::bs)=(x,es')::bs by unfold mput; rw [if_pos he2]]
   exact⟨he.symm,hm,MJs.mono hs h3⟩
  ·have he2:x≠b.1:=λe=>he (e.trans h1.symm)
   rcases MJs.at_ (x:=x) h3 with ⟨h4,h5⟩ | ⟨gs,es,rA,r2,rB,h4,h5,h6,h7,h8⟩
   ·exact .inl ⟨by simp [mget,he,h4],by simp [mget,he2,h5]⟩
   ·refine .inr ⟨gs,es,r++rA,r2,rB,by simp [mget,he,h4],by simp [mget,he2,h5],by simp [h6],h7,λΔ r' es' hs hm=>?_⟩
    obtain⟨rs',h9,h10⟩:=h8 Δ r' es' hs hm
    refine⟨r::rs',by simp [h9],?_⟩
    rw [show mput x es' (b::bs)=b::mput x es' bs by (conv=>lhs; unfold mput); rw [if_neg he2]]
    exact⟨h1,T.mono h2 hs,h10⟩
theorem MapJ.no(h:MapJ K T Γ row g bs){x:κ}(hx:mget x bs=none):∃rowM,MAt K rowM g x (.pointer none) (.pointer none) false∧(∀p∈rowM,p∈row):=by
 obtain⟨refs,rowM,rs,h1,h2,h3⟩:=h.is
 have hsub:∀p∈rowM,p∈row:=λp hp=>by rw [h2]; exact List.mem_append.2 (.inl hp)
 rcases h3.at_ (x:=x) with ⟨h4,h5⟩ | ⟨gs,es,rA,r2,rB,h4,h5,_⟩
 ·rcases h1.look2 x (.pointer none) with ⟨v,a,h8,_,_⟩ | ⟨h8,h9⟩
  ·rw [h4] at h8; cases h8
  ·exact⟨rowM,h9,hsub⟩
 ·rw [hx] at h5; cases h5
theorem MapJ.part(h:MapJ K T Γ row g bs){x:κ}{o:ο}(hx:mget x bs=some o):∃gs rowM rA r rB,MAt K rowM g x (.pointer none) (.pointer (some ⟨gs,0,none⟩)) true∧(∀p∈rowM,p∈rA)∧row=rA++(r++rB)∧T.rd Γ gs r o ∧
  ∀Δ r' es',Γ.le Δ→T.rd Δ gs r' es'→MapJ K T Δ (rA++(r'++rB)) g (mput x es' bs):=by
 obtain⟨refs,rowM,rs,h1,h2,h3⟩:=h.is
 rcases h3.at_ (x:=x) with ⟨h4,h5⟩ | ⟨gs,es,rA,r2,rB,h4,h5,h6,h7,h8⟩
 ·rw [h5] at hx; cases hx
 ·rcases h1.look2 x (.pointer none) with ⟨v,a,h9,h10,h11⟩ | ⟨h9,_⟩
  ·rw [h4] at h9; injection h9 with h9; subst h9
   have h10':v = .pointer (some ⟨gs,0,none⟩):=h10
   subst h10'
   rw [h5] at hx; injection hx with hx; subst hx
   refine⟨gs,rowM,rowM++rA,r2,rB,h11,λp hp=>List.mem_append.2 (.inl hp),by rw [h2,h6]; simp,h7,λΔ r' es' hs hm=>?_⟩
   obtain⟨rs',h12,h13⟩:=h8 Δ r' es' hs hm
   exact⟨⟨refs,rowM,rs',h1.mono hs,by rw [h12]; simp,h13⟩⟩
  ·rw [h4] at h9; cases h9
theorem MapJ.new(h:MapO K yM Γ row g ([]:List (κ×Nat))):MapJ K T Γ row g ([]:List (κ×ο)):=⟨⟨[],row,[],h,by simp,trivial⟩⟩
theorem MJs.snoc{x:κ}{gs:Nat}{r:Rowb}{es:ο}(hm:T.rd Γ gs r es):∀{refs:List (κ×Nat)} {rs:List Rowb} {bs:List (κ×ο)},MJs T Γ refs rs bs→MJs T Γ (refs++[(x,gs)]) (rs++[r]) (bs++[(x,es)])
 | [],[],[],_=>⟨rfl,hm,trivial⟩
 | [],_::_,_,h=>h.elim
 | [],[],_::_,h=>h.elim
 | _::_,[],_,h=>h.elim
 | _::_,_::_,[],h=>h.elim
 | _::_,_::_,_::_,⟨h1,h2,h3⟩=>⟨h1,h2,MJs.snoc hm h3⟩
end
section
variable {P:Program} {N:FN} {Q:Exit→Env→World→Prop} {σ:Env} {o:Oper} {F:Fm} {Γ:Gh} {L:List Rowb} {ops:Array Oper} {rest:List Oper} {k t e:TypeId} {κ ο:Type} [DecidableEq κ] {K:KeyT P k κ} {T:Tob ο} {row r2:Rowb} {g g2:Nat} {bs:List (κ×ο)} {es:ο}
theorem AH{mo xo vo:Operand}{i j:Nat}{x:κ}(hi:L[i]? = some row)(hne:i≠j)(hj:L[j]? = some r2)(hmm:MapJ K T Γ row g bs)(hm2:T.rd Γ g2 r2 es)(hn:(mget x bs).isSome=false)(hg:o.guard=none)(hdst:o.dst=none)(ho:o.op = .mapUpdate t mo xo vo)(ht:P.underlying t=some (.map k e))
  (hm:ev σ mo = .map (some g)) (hx:ev σ xo=K.val x) (hv:ev σ vo = .pointer (some ⟨g2,0,none⟩)) (hok:K.ok x)
  (k':∀row',MapJ K T Γ row' g (mput x es bs)→WR P N ops (CC F Γ (row'::(L.eraseIdx (if i<j then j else i)).eraseIdx (if i<j then i else j))) Q rest σ):WR P N ops (CC F Γ L) Q (o::rest) σ:=by
 obtain⟨refs,rowM,rs,h1,h2,h3⟩:=hmm.is
 have hil:i<L.length:=(List.getElem?_eq_some_iff.1 hi).1
 have hjl:j<L.length:=(List.getElem?_eq_some_iff.1 hj).1
 have hb0:mget x bs=none:=by cases h:mget x bs with | none=>rfl | some _=>rw [h] at hn; cases hn
 have hr0:mget x refs=none:=by
  rw [nz,h3.keys, ← nz]; exact hb0
 have hL:L.Perm (row::r2::(L.eraseIdx (if i<j then j else i)).eraseIdx (if i<j then i else j)):=by
  have hri:L[i]=row:=(List.getElem?_eq_some_iff.1 hi).2
  have hrj:L[j]=r2:=(List.getElem?_eq_some_iff.1 hj).2
  by_cases hlt:i<j
  ·simp only [hlt,if_true]
   have h5:=iY (d:=([]:Rowb)) hjl
   have hil2:i<(L.eraseIdx j).length:=by rw [List.length_eraseIdx]; simp [hjl]; omega
   have h6:=iY (d:=([]:Rowb)) hil2
   have e1:L.getD j []=r2:=by simp [List.getD,hj]
   have e2:(L.eraseIdx j).getD i []=row:=by simp [List.getD,List.getElem?_eraseIdx,hlt,hi]
   rw [e1] at h5; rw [e2] at h6
   exact(h5.symm.trans (h6.symm.cons _)).trans (List.Perm.swap _ _ _)
  ·have hlt2:j<i:=by omega
   simp only [hlt,if_false]
   have h5:=iY (d:=([]:Rowb)) hil
   have hjl2:j<(L.eraseIdx i).length:=by rw [List.length_eraseIdx]; simp [hil]; omega
   have h6:=iY (d:=([]:Rowb)) hjl2
   have e1:L.getD i []=row:=by simp [List.getD,hi]
   have e2:(L.eraseIdx i).getD j []=r2:=by simp [List.getD,List.getElem?_eraseIdx,hlt2,hj]
   rw [e1] at h5; rw [e2] at h6
   exact h5.symm.trans (h6.symm.cons _)
 generalize (L.eraseIdx (if i<j then j else i)).eraseIdx (if i<j then i else j)=R at *
 have h0:WR P N ops (CC F Γ ([rowM,rs.flatten,r2]++R)) Q (o::rest) σ:=by
  refine cv (i:=0) (row:=rowM) (x:=x) (a:=g2) hg hdst ho ht hm hx hv rfl h1 rfl hok λrow1 h4=>?_
  have h7:=k' (row1++(rs.flatten++r2)) ⟨⟨refs++[(x,g2)],row1,rs++[r2],by rw [rj hr0] at h4; exact h4,by simp,by rw [rj hb0]; exact MJs.snoc hm2 h3⟩⟩
  intro w hw
  refine h7 w ?_
  have h8:Cur F Γ ([row1,rs.flatten,r2]++R) w:=hw
  have h9:=Cur.glue h8
  simpa using h9
 intro w hw
 have h10:Cur F Γ (row::r2::R) w:=hw.permL hL.symm
 have h11:Cur F Γ ([rowM,rs.flatten].flatten::r2::R) w:=by
  rw [show ([rowM,rs.flatten]:List Rowb).flatten=row by rw [h2]; simp]; exact h10
 exact h0 w (by have:=Cur.unglue (U:=[rowM,rs.flatten]) h11; exact this)
end
def fnV(g:Nat):Tv Nat:=⟨λ_ v f=>v = .func (.func f) #[.pointer (some ⟨g,0,none⟩)] #[],λh _=>h⟩
theorem WR.insert{P:Program}{N:FN}{Q:Exit→Env→World→Prop}{σ:Env}{o:Oper}{C:World→Prop}{ops:Array Oper}{rest:List Oper}{t:TypeId}{mo xo vo:Operand}(hg:o.guard=none)(hdst:o.dst=none)(ho:o.op = .insert t mo xo vo)
  (h:∀o':Oper,o'.guard=none→o'.dst=none→o'.op = .mapUpdate t mo xo vo→WR P N ops C Q (o'::rest) σ):WR P N ops C Q (o::rest) σ:=by
 intro w hw a ha
 have h1:=h { o with op:=.mapUpdate t mo xo vo } hg hdst rfl w hw a ha
 cases o
 simp only at hg hdst ho
 subst hg hdst ho
 exact h1
theorem MapO.hit{P:Program}{k:TypeId}{κ α:Type}[DecidableEq κ]{K:KeyT P k κ}{V:Tv α}{Γ:Gh}{row:Rowb}{g:Nat}{es:List (κ×α)}(h:MapO K V Γ row g es){x:κ}{a:α}(z:Value)(hx:mget x es=some a):∃v,V.rv Γ v a∧MAt K row g x z v true:=by
 rcases h.look2 x z with ⟨v,b,h1,h2,h3⟩ | ⟨h1,_⟩
 ·rw [hx] at h1; injection h1 with h1; subst h1; exact⟨v,h2,h3⟩
 ·rw [hx] at h1; cases h1
theorem MapO.miss{P:Program}{k:TypeId}{κ α:Type}[DecidableEq κ]{K:KeyT P k κ}{V:Tv α}{Γ:Gh}{row:Rowb}{g:Nat}{es:List (κ×α)}(h:MapO K V Γ row g es){x:κ}(z:Value)(hx:mget x es=none):MAt K row g x z z false:=by
 rcases h.look2 x z with ⟨v,b,h1,h2,h3⟩ | ⟨_,h1⟩
 ·rw [hx] at h1; cases h1
 ·exact h1
theorem vW{α:Type}(x:Option α):x=none∨∃o,x=some o:=by cases x with | none=>exact .inl rfl | some o=>exact .inr ⟨o,rfl⟩
section
variable {P:Program} {C:World→Prop} {σ:Env} {o:Oper} {x y:Operand} {t ty:TypeId} {ps rs:Array TypeId} {b:Bool} {fd:Fn} {a1 a2:Array Value}
theorem rL(ht:P.underlying t=some (.func ps rs b))(ho:o.op = .binOp .neq t x y ty)(hx:ev σ x = .func fd a1 a2)(hy:ev σ y = .nilFunc):QV P C σ o (.bool true):=
 λw _=>by
  have h1:eqGuard .neq t x y (.func fd a1 a2) .nilFunc=pure ():=rfl
  have h2:binOp .neq t (.func fd a1 a2) .nilFunc=(Op.equal t (.func fd a1 a2) .nilFunc >>= λr=>pure (.bool !r)):=rfl
  have h4:∀d,(Op.equalIn (d+1) t (.func fd a1 a2) .nilFunc).run P w = .ok false w:=by
   intro d
   simp only [Op.equalIn,E3,run_underlying ht,Result.andThen_ok]
   rfl
  have h3:(Op.equal t (.func fd a1 a2) .nilFunc).run P w = .ok false w:=h4 9999
  simp only [execOp,ho,hx,hy,h1,h2,E3,E4,Result.andThen_ok,h3]; rfl
theorem zy(ht:P.underlying t=some (.func ps rs b))(ho:o.op = .binOp .neq t x y ty)(hx:ev σ x = .nilFunc)(hy:ev σ y = .nilFunc):QV P C σ o (.bool false):=
 λw _=>by
  have h1:eqGuard .neq t x y (.nilFunc) .nilFunc=pure ():=rfl
  have h2:binOp .neq t (.nilFunc) .nilFunc=(Op.equal t (.nilFunc) .nilFunc >>= λr=>pure (.bool !r)):=rfl
  have h4:∀d,(Op.equalIn (d+1) t (.nilFunc) .nilFunc).run P w = .ok true w:=by
   intro d
   simp only [Op.equalIn,E3,run_underlying ht,Result.andThen_ok]
   rfl
  have h3:(Op.equal t (.nilFunc) .nilFunc).run P w = .ok true w:=h4 9999
  simp only [execOp,ho,hx,hy,h1,h2,E3,E4,Result.andThen_ok,h3]; rfl
end
end Fw
end Go.Proofs.YtgaplodcdhhefaaGreat
