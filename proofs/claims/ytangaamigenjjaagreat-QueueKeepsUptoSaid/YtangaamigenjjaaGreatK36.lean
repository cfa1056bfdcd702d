/- Maps whose values are pointers to objects; maps of functions. No condition. -/
import Derived.Test.YtangaamigenjjaaGreatK34
namespace Go.Proofs.YtangaamigenjjaaGreat
namespace Fw
set_option linter.unusedVariables false
set_option linter.unusedSimpArgs false
set_option linter.unusedSectionVars false
open Go.RowKit Go.MapKept
def Au:Tv Nat:=⟨λ_ v g=>v = .pointer (some ⟨g,0,none⟩),λh _=>h⟩
structure Tob (ο:Type) where
 rd:Gh→Nat→Rowb→ο→Prop
 mono:∀{Γ Δ:Gh} {g:Nat} {row:Rowb} {x:ο},rd Γ g row x→Γ.le Δ→rd Δ g row x
section
variable {P:Program} {k:TypeId} {κ ο:Type} [DecidableEq κ]
def MJs(T:Tob ο)(Γ:Gh):List (κ×Nat)→List Rowb→List (κ×ο)→Prop
 | [],[],[]=>True
 | a::refs,r::rs,b::bs=>a.1=b.1∧T.rd Γ a.2 r b.2∧MJs T Γ refs rs bs
 | _,_,_=>False
structure MapJ (K:KeyT P k κ) (T:Tob ο) (Γ:Gh) (row:Rowb) (g:Nat) (bs:List (κ×ο)):Prop where
 is:∃(refs:List (κ×Nat)) (rowM:Rowb) (rs:List Rowb),MapO K Au Γ rowM g refs∧row=rowM++rs.flatten∧MJs T Γ refs rs bs
variable {K:KeyT P k κ} {T:Tob ο} {Γ Δ B:Gh} {row:Rowb} {g:Nat} {bs:List (κ×ο)}
theorem MJs.mono(hs:Γ.le Δ):∀{refs:List (κ×Nat)} {rs:List Rowb} {bs:List (κ×ο)},MJs T Γ refs rs bs→MJs T Δ refs rs bs
 | [],[],[],_=>trivial
 | _::_,_::_,_::_,⟨h1,h2,h3⟩=>⟨h1,T.mono h2 hs,MJs.mono hs h3⟩
 | [],_::_,_,h=>h.elim
 | [],[],_::_,h=>h.elim
 | _::_,[],_,h=>h.elim
 | _::_,_::_,[],h=>h.elim
theorem MapJ.mono(h:MapJ K T Γ row g bs)(hs:Γ.le Δ):MapJ K T Δ row g bs:=by
 obtain⟨refs,rowM,rs,h1,h2,h3⟩:=h.is
 exact⟨⟨refs,rowM,rs,h1.mono hs,h2,MJs.mono hs h3⟩⟩
theorem MJs.keys:∀{refs:List (κ×Nat)} {rs:List Rowb} {bs:List (κ×ο)},MJs T Γ refs rs bs→refs.map (·.1)=bs.map (·.1)
 | [],[],[],_=>rfl
 | _::_,_::_,_::_,⟨h1,_,h3⟩=>by rw [Cw,Cw,h1,MJs.keys h3]
 | [],_::_,_,h=>h.elim
 | [],[],_::_,h=>h.elim
 | _::_,[],_,h=>h.elim
 | _::_,_::_,[],h=>h.elim
theorem MJs.at_{x:κ}:∀{refs:List (κ×Nat)} {rs:List Rowb} {bs:List (κ×ο)},MJs T Γ refs rs bs →
  (mget x refs=none∧mget x bs=none)∨∃gs es rA r rB,mget x refs=some gs∧mget x bs=some es∧rs.flatten=rA++(r++rB)∧T.rd Γ gs r es ∧
   ∀Δ r' es',Γ.le Δ→T.rd Δ gs r' es'→∃rs',rs'.flatten=rA++(r'++rB)∧MJs T Δ refs rs' (mput x es' bs)
 | [],[],[],_=>.inl ⟨rfl,rfl⟩
 | [],_::_,_,h=>h.elim
 | [],[],_::_,h=>h.elim
 | _::_,[],_,h=>h.elim
 | _::_,_::_,[],h=>h.elim
 | a::refs,r::rs,b::bs,⟨h1,h2,h3⟩=>by
  by_cases he:x=a.1
  ·have he2:x=b.1:=he.trans h1
   refine .inr ⟨a.2,b.2,[],r,rs.flatten,by simp [mget,he],by simp [mget,he2],by simp,h2,λΔ r' es' hs hm=>⟨r'::rs,by simp,?_⟩⟩
   rw [show mput x es' (b::bs)=(x,es')::bs by unfold mput; rw [if_pos he2]]
   exact⟨he.symm,hm,MJs.mono hs h3⟩
  ·have he2:x≠b.1:=λe=>he (e.trans h1.symm)
   rcases MJs.at_ (x:=x) h3 with ⟨h4,h5⟩ | ⟨gs,es,rA,r2,rB,h4,h5,h6,h7,h8⟩
   ·exact .inl ⟨by simp [mget,he,h4],by simp [mget,he2,h5]⟩
   ·refine .inr ⟨gs,es,r++rA,r2,rB,by simp [mget,he,h4],by simp [mget,he2,h5],by simp [h6],h7,λΔ r' es' hs hm=>?_⟩
    obtain⟨rs',h9,h10⟩:=h8 Δ r' es' hs hm
    refine⟨r::rs',by simp [h9],?_⟩
    rw [show mput x es' (b::bs)=b::mput x es' bs by (conv=>lhs; unfold mput); rw [if_neg he2]]
    exact⟨h1,T.mono h2 hs,h10⟩
theorem MapJ.no(h:MapJ K T Γ row g bs){x:κ}(hx:mget x bs=none):∃rowM,MAt K rowM g x (.pointer none) (.pointer none) false∧(∀p∈rowM,p∈row):=by
 obtain⟨refs,rowM,rs,h1,h2,h3⟩:=h.is
 have hsub:∀p∈rowM,p∈row:=λp hp=>by rw [h2]; exact List.mem_append.2 (.inl hp)
 rcases h3.at_ (x:=x) with ⟨h4,h5⟩ | ⟨gs,es,rA,r2,rB,h4,h5,_⟩
 ·rcases h1.look2 x (.pointer none) with ⟨v,a,h8,_,_⟩ | ⟨h8,h9⟩
  ·rw [h4] at h8; cases h8
  ·exact⟨rowM,h9,hsub⟩
 ·rw [hx] at h5; cases h5
theorem MapJ.part(h:MapJ K T Γ row g bs){x:κ}{o:ο}(hx:mget x bs=some o):∃gs rowM rA r rB,MAt K rowM g x (.pointer none) (.pointer (some ⟨gs,0,none⟩)) true∧(∀p∈rowM,p∈rA)∧row=rA++(r++rB)∧T.rd Γ gs r o ∧
  ∀Δ r' es',Γ.le Δ→T.rd Δ gs r' es'→MapJ K T Δ (rA++(r'++rB)) g (mput x es' bs):=by
 obtain⟨refs,rowM,rs,h1,h2,h3⟩:=h.is
 rcases h3.at_ (x:=x) with ⟨h4,h5⟩ | ⟨gs,es,rA,r2,rB,h4,h5,h6,h7,h8⟩
 ·rw [h5] at hx; cases hx
 ·rcases h1.look2 x (.pointer none) with ⟨v,a,h9,h10,h11⟩ | ⟨h9,_⟩
  ·rw [h4] at h9; injection h9 with h9; subst h9
   have h10':v = .pointer (some ⟨gs,0,none⟩):=h10
   subst h10'
   rw [h5] at hx; injection hx with hx; subst hx
   refine⟨gs,rowM,rowM++rA,r2,rB,h11,λp hp=>List.mem_append.2 (.inl hp),by rw [h2,h6]; simp,h7,λΔ r' es' hs hm=>?_⟩
   obtain⟨rs',h12,h13⟩:=h8 Δ r' es' hs hm
   exact⟨⟨refs,rowM,rs',h1.mono hs,by rw [h12]; simp,h13⟩⟩
  ·rw [h4] at h9; cases h9
theorem MapJ.new(h:MapO K Au Γ row g ([]:List (κ×Nat))):MapJ K T Γ row g ([]:List (κ×ο)):=⟨⟨[],row,[],h,by simp,trivial⟩⟩
theorem MJs.snoc{x:κ}{gs:Nat}{r:Rowb}{es:ο}(hm:T.rd Γ gs r es):∀{refs:List (κ×Nat)} {rs:List Rowb} {bs:List (κ×ο)},MJs T Γ refs rs bs→MJs T Γ (refs++[(x,gs)]) (rs++[r]) (bs++[(x,es)])
 | [],[],[],_=>⟨rfl,hm,trivial⟩
 | [],_::_,_,h=>h.elim
 | [],[],_::_,h=>h.elim
 | _::_,[],_,h=>h.elim
 | _::_,_::_,[],h=>h.elim
 | _::_,_::_,_::_,⟨h1,h2,h3⟩=>⟨h1,h2,MJs.snoc hm h3⟩
end
section
variable {P:Program} {N:FN} {Q:Exit→Env→World→Prop} {σ:Env} {o:Oper} {F:Fm} {Γ:Gh} {L:List Rowb} {ops:Array Oper} {rest:List Oper} {k t e:TypeId} {κ ο:Type} [DecidableEq κ] {K:KeyT P k κ} {T:Tob ο} {row r2:Rowb} {g g2:Nat} {bs:List (κ×ο)} {es:ο}
end
theorem MapO.hit{P:Program}{k:TypeId}{κ α:Type}[DecidableEq κ]{K:KeyT P k κ}{V:Tv α}{Γ:Gh}{row:Rowb}{g:Nat}{es:List (κ×α)}(h:MapO K V Γ row g es){x:κ}{a:α}(z:Value)(hx:mget x es=some a):∃v,V.rv Γ v a∧MAt K row g x z v true:=by
 rcases h.look2 x z with ⟨v,b,h1,h2,h3⟩ | ⟨h1,_⟩
 ·rw [hx] at h1; injection h1 with h1; subst h1; exact⟨v,h2,h3⟩
 ·rw [hx] at h1; cases h1
section
variable {P:Program} {C:World→Prop} {σ:Env} {o:Oper} {x y:Operand} {t ty:TypeId} {ps rs:Array TypeId} {b:Bool} {fd:Fn} {a1 a2:Array Value}
end
end Fw
end Go.Proofs.YtangaamigenjjaaGreat
