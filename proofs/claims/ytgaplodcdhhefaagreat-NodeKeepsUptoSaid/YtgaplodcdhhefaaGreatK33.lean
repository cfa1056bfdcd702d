/- Maps of maps. No condition. -/
import Derived.Test.YtgaplodcdhhefaaGreatK32
namespace Go.Proofs.YtgaplodcdhhefaaGreat
namespace Fw
set_option linter.unusedVariables false
set_option linter.unusedSimpArgs false
set_option linter.unusedSectionVars false
open Go.RowKit Go.MapKept
def Bw:Tv Nat:=⟨λ_ v g=>v = .map (some g),λh _=>h⟩
section
variable {P:Program} {k k2:TypeId} {κ ρ α:Type} [DecidableEq κ] [DecidableEq ρ]
def MMs(K2:KeyT P k2 ρ)(V:Tv α)(Γ:Gh):List (κ×Nat)→List Rowb→List (κ×List (ρ×α))→Prop
 | [],[],[]=>True
 | a::refs,r::rs,b::bs=>a.1=b.1∧MapO K2 V Γ r a.2 b.2∧MMs K2 V Γ refs rs bs
 | _,_,_=>False
structure MapM (K1:KeyT P k κ) (K2:KeyT P k2 ρ) (V:Tv α) (Γ:Gh) (row:Rowb) (g:Nat) (bs:List (κ×List (ρ×α))):Prop where
 is:∃(refs:List (κ×Nat)) (rowM:Rowb) (rs:List Rowb),MapO K1 Bw Γ rowM g refs∧row=rowM++rs.flatten∧MMs K2 V Γ refs rs bs
def SubM(K2:KeyT P k2 ρ)(V:Tv α)(Γ:Gh)(row:Rowb)(v:Value)(es:List (ρ×α)):Prop:=
 (v = .map none∧es = [])∨∃g r,v = .map (some g)∧MapO K2 V Γ r g es∧∀p∈r,p∈row
variable {K1:KeyT P k κ} {K2:KeyT P k2 ρ} {V:Tv α} {Γ Δ B:Gh} {row:Rowb} {g:Nat} {bs:List (κ×List (ρ×α))}
theorem MMs.mono(hs:Γ.le Δ):∀{refs:List (κ×Nat)} {rs:List Rowb} {bs:List (κ×List (ρ×α))},MMs K2 V Γ refs rs bs→MMs K2 V Δ refs rs bs
 | [],[],[],_=>trivial
 | _::_,_::_,_::_,⟨h1,h2,h3⟩=>⟨h1,h2.mono hs,MMs.mono hs h3⟩
 | [],_::_,_,h=>h.elim
 | [],[],_::_,h=>h.elim
 | _::_,[],_,h=>h.elim
 | _::_,_::_,[],h=>h.elim
theorem MapM.mono(h:MapM K1 K2 V Γ row g bs)(hs:Γ.le Δ):MapM K1 K2 V Δ row g bs:=by
 obtain⟨refs,rowM,rs,h1,h2,h3⟩:=h.is
 exact⟨⟨refs,rowM,rs,h1.mono hs,h2,MMs.mono hs h3⟩⟩
theorem SubM.mono{v:Value}{es:List (ρ×α)}(h:SubM K2 V Γ row v es)(hs:Γ.le Δ):SubM K2 V Δ row v es:=by
 rcases h with h | ⟨g,r,h1,h2,h3⟩
 ·exact .inl h
 ·exact .inr ⟨g,r,h1,h2.mono hs,h3⟩
theorem MMs.keys:∀{refs:List (κ×Nat)} {rs:List Rowb} {bs:List (κ×List (ρ×α))},MMs K2 V Γ refs rs bs→refs.map (·.1)=bs.map (·.1)
 | [],[],[],_=>rfl
 | _::_,_::_,_::_,⟨h1,_,h3⟩=>by rw [E0,E0,h1,MMs.keys h3]
 | [],_::_,_,h=>h.elim
 | [],[],_::_,h=>h.elim
 | _::_,[],_,h=>h.elim
 | _::_,_::_,[],h=>h.elim
theorem MMs.at_{x:κ}:∀{refs:List (κ×Nat)} {rs:List Rowb} {bs:List (κ×List (ρ×α))},MMs K2 V Γ refs rs bs →
  (mget x refs=none∧mget x bs=none)∨∃gs es rA r rB,mget x refs=some gs∧mget x bs=some es∧rs.flatten=rA++(r++rB)∧MapO K2 V Γ r gs es ∧
   ∀Δ r' es',Γ.le Δ→MapO K2 V Δ r' gs es'→∃rs',rs'.flatten=rA++(r'++rB)∧MMs K2 V Δ refs rs' (mput x es' bs)
 | [],[],[],_=>.inl ⟨rfl,rfl⟩
 | [],_::_,_,h=>h.elim
 | [],[],_::_,h=>h.elim
 | _::_,[],_,h=>h.elim
 | _::_,_::_,[],h=>h.elim
 | a::refs,r::rs,b::bs,⟨h1,h2,h3⟩=>by
  by_cases he:x=a.1
  ·have he2:x=b.1:=he.trans h1
   refine .inr ⟨a.2,b.2,[],r,rs.flatten,by simp [mget,he],by simp [mget,he2],by simp,h2,λΔ r' es' hs hm=>⟨r'::rs,by simp,?_⟩⟩
   rw [show mput x es' (b::bs)=(x,es')::bs by unfold mput; rw [if_pos he2]]
   exact⟨he.symm,hm,MMs.mono hs h3⟩
  ·have he2:x≠b.1:=λe=>he (e.trans h1.symm)
   rcases MMs.at_ (x:=x) h3 with ⟨h4,h5⟩ | ⟨gs,es,rA,r2,rB,h4,h5,h6,h7,h8⟩
   ·exact .inl ⟨by simp [mget,he,h4],by simp [mget,he2,h5]⟩
   ·refine .inr ⟨gs,es,r++rA,r2,rB,by simp [mget,he,h4],by simp [mget,he2,h5],by simp [h6],h7,λΔ r' es' hs hm=>?_⟩
    obtain⟨rs',h9,h10⟩:=h8 Δ r' es' hs hm
    refine⟨r::rs',by simp [h9],?_⟩
    rw [show mput x es' (b::bs)=b::mput x es' bs by (conv=>lhs; unfold mput); rw [if_neg he2]]
    exact⟨h1,h2.mono hs,h10⟩
theorem MapM.look(h:MapM K1 K2 V Γ row g bs)(x:κ):∃v rowM,MAt K1 rowM g x (.map none) v (mget x bs).isSome∧(∀p∈rowM,p∈row)∧SubM K2 V Γ row v ((mget x bs).getD []):=by
 obtain⟨refs,rowM,rs,h1,h2,h3⟩:=h.is
 have hsub:∀p∈rowM,p∈row:=λp hp=>by rw [h2]; exact List.mem_append.2 (.inl hp)
 rcases h3.at_ (x:=x) with ⟨h4,h5⟩ | ⟨gs,es,rA,r2,rB,h4,h5,h6,h7,_⟩
 ·rcases h1.look2 x (.map none) with ⟨v,a,h8,_,_⟩ | ⟨h8,h9⟩
  ·rw [h4] at h8; cases h8
  ·exact⟨.map none,rowM,by rw [h5]; exact h9,hsub,.inl ⟨rfl,by rw [h5]; rfl⟩⟩
 ·rcases h1.look2 x (.map none) with ⟨v,a,h8,h9,h10⟩ | ⟨h8,_⟩
  ·rw [h4] at h8; injection h8 with h8; subst h8
   exact⟨v,rowM,by rw [h5]; exact h10,hsub,.inr ⟨gs,r2,h9,by rw [h5]; exact h7,λp hp=>by rw [h2,h6]; simp [hp]⟩⟩
  ·rw [h4] at h8; cases h8
theorem MapM.part(h:MapM K1 K2 V Γ row g bs){x:κ}(hx:(mget x bs).isSome=true):∃gs rowM rA r rB,MAt K1 rowM g x (.map none) (.map (some gs)) true∧(∀p∈rowM,p∈rA)∧row=rA++(r++rB)∧MapO K2 V Γ r gs ((mget x bs).getD []) ∧
  ∀Δ r' es',Γ.le Δ→MapO K2 V Δ r' gs es'→MapM K1 K2 V Δ (rA++(r'++rB)) g (mput x es' bs):=by
 obtain⟨refs,rowM,rs,h1,h2,h3⟩:=h.is
 rcases h3.at_ (x:=x) with ⟨h4,h5⟩ | ⟨gs,es,rA,r2,rB,h4,h5,h6,h7,h8⟩
 ·rw [h5] at hx; cases hx
 ·rcases h1.look2 x (.map none) with ⟨v,a,h9,h10,h11⟩ | ⟨h9,_⟩
  ·rw [h4] at h9; injection h9 with h9; subst h9
   have h10':v = .map (some gs):=h10
   subst h10'
   refine⟨gs,rowM,rowM++rA,r2,rB,h11,λp hp=>List.mem_append.2 (.inl hp),by rw [h2,h6]; simp,by rw [h5]; exact h7,λΔ r' es' hs hm=>?_⟩
   obtain⟨rs',h12,h13⟩:=h8 Δ r' es' hs hm
   exact⟨⟨refs,rowM,rs',h1.mono hs,by rw [h12]; simp,h13⟩⟩
  ·rw [h4] at h9; cases h9
theorem MapM.new(h:MapO K1 Bw Γ row g ([]:List (κ×Nat))):MapM K1 K2 V Γ row g ([]:List (κ×List (ρ×α))):=⟨⟨[],row,[],h,by simp,trivial⟩⟩
theorem MMs.snoc{x:κ}{gs:Nat}{r:Rowb}{es:List (ρ×α)}(hm:MapO K2 V Γ r gs es):∀{refs:List (κ×Nat)} {rs:List Rowb} {bs:List (κ×List (ρ×α))},MMs K2 V Γ refs rs bs→MMs K2 V Γ (refs++[(x,gs)]) (rs++[r]) (bs++[(x,es)])
 | [],[],[],_=>⟨rfl,hm,trivial⟩
 | [],_::_,_,h=>h.elim
 | [],[],_::_,h=>h.elim
 | _::_,[],_,h=>h.elim
 | _::_,_::_,[],h=>h.elim
 | _::_,_::_,_::_,⟨h1,h2,h3⟩=>⟨h1,h2,MMs.snoc hm h3⟩
end
section
variable {P:Program} {N:FN} {Q:Exit→Env→World→Prop} {σ:Env} {o:Oper} {F:Fm} {Γ:Gh} {L:List Rowb} {ops:Array Oper} {rest:List Oper} {k k2 t e:TypeId} {κ ρ α:Type} [DecidableEq κ] [DecidableEq ρ] {K1:KeyT P k κ} {K2:KeyT P k2 ρ} {V:Tv α} {row r2:Rowb} {g g2:Nat} {bs:List (κ×List (ρ×α))} {es:List (ρ×α)}
end
end Fw
end Go.Proofs.YtgaplodcdhhefaaGreat
