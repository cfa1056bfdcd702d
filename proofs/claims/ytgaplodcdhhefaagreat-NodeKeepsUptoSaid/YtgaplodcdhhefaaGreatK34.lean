/- Maps whose entries hang on no ghost; open objects that are lent. No condition. -/
import Derived.Test.YtgaplodcdhhefaaGreatK33
namespace Go.Proofs.YtgaplodcdhhefaaGreat
namespace Fw
set_option linter.unusedVariables false
set_option linter.unusedSimpArgs false
set_option linter.unusedSectionVars false
open Go.RowKit Go.MapKept
section
variable {P:Program} {k k2:TypeId} {κ ρ α:Type} [DecidableEq κ] [DecidableEq ρ] {K:KeyT P k κ} {K2:KeyT P k2 ρ} {V:Tv α} {Γ Δ:Gh} {row:Rowb} {g:Nat}
theorem xC(hV:∀{Γ Δ v a},V.rv Γ v a→V.rv Δ v a):∀{ps:List (κ×Value)} {es:List (κ×α)},mrd V Γ ps es→mrd V Δ ps es
 | [],[],_=>trivial
 | [],_::_,h=>h.elim
 | _::_,[],h=>h.elim
 | _::_,_::_,⟨h1,h2,h3⟩=>⟨h1,hV h2,xC hV h3⟩
theorem MapO.any{es:List (κ×α)}(h:MapO K V Γ row g es)(hV:∀{Γ Δ v a},V.rv Γ v a→V.rv Δ v a):MapO K V Δ row g es:=by
 obtain⟨es',h1,h2⟩:=h
 obtain⟨arr,clock,ps,h3,h4,h5⟩:=h2.is
 exact⟨es',h1,⟨arr,clock,ps,h3,h4,xC hV h5⟩,h2.st,h2.ks⟩
theorem MMs.any(hV:∀{Γ Δ v a},V.rv Γ v a→V.rv Δ v a):∀{refs:List (κ×Nat)} {rs:List Rowb} {bs:List (κ×List (ρ×α))},MMs K2 V Γ refs rs bs→MMs K2 V Δ refs rs bs
 | [],[],[],_=>trivial
 | _::_,_::_,_::_,⟨h1,h2,h3⟩=>⟨h1,h2.any hV,MMs.any hV h3⟩
 | [],_::_,_,h=>h.elim
 | [],[],_::_,h=>h.elim
 | _::_,[],_,h=>h.elim
 | _::_,_::_,[],h=>h.elim
theorem MapM.any{bs:List (κ×List (ρ×α))}(h:MapM K K2 V Γ row g bs)(hV:∀{Γ Δ v a},V.rv Γ v a→V.rv Δ v a):MapM K K2 V Δ row g bs:=by
 obtain⟨refs,rowM,rs,h1,h2,h3⟩:=h.is
 exact⟨⟨refs,rowM,rs,h1.any (λh=>h),h2,MMs.any hV h3⟩⟩
end
end Fw
end Go.Proofs.YtgaplodcdhhefaaGreat
