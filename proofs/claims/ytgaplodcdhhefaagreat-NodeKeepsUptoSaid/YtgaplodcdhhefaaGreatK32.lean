/- Sets of keys, maps that may be nil and are read alone, maps of maps; loops over a map's entries in whatever order. No condition. -/
import Derived.Test.YtgaplodcdhhefaaGreatK17
import Derived.Test.YtgaplodcdhhefaaGreatK20
import Derived.Test.YtgaplodcdhhefaaGreatK27
namespace Go.Proofs.YtgaplodcdhhefaaGreat
namespace Fw
set_option linter.unusedVariables false
set_option linter.unusedSimpArgs false
set_option linter.unusedSectionVars false
open Go.RowKit Go.MapKept
open Classical in
section
variable {P:Program} {N:FN} {C:World→Prop} {σ:Env} {Q:Exit→Env→World→Prop} {S R β:Type}
end
section
variable {P:Program} {k:TypeId} {κ α:Type} [DecidableEq κ]
structure ZM (K:KeyT P k κ) (V:Tv α) (B:Gh) (v:Value) (es:List (κ×α)):Prop where
 is:(v = .map none∧es = [])∨∃g row,v = .map (some g)∧MapO K V B row g es∧∀p∈row,B p.1=some p.2
variable {K:KeyT P k κ} {V:Tv α} {B B':Gh} {v:Value} {es:List (κ×α)}
theorem ZM.mono(h:ZM K V B v es)(hs:B.le B'):ZM K V B' v es:=by
 rcases h.is with h | ⟨g,row,h1,h2,h3⟩
 ·exact⟨.inl h⟩
 ·exact⟨.inr ⟨g,row,h1,h2.mono hs,λp hp=>hs _ _ (h3 p hp)⟩⟩
theorem ZM.nil(K:KeyT P k κ)(V:Tv α)(B:Gh):ZM K V B (.map none) ([]:List (κ×α)):=⟨.inl ⟨rfl,rfl⟩⟩
theorem ZM.of{g:Nat}{row:Rowb}(h:MapO K V B row g es)(hr:∀p∈row,B p.1=some p.2):ZM K V B (.map (some g)) es:=⟨.inr ⟨g,row,rfl,h,hr⟩⟩
theorem ZM.ks(h:ZM K V B v es):∀p∈es,K.ok p.1:=by
 rcases h.is with ⟨_,rfl⟩ | ⟨g,row,h1,h2,h3⟩
 ·simp
 ·exact h2.ks
theorem ZM.nodup(h:ZM K V B v es):(es.map (·.1)).Nodup:=by
 rcases h.is with ⟨_,rfl⟩ | ⟨g,row,h1,h2,h3⟩
 ·simp
 ·exact h2.nodup
structure ItZ (K:KeyT P k κ) (V:Tv α) (B:Gh) (row:Rowb) (g:Nat) (v:Value) (es l:List (κ×α)):Prop where
 is:(v = .map none∧row = [(g,.mapIter none 0 #[] 0)]∧es = []∧l = [])∨∃mg mrow,v = .map (some mg)∧(∀p∈mrow,B p.1=some p.2)∧ItO K V B row g mg mrow es l
theorem ItZ.mono{row:Rowb}{g:Nat}{l:List (κ×α)}(h:ItZ K V B row g v es l)(hs:B.le B'):ItZ K V B' row g v es l:=by
 rcases h.is with h | ⟨mg,mrow,h1,h2,h3⟩
 ·exact⟨.inl h⟩
 ·exact⟨.inr ⟨mg,mrow,h1,λp hp=>hs _ _ (h2 p hp),h3.mono hs⟩⟩
end
section
variable {P:Program} {N:FN} {F:Fm} {Γ B:Gh} {L:List Rowb} {σ:Env} {o:Oper} {Q:Exit→Env→World→Prop} {rest:List Oper} {ops:Array Oper} {κ α:Type} [DecidableEq κ] {k t e:TypeId} {K:KeyT P k κ} {V:Tv α} {row:Rowb} {g:Nat} {v:Value} {es l:List (κ×α)}
end
section
variable {P:Program} {F:Fm} {Γ B:Gh} {L:List Rowb} {σ:Env} {o:Oper} {κ:Type} [DecidableEq κ] {k t e:TypeId} {K:KeyT P k κ} {row:Rowb} {g:Nat} {v:Value} {es:List (κ×Unit)}
end
end Fw
end Go.Proofs.YtgaplodcdhhefaaGreat
