/- Lists of ours whose elements are lent as yet, and are made ours one by one. No condition. -/
import Derived.Test.YtgaplodcdhhefaaGreatK29
namespace Go.Proofs.YtgaplodcdhhefaaGreat
namespace Fw
set_option linter.unusedVariables false
set_option linter.unusedSimpArgs false
set_option linter.unusedSectionVars false
open Go.RowKit
section
variable {α:Type} [Inhabited α] {T:Ty α} {Γ Δ B:Gh} {A:Option Addr} {e:TypeId} {row:Rowb} {c:Nat} {xs:List α}
def atT(T:Ty α)(B:Gh):Ty α where
 n:=T.n
 pos:=T.pos
 rd:=λ_ cs x=>T.rd B cs x
 len:=λh=>T.len h
 one:=λh=>T.one h
 mono:=λh _=>h
theorem Own.toat(h:Own T B e row A c xs):Own (atT T B) Γ e row A c xs:=⟨h.le,h.is⟩
theorem Own.unat(h:Own (atT T B) Γ e row A c xs):Own T B e row A c xs:=⟨h.le,h.is⟩
theorem Own.conv{β:Type}[Inhabited β]{T':Ty β}{ys:List β}(hn:T'.n=T.n)(hl:ys.length=xs.length)(hc:∀i cs,i<xs.length→T.rd Γ cs (gt xs i)→T'.rd Γ cs (gt ys i))(h:Own T Γ e row A c xs):Own T' Γ e row A c ys:=by
 refine⟨by rw [hl]; exact h.le,?_⟩
 rcases h.is with ⟨h1,rfl,h2,h3⟩ | ⟨g,cur,css,h1,h2,h3,h4,h5,h6,h7,h8⟩
 ·exact .inl ⟨h1,List.eq_nil_of_length_eq_zero (by rw [hl]; rfl),h2,h3⟩
 ·exact .inr ⟨g,cur,css,h1,h2,by rw [hl]; exact h3,h4,by rw [hn]; exact h5,by rw [hl]; exact h6,by rw [hl,hn]; exact h7,λi hi=>hc i _ (by omega) (h8 i hi)⟩
end
def atV{α:Type}(V:Tv α)(B:Gh):Tv α:=⟨λ_ v x=>V.rv B v x,λh _=>h⟩
section
variable {κ α:Type} [DecidableEq κ] {P:Program} {k:TypeId} {K:KeyT P k κ} {V:Tv α} {B Γ:Gh} {row:Rowb} {g:Nat} {es:List (κ×α)}
theorem zI:∀{ps:List (κ×Value)} {es:List (κ×α)},mrd V B ps es→mrd (atV V B) Γ ps es
 | [],[],_=>trivial
 | [],_::_,h=>h.elim
 | _::_,[],h=>h.elim
 | _::_,_::_,⟨h1,h2,h3⟩=>⟨h1,h2,zI h3⟩
theorem MapE.atV(h:MapE K V B row g es):MapE K (atV V B) Γ row g es:=by
 obtain⟨arr,clock,ps,h1,h2,h3⟩:=h.is
 exact⟨⟨arr,clock,ps,h1,h2,zI h3⟩,h.st,h.ks⟩
theorem MapO.atV(h:MapO K V B row g es):MapO K (atV V B) Γ row g es:=let ⟨es',h1,h2⟩:=h; ⟨es',h1,h2.atV⟩
end
theorem ir.at{P:Program}{t e:TypeId}{α:Type}{T:Ty α}(h:ir P t e T)(B:Gh):ir P t e (atT T B):=⟨h.sl,h.ex⟩
end Fw
end Go.Proofs.YtgaplodcdhhefaaGreat
