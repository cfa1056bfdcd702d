/- Values in interfaces whose type is another one; data behind a pointer that may be nil. No condition. -/
import Derived.Test.YtgaplodcdhhefaaGreatK25
import Derived.Test.YtgaplodcdhhefaaGreatK38
namespace Go.Proofs.YtgaplodcdhhefaaGreat
namespace Fw
set_option linter.unusedVariables false
set_option linter.unusedSimpArgs false
set_option linter.unusedSectionVars false
open Go.RowKit
section
variable {P:Program} {C:World→Prop} {σ:Env} {o:Oper}
end
def Pd{α:Type}[Inhabited α](T:Ty α)(Γ:Gh)(A:Option Addr)(x:Option α):Prop:=
 (A=none∧x=none)∨(A.isSome=true∧∃a,x=some a∧Sl T Γ A [a])
def gvo{α:Type}[Inhabited α](x:Option α):α:=x.getD default
section
variable {α:Type} [Inhabited α] {T:Ty α} {Γ Δ:Gh} {A:Option Addr} {x:Option α} {a:α}
theorem Pd.mono(h:Pd T Γ A x)(hs:Γ.le Δ):Pd T Δ A x:=by
 rcases h with h | ⟨h1,a,h2,h3⟩
 ·exact .inl h
 ·exact .inr ⟨h1,a,h2,h3.mono hs⟩
theorem Pd.nil(T:Ty α)(Γ:Gh):Pd T Γ none none:=.inl ⟨rfl,rfl⟩
theorem Pd.of(h:Sl T Γ A [a]):Pd T Γ A (some a):=.inr ⟨h.some_ (k:=0) (by simp),a,rfl,h⟩
theorem Pd.sl(h:Pd T Γ A x)(hx:x.isSome=true):Sl T Γ A [gvo x]:=by
 rcases h with ⟨_,rfl⟩ | ⟨h1,a,rfl,h3⟩
 ·cases hx
 ·exact h3
theorem Pd.is(h:Pd T Γ A x):A.isSome=x.isSome:=by
 rcases h with ⟨rfl,rfl⟩ | ⟨h1,a,rfl,h3⟩
 ·rfl
 ·exact h1
end
section
variable {P:Program} {C:World→Prop} {σ:Env} {o:Oper} {α:Type} [Inhabited α] {T:Ty α} {Γ Δ:Gh} {A:Option Addr} {x:Option α}
end
end Fw
end Go.Proofs.YtgaplodcdhhefaaGreat
