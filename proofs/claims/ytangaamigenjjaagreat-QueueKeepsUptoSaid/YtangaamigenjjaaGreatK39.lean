/- Values in interfaces whose type is another one; data behind a pointer that may be nil. No condition. -/
import Derived.Test.YtangaamigenjjaaGreatK25
import Derived.Test.YtangaamigenjjaaGreatK38
namespace Go.Proofs.YtangaamigenjjaaGreat
namespace Fw
set_option linter.unusedVariables false
set_option linter.unusedSimpArgs false
set_option linter.unusedSectionVars false
open Go.RowKit
section
variable {P:Program} {C:World→Prop} {σ:Env} {o:Oper}
theorem aI{x:Operand}{t1 t2 t3:TypeId}{fs:Array Field}{v z:Value}(ht:P.underlying t2=some (.struct fs))(hz:∀w,(zeroValue t2).run P w = .ok z w)(hne:Nat.beq t3 t2=false)(ho:o.op = .typeAssert x t1 t2 true)(hx:ev σ x = .iface t3 v):QV P C σ o (.tuple #[z,.bool false]):=λw _=>by
 have hn:¬ t3=t2:=λh=>by rw [h] at hne; simp at hne
 simp [execOp,ho,hx,Instr.typeAssert,run_underlying ht,hn,hz,CA,Cz]
theorem bd{x:Operand}{t1 t2:TypeId}{fs:Array Field}{z:Value}(ht:P.underlying t2=some (.struct fs))(hz:∀w,(zeroValue t2).run P w = .ok z w)(ho:o.op = .typeAssert x t1 t2 true)(hx:ev σ x = .nilIface):QV P C σ o (.tuple #[z,.bool false]):=λw _=>by
 simp [execOp,ho,hx,Instr.typeAssert,run_underlying ht,hz,CA,Cz]
end
def Pd{α:Type}[Inhabited α](T:Ty α)(Γ:Gh)(A:Option Addr)(x:Option α):Prop:=
 (A=none∧x=none)∨(A.isSome=true∧∃a,x=some a∧Sl T Γ A [a])
def gvo{α:Type}[Inhabited α](x:Option α):α:=x.getD default
section
variable {α:Type} [Inhabited α] {T:Ty α} {Γ Δ:Gh} {A:Option Addr} {x:Option α} {a:α}
theorem Pd.mono(h:Pd T Γ A x)(hs:Γ.le Δ):Pd T Δ A x:=by
 rcases h with h | ⟨h1,a,h2,h3⟩
 ·exact .inl h
 ·exact .inr ⟨h1,a,h2,h3.mono hs⟩
theorem Pd.nil(T:Ty α)(Γ:Gh):Pd T Γ none none:=.inl ⟨rfl,rfl⟩
theorem Pd.of(h:Sl T Γ A [a]):Pd T Γ A (some a):=.inr ⟨h.some_ (k:=0) (by simp),a,rfl,h⟩
theorem Pd.sl(h:Pd T Γ A x)(hx:x.isSome=true):Sl T Γ A [gvo x]:=by
 rcases h with ⟨_,rfl⟩ | ⟨h1,a,rfl,h3⟩
 ·cases hx
 ·exact h3
theorem Pd.is(h:Pd T Γ A x):A.isSome=x.isSome:=by
 rcases h with ⟨rfl,rfl⟩ | ⟨h1,a,rfl,h3⟩
 ·rfl
 ·exact h1
end
section
variable {P:Program} {C:World→Prop} {σ:Env} {o:Oper} {α:Type} [Inhabited α] {T:Ty α} {Γ Δ:Gh} {A:Option Addr} {x:Option α}
theorem qv{p:Prop}[Decidable p]{a b:Type}[Inhabited b]{Q:Option a→b→Prop}(h:p→∃x y,Q x y):∃x y,p→Q x y:=by
 by_cases hp:p
 ·obtain⟨x,y,hq⟩:=h hp
  exact⟨x,y,λ_=>hq⟩
 ·exact⟨none,default,λh=>absurd h hp⟩
theorem zy(A:Option Addr):dG A 0 = .pointer A:=by
 rcases A with _ | ⟨b,o,t⟩ <;> rfl
theorem oS{y:Operand}(h:Pd T Γ A x)(hx:x.isSome=true)(ho:o.op = .nilCheck y)(hy:ev σ y = .pointer A):QV P C σ o (dG A 0):=by
 have:=h.is
 rw [hx] at this
 rw [zy]
 exact Aj ho hy this
theorem Pd.isN{α:Type}[Inhabited α]{T:Ty α}{Γ:Gh}{A:Option Addr}{x:Option α}(h:Pd T Γ A x):A.isNone=x.isNone:=by
 have:=h.is
 cases A <;> cases x <;> simp_all
theorem qL{a b:Operand}{t ty e:TypeId}(h:Pd T Γ A x)(ht:P.underlying t=some (.pointer e))(ho:o.op = .binOp .eql t a b ty)(ha:ev σ a = .pointer A)(hb:ev σ b = .pointer none):QV P C σ o (.bool x.isNone):=by
 have:=pM (C:=C) ht ho ha hb
 rw [h.isN] at this; exact this
theorem uv{a b:Operand}{t ty e:TypeId}(h:Pd T Γ A x)(ht:P.underlying t=some (.pointer e))(ho:o.op = .binOp .neq t a b ty)(ha:ev σ a = .pointer A)(hb:ev σ b = .pointer none):QV P C σ o (.bool (!x.isNone)):=by
 have:=wA (C:=C) ht ho ha hb
 rw [h.isN] at this; exact this
end
end Fw
end Go.Proofs.YtangaamigenjjaaGreat
