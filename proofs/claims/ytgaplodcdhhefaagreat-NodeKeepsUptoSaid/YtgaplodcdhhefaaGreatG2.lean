/- Merging, out of layer 16. No condition. -/
import Derived.Test.YtgaplodcdhhefaaGreatG1
namespace Go.Proofs.YtgaplodcdhhefaaGreat
namespace Fw
namespace Mg
set_option linter.unusedVariables false
set_option linter.unusedSimpArgs false
set_option linter.unusedSectionVars false
theorem me{p:Nat→Bool}{n:Nat}:bl p 0 n=true↔∀i,i<n→p i=true:=by
 unfold bl
 rw [List.all_eq_true]
 simp only [List.mem_range'_1,E7,true_and,Nat.sub_zero,Nat.zero_add]
theorem s9{p:Nat→Bool}{n:Nat}:r7 p 0 n=true↔∃i,i<n∧p i=true:=by
 unfold r7
 rw [List.any_eq_true]
 simp only [List.mem_range'_1,E7,true_and,Nat.sub_zero,Nat.zero_add]
theorem sL{p q:Nat→Bool}{n:Nat}(h:∀i,i<n→p i=q i):bl p 0 n=bl q 0 n:=by
 rw [Bool.eq_iff_iff,me,me]
 exact⟨λh1 i hi=>(h i hi)▸h1 i hi,λh1 i hi=>(h i hi)▸h1 i hi⟩
theorem qr{α:Type}[Inhabited α]{l:List α}{i:Nat}(h:i<l.length):gt l i∈l:=by rw [bA h]; exact List.getElem_mem h
theorem vP{α:Type}[Inhabited α]{l:List α}{x:α}(h:x∈l):∃i,i<l.length∧gt l i=x:=by
 obtain⟨i,hi,rfl⟩:=List.getElem_of_mem h
 exact⟨i,hi,bA hi⟩
end Mg
end Fw
end Go.Proofs.YtgaplodcdhhefaaGreat
