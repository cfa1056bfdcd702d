/- Merging, out of layer 16. No condition. -/
import Derived.Test.YtckindfllegbgaaGreatG1
namespace Go.Proofs.YtckindfllegbgaaGreat
namespace Fw
namespace Mg
set_option linter.unusedVariables false
set_option linter.unusedSimpArgs false
set_option linter.unusedSectionVars false
theorem all0_iff{p:Nat→Bool}{n:Nat}:allFrom p 0 n=true↔∀i,i<n→p i=true:=by
 unfold allFrom
 rw [List.all_eq_true]
 simp only [List.mem_range'_1,Nat.zero_le,true_and,Nat.sub_zero,Nat.zero_add]
theorem any0_iff{p:Nat→Bool}{n:Nat}:anyFrom p 0 n=true↔∃i,i<n∧p i=true:=by
 unfold anyFrom
 rw [List.any_eq_true]
 simp only [List.mem_range'_1,Nat.zero_le,true_and,Nat.sub_zero,Nat.zero_add]
theorem allFrom_congr{p q:Nat→Bool}{n:Nat}(h:∀i,i<n→p i=q i):allFrom p 0 n=allFrom q 0 n:=by
 rw [Bool.eq_iff_iff,all0_iff,all0_iff]
 exact⟨λh1 i hi=>(h i hi)▸h1 i hi,λh1 i hi=>(h i hi)▸h1 i hi⟩
theorem gt_mem{α:Type}[Inhabited α]{l:List α}{i:Nat}(h:i<l.length):gt l i∈l:=by rw [gt_eq h]; exact List.getElem_mem h
theorem mem_gt{α:Type}[Inhabited α]{l:List α}{x:α}(h:x∈l):∃i,i<l.length∧gt l i=x:=by
 obtain⟨i,hi,rfl⟩:=List.getElem_of_mem h
 exact⟨i,hi,gt_eq hi⟩
end Mg
end Fw
end Go.Proofs.YtckindfllegbgaaGreat
