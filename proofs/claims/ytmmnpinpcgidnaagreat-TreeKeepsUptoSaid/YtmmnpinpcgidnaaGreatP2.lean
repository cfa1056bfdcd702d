/- Laws of tests over all places of a list. No condition. -/
import Derived.Test.YtmmnpinpcgidnaaGreatP1
namespace Go.Proofs.YtmmnpinpcgidnaaGreat
namespace Fw
set_option linter.unusedVariables false
set_option linter.unusedSimpArgs false
set_option linter.unusedSectionVars false
theorem all0_iff {p : Nat → Bool} {n : Nat} : allFrom p 0 n = true ↔ ∀ i, i < n → p i = true := by
  unfold allFrom
  rw [List.all_eq_true]
  simp only [List.mem_range'_1, Nat.zero_le, true_and, Nat.sub_zero, Nat.zero_add]
theorem any0_iff {p : Nat → Bool} {n : Nat} : anyFrom p 0 n = true ↔ ∃ i, i < n ∧ p i = true := by
  unfold anyFrom
  rw [List.any_eq_true]
  simp only [List.mem_range'_1, Nat.zero_le, true_and, Nat.sub_zero, Nat.zero_add]
theorem allFrom_congr {p q : Nat → Bool} {n : Nat} (h : ∀ i, i < n → p i = q i) : allFrom p 0 n = allFrom q 0 n := by
  rw [Bool.eq_iff_iff, all0_iff, all0_iff]
  exact ⟨fun h1 i hi => (h i hi) ▸ h1 i hi, fun h1 i hi => (h i hi) ▸ h1 i hi⟩
theorem idxGo_mem {l : List Int} {v : Int} : ∀ {k : Nat}, 0 ≤ idxGo l v k ↔ v ∈ l := by
  induction l with
  | nil => intro k; simp [idxGo]
  | cons x l ih =>
    intro k
    unfold idxGo
    by_cases h : v = x
    · subst h; simp
    · rw [show (v == x) = false by simpa using h, cond_false, ih]; simp [h]
theorem inM_mem {l : List Int} {v : Int} : inM l v = true ↔ v ∈ l := by
  induction l with
  | nil => simp [inM]
  | cons x l ih => rw [inM, Bool.or_eq_true, beq_iff_eq, ih, List.mem_cons, eq_comm]
theorem gt_map {α β : Type} [Inhabited α] [Inhabited β] (f : α → β) {l : List α} {i : Nat} (h : i < l.length) : gt (l.map f) i = f (gt l i) := by
  rw [gt_eq (by simpa using h), gt_eq h]; simp
theorem gt_mem {α : Type} [Inhabited α] {l : List α} {i : Nat} (h : i < l.length) : gt l i ∈ l := by rw [gt_eq h]; exact List.getElem_mem h
theorem mem_gt {α : Type} [Inhabited α] {l : List α} {x : α} (h : x ∈ l) : ∃ i, i < l.length ∧ gt l i = x := by
  obtain ⟨i, hi, rfl⟩ := List.getElem_of_mem h
  exact ⟨i, hi, gt_eq hi⟩
theorem intsM_refl (l : List Int) : intsM l l = true := by
  unfold intsM
  simp only [BEq.rfl, cond_true]
  exact all0_iff.2 fun i _ => by simp
end Fw
end Go.Proofs.YtmmnpinpcgidnaaGreat
