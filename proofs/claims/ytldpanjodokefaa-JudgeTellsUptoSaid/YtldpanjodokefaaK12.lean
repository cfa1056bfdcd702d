/- Sorting, plainly: a sorting that is checked; what a sorted permutation is. No condition. -/
import Derived.Test.YtldpanjodokefaaK11
namespace Go.Proofs.Ytldpanjodokefaa
namespace Fw
set_option linter.unusedVariables false
set_option linter.unusedSimpArgs false
set_option linter.unusedSectionVars false
open Go.RowKit

section
variable {α : Type}
def insS (lt : α → α → Bool) (x : α) : List α → List α
  | [] => [x]
  | y :: l => bif lt y x then y :: insS lt x l else x :: y :: l
def isort (lt : α → α → Bool) : List α → List α
  | [] => []
  | x :: l => insS lt x (isort lt l)
theorem insS_perm (lt : α → α → Bool) (x : α) : ∀ l : List α, (insS lt x l).Perm (x :: l)
  | [] => List.Perm.refl _
  | y :: l => by
    rw [insS]
    cases lt y x
    · exact List.Perm.refl _
    · exact ((insS_perm lt x l).cons y).trans (List.Perm.swap x y l)
theorem isort_perm (lt : α → α → Bool) : ∀ l : List α, (isort lt l).Perm l
  | [] => List.Perm.refl _
  | x :: l => (insS_perm lt x _).trans ((isort_perm lt l).cons x)

variable [DecidableEq α]
def ltm (cmp : α → α → Option Int) (a b : α) : Bool := match cmp a b with
  | some c => decide (c < 0)
  | none => false
def okS (cmp : α → α → Option Int) : List α → Bool
  | [] => true
  | x :: l => (((cmp x x).isSome && !(ltm cmp x x)) && l.all (fun y => decide (x = y) || ((((cmp x y).isSome && (cmp y x).isSome) && ltm cmp x y) && !(ltm cmp y x)))) && okS cmp l
/-- a sorting, where what is sorted is of one kind: no two that stand alike but the same -/
def m_sort (cmp : α → α → Option Int) (xs : List α) : Option (List α) := chk (!(xs.isEmpty)) (chk (okS cmp (isort (ltm cmp) xs)) (some (isort (ltm cmp) xs)))

variable {cmp : α → α → Option Int} {ys : List α}
structure Tri (cmp : α → α → Option Int) (M : α → Prop) : Prop where
  dfd : ∀ x y, M x → M y → (cmp x y).isSome = true
  irr : ∀ x, M x → ltm cmp x x = false
  tri : ∀ x y, M x → M y → x = y ∨ (ltm cmp x y = true ∧ ltm cmp y x = false) ∨ (ltm cmp y x = true ∧ ltm cmp x y = false)
  trans : ∀ x y z, M x → M y → M z → ltm cmp x y = true → ltm cmp y z = true → ltm cmp x z = true
theorem okS_pw : ∀ {ys : List α}, okS cmp ys = true → (∀ x ∈ ys, (cmp x x).isSome = true ∧ ltm cmp x x = false) ∧ ys.Pairwise (fun x y => x = y ∨ ((cmp x y).isSome = true ∧ (cmp y x).isSome = true ∧ ltm cmp x y = true ∧ ltm cmp y x = false))
  | [], _ => ⟨by simp, List.Pairwise.nil⟩
  | x :: l, h => by
    rw [okS] at h
    simp only [Bool.and_eq_true, Bool.not_eq_true', List.all_eq_true, Bool.or_eq_true, decide_eq_true_eq] at h
    obtain ⟨⟨⟨h1, h2⟩, h3⟩, h4⟩ := h
    obtain ⟨h5, h6⟩ := okS_pw h4
    refine ⟨fun y hy => ?_, List.pairwise_cons.2 ⟨fun y hy => ?_, h6⟩⟩
    · rcases List.mem_cons.1 hy with e | e
      · subst e; exact ⟨h1, h2⟩
      · exact h5 y e
    · rcases h3 y hy with e | e
      · exact .inl e
      · exact .inr ⟨e.1.1.1, e.1.1.2, e.1.2, e.2⟩
theorem okS_tri (h : okS cmp ys = true) : Tri cmp (· ∈ ys) := by
  obtain ⟨h1, h2⟩ := okS_pw h
  rw [List.pairwise_iff_getElem] at h2
  have both : ∀ x y, x ∈ ys → y ∈ ys → ∃ (i j : Nat) (hi : i < ys.length) (hj : j < ys.length), ys[i] = x ∧ ys[j] = y := by
    intro x y hx hy
    obtain ⟨i, hi, rfl⟩ := List.getElem_of_mem hx
    obtain ⟨j, hj, rfl⟩ := List.getElem_of_mem hy
    exact ⟨i, j, hi, hj, rfl, rfl⟩
  have tri : ∀ x y, x ∈ ys → y ∈ ys → x = y ∨ (ltm cmp x y = true ∧ ltm cmp y x = false) ∨ (ltm cmp y x = true ∧ ltm cmp x y = false) := by
    intro x y hx hy
    obtain ⟨i, j, hi, hj, rfl, rfl⟩ := both x y hx hy
    rcases Nat.lt_trichotomy i j with hij | hij | hij
    · rcases h2 i j hi hj hij with e | e
      · exact .inl e
      · exact .inr (.inl e.2.2)
    · subst hij; exact .inl rfl
    · rcases h2 j i hj hi hij with e | e
      · exact .inl e.symm
      · exact .inr (.inr e.2.2)
  have lti : ∀ (i j : Nat) (hi : i < ys.length) (hj : j < ys.length), ltm cmp ys[i] ys[j] = true → i < j := by
    intro i j hi hj hl
    rcases Nat.lt_trichotomy i j with hij | hij | hij
    · exact hij
    · subst hij; rw [(h1 _ (List.getElem_mem hi)).2] at hl; cases hl
    · rcases h2 j i hj hi hij with e | e
      · rw [e, (h1 _ (List.getElem_mem hi)).2] at hl; cases hl
      · rw [e.2.2.2] at hl; cases hl
  refine ⟨fun x y hx hy => ?_, fun x hx => (h1 x hx).2, tri, fun x y z hx hy hz a b => ?_⟩
  · obtain ⟨i, j, hi, hj, rfl, rfl⟩ := both x y hx hy
    rcases Nat.lt_trichotomy i j with hij | hij | hij
    · rcases h2 i j hi hj hij with e | e
      · rw [← e]; exact (h1 _ (List.getElem_mem hi)).1
      · exact e.1
    · subst hij; exact (h1 _ hx).1
    · rcases h2 j i hj hi hij with e | e
      · rw [e]; exact (h1 _ (List.getElem_mem hi)).1
      · exact e.2.1
  · obtain ⟨i, j, hi, hj, rfl, rfl⟩ := both x y hx hy
    obtain ⟨k, hk, rfl⟩ := List.getElem_of_mem hz
    have h3 := lti i j hi hj a
    have h4 := lti j k hj hk b
    rcases h2 i k hi hk (by omega) with e | e
    · exfalso
      rw [← e] at b
      have := lti j i hj hi b
      omega
    · exact e.2.2.1
theorem Tri.ntrans {M : α → Prop} (h : Tri cmp M) {x y z : α} (hx : M x) (hy : M y) (hz : M z) (a : ltm cmp x y = false) (b : ltm cmp y z = false) : ltm cmp x z = false := by
  rcases h.tri x y hx hy with e | e | e
  · rw [e]; exact b
  · rw [e.1] at a; cases a
  · rcases h.tri y z hy hz with e2 | e2 | e2
    · rw [← e2]; exact a
    · rw [e2.1] at b; cases b
    · have := h.trans z y x hz hy hx e2.1 e.1
      rcases h.tri x z hx hz with e3 | e3 | e3
      · rw [e3]; exact h.irr z hz
      · rw [e3.2] at this; cases this
      · exact e3.2
theorem sort_unique {M : α → Prop} (h : Tri cmp M) : ∀ {a b : List α}, (∀ x ∈ a, M x) → a.Perm b → a.Pairwise (fun x y => ltm cmp y x = false) → b.Pairwise (fun x y => ltm cmp y x = false) → a = b
  | [], b, _, hp, _, _ => (List.Perm.nil_eq hp)
  | x :: a, [], _, hp, _, _ => absurd hp.length_eq (by simp)
  | x :: a, y :: b, hm, hp, h1, h2 => by
    obtain ⟨h3, h4⟩ := List.pairwise_cons.1 h1
    obtain ⟨h5, h6⟩ := List.pairwise_cons.1 h2
    have hxy : x = y := by
      rcases List.mem_cons.1 (hp.subset List.mem_cons_self) with e | e
      · exact e
      · rcases List.mem_cons.1 (hp.symm.subset List.mem_cons_self) with e2 | e2
        · exact e2.symm
        · have hx := hm x List.mem_cons_self
          have hy := hm y (List.mem_cons_of_mem _ e2)
          rcases h.tri x y hx hy with t | t | t
          · exact t
          · have := h5 x e; rw [t.1] at this; cases this
          · have := h3 y e2; rw [t.1] at this; cases this
    subst hxy
    rw [sort_unique h (fun z hz => hm z (List.mem_cons_of_mem _ hz)) (List.Perm.cons_inv hp) h4 h6]
/-- a sorted rearrangement is what the checked sorting gives -/
theorem m_sort_eq {xs ys zs : List α} (h : m_sort cmp xs = some ys) (hp : zs.Perm xs) (hs : zs.Pairwise (fun x y => ltm cmp y x = false)) : zs = ys ∧ xs ≠ [] ∧ Tri cmp (· ∈ xs) := by
  unfold m_sort at h
  obtain ⟨h0, h⟩ := chk_some h
  obtain ⟨h1, h⟩ := chk_some h
  injection h with h
  subst h
  have hpm := isort_perm (ltm cmp) xs
  have ht := okS_tri h1
  have ht2 : Tri cmp (· ∈ xs) := ⟨fun x y hx hy => ht.dfd x y (hpm.symm.subset hx) (hpm.symm.subset hy), fun x hx => ht.irr x (hpm.symm.subset hx), fun x y hx hy => ht.tri x y (hpm.symm.subset hx) (hpm.symm.subset hy),
    fun x y z hx hy hz => ht.trans x y z (hpm.symm.subset hx) (hpm.symm.subset hy) (hpm.symm.subset hz)⟩
  refine ⟨sort_unique ht2 (fun x hx => hp.subset hx) (hp.trans hpm.symm) hs ?_, ?_, ht2⟩
  · obtain ⟨h2, h3⟩ := okS_pw h1
    refine h3.imp_of_mem fun {a b} ha hb hab => ?_
    rcases hab with e | e
    · rw [e]; exact (h2 b hb).2
    · exact e.2.2.2
  · rintro rfl; simp at h0
theorem m_sort_len {xs ys : List α} (h : m_sort cmp xs = some ys) : ys.length = xs.length := by
  unfold m_sort at h
  obtain ⟨_, h⟩ := chk_some h
  obtain ⟨_, h⟩ := chk_some h
  injection h with h
  rw [← h]; exact (isort_perm _ _).length_eq
theorem m_sort_tri {xs ys : List α} (h : m_sort cmp xs = some ys) : Tri cmp (· ∈ xs) ∧ xs ≠ [] := by
  unfold m_sort at h
  obtain ⟨h0, h⟩ := chk_some h
  obtain ⟨h1, h⟩ := chk_some h
  have hpm := isort_perm (ltm cmp) xs
  have ht := okS_tri h1
  exact ⟨⟨fun x y hx hy => ht.dfd x y (hpm.symm.subset hx) (hpm.symm.subset hy), fun x hx => ht.irr x (hpm.symm.subset hx), fun x y hx hy => ht.tri x y (hpm.symm.subset hx) (hpm.symm.subset hy),
    fun x y z hx hy hz => ht.trans x y z (hpm.symm.subset hx) (hpm.symm.subset hy) (hpm.symm.subset hz)⟩, by rintro rfl; simp at h0⟩
end
end Fw
end Go.Proofs.Ytldpanjodokefaa
