/- Plain lemmas on the loops of printed models, and on lists by place. No condition. -/
import Derived.Test.YtogmioecalmalaaGreatK11
namespace Go.Proofs.YtogmioecalmalaaGreat
namespace Fw
set_option linter.unusedVariables false
set_option linter.unusedSimpArgs false
set_option linter.unusedSectionVars false
/-- for all numbers from k to below n -/
def allFrom (p : Nat → Bool) (k n : Nat) : Bool := (List.range' k (n - k)).all p
theorem allFrom_step {p : Nat → Bool} {k n : Nat} (h : k < n) : allFrom p k n = (p k && allFrom p (k + 1) n) := by
  unfold allFrom
  rw [show n - k = (n - (k + 1)) + 1 by omega, List.range'_succ]; rfl
theorem allFrom_end {p : Nat → Bool} {k n : Nat} (h : n ≤ k) : allFrom p k n = true := by
  unfold allFrom
  rw [show n - k = 0 by omega]; rfl
theorem all0_iff {p : Nat → Bool} {n : Nat} : allFrom p 0 n = true ↔ ∀ i, i < n → p i = true := by
  unfold allFrom
  rw [List.all_eq_true]
  simp only [List.mem_range'_1, Nat.zero_le, true_and, Nat.sub_zero, Nat.zero_add]
theorem allFrom_congr {p q : Nat → Bool} {n : Nat} (h : ∀ i, i < n → p i = q i) : allFrom p 0 n = allFrom q 0 n := by
  rw [Bool.eq_iff_iff, all0_iff, all0_iff]
  exact ⟨fun h1 i hi => (h i hi) ▸ h1 i hi, fun h1 i hi => (h i hi) ▸ h1 i hi⟩
theorem gt_mem {α : Type} [Inhabited α] {l : List α} {i : Nat} (h : i < l.length) : gt l i ∈ l := by rw [gt_eq h]; exact List.getElem_mem h
theorem mem_gt {α : Type} [Inhabited α] {l : List α} {x : α} (h : x ∈ l) : ∃ i, i < l.length ∧ gt l i = x := by
  obtain ⟨i, hi, rfl⟩ := List.getElem_of_mem h
  exact ⟨i, hi, gt_eq hi⟩
/-! ### loops -/
section
variable {α S R : Type} [Inhabited α]
theorem forI_inv {body : (S → Option R) → Nat → α → S → Option R} {k : S → Option R} {l : List α} (T : Nat → S → Option R) (I : Nat → S → Prop) (hend : ∀ s, I l.length s → k s = T l.length s)
    (hstep : ∀ f i s, i < l.length → I i s → (∀ s', I (i + 1) s' → f s' = T (i + 1) s') → body f i (gt l i) s = T i s) {s : S} (h0 : I 0 s) : forI body k 0 l s = T 0 s := by
  have key : ∀ m i s, l.length - i = m → i ≤ l.length → I i s → forI body k i (l.drop i) s = T i s := by
    intro m
    induction m with
    | zero =>
      intro i s hm hi hI
      have : i = l.length := by omega
      subst this
      rw [List.drop_of_length_le (Nat.le_refl _)]
      exact hend s hI
    | succ m ih =>
      intro i s hm hi hI
      rw [drop_gt (by omega)]
      exact hstep _ i s (by omega) hI fun s' h' => ih (i + 1) s' (by omega) (by omega) h'
  exact key _ 0 s rfl (Nat.zero_le _) h0
theorem forU_inv {body : (S → Option R) → Nat → S → Option R} {k : S → Option R} {n : Nat} (T : Nat → S → Option R) (I : Nat → S → Prop) (hend : ∀ s, I n s → k s = T n s)
    (hstep : ∀ f i s, i < n → I i s → (∀ s', I (i + 1) s' → f s' = T (i + 1) s') → body f i s = T i s) {s : S} (h0 : I 0 s) : forU body k n 0 s = T 0 s := by
  have key : ∀ m i s, i + m = n → I i s → forU body k m i s = T i s := by
    intro m
    induction m with
    | zero =>
      intro i s hm hI
      obtain rfl : i = n := by omega
      exact hend s hI
    | succ m ih =>
      intro i s hm hI
      exact hstep _ i s (by omega) hI fun s' h' => ih (i + 1) s' (by omega) h'
  exact key n 0 s (by omega) h0
theorem forI_all {body : (Unit → Option R) → Nat → α → Unit → Option R} {k : Unit → Option R} {l : List α} {p : Nat → Bool} {r : Option R}
    (h : ∀ f i, i < l.length → body f i (gt l i) () = bif p i then f () else r) : forI body k 0 l () = bif allFrom p 0 l.length then k () else r := by
  refine forI_inv (fun i _ => bif allFrom p i l.length then k () else r) (fun _ _ => True) (fun s _ => ?_) (fun f i s hi _ hf => ?_) trivial
  · rw [allFrom_end (Nat.le_refl _)]; rfl
  · rw [h f i hi, hf () trivial, allFrom_step hi]
    cases p i <;> rfl
theorem forU_all {body : (Unit → Option R) → Nat → Unit → Option R} {k : Unit → Option R} {n : Nat} {p : Nat → Bool} {r : Option R}
    (h : ∀ f i, i < n → body f i () = bif p i then f () else r) : forU body k n 0 () = bif allFrom p 0 n then k () else r := by
  refine forU_inv (fun i _ => bif allFrom p i n then k () else r) (fun _ _ => True) (fun s _ => ?_) (fun f i s hi _ hf => ?_) trivial
  · rw [allFrom_end (Nat.le_refl _)]; rfl
  · rw [h f i hi, hf () trivial, allFrom_step hi]
    cases p i <;> rfl
end
theorem gcall_s {R : Type} [Inhabited R] (g : Bool) (v : R) : gcall g (some v) = some (bif g then v else default) := by cases g <;> rfl
theorem w64_nat {i : Nat} (h : i ≤ 4294967296) : w64 (((i : Nat) : Int) - 1) = ((i : Nat) : Int) - 1 := w64_i (by unfold I64; omega)
theorem chk_t {R : Type} {c : Bool} {k : Option R} (h : c = true) : chk c k = k := by rw [h]; rfl

theorem inb_nat {i n : Nat} (h : i < n) : inb ((i : Nat) : Int) n = true := by unfold inb; rw [Bool.and_eq_true, decide_eq_true_eq, decide_eq_true_eq]; omega
end Fw
end Go.Proofs.YtogmioecalmalaaGreat
