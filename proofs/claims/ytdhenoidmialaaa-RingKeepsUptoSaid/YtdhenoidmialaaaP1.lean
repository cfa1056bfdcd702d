/- Right members are 255 lists. No condition. -/
import Derived.Test.YtdhenoidmialaaaM
import Derived.Test.YtdhenoidmialaaaQ1
namespace Go.Proofs.Ytdhenoidmialaaa
namespace Fw
set_option linter.unusedVariables false
set_option linter.unusedSimpArgs false
set_option linter.unusedSectionVars false

/-- rising within 1..8 -/
def Rgt (l : List Int) : Prop := 0 < l.length ∧ (∀ x ∈ l, 1 ≤ x ∧ x ≤ 8) ∧ l.Pairwise (· < ·)
def rgtAt (l : List Int) (i : Nat) : Bool := !((decide (gt l i < 1) || decide (8 < gt l i)) || (decide (0 < (i : Int)) && decide (gt l i ≤ gt l (i - 1))))
theorem e_Right {l : List Int} (hl : l.length ≤ lim) : m_ring_Right l = some (allFrom (rgtAt l) 0 l.length && decide (0 < ((l.length : Nat) : Int))) := by
  unfold m_ring_Right
  rw [forI_all (p := rgtAt l) (r := some false) (fun f i hi => ?_)]
  · cases allFrom (rgtAt l) 0 l.length <;> rfl
  · unfold m_ring_Right_b1 rgtAt
    rw [lim_eq] at hl
    rw [w64_nat (by omega)]
    cases h1 : (decide (gt l i < 1) || decide (8 < gt l i))
    · by_cases h0 : 0 < (i : Int)
      · rw [show decide (0 < ((i : Nat) : Int)) = true by simpa using h0]
        have hi1 : (((i : Nat) : Int) - 1).toNat = i - 1 := by omega
        rw [chk_t (show imp _ (inb (((i : Nat) : Int) - 1) l.length) = true by
          show inb _ _ = true
          unfold inb
          rw [Bool.and_eq_true, decide_eq_true_eq, decide_eq_true_eq]; omega), hi1]
        cases decide (gt l i ≤ gt l (i - 1)) <;> rfl
      · rw [show decide (0 < ((i : Nat) : Int)) = false by simpa using h0]
        rfl
    · rfl
theorem rgt_iff {l : List Int} : (allFrom (rgtAt l) 0 l.length && decide (0 < ((l.length : Nat) : Int))) = true ↔ Rgt l := by
  rw [Bool.and_eq_true, all0_iff, decide_eq_true_eq]
  unfold Rgt
  constructor
  · rintro ⟨h, h0⟩
    have hb : ∀ i, i < l.length → (1 ≤ gt l i ∧ gt l i ≤ 8) ∧ (0 < i → gt l (i - 1) < gt l i) := by
      intro i hi
      have := h i hi
      unfold rgtAt at this
      simp only [Bool.not_eq_true', Bool.or_eq_false_iff, decide_eq_false_iff_not, Bool.and_eq_false_iff] at this
      omega
    refine ⟨by omega, fun x hx => ?_, ?_⟩
    · obtain ⟨i, hi, rfl⟩ := mem_gt hx
      exact (hb i hi).1
    · rw [List.pairwise_iff_getElem]
      have key : ∀ m i, i + m + 1 < l.length → gt l i < gt l (i + m + 1) := by
        intro m
        induction m with
        | zero => intro i hi; have := (hb (i + 1) hi).2 (by omega); simpa using this
        | succ m ih =>
          intro i hi
          have h1 := ih i (by omega)
          have h2 := (hb (i + m + 1 + 1) hi).2 (by omega)
          rw [Nat.add_sub_cancel] at h2
          exact Int.lt_trans h1 h2
      intro i j hi hj hij
      have := key (j - i - 1) i (by omega)
      rwa [show i + (j - i - 1) + 1 = j by omega, gt_eq hi, gt_eq hj] at this
  · rintro ⟨h0, h1, h2⟩
    refine ⟨fun i hi => ?_, by omega⟩
    unfold rgtAt
    simp only [Bool.not_eq_true', Bool.or_eq_false_iff, decide_eq_false_iff_not, Bool.and_eq_false_iff]
    have h3 := h1 _ (gt_mem hi)
    refine ⟨by omega, ?_⟩
    by_cases hz : i = 0
    · left; omega
    · right
      rw [List.pairwise_iff_getElem] at h2
      have := h2 (i - 1) i (by omega) hi (by omega)
      rw [gt_eq hi, gt_eq (by omega)]; omega
/-- all rising lists within the last k numbers up to 8 -/
def ups : Nat → List (List Int)
  | 0 => [[]]
  | k + 1 => ups k ++ (ups k).map ((8 - (k : Int)) :: ·)
theorem ups_mem : ∀ (k : Nat) (l : List Int), (∀ x ∈ l, 8 - (k : Int) < x ∧ x ≤ 8) → l.Pairwise (· < ·) → l ∈ ups k
  | 0, l, h, _ => by
    cases l with
    | nil => simp [ups]
    | cons x l => have := h x List.mem_cons_self; omega
  | k + 1, l, h, hp => by
    rw [ups, List.mem_append, List.mem_map]
    cases l with
    | nil => exact .inl (ups_mem k [] (by simp) hp)
    | cons x l =>
      obtain ⟨h1, h2⟩ := List.pairwise_cons.1 hp
      have hx := h x List.mem_cons_self
      by_cases e : x = 8 - (k : Int)
      · refine .inr ⟨l, ups_mem k l (fun y hy => ?_) h2, by rw [e]⟩
        have := h1 y hy
        have := h y (List.mem_cons_of_mem _ hy)
        omega
      · refine .inl (ups_mem k (x :: l) (fun y hy => ?_) hp)
        have hy2 := h y hy
        rcases List.mem_cons.1 hy with e2 | e2
        · subst e2; omega
        · have := h1 y e2; omega
theorem rgt_ups {l : List Int} (h : Rgt l) : l ∈ ups 8 := ups_mem 8 l (fun x hx => by have := h.2.1 x hx; omega) h.2.2
theorem rgt_len {l : List Int} (h : Rgt l) : l.length ≤ 8 := by
  have : ∀ x ∈ ups 8, x.length ≤ 8 := by decide +kernel
  exact this l (rgt_ups h)
theorem e_rRight {l : List Int} (hl : l.length ≤ lim) : m_firthref12_Right l = some (allFrom (rgtAt l) 0 l.length && decide (0 < ((l.length : Nat) : Int))) := by
  have body : forI (m_firthref12_Right_b1 l) (fun _ => (some true)) 0 l () = some (allFrom (rgtAt l) 0 l.length) := by
    rw [forI_all (p := rgtAt l) (r := some false) (fun f i hi => ?_)]
    · cases allFrom (rgtAt l) 0 l.length <;> rfl
    · unfold m_firthref12_Right_b1 rgtAt
      rw [lim_eq] at hl
      rw [w64_nat (by omega)]
      cases h1 : (decide (gt l i < 1) || decide (8 < gt l i))
      · by_cases h0 : 0 < (i : Int)
        · rw [show decide (0 < ((i : Nat) : Int)) = true by simpa using h0]
          have hi1 : (((i : Nat) : Int) - 1).toNat = i - 1 := by omega
          rw [chk_t (show imp _ (inb (((i : Nat) : Int) - 1) l.length) = true by
            show inb _ _ = true
            unfold inb
            rw [Bool.and_eq_true, decide_eq_true_eq, decide_eq_true_eq]; omega), hi1]
          cases decide (gt l i ≤ gt l (i - 1)) <;> rfl
        · rw [show decide (0 < ((i : Nat) : Int)) = false by simpa using h0]
          rfl
      · rfl
  unfold m_firthref12_Right
  rw [body]
  cases hr : (allFrom (rgtAt l) 0 l.length && decide (0 < ((l.length : Nat) : Int)))
  · cases hb : (decide (((l.length : Nat) : Int) < 1) || decide (8 < ((l.length : Nat) : Int)))
    · rw [cond_false]
      have h0 : decide (0 < ((l.length : Nat) : Int)) = true := by
        have := or_l hb; rw [decide_eq_false_iff_not] at this; rw [decide_eq_true_eq]; omega
      rw [h0, Bool.and_true] at hr
      rw [hr]
    · rfl
  · have h1 := rgt_len (rgt_iff.1 hr)
    have h2 := (rgt_iff.1 hr).1
    have hb : (decide (((l.length : Nat) : Int) < 1) || decide (8 < ((l.length : Nat) : Int))) = false := by
      rw [Bool.or_eq_false_iff, decide_eq_false_iff_not, decide_eq_false_iff_not]; omega
    rw [hb, cond_false, and_l hr]
end Fw
end Go.Proofs.Ytdhenoidmialaaa
