/- The orders, what is first and what is left, in both; lists of numbers. No condition. -/
import Derived.Test.YtdhenoidmialaaaP4
namespace Go.Proofs.Ytdhenoidmialaaa
namespace Fw
set_option linter.unusedVariables false
set_option linter.unusedSimpArgs false
set_option linter.unusedSectionVars false

theorem tail_all : ∀ p : Nat, p < 8 → ∀ ms ∈ ups 8, tailO (sorted ms) ((p : Nat) : Int) = some ((gt fullO p).filter (inM ms)) ∨ ms = []
  | 0, _ => tail_0
  | 1, _ => tail_1
  | 2, _ => tail_2
  | 3, _ => tail_3
  | 4, _ => tail_4
  | 5, _ => tail_5
  | 6, _ => tail_6
  | 7, _ => tail_7
  | n + 8, h => by omega
theorem ref_all : ∀ p : Nat, p < 8 → ∀ ms ∈ ups 8, orderG (fstT p) ms (gt fromT p) = some ((gt fullO p).filter (inM ms))
  | 0, _ => ref_0
  | 1, _ => ref_1
  | 2, _ => ref_2
  | 3, _ => ref_3
  | 4, _ => ref_4
  | 5, _ => ref_5
  | 6, _ => ref_6
  | 7, _ => ref_7
  | n + 8, h => by omega
def rgtB (ms : List Int) : Bool := allFrom (rgtAt ms) 0 ms.length && decide (0 < ((ms.length : Nat) : Int))
theorem rgtB_iff {ms : List Int} : rgtB ms = true ↔ Rgt ms := rgt_iff
theorem ordS_out {ms : List Int} {part : Int} (h : (((!(rgtB ms)) || (decide (part < 0))) || (decide (8 ≤ part))) = true) : ordS ms part = [] := by
  unfold ordS
  have : ((allFrom (rgtAt ms) 0 ms.length && decide (0 < ((ms.length : Nat) : Int))) && (decide (0 ≤ part) && decide (part < 8))) = false := by
    show (rgtB ms && (decide (0 ≤ part) && decide (part < 8))) = false
    cases h1 : rgtB ms
    · rfl
    · rw [h1] at h
      simp only [Bool.not_true, Bool.false_or, Bool.or_eq_true, decide_eq_true_eq] at h
      rw [Bool.true_and, Bool.and_eq_false_iff, decide_eq_false_iff_not, decide_eq_false_iff_not]; omega
  rw [this]; rfl
theorem ordS_in {ms : List Int} {p : Nat} (h : Rgt ms) (hp : p < 8) : ordS ms ((p : Nat) : Int) = (gt fullO p).filter (inM ms) := by
  unfold ordS
  have h1 := rgt_iff.2 h
  rw [h1, show decide ((0 : Int) ≤ ((p : Nat) : Int)) = true by rw [decide_eq_true_eq]; omega, show decide (((p : Nat) : Int) < 8) = true by rw [decide_eq_true_eq]; omega, Int.toNat_natCast]; rfl
theorem out_false {ms : List Int} {part : Int} (h : (((!(rgtB ms)) || (decide (part < 0))) || (decide (8 ≤ part))) = false) : Rgt ms ∧ ∃ p : Nat, p < 8 ∧ part = (p : Int) := by
  simp only [Bool.or_eq_false_iff, Bool.not_eq_false', decide_eq_false_iff_not] at h
  exact ⟨rgtB_iff.1 h.1.1, part.toNat, by omega, by omega⟩
theorem e_order {ms : List Int} (hl : ms.length ≤ lim) (part : Int) : m_ring_order ms part = some (ordS ms part) := by
  unfold m_ring_order
  rw [e_Right hl, Option.bind_some]
  show (bif (((!(rgtB ms)) || (decide (part < 0))) || (decide (8 ≤ part))) then _ else _) = _
  cases h : (((!(rgtB ms)) || (decide (part < 0))) || (decide (8 ≤ part)))
  · obtain ⟨hr, p, hp, rfl⟩ := out_false h
    rw [cond_false, e_pts hr.2.1 (rgt_len hr), e_sort hr, Option.bind_some, ordS_in hr hp]
    refine (tail_all p hp ms (rgt_ups hr)).resolve_right fun e => ?_
    have := hr.1
    rw [e] at this; simp at this
  · rw [ordS_out h]; rfl
theorem e_rOrder {ms : List Int} (hl : ms.length ≤ lim) (part : Int) : m_firthref12_Order ms part = some (ordS ms part) := by
  unfold m_firthref12_Order
  rw [e_rRight hl, Option.bind_some]
  show (bif (((!(rgtB ms)) || (decide (part < 0))) || (decide (8 ≤ part))) then _ else _) = _
  cases h : (((!(rgtB ms)) || (decide (part < 0))) || (decide (8 ≤ part)))
  · obtain ⟨hr, p, hp, rfl⟩ := out_false h
    rw [cond_false, from_tab p hp, Option.bind_some, orderG_eq, fstT_eq hp, ref_all p hp ms (rgt_ups hr), ordS_in hr hp]
    rfl
  · rw [ordS_out h]; rfl
theorem fullO_perm : ∀ p, p < 8 → (gt fullO p).isPerm full8 = true := by decide +kernel
theorem ordS_perm {ms : List Int} {p : Nat} (h : Rgt ms) (hp : p < 8) : (ordS ms ((p : Nat) : Int)).Perm ms := by
  rw [ordS_in h hp]
  have := (List.isPerm_iff.1 (fullO_perm p hp)).filter (inM ms)
  rwa [ups_filter ms (rgt_ups h)] at this
theorem ordS_len (ms : List Int) (part : Int) : (ordS ms part).length ≤ 8 := by
  cases h : (((!(rgtB ms)) || (decide (part < 0))) || (decide (8 ≤ part)))
  · obtain ⟨hr, p, hp, rfl⟩ := out_false h
    rw [(ordS_perm hr hp).length_eq]; exact rgt_len hr
  · rw [ordS_out h]; simp
/-- so many of an order -/
def cutN (n : Int) (l : Nat) : Nat := (min (max n 0) (l : Int)).toNat
theorem cutN_le (n : Int) (l : Nat) : cutN n l ≤ l := by unfold cutN; omega
theorem inle_cut (n : Int) (l : Nat) : inle (min (max n 0) (l : Int)) l = true := by
  unfold inle; rw [Bool.and_eq_true, decide_eq_true_eq, decide_eq_true_eq]; omega
def listS (ms : List Int) (part n : Int) : List Int := (ordS ms part).take (cutN n (ordS ms part).length)
def restS (ms : List Int) (part n : Int) : List Int := (ordS ms part).drop (cutN n (ordS ms part).length)
theorem listS_len (ms : List Int) (part n : Int) : (listS ms part n).length ≤ 8 := by
  have := ordS_len ms part
  unfold listS
  rw [List.length_take]; omega
theorem restS_len (ms : List Int) (part n : Int) : (restS ms part n).length ≤ 8 := by
  have := ordS_len ms part
  unfold restS
  rw [List.length_drop]; omega
theorem e_Clone {l : List Int} (h : l.length ≤ lim) : m_slices_Clone_int_int l = some l := by
  unfold m_slices_Clone_int_int nilc
  cases l with
  | nil => rfl
  | cons x l => rw [chk_t (by simpa using h)]; rfl
theorem e_List {ms : List Int} (hl : ms.length ≤ lim) (part n : Int) : m_ring_List ms part n = some (listS ms part n) := by
  have h := listS_len ms part n
  unfold m_ring_List
  rw [e_order hl, Option.bind_some, chk_t (inle_cut _ _)]
  show Option.bind (m_slices_Clone_int_int (listS ms part n)) _ = _
  rw [e_Clone (by rw [lim_eq]; omega)]; rfl
theorem e_Rest {ms : List Int} (hl : ms.length ≤ lim) (part n : Int) : m_ring_Rest ms part n = some (restS ms part n) := by
  have h := restS_len ms part n
  unfold m_ring_Rest
  rw [e_order hl, Option.bind_some, chk_t (inle_cut _ _)]
  show Option.bind (m_slices_Clone_int_int (restS ms part n)) _ = _
  rw [e_Clone (by rw [lim_eq]; omega)]; rfl
theorem e_cut (o : List Int) (n : Int) : m_firthref12_cut o n = some (min (max n 0) ((o.length : Nat) : Int)) := by
  unfold m_firthref12_cut
  by_cases h : n < 0
  · rw [decide_eq_true h, cond_true]; congr 1; omega
  · rw [decide_eq_false h, cond_false]
    by_cases h2 : ((o.length : Nat) : Int) < n
    · rw [decide_eq_true h2, cond_true]; congr 1; omega
    · rw [decide_eq_false h2, cond_false]; congr 1; omega
theorem e_rList {ms : List Int} (hl : ms.length ≤ lim) (part n : Int) : m_firthref12_List ms part n = some (listS ms part n) := by
  unfold m_firthref12_List
  rw [e_rOrder hl, Option.bind_some, e_cut, Option.bind_some, chk_t (inle_cut _ _)]; rfl
theorem e_rRest {ms : List Int} (hl : ms.length ≤ lim) (part n : Int) : m_firthref12_Rest ms part n = some (restS ms part n) := by
  unfold m_firthref12_Rest
  rw [e_rOrder hl, Option.bind_some, e_cut, Option.bind_some, chk_t (inle_cut _ _)]; rfl

/-! ### lists of numbers -/
theorem all_gt {a b : List Int} (hl : a.length = b.length) : allFrom (fun i => gt a i == gt b i) 0 a.length = decide (a = b) := by
  rw [Bool.eq_iff_iff, all0_iff, decide_eq_true_eq]
  exact ⟨fun h => gt_ext hl fun i hi => eq_of_beq (h i hi), fun e i _ => by rw [e]; simp⟩
theorem e_Ints (a b : List Int) : m_firthref06_Ints a b = some (decide (a = b)) := by
  unfold m_firthref06_Ints
  by_cases hl : a.length = b.length
  · rw [nat_f hl, cond_false, forI_all (p := fun i => gt a i == gt b i) (r := some false) (fun f i hi => ?_), all_gt hl]
    · cases decide (a = b) <;> rfl
    · unfold m_firthref06_Ints_b1
      rw [chk_t (by simpa using (by omega : i < b.length))]
      show (bif !(gt a i == gt b i) then _ else _) = _
      cases gt a i == gt b i <;> rfl
  · rw [nat_t hl, cond_true, decide_eq_false (fun e => hl (by rw [e]))]
theorem e_Equal (a b : List Int) : m_slices_Equal_int_int a b = some (decide (a = b)) := by
  unfold m_slices_Equal_int_int
  by_cases hl : a.length = b.length
  · rw [nat_f hl, cond_false, forI_all (p := fun i => gt a i == gt b i) (r := some false) (fun f i hi => ?_), all_gt hl]
    · cases decide (a = b) <;> rfl
    · unfold m_slices_Equal_int_int_b1
      rw [chk_t (by simpa using (by omega : i < b.length))]
      show (bif !(gt a i == gt b i) then _ else _) = _
      cases gt a i == gt b i <;> rfl
  · rw [nat_t hl, cond_true, decide_eq_false (fun e => hl (by rw [e]))]
theorem e_In (l : List Int) (n : Int) : m_firthref12_In l n = some (inM l n) := by
  unfold m_firthref12_In
  refine forI_inv (fun i _ => some (inM (l.drop i) n)) (fun _ _ => True) (fun s _ => ?_) (fun f i s hi _ hf => ?_) trivial
  · rw [List.drop_of_length_le (Nat.le_refl _)]; rfl
  · unfold m_firthref12_In_b1
    rw [hf () trivial, drop_gt hi]
    unfold inM
    rw [List.any_cons]
    cases gt l i == n <;> rfl
def idxGo : List Int → Int → Nat → Int
  | [], _, _ => -1
  | x :: l, v, k => bif v == x then k else idxGo l v (k + 1)
theorem idxGo_mem {l : List Int} {v : Int} : ∀ {k : Nat}, 0 ≤ idxGo l v k ↔ v ∈ l := by
  induction l with
  | nil => intro k; simp [idxGo]
  | cons x l ih =>
    intro k
    rw [idxGo]
    by_cases h : v = x
    · subst h; simp
    · have : (v == x) = false := by simpa using h
      rw [this, cond_false, ih]; simp [h]
theorem e_Index (l : List Int) (v : Int) : m_slices_Index_int_int l v = some (idxGo l v 0) := by
  unfold m_slices_Index_int_int
  refine forI_inv (fun i _ => some (idxGo (l.drop i) v i)) (fun _ _ => True) (fun s _ => ?_) (fun f i s hi _ hf => ?_) trivial
  · rw [List.drop_of_length_le (Nat.le_refl _)]; rfl
  · unfold m_slices_Index_int_int_b1
    rw [hf () trivial, drop_gt hi, idxGo]
    cases v == gt l i <;> rfl
theorem e_Contains (l : List Int) (v : Int) : m_slices_Contains_int_int l v = some (inM l v) := by
  unfold m_slices_Contains_int_int
  rw [e_Index, Option.bind_some]
  congr 1
  rw [Bool.eq_iff_iff, decide_eq_true_eq, idxGo_mem, inM_iff]
end Fw
end Go.Proofs.Ytdhenoidmialaaa
