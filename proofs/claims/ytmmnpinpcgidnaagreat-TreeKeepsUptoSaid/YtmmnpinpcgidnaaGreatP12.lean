/- Trees: what is built, what differs, what is the same. No condition. -/
import Derived.Test.YtmmnpinpcgidnaaGreatP11
namespace Go.Proofs.YtmmnpinpcgidnaaGreat
namespace Fw
set_option linter.unusedVariables false
set_option linter.unusedSimpArgs false
set_option linter.unusedSectionVars false

theorem forI_ex {α S R : Type} [Inhabited α] {body : (S → Option R) → Nat → α → S → Option R} {k : S → Option R} {l : List α} (I : Nat → S → Prop) (Q : R → Prop) (hend : ∀ s, I l.length s → ∃ r, k s = some r ∧ Q r)
    (hstep : ∀ f i s, i < l.length → I i s → (∀ s', I (i + 1) s' → ∃ r, f s' = some r ∧ Q r) → ∃ r, body f i (gt l i) s = some r ∧ Q r) {s : S} (h0 : I 0 s) : ∃ r, forI body k 0 l s = some r ∧ Q r := by
  have key : ∀ m i s, l.length - i = m → i ≤ l.length → I i s → ∃ r, forI body k i (l.drop i) s = some r ∧ Q r := by
    intro m
    induction m with
    | zero =>
      intro i s hm hi hI
      have : i = l.length := by omega
      subst this
      rw [List.drop_of_length_le (Nat.le_refl _)]
      exact hend s hI
    | succ m ih =>
      intro i s hm hi hI
      rw [drop_gt (by omega)]
      exact hstep _ i s (by omega) hI fun s' h' => ih (i + 1) s' (by omega) (by omega) h'
  exact key _ 0 s rfl (Nat.zero_le _) h0
theorem forI_run {α S R : Type} [Inhabited α] {body : (S → Option R) → Nat → α → S → Option R} {k : S → Option R} {l : List α} {r : Option R} (I : Nat → S → Prop)
    (hend : ∀ s, I l.length s → k s = r) (hstep : ∀ f i s, i < l.length → I i s → (∀ s', I (i + 1) s' → f s' = r) → body f i (gt l i) s = r) {s : S} (h0 : I 0 s) : forI body k 0 l s = r :=
  forI_inv (fun _ _ => r) I hend hstep h0
theorem forU_run {S R : Type} {body : (S → Option R) → Nat → S → Option R} {k : S → Option R} {n : Nat} {r : Option R} (I : Nat → S → Prop)
    (hend : ∀ s, I n s → k s = r) (hstep : ∀ f i s, i < n → I i s → (∀ s', I (i + 1) s' → f s' = r) → body f i s = r) {s : S} (h0 : I 0 s) : forU body k n 0 s = r :=
  forU_inv (fun _ _ => r) I hend hstep h0

/-! ### the same -/
theorem int_nf (n : Nat) : (((n : Nat) : Int) != ((n : Nat) : Int)) = false := nat_f rfl
theorem e_Hashes (a : List Int) : m_firthref06_Hashes a a = some true := by
  unfold m_firthref06_Hashes
  rw [int_nf, cond_false]
  refine forI_run (fun _ _ => True) (fun _ _ => rfl) (fun f i s hi _ hf => ?_) trivial
  unfold m_firthref06_Hashes_b1
  rw [chk_t (decide_eq_true hi), show (gt a i != gt a i) = false by simp, cond_false]
  exact hf () trivial
theorem e_SameRecs (a : List Rec) : m_firthref06_SameRecs a a = some true := by
  unfold m_firthref06_SameRecs
  rw [int_nf, cond_false]
  refine forI_run (fun _ _ => True) (fun _ _ => rfl) (fun f i s hi _ hf => ?_) trivial
  unfold m_firthref06_SameRecs_b1
  have h1 : ((gt a i).key != (gt a i).key) = false := by simp
  rw [chk_t (decide_eq_true hi), e_r5Same, gcall_s, Option.bind_some, h1, r5Same_iff.2 rfl]
  exact hf () trivial

/-! ### what differs -/
theorem pad_gt (a : List Int) {i : Nat} (hi : i < 16) : gt (List.take (List.replicate 16 (0 : Nat)).length a ++ List.drop a.length (List.replicate 16 (0 : Int))) i = gt a i := by
  rw [List.length_replicate]
  unfold gt
  rw [List.getD_eq_getElem?_getD, List.getD_eq_getElem?_getD, List.getElem?_append, List.length_take]
  by_cases h : i < a.length
  · rw [if_pos (by omega), List.getElem?_take, if_pos hi]
  · rw [if_neg (by omega), List.getElem?_drop, List.getElem?_replicate, List.getElem?_eq_none (Nat.le_of_not_lt h)]
    split <;> rfl
def difN (a b : List Int) : List Nat := (List.range 16).filter (fun i => gt a i != gt b i)
def dif (a b : List Int) : List Int := (difN a b).map (fun i : Nat => ((i : Nat) : Int))
theorem dif_step (a b : List Int) (i : Nat) : ((List.range (i + 1)).filter (fun i => gt a i != gt b i)).map (fun i : Nat => ((i : Nat) : Int)) = bif gt a i != gt b i then ((List.range i).filter (fun i => gt a i != gt b i)).map (fun i : Nat => ((i : Nat) : Int)) ++ [((i : Nat) : Int)] else ((List.range i).filter (fun i => gt a i != gt b i)).map (fun i : Nat => ((i : Nat) : Int)) := by
  rw [List.range_succ, List.filter_append, List.map_append, List.filter_cons]
  cases gt a i != gt b i <;> simp
theorem dif_len (a b : List Int) (i : Nat) : (((List.range i).filter (fun i => gt a i != gt b i)).map (fun i : Nat => ((i : Nat) : Int))).length ≤ i := by
  rw [List.length_map]
  have := List.length_filter_le (fun i => gt a i != gt b i) (List.range i)
  rw [List.length_range] at this
  exact this
theorem e_Differ (a b : List Int) : m_tree_Differ a b = some (dif a b) := by
  unfold m_tree_Differ
  refine forU_run (fun i s => s = ((List.range i).filter (fun i => gt a i != gt b i)).map (fun i : Nat => ((i : Nat) : Int))) (fun s hs => by subst hs; rfl) (fun f i s hi hs hf => ?_) rfl
  unfold m_tree_Differ_b4 m_tree_Differ_j5
  have hl := dif_len a b i
  rw [pad_gt a hi, pad_gt b hi, chk_t (decide_eq_true (by rw [hs, lim_v]; omega))]
  have := dif_step a b i
  cases hc : gt a i != gt b i with
  | true =>
    rw [hc, cond_true] at this
    rw [cond_true]
    exact hf _ (by rw [this, hs])
  | false =>
    rw [hc, cond_false] at this
    rw [cond_false]
    exact hf _ (by rw [this, hs])
theorem difN_one {a b : List Int} {p : Nat} (hp : p < 16) (h : ∀ i, i < 16 → i ≠ p → gt a i = gt b i) : difN a b = [] ∨ difN a b = [p] := by
  unfold difN
  have key : ∀ n, (List.range n).filter (fun i => gt a i != gt b i) = [] ∨ (p < n ∧ (List.range n).filter (fun i => gt a i != gt b i) = [p]) ∨ 16 < n := by
    intro n
    induction n with
    | zero => exact .inl rfl
    | succ n ih =>
      by_cases hn : 16 < n + 1
      · exact .inr (.inr hn)
      · rw [List.range_succ, List.filter_append, List.filter_cons]
        have hr : ∀ c : Bool, (if c = true then n :: List.filter (fun i => gt a i != gt b i) [] else List.filter (fun i => gt a i != gt b i) []) = (if c = true then [n] else []) := fun c => rfl
        rw [hr]
        by_cases e : n = p
        · subst e
          have h0 : (List.range n).filter (fun i => gt a i != gt b i) = [] := by
            rcases ih with h | ⟨h, _⟩ | h
            · exact h
            · omega
            · omega
          rw [h0]
          cases gt a n != gt b n with
          | true => exact .inr (.inl ⟨by omega, rfl⟩)
          | false => exact .inl rfl
        · have : (gt a n != gt b n) = false := by rw [h n (by omega) e]; simp
          rw [this]
          simp only [Bool.false_eq_true, if_false, List.append_nil]
          rcases ih with h | ⟨h, h2⟩ | h
          · exact .inl h
          · exact .inr (.inl ⟨by omega, h2⟩)
          · exact .inr (.inr (by omega))
  rcases key 16 with h | ⟨_, h⟩ | h
  · exact .inl h
  · exact .inr h
  · omega

/-! ### what is built -/
def addL (l : List Rec) : List Rec := l.foldl withr []
theorem addL_snoc (l : List Rec) (r : Rec) : addL (l ++ [r]) = withr (addL l) r := by unfold addL; rw [List.foldl_append]; rfl
theorem good_len {o : OTree} {all : List Rec} (h : Good o all) : o.leaves.length = 256 := h.len
theorem e_New_t {list : List Rec} (hok : ∀ r ∈ list, RecOk r) (hr : ∀ r ∈ list, rr r = true) : ∃ o, m_tree_New list = some (some o, 0) ∧ Good o (addL list) := by
  unfold m_tree_New
  obtain ⟨r, h1, o, h2, h3⟩ := forI_ex (body := m_tree_New_b1) (k := fun o8 => some ((some o8), 0)) (l := list) (s := t0) (fun i o => Good o (addL (list.take i))) (fun r => ∃ o, r = (some o, (0 : Int)) ∧ Good o (addL list)) (fun o h => ⟨_, rfl, o, rfl, by rw [List.take_length] at h; exact h⟩) (fun f i o hi hG hf => by
    unfold m_tree_New_b1
    have hm := gt_mem hi
    rw [e_Set hG.len (hok _ hm), Option.bind_some, hr _ hm, cond_true]
    refine hf _ ?_
    rw [take_gt hi, addL_snoc]
    exact hG.set (hok _ hm) (hr _ hm)) good0
  subst h2
  exact ⟨o, h1, h3⟩
theorem e_New_f {list : List Rec} (hok : ∀ r ∈ list, RecOk r) (hr : ∃ r ∈ list, rr r = false) : m_tree_New list = some (none, 1) := by
  unfold m_tree_New
  refine forI_run (body := m_tree_New_b1) (l := list) (fun i (o : OTree) => o.leaves.length = 256 ∧ ∀ j, j < i → rr (gt list j) = true) (fun o h => ?_) (fun f i o hi hI hf => ?_) (s := t0) ⟨List.length_replicate, fun j hj => absurd hj (Nat.not_lt_zero _)⟩
  · obtain ⟨r, h1, h2⟩ := hr
    obtain ⟨j, hj, rfl⟩ := mem_gt h1
    rw [h.2 j hj] at h2; cases h2
  · unfold m_tree_New_b1
    rw [e_Set hI.1 (hok _ (gt_mem hi)), Option.bind_some]
    cases hc : rr (gt list i) with
    | false => rfl
    | true =>
      rw [cond_true]
      refine hf _ ⟨?_, fun j hj => ?_⟩
      · show (List.set o.leaves _ _).length = 256
        rw [List.length_set]; exact hI.1
      · by_cases e : j = i
        · subst e; exact hc
        · exact hI.2 j (by omega)
theorem e_New0 : m_tree_New [] = some (some t0, 0) := rfl
theorem addL_len (l : List Rec) : (addL l).length ≤ l.length := by
  have : ∀ (l acc : List Rec), (l.foldl withr acc).length ≤ acc.length + l.length := by
    intro l
    induction l with
    | nil => intro acc; exact Nat.le_refl _
    | cons r l ih =>
      intro acc
      rw [List.foldl_cons, List.length_cons]
      have := ih (withr acc r)
      have := withr_len acc r
      omega
  have h := this l []
  simpa [addL] using h
def allOf (list : List Rec) : List Rec := addL (list.filter rr)
theorem allOf_len (list : List Rec) : (allOf list).length ≤ list.length := Nat.le_trans (addL_len _) (List.length_filter_le _ _)
theorem e_built {list : List Rec} (hok : ∀ r ∈ list, RecOk r) (hl : list.length + 4 ≤ lim) : ∃ o, m_firthlaw11_built list = some (some o, allOf list, true) ∧ Good o (allOf list) := by
  unfold m_firthlaw11_built
  rw [e_New0, Option.bind_some]
  simp only [Option.isNone_some, Bool.false_or]
  rw [show ((0 : Int) != 0) = false from rfl, cond_false, Option.bind_some]
  obtain ⟨r, h1, o, h2, h3⟩ := forI_ex (body := m_firthlaw11_built_b4) (k := fun (s : List Rec × OTree) => some ((some s.2), s.1, true)) (l := list) (s := (([] : List Rec), t0)) (fun i s => s.1 = addL ((list.take i).filter rr) ∧ Good s.2 s.1) (fun r => ∃ o, r = (some o, allOf list, true) ∧ Good o (allOf list)) (fun s h => by
    obtain ⟨h1, h2⟩ := h
    rw [List.take_length] at h1
    refine ⟨_, rfl, s.2, ?_, ?_⟩
    · rw [h1]; rfl
    · rw [h1] at h2; exact h2) (fun f i s hi hI hf => by
    obtain ⟨all, o⟩ := s
    obtain ⟨h1, hG⟩ := hI
    simp only at h1 hG
    unfold m_firthlaw11_built_b4 m_firthlaw11_built_j5
    simp only
    have hm := gt_mem hi
    have hk := hok _ hm
    have hlen : all.length ≤ i := by
      rw [h1]
      refine Nat.le_trans (addL_len _) (Nat.le_trans (List.length_filter_le _ _) ?_)
      rw [List.length_take]; omega
    rw [e_Set hG.len hk, Option.bind_some, e_rRec hk, Option.bind_some]
    cases hc : rr (gt list i) with
    | false =>
      rw [Bool.not_false, cond_true, cond_false, show ((1 : Int) != 1) = false from rfl, cond_false]
      refine hf _ ⟨?_, hG⟩
      rw [take_gt hi, List.filter_append, List.filter_cons, hc, h1]
      simp
    | true =>
      rw [Bool.not_true, cond_false, cond_true, show ((0 : Int) != 0) = false from rfl, cond_false, e_With (by omega), Option.bind_some]
      refine hf _ ⟨?_, hG.set hk hc⟩
      rw [take_gt hi, List.filter_append, List.filter_cons, hc, h1]
      simp only [if_true, List.filter_nil]
      rw [addL_snoc]) ⟨rfl, good0⟩
  subst h2
  exact ⟨o, h1, h3⟩
end Fw
end Go.Proofs.YtmmnpinpcgidnaaGreat
