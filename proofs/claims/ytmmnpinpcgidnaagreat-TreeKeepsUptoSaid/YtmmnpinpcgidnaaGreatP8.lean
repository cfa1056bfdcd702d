/- Records: which are right, copies, lists of records in order, what is laid into one; paths. No condition. -/
import Derived.Test.YtmmnpinpcgidnaaGreatP7
namespace Go.Proofs.YtmmnpinpcgidnaaGreat
namespace Fw
set_option linter.unusedVariables false
set_option linter.unusedSimpArgs false
set_option linter.unusedSectionVars false

/-! ### keys in order -/
def ky (r : Rec) : List UInt8 := r.key.data.toList
theorem ba_inj {a b : ByteArray} (h : a.data.toList = b.data.toList) : a = b := by
  rcases a with ⟨⟨a⟩⟩
  rcases b with ⟨⟨b⟩⟩
  simp only at h
  rw [h]
instance : LawfulBEq ByteArray where
  eq_of_beq {a b} h := by rw [bytes_beq] at h; exact of_decide_eq_true h
  rfl {a} := by rw [bytes_beq]; exact decide_eq_true rfl
theorem ky_key {a b : Rec} : ky a = ky b ↔ a.key = b.key := ⟨fun h => ba_inj h, fun h => by unfold ky; rw [h]⟩
def SR (l : List Rec) : Prop := l.Pairwise (fun a b => ky a < ky b)
theorem lt_irr (x : List UInt8) : ¬ x < x := List.lt_irrefl x
theorem lt_tr {x y z : List UInt8} (h : x < y) (h2 : y < z) : x < z := List.lt_trans h h2
theorem lt_as {x y : List UInt8} (h : x < y) : ¬ y < x := fun h2 => lt_irr x (lt_tr h h2)
theorem lt_tri {x y : List UInt8} (h : ¬ y < x) (hne : x ≠ y) : x < y := by
  rcases Classical.em (x < y) with h2 | h2
  · exact h2
  · exact absurd (List.le_antisymm (show x ≤ y from h) (show y ≤ x from h2)) hne
theorem sr_ext : ∀ {l l' : List Rec}, SR l → SR l' → (∀ f, f ∈ l ↔ f ∈ l') → l = l'
  | [], [], _, _, _ => rfl
  | [], b :: l', _, _, h => by have := (h b).2 List.mem_cons_self; cases this
  | a :: l, [], _, _, h => by have := (h a).1 List.mem_cons_self; cases this
  | a :: l, b :: l', h1, h2, h => by
    unfold SR at h1 h2
    rw [List.pairwise_cons] at h1 h2
    have e : a = b := by
      rcases List.mem_cons.1 ((h a).1 List.mem_cons_self) with e | ha
      · exact e
      · rcases List.mem_cons.1 ((h b).2 List.mem_cons_self) with e | hb
        · exact e.symm
        · exact absurd (h2.1 a ha) (lt_as (h1.1 b hb))
    subst e
    rw [sr_ext h1.2 h2.2 fun f => ?_]
    refine ⟨fun hf => ?_, fun hf => ?_⟩
    · rcases List.mem_cons.1 ((h f).1 (List.mem_cons_of_mem _ hf)) with e | hf2
      · subst e; exact absurd (h1.1 f hf) (lt_irr _)
      · exact hf2
    · rcases List.mem_cons.1 ((h f).2 (List.mem_cons_of_mem _ hf)) with e | hf2
      · subst e; exact absurd (h2.1 f hf) (lt_irr _)
      · exact hf2
theorem sr_key {l : List Rec} (h : SR l) {a b : Rec} (ha : a ∈ l) (hb : b ∈ l) (he : a.key = b.key) : a = b := by
  induction l with
  | nil => cases ha
  | cons x l ih =>
    unfold SR at h
    rw [List.pairwise_cons] at h
    rcases List.mem_cons.1 ha with e1 | ha1
    · rcases List.mem_cons.1 hb with e2 | hb1
      · rw [e1, e2]
      · subst e1; have h9 := h.1 b hb1; rw [ky_key.2 he] at h9; exact absurd h9 (lt_irr _)
    · rcases List.mem_cons.1 hb with e2 | hb1
      · subst e2; have h9 := h.1 a ha1; rw [ky_key.2 he] at h9; exact absurd h9 (lt_irr _)
      · exact ih h.2 ha1 hb1

/-! ### records -/
structure RecOk (r : Rec) : Prop where
  key : r.key.size ≤ lim
  vers : VersOk r.vers
def rr (r : Rec) : Bool := (r.key != ByteArray.empty && decide (((r.key.size : Nat) : Int) ≤ 32)) && r5Right r.vers
theorem bif_and (a b : Bool) : (a && (bif a then b else default)) = (a && b) := by cases a <;> rfl
theorem e_rRec {r : Rec} (h : RecOk r) : m_firthref06_RightRec r = some (rr r) := by
  unfold m_firthref06_RightRec rr
  rw [e_r5Right h.vers, gcall_s, Option.bind_some, bif_and]
theorem empty_size (b : ByteArray) : decide (1 ≤ ((b.size : Nat) : Int)) = (b != ByteArray.empty) := by
  rw [Bool.eq_iff_iff, decide_eq_true_eq, bne_iff_ne]
  constructor
  · rintro h rfl
    have : ByteArray.empty.size = 0 := rfl
    omega
  · intro h
    have : b.size ≠ 0 := fun h0 => h (ba_inj (by
      have h1 : b.data.toList.length = 0 := h0
      rw [List.eq_nil_of_length_eq_zero h1]; rfl))
    omega
theorem e_cRec {r : Rec} (h : RecOk r) : m_code_RightRec r = some (rr r) := by
  unfold m_code_RightRec rr
  rw [e_Right5 h.vers.1, right_eq, gcall_s, Option.bind_some, bif_and, empty_size]
theorem rr_len {r : Rec} (h : rr r = true) : r.key.size ≤ 32 ∧ r.vers.length ≤ 512 := by
  unfold rr at h
  simp only [Bool.and_eq_true, decide_eq_true_eq] at h
  exact ⟨by omega, r5Right_len h.2⟩
theorem nilc_l {α : Type} [DecidableEq α] (l : List α) : nilc l.isEmpty (some ([] : List α)) (some ([] ++ l)) = some l := by
  cases l with
  | nil =>
    show (if (some ([] : List α)) = some ([] ++ []) then some ([] : List α) else none) = some []
    rw [if_pos (show some ([] : List α) = some ([] ++ []) from rfl)]
  | cons x l => rfl
theorem e_cloneV {l : List Ver} (h : l.length ≤ lim) : m_slices_Clone_api_Ver_api_Ver l = some l := by
  unfold m_slices_Clone_api_Ver_api_Ver
  rw [show decide (0 + l.length ≤ lim) = true from decide_eq_true (by omega)]
  exact nilc_l l
theorem e_cloneS {l : List Span} (h : l.length ≤ lim) : m_slices_Clone_api_Span_api_Span l = some l := by
  unfold m_slices_Clone_api_Span_api_Span
  rw [show decide (0 + l.length ≤ lim) = true from decide_eq_true (by omega)]
  exact nilc_l l
theorem e_cloneI {l : List Int} (h : l.length ≤ lim) : m_slices_Clone_int_int l = some l := by
  unfold m_slices_Clone_int_int
  rw [show decide (0 + l.length ≤ lim) = true from decide_eq_true (by omega)]
  exact nilc_l l
theorem set_gt {α : Type} [Inhabited α] {l : List α} {i : Nat} (h : i < l.length) : l.set i (gt l i) = l := by
  rw [gt_eq h]; simp
theorem e_own {r : Rec} (h : RecOk r) : m_tree_own r = some r := by
  unfold m_tree_own
  rw [e_cloneV h.vers.1, Option.bind_some]
  refine forU_inv (fun _ _ => some r) (fun _ s => s = r.vers) (fun s hs => ?_) (fun f i s hi hs hf => ?_) rfl
  · subst hs; rfl
  · subst hs
    unfold m_tree_own_b1
    rw [e_cloneS (h.vers.2 _ (gt_mem hi)).len, Option.bind_some]
    exact hf _ (set_gt hi)

/-! ### what is laid into a list of records -/
def insR (r : Rec) : List Rec → List Rec
  | [] => [r]
  | x :: l => bif strLt r.key x.key then r :: x :: l else x :: insR r l
def oth (r : Rec) (l : List Rec) : List Rec := l.filter (fun x => !(x.key == r.key))
def withr (l : List Rec) (r : Rec) : List Rec := bif decide (r.vers.length = 0) then oth r l else insR r (oth r l)
theorem mem_insR {r x : Rec} : ∀ {l : List Rec}, x ∈ insR r l ↔ x = r ∨ x ∈ l
  | [] => by simp [insR]
  | y :: l => by
    unfold insR
    cases strLt r.key y.key
    · simp only [cond_false, List.mem_cons, mem_insR]
      constructor
      · rintro (h | h | h) <;> simp [h]
      · rintro (h | h | h) <;> simp [h]
    · simp
theorem mem_oth {r x : Rec} {l : List Rec} : x ∈ oth r l ↔ x ∈ l ∧ x.key ≠ r.key := by simp [oth]
theorem mem_withr {r x : Rec} {l : List Rec} : x ∈ withr l r ↔ (x = r ∧ r.vers ≠ []) ∨ (x ∈ l ∧ x.key ≠ r.key) := by
  unfold withr
  by_cases h : r.vers.length = 0
  · rw [decide_eq_true h, cond_true, mem_oth]
    simp [List.eq_nil_of_length_eq_zero h]
  · rw [decide_eq_false h, cond_false, mem_insR, mem_oth]
    have : r.vers ≠ [] := fun e => h (by rw [e]; rfl)
    simp [this]
theorem strLt_iff {a b : ByteArray} : strLt a b = true ↔ a.data.toList < b.data.toList := by unfold strLt; exact decide_eq_true_iff
theorem sr_insR {r : Rec} : ∀ {l : List Rec}, SR l → (∀ x ∈ l, x.key ≠ r.key) → SR (insR r l)
  | [], _, _ => by simp [insR, SR]
  | y :: l, h, hn => by
    unfold SR at h
    rw [List.pairwise_cons] at h
    unfold insR
    cases hc : strLt r.key y.key with
    | true =>
      have h1 : ky r < ky y := strLt_iff.1 hc
      simp only [cond_true]
      unfold SR
      rw [List.pairwise_cons, List.pairwise_cons]
      refine ⟨fun x hx => ?_, h⟩
      rcases List.mem_cons.1 hx with e | hx
      · rw [e]; exact h1
      · exact lt_tr h1 (h.1 x hx)
    | false =>
      simp only [cond_false]
      unfold SR
      rw [List.pairwise_cons]
      refine ⟨fun x hx => ?_, sr_insR h.2 fun x hx => hn x (List.mem_cons_of_mem _ hx)⟩
      rcases mem_insR.1 hx with e | hx
      · rw [e]
        refine lt_tri (fun h2 => ?_) (fun e2 => hn y List.mem_cons_self (ky_key.1 e2))
        have := strLt_iff.2 h2
        rw [hc] at this; cases this
      · exact h.1 x hx
theorem sr_filter {l : List Rec} (p : Rec → Bool) (h : SR l) : SR (l.filter p) := List.Pairwise.filter p h
theorem sr_withr {l : List Rec} {r : Rec} (h : SR l) : SR (withr l r) := by
  unfold withr
  cases decide (r.vers.length = 0)
  · exact sr_insR (sr_filter _ h) fun x hx => (mem_oth.1 hx).2
  · exact sr_filter _ h
theorem insR_len (r : Rec) : ∀ l : List Rec, (insR r l).length = l.length + 1
  | [] => rfl
  | x :: l => by unfold insR; cases strLt r.key x.key <;> simp [insR_len r l]
theorem withr_len (l : List Rec) (r : Rec) : (withr l r).length ≤ l.length + 1 := by
  have h1 : (oth r l).length ≤ l.length := List.length_filter_le _ _
  unfold withr
  cases decide (r.vers.length = 0)
  · rw [cond_false, insR_len]; omega
  · rw [cond_true]; omega
theorem oth_cons {r x : Rec} {l : List Rec} : oth r (x :: l) = bif x.key == r.key then oth r l else x :: oth r l := by
  unfold oth
  rw [List.filter_cons]
  cases x.key == r.key <;> rfl
theorem e_With {l : List Rec} {r : Rec} (hl : l.length + 2 ≤ lim) : m_firthref10_With l r = some (withr l r) := by
  unfold m_firthref10_With
  have h0 : (((r.vers.length : Nat) : Int) == 0) = decide (r.vers.length = 0) := by rw [Bool.eq_iff_iff, beq_iff_eq, decide_eq_true_eq]; omega
  rw [h0]
  refine (forI_inv (fun i (s : (List Rec) × Bool) => some (s.1 ++ (bif s.2 then oth r (l.drop i) else insR r (oth r (l.drop i))))) (fun i s => s.1.length + (bif s.2 then 0 else 1) ≤ i + 1) (fun s hI => ?_) (fun f i s hi hI hf => ?_) (by cases decide (r.vers.length = 0) <;> simp)).trans ?_
  · obtain ⟨out, laid⟩ := s
    rw [List.drop_of_length_le (Nat.le_refl _)]
    simp only at hI ⊢
    cases laid
    · simp only [cond_false] at hI
      rw [show decide (out.length + 1 ≤ lim) = true from decide_eq_true (by omega)]
      rfl
    · simp [oth]
  · obtain ⟨out, laid⟩ := s
    simp only at hI hf ⊢
    unfold m_firthref10_With_b10 m_firthref10_With_j13 m_firthref10_With_j11
    simp only
    rw [drop_gt hi, oth_cons]
    generalize gt l i = x
    cases hk : x.key == r.key with
    | true => simp only [cond_true]; exact hf (out, laid) (by cases laid <;> simp_all <;> omega)
    | false =>
      simp only [cond_false]
      cases laid with
      | true =>
        simp only [cond_true] at hI
        simp only [Bool.not_true, Bool.false_and, cond_false, cond_true]
        rw [show decide (out.length + 1 ≤ lim) = true from decide_eq_true (by omega)]
        simp only [chk, cond_true]
        rw [hf (out ++ [x], true) (by simp; omega)]
        simp
      | false =>
        simp only [cond_false] at hI
        simp only [Bool.not_false, Bool.true_and, cond_false]
        unfold insR
        cases hs : strLt r.key x.key with
        | true =>
          simp only [cond_true]
          rw [show decide (out.length + 1 ≤ lim) = true from decide_eq_true (by omega)]
          simp only [chk, cond_true]
          rw [show decide ((out ++ [r]).length + 1 ≤ lim) = true from decide_eq_true (by simp; omega)]
          simp only [cond_true]
          rw [hf (out ++ [r] ++ [x], true) (by simp; omega)]
          simp
        | false =>
          simp only [cond_false]
          rw [show decide (out.length + 1 ≤ lim) = true from decide_eq_true (by omega)]
          simp only [chk, cond_true]
          rw [hf (out ++ [x], false) (by simp; omega)]
          simp
  · simp [withr]

/-! ### paths -/
def okP (path : List Int) : Bool := decide (path.length ≤ 2) && path.all (fun d => decide (0 ≤ d) && decide (d ≤ 15))
theorem at_ok {a : Int} (h : (0 ≤ a ∧ a ≤ 15)) (i : Nat) (hi : i ≤ 1) : ((decide (1 < ((i : Nat) : Int)) || decide (a < 0)) || decide (15 < a)) = false := by simp; omega
theorem at_no {a : Int} (h : ¬ (0 ≤ a ∧ a ≤ 15)) (i : Nat) : ((decide (1 < ((i : Nat) : Int)) || decide (a < 0)) || decide (15 < a)) = true := by simp; omega
theorem at_far {a : Int} (i : Nat) (hi : 2 ≤ i) : ((decide (1 < ((i : Nat) : Int)) || decide (a < 0)) || decide (15 < a)) = true := by simp; omega
theorem okd_t {a : Int} (h : (0 ≤ a ∧ a ≤ 15)) : (decide (0 ≤ a) && decide (a ≤ 15)) = true := by simp [h.1, h.2]
theorem okd_f {a : Int} (h : ¬ (0 ≤ a ∧ a ≤ 15)) : (decide (0 ≤ a) && decide (a ≤ 15)) = false := by simp; omega
theorem e_at (path : List Int) : ∃ z, m_tree_at path = some z ∧ z.2 = okP path ∧ (okP path = true → z.1 = ((path.length : Int), gt path 0, gt path 1)) := by
  unfold m_tree_at
  match path with
  | [] => exact ⟨_, rfl, rfl, fun _ => rfl⟩
  | [a] =>
    by_cases ha : 0 ≤ a ∧ a ≤ 15
    · refine ⟨((1, a, 0), true), ?_, by simp [okP, ha.1, ha.2], fun _ => rfl⟩
      show m_tree_at_b1 _ 0 a _ = _
      unfold m_tree_at_b1
      rw [at_ok ha 0 (by omega)]; rfl
    · refine ⟨((1, 0, 0), false), ?_, by simp [okP]; omega, fun h => by simp [okP] at h; omega⟩
      show m_tree_at_b1 _ 0 a _ = _
      unfold m_tree_at_b1
      rw [at_no ha 0]; rfl
  | [a, b] =>
    by_cases ha : 0 ≤ a ∧ a ≤ 15
    · by_cases hb : 0 ≤ b ∧ b ≤ 15
      · refine ⟨((2, a, b), true), ?_, by simp [okP, ha.1, ha.2, hb.1, hb.2], fun _ => rfl⟩
        show m_tree_at_b1 _ 0 a _ = _
        unfold m_tree_at_b1
        rw [at_ok ha 0 (by omega)]
        show m_tree_at_b1 _ 1 b _ = _
        unfold m_tree_at_b1
        rw [at_ok hb 1 (by omega)]; rfl
      · refine ⟨((2, a, 0), false), ?_, by simp [okP]; omega, fun h => by simp [okP] at h; omega⟩
        show m_tree_at_b1 _ 0 a _ = _
        unfold m_tree_at_b1
        rw [at_ok ha 0 (by omega)]
        show m_tree_at_b1 _ 1 b _ = _
        unfold m_tree_at_b1
        rw [at_no hb 1]; rfl
    · refine ⟨((2, 0, 0), false), ?_, by simp [okP]; omega, fun h => by simp [okP] at h; omega⟩
      show m_tree_at_b1 _ 0 a _ = _
      unfold m_tree_at_b1
      rw [at_no ha 0]; rfl
  | a :: b :: c :: l =>
    have ho : okP (a :: b :: c :: l) = false := by simp [okP]
    rw [ho]
    by_cases ha : 0 ≤ a ∧ a ≤ 15
    · by_cases hb : 0 ≤ b ∧ b ≤ 15
      · refine ⟨((((a :: b :: c :: l).length : Nat), a, b), false), ?_, rfl, fun h => by cases h⟩
        show m_tree_at_b1 _ 0 a _ = _
        unfold m_tree_at_b1
        rw [at_ok ha 0 (by omega)]
        show m_tree_at_b1 _ 1 b _ = _
        unfold m_tree_at_b1
        rw [at_ok hb 1 (by omega)]
        show m_tree_at_b1 (forI m_tree_at_b1 (fun x4 => some ((gt x4 0, gt x4 1, gt x4 2), true)) 3 l) 2 c _ = _
        unfold m_tree_at_b1
        rw [at_far 2 (by omega)]; rfl
      · refine ⟨((((a :: b :: c :: l).length : Nat), a, 0), false), ?_, rfl, fun h => by cases h⟩
        show m_tree_at_b1 _ 0 a _ = _
        unfold m_tree_at_b1
        rw [at_ok ha 0 (by omega)]
        show m_tree_at_b1 _ 1 b _ = _
        unfold m_tree_at_b1
        rw [at_no hb 1]; rfl
    · refine ⟨((((a :: b :: c :: l).length : Nat), 0, 0), false), ?_, rfl, fun h => by cases h⟩
      show m_tree_at_b1 _ 0 a _ = _
      unfold m_tree_at_b1
      rw [at_no ha 0]; rfl
end Fw
end Go.Proofs.YtmmnpinpcgidnaaGreat
