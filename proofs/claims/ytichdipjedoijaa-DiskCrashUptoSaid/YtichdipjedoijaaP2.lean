/- The document's lists of files: what its functions come to, and what they are of a map. No condition. -/
import Derived.Test.YtichdipjedoijaaP1
namespace Go.Proofs.Ytichdipjedoijaa
namespace Fw
set_option linter.unusedVariables false
set_option linter.unusedSimpArgs false
set_option linter.unusedSectionVars false

abbrev Mp := List (ByteArray × List UInt8)
abbrev Ch := Dfirthref07_Change

/-! ### plain functions -/
def lk (n : ByteArray) : List Fl → Option (List UInt8)
  | [] => none
  | f :: l => if f.name = n then some f.data else lk n l
def wo (n : ByteArray) (l : List Fl) : List Fl := l.filter fun f => f.name != n
def insL (n : ByteArray) (b : List UInt8) : List Fl → List Fl
  | [] => [⟨n, b⟩]
  | f :: l => bif strLt n f.name then ⟨n, b⟩ :: f :: l else f :: insL n b l
def fix (n : ByteArray) : List Fl → Nat → Int
  | [], _ => -1
  | f :: l, i => bif f.name == n then (i : Int) else fix n l (i + 1)

/-! ### what the models come to -/
theorem e_find (l : List Fl) (n : ByteArray) : m_firthref07_find l n = some (fix n l 0) := by
  unfold m_firthref07_find
  refine forI_inv (fun i _ => some (fix n (l.drop i) i)) (fun _ _ => True) (fun s _ => ?_) (fun f i s hi _ hf => ?_) trivial
  · rw [List.drop_of_length_le (Nat.le_refl _)]; rfl
  · unfold m_firthref07_find_b1
    rw [hf () trivial, drop_gt hi, fix]
    cases (gt l i).name == n <;> rfl
theorem fix_none {n : ByteArray} : ∀ {l : List Fl} {i : Nat}, lk n l = none → fix n l i = -1
  | [], _, _ => rfl
  | f :: l, i, h => by
    unfold lk at h
    split at h
    · cases h
    · rename_i hne
      unfold fix
      rw [beq_eq_false_iff_ne.2 hne]; exact fix_none h
theorem fix_some {n : ByteArray} {v : List UInt8} : ∀ {l : List Fl} {i : Nat}, lk n l = some v → ∃ j, fix n l i = ((i + j : Nat) : Int) ∧ j < l.length ∧ (gt l j).data = v
  | [], _, h => by cases h
  | f :: l, i, h => by
    unfold lk at h
    unfold fix
    split at h
    · rename_i he
      refine ⟨0, ?_, by simp, by injection h⟩
      rw [beq_iff_eq.2 he]; rfl
    · rename_i hne
      obtain ⟨j, h1, h2, h3⟩ := fix_some (i := i + 1) h
      refine ⟨j + 1, ?_, by simp; omega, h3⟩
      rw [beq_eq_false_iff_ne.2 hne]
      rw [show i + (j + 1) = i + 1 + j by omega]; exact h1
theorem fix_nn {n : ByteArray} {l : List Fl} : decide (fix n l 0 < 0) = !(lk n l).isSome := by
  cases h : lk n l with
  | none => rw [fix_none h]; rfl
  | some v =>
    obtain ⟨j, h1, _⟩ := fix_some (i := 0) h
    rw [h1]; simp
theorem e_data {l : List Fl} {n : ByteArray} (h : ∀ f ∈ l, f.data.length ≤ lim) : m_firthref07_data l n = some ((lk n l).getD []) := by
  unfold m_firthref07_data
  rw [e_find, Option.bind_some]
  cases hl : lk n l with
  | none => rw [fix_none hl]; rfl
  | some v =>
    obtain ⟨j, h1, h2, h3⟩ := fix_some (i := 0) hl
    rw [h1, Nat.zero_add, bif_t (by simp), chk_t (by simp [inb]; omega), chk_t]
    · simp [h3]
    · rw [Int.toNat_natCast, Nat.zero_add, decide_eq_true_eq]
      exact h _ (by rw [gt_eq h2]; exact List.getElem_mem h2)
theorem e_without {l : List Fl} {n : ByteArray} (h : l.length ≤ lim) : m_firthref07_without l n = some (wo n l) := by
  unfold m_firthref07_without
  refine (forI_inv (fun i out => some (out ++ wo n (l.drop i))) (fun i out => out.length ≤ i) (fun s _ => ?_) (fun f i s hi hI hf => ?_) (s := []) (Nat.le_refl 0)).trans (by simp)
  · rw [List.drop_of_length_le (Nat.le_refl _)]; simp [wo]
  · unfold m_firthref07_without_b4 m_firthref07_without_j5
    rw [drop_gt hi]
    unfold wo
    cases hc : (gt l i).name != n with
    | true =>
      rw [bif_t rfl, chk_t (by simp; omega), hf _ (by simp; omega), List.filter_cons_of_pos (by simpa using hc)]
      simp [wo]
    | false =>
      rw [bif_f rfl, hf _ (by omega), List.filter_cons_of_neg (by simp [hc])]
      rfl
theorem len_wo {n : ByteArray} {l : List Fl} : (wo n l).length ≤ l.length := List.length_filter_le ..
theorem len_insL {n : ByteArray} {b : List UInt8} : ∀ {l : List Fl}, (insL n b l).length = l.length + 1
  | [] => rfl
  | f :: l => by
    unfold insL
    cases strLt n f.name <;> simp [len_insL]
theorem e_with {l : List Fl} {n : ByteArray} {b : List UInt8} (h : l.length + 1 ≤ lim) : m_firthref07_with l n b = some (insL n b (wo n l)) := by
  unfold m_firthref07_with
  rw [e_without (by omega), Option.bind_some]
  have hw := len_wo (n := n) (l := l)
  generalize wo n l = z at hw
  refine (forI_inv (fun i s => some (s.1 ++ (bif s.2 then z.drop i else insL n b (z.drop i)))) (fun i s => s.1.length = i + (bif s.2 then 1 else 0)) (fun s hI => ?_) (fun f i s hi hI hf => ?_) (s := ([], false)) rfl).trans (by simp)
  · obtain ⟨out, laid⟩ := s
    rw [List.drop_of_length_le (Nat.le_refl _)]
    cases laid with
    | false =>
      simp only [cond_false, Nat.add_zero] at hI
      show (bif !false then _ else _) = _
      rw [show (!false) = true from rfl, bif_t rfl, chk_t (by simp; omega)]; rfl
    | true => simp
  · obtain ⟨out, laid⟩ := s
    unfold m_firthref07_with_b4 m_firthref07_with_j5
    simp only
    rw [drop_gt hi]
    cases laid with
    | true =>
      simp only [cond_true] at hI
      rw [show (!true && strLt n (gt z i).name) = false from rfl, bif_f rfl, chk_t (by simp; omega), hf _ (by simp; omega)]
      simp
    | false =>
      simp only [cond_false, Nat.add_zero] at hI
      rw [show (!false && strLt n (gt z i).name) = strLt n (gt z i).name from by simp]
      unfold insL
      cases hc : strLt n (gt z i).name with
      | true =>
        rw [bif_t rfl, chk_t (by simp; omega), chk_t (by simp; omega), hf _ (by simp; omega)]
        simp
      | false =>
        rw [bif_f rfl, chk_t (by simp; omega), hf _ (by simp; omega)]
        simp

/-! ### of maps -/
theorem lk_iff {n : ByteArray} {v : List UInt8} : ∀ {l : List Fl}, SF l → (lk n l = some v ↔ (⟨n, v⟩ : Fl) ∈ l)
  | [], _ => by simp [lk]
  | f :: l, h => by
    unfold SF at h
    rw [List.pairwise_cons] at h
    unfold lk
    by_cases he : f.name = n
    · rw [if_pos he]
      constructor
      · intro h2; injection h2 with h2
        have : f = ⟨n, v⟩ := by rw [← he, ← h2]
        rw [this]; exact List.mem_cons_self
      · intro h2
        rcases List.mem_cons.1 h2 with h2 | h2
        · rw [← h2]
        · have := h.1 _ h2
          unfold ky at this
          rw [he] at this
          exact absurd this (lt_irr _)
    · rw [if_neg he, lk_iff (show SF l from h.2)]
      refine ⟨fun h2 => List.mem_cons_of_mem _ h2, fun h2 => ?_⟩
      rcases List.mem_cons.1 h2 with h2 | h2
      · rw [← h2] at he; exact absurd rfl he
      · exact h2
theorem lk_FM {n : ByteArray} {es : Mp} (hn : NK es) : lk n (FM es) = mget n es := by
  apply Option.ext
  intro v
  rw [lk_iff (sf_FM hn), mem_FM]
theorem sf_wo {n : ByteArray} {l : List Fl} (h : SF l) : SF (wo n l) := List.Pairwise.filter _ h
theorem wo_FM {n : ByteArray} {es : Mp} (hn : NK es) : wo n (FM es) = FM (mdel n es) := by
  refine FM_ext hn.del (sf_wo (sf_FM hn)) fun f => ?_
  unfold wo
  rw [List.mem_filter, mem_FM, mget_mdel hn]
  by_cases h : f.name = n
  · simp [h]
  · simp [h]
theorem mem_insL {n : ByteArray} {b : List UInt8} {f : Fl} : ∀ {l : List Fl}, f ∈ insL n b l ↔ f = ⟨n, b⟩ ∨ f ∈ l
  | [] => by simp [insL]
  | g :: l => by
    unfold insL
    cases strLt n g.name with
    | true => simp
    | false => simp only [cond_false, List.mem_cons, mem_insL (l := l)]; exact ⟨fun h => h.elim (fun h => .inr (.inl h)) (fun h => h.elim .inl (fun h => .inr (.inr h))), fun h => h.elim (fun h => .inr (.inl h)) (fun h => h.elim .inl (fun h => .inr (.inr h)))⟩
theorem sf_insL {n : ByteArray} {b : List UInt8} : ∀ {l : List Fl}, SF l → (∀ f ∈ l, f.name ≠ n) → SF (insL n b l)
  | [], _, _ => by simp [insL, SF]
  | g :: l, h, hn => by
    have h0 := h
    unfold SF at h
    rw [List.pairwise_cons] at h
    unfold insL
    cases hc : strLt n g.name with
    | true =>
      have hlt : n.data.toList < ky g := of_decide_eq_true hc
      refine List.pairwise_cons.2 ⟨fun f hf => ?_, h0⟩
      rcases List.mem_cons.1 hf with e | hf
      · rw [e]; exact hlt
      · exact lt_tr hlt (h.1 f hf)
    | false =>
      have hlt : ky g < n.data.toList := lt_tri (of_decide_eq_false hc) fun e => hn g List.mem_cons_self (ba_inj e)
      refine List.pairwise_cons.2 ⟨fun f hf => ?_, sf_insL h.2 fun f hf => hn f (List.mem_cons_of_mem _ hf)⟩
      rcases mem_insL.1 hf with e | hf
      · rw [e]; exact hlt
      · exact h.1 f hf
theorem ins_FM {n : ByteArray} {b : List UInt8} {es : Mp} (hn : NK es) : insL n b (wo n (FM es)) = FM (mput n b es) := by
  have hne : ∀ f ∈ wo n (FM es), f.name ≠ n := fun f hf => by
    have := (List.mem_filter.1 hf).2
    simpa using this
  refine FM_ext hn.put (sf_insL (sf_wo (sf_FM hn)) hne) fun f => ?_
  rw [mem_insL, mget_mput, wo_FM hn, mem_FM, mget_mdel hn]
  by_cases h : f.name = n
  · rw [if_pos h, if_pos h]
    constructor
    · rintro (e | e)
      · rw [e]
      · cases e
    · intro e; injection e with e; left
      cases f; simp_all
  · rw [if_neg h, if_neg h]
    exact ⟨fun e => e.elim (fun e => absurd (by rw [e]) h) id, .inr⟩
theorem len_FM {es : Mp} : (FM es).length = es.length := by unfold FM; rw [List.length_map, skeys_len]
theorem dl_FM {es : Mp} {N : Nat} (h : sz es ≤ N) : ∀ f ∈ FM es, f.data.length ≤ N := fun f hf => by
  have := mem_FM.1 hf
  have h2 := sz_get (x := f.name) (es := es)
  rw [this] at h2
  exact Nat.le_trans h2 h
end Fw
end Go.Proofs.Ytichdipjedoijaa
