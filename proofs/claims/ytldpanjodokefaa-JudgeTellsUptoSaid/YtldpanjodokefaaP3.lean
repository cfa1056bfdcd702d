/- Each dot's first writing; the trial's maps xs they begin. No condition. -/
import Derived.Test.YtldpanjodokefaaP2
namespace Go.Proofs.Ytldpanjodokefaa
namespace Fw
set_option linter.unusedVariables false
set_option linter.unusedSimpArgs false
set_option linter.unusedSectionVars false
open Go.RowKit
def isw (a : Djudge_Act) : Bool := !a.read && decide (0 < a.dot.n)
/-- the dots that are written, each with the place of its first writing, from a place on -/
def fsL : Acts → Nat → List (Dot × Int) → List (Dot × Int)
  | [], _, m => m
  | a :: l, i, m => fsL l (i + 1) (bif isw a && !(mget a.dot m).isSome then m ++ [(a.dot, (i : Int))] else m)
def fst (l : Acts) (d : Dot) : Option Nat := (List.range l.length).find? fun i => isw (gt l i) && decide ((gt l i).dot = d)
theorem fst_some {l : Acts} {d : Dot} {i : Nat} (h : fst l d = some i) : i < l.length ∧ (gt l i).read = false ∧ 0 < (gt l i).dot.n ∧ (gt l i).dot = d ∧ ∀ j < i, isw (gt l j) = true → (gt l j).dot ≠ d := by
  unfold fst at h
  have h1 := List.find?_some h
  have h2 := List.mem_of_find?_eq_some h
  have h3 := List.mem_range.1 h2
  have h4 := and_l h1
  have h5 := of_decide_eq_true (and_r h1)
  unfold isw at h4
  refine ⟨h3, not_t (and_l h4), of_decide_eq_true (and_r h4), h5, fun j hj hw he => ?_⟩
  obtain ⟨xs, ys, h6, h7⟩ := List.find?_eq_some_iff_append.1 h |>.2
  have hlen : xs.length = i := by
    have := congrArg (fun l => l[xs.length]?) h6
    simp only [List.getElem?_append_right (Nat.le_refl _), Nat.sub_self, List.getElem?_cons_zero] at this
    have hal : xs.length < (List.range l.length).length := by rw [h6]; simp
    rw [List.getElem?_eq_getElem hal, List.getElem_range] at this
    exact Option.some.inj this
  have hja : j ∈ xs := by
    have hj2 : xs[j]? = some j := by
      have := congrArg (fun l => l[j]?) h6
      rw [List.getElem?_append_left (by omega), List.getElem?_eq_getElem (by simp; omega), List.getElem_range] at this
      exact this.symm
    exact List.mem_of_getElem? hj2
  have := h7 j hja
  rw [hw, he] at this
  simp at this
theorem fst_none {l : Acts} {d : Dot} (h : fst l d = none) {j : Nat} (hj : j < l.length) (hw : isw (gt l j) = true) : (gt l j).dot ≠ d := by
  unfold fst at h
  intro he
  have := List.find?_eq_none.1 h j (List.mem_range.2 hj)
  rw [hw, he] at this
  simp at this
theorem fst_of {l : Acts} {d : Dot} {j : Nat} (hj : j < l.length) (hw : isw (gt l j) = true) (he : (gt l j).dot = d) : ∃ i, fst l d = some i ∧ i ≤ j := by
  cases h : fst l d with
  | none => exact absurd he (fst_none h hj hw)
  | some i =>
    refine ⟨i, rfl, ?_⟩
    rcases Nat.lt_or_ge j i with q | q
    · exact absurd he ((fst_some h).2.2.2.2 j q hw)
    · exact q
theorem fst_eq {l : Acts} {d : Dot} {i : Nat} (hi : i < l.length) (hw : isw (gt l i) = true) (he : (gt l i).dot = d) (hb : ∀ j < i, isw (gt l j) = true → (gt l j).dot ≠ d) : fst l d = some i := by
  obtain ⟨k, h1, h2⟩ := fst_of hi hw he
  rcases Nat.lt_or_ge k i with q | q
  · obtain ⟨_, h3, h4, h5, _⟩ := fst_some h1
    exact absurd h5 (hb k q (by simp [isw, h3, h4]))
  · rw [h1]; congr 1; omega
theorem fsL_nodup : ∀ {l : Acts} {i : Nat} {m : List (Dot × Int)}, (m.map (·.1)).Nodup → ((fsL l i m).map (·.1)).Nodup
  | [], _, _, h => h
  | a :: l, i, m, h => by
    unfold fsL
    refine fsL_nodup ?_
    cases hc : isw a && !(mget a.dot m).isSome with
    | false => exact h
    | true =>
      have hn : mget a.dot m = none := by
        have := not_t (and_r hc)
        cases hq : mget a.dot m with
        | none => rfl
        | some _ => rw [hq] at this; cases this
      rw [mget_none] at hn
      simp only [cond_true, List.map_append, List.map_cons, List.map_nil]
      rw [List.nodup_append]
      exact ⟨h, by simp, fun p hp q hq e => hn (by rw [List.mem_singleton.1 hq] at e; rw [← e]; exact hp)⟩
theorem mem_fsL {L : Acts} {d : Dot} {v : Int} : ∀ {l : Acts} {i : Nat} {m : List (Dot × Int)}, l = L.drop i → i ≤ L.length → (∀ p, p ∈ m ↔ ∃ k, fst L p.1 = some k ∧ p.2 = (k : Int) ∧ k < i) → ((d, v) ∈ fsL l i m ↔ ∃ k, fst L d = some k ∧ v = (k : Int))
  | [], i, m, hl, hi, hm => by
    have hil : L.length ≤ i := by
      have := congrArg List.length hl
      rw [List.length_drop, List.length_nil] at this; omega
    unfold fsL
    rw [hm]
    constructor
    · rintro ⟨k, h1, h2, h3⟩; exact ⟨k, h1, h2⟩
    · rintro ⟨k, h1, h2⟩; exact ⟨k, h1, h2, by have := (fst_some h1).1; omega⟩
  | a :: l, i, m, hl, hi, hm => by
    have hil : i < L.length := by
      have := congrArg List.length hl
      rw [List.length_drop, List.length_cons] at this; omega
    rw [drop_gt hil] at hl
    obtain ⟨ha, hl⟩ := List.cons.inj hl
    unfold fsL
    refine mem_fsL hl hil fun p => ?_
    have hsome : (mget a.dot m).isSome = true ↔ ∃ k, fst L a.dot = some k ∧ k < i := by
      constructor
      · intro hs
        cases hq : mget a.dot m with
        | none => rw [hq] at hs; cases hs
        | some u =>
          obtain ⟨k, h1, h2, h3⟩ := (hm _).1 (mget_mem hq)
          exact ⟨k, h1, h3⟩
      · rintro ⟨k, h1, h3⟩
        cases hq : mget a.dot m with
        | some _ => rfl
        | none =>
          rw [mget_none] at hq
          exact absurd (List.mem_map.2 ⟨(a.dot, (k : Int)), (hm _).2 ⟨k, h1, rfl, h3⟩, rfl⟩) hq
    cases hc : isw a && !(mget a.dot m).isSome with
    | false =>
      simp only [cond_false]
      rw [hm]
      constructor
      · rintro ⟨k, h1, h2, h3⟩; exact ⟨k, h1, h2, by omega⟩
      · rintro ⟨k, h1, h2, h3⟩
        refine ⟨k, h1, h2, ?_⟩
        rcases Nat.lt_or_ge k i with q | q
        · exact q
        · exfalso
          have hki : k = i := by omega
          subst hki
          obtain ⟨_, h4, h5, h6, h7⟩ := fst_some h1
          rw [← ha] at h4 h5 h6
          have hw : isw a = true := by simp [isw, h4, h5]
          rw [hw, Bool.true_and] at hc
          obtain ⟨k', h8, h9⟩ := hsome.1 (not_f hc)
          rw [h6, h1] at h8
          injection h8 with h8; omega
    | true =>
      simp only [cond_true, List.mem_append, List.mem_singleton]
      have hw := and_l hc
      have hns : ¬ ∃ k, fst L a.dot = some k ∧ k < i := fun h => by have := not_t (and_r hc); rw [hsome.2 h] at this; cases this
      have hfi : fst L a.dot = some i := fst_eq hil (by rw [← ha]; exact hw) (by rw [← ha]) fun j hj hjw he => by
        obtain ⟨k, h1, h2⟩ := fst_of (by omega) hjw he
        exact hns ⟨k, h1, by omega⟩
      rw [hm]
      constructor
      · rintro (⟨k, h1, h2, h3⟩ | h)
        · exact ⟨k, h1, h2, by omega⟩
        · subst h; exact ⟨i, hfi, rfl, by omega⟩
      · rintro ⟨k, h1, h2, h3⟩
        rcases Nat.lt_or_ge k i with q | q
        · exact .inl ⟨k, h1, h2, q⟩
        · have hki : k = i := by omega
          subst hki
          right
          have h6 := (fst_some h1).2.2.2.1
          have : p.1 = a.dot := by rw [← h6, ← ha]
          exact Prod.ext this h2
/-- the first writings of a list -/
def firsts (l : Acts) : List (Dot × Int) := fsL l 0 []
theorem firsts_nodup (l : Acts) : ((firsts l).map (·.1)).Nodup := fsL_nodup (by simp)
theorem mem_firsts {l : Acts} {d : Dot} {v : Int} : (d, v) ∈ firsts l ↔ ∃ k, fst l d = some k ∧ v = (k : Int) := mem_fsL (L := l) (by simp) (Nat.zero_le _) (by simp)
theorem mget_firsts {l : Acts} {d : Dot} : mget d (firsts l) = (fst l d).map fun k : Nat => (k : Int) := by
  cases h : fst l d with
  | some k => exact mget_of_mem (firsts_nodup l) (mem_firsts.2 ⟨k, h, rfl⟩)
  | none =>
    show mget d (firsts l) = none
    rw [mget_none]
    intro hm
    obtain ⟨p, hp, rfl⟩ := List.mem_map.1 hm
    obtain ⟨k, h1, _⟩ := mem_firsts.1 (show (p.1, p.2) ∈ firsts l from hp)
    rw [h] at h1; cases h1
theorem fsL_len : ∀ {l : Acts} {i : Nat} {m : List (Dot × Int)}, (fsL l i m).length ≤ m.length + l.length
  | [], _, _ => by simp [fsL]
  | a :: l, i, m => by
    unfold fsL
    refine Nat.le_trans fsL_len ?_
    cases isw a && !(mget a.dot m).isSome <;> simp <;> omega
/-- the trial's maps when its second loop begins -/
def bs0 (m : List (Dot × Int)) : List (Dot × DS) := m.map fun p => (p.1, [])
theorem e_trybeg {K : (List (Dot × DS)) × (List (Dot × Int)) → Option Ojudge_trial} : ∀ {l : Acts} {i : Nat} {m : List (Dot × Int)}, forI m_judge_try_l0_b4 K i l (bs0 m, m) = K (bs0 (fsL l i m), fsL l i m)
  | [], _, _ => rfl
  | a :: l, i, m => by
    rw [forI_cons]
    generalize hG : forI m_judge_try_l0_b4 K (i + 1) l = G
    have hmb : (mget a.dot (bs0 m)).isSome = (mget a.dot m).isSome := by
      unfold bs0
      induction m with
      | nil => rfl
      | cons p m ih =>
        simp only [List.map_cons, mget]
        split
        · rfl
        · exact ih
    unfold m_judge_try_l0_b4 fsL
    show (bif isw a && !(mget a.dot m).isSome then _ else _) = _
    cases hc : isw a && !(mget a.dot m).isSome with
    | false =>
      simp only [cond_false, m_judge_try_l0_j5]
      rw [← hG]; exact e_trybeg
    | true =>
      have hn : mget a.dot m = none := by
        have := not_t (and_r hc)
        cases hq : mget a.dot m with
        | none => rfl
        | some _ => rw [hq] at this; cases this
      have hnb : mget a.dot (bs0 m) = none := by
        rw [hn] at hmb
        cases hq : mget a.dot (bs0 m) with
        | none => rfl
        | some _ => rw [hq] at hmb; cases hmb
      simp only [cond_true, m_judge_try_l0_j5, chk, hnb, Option.isSome_none, Bool.not_false]
      rw [mput_new hn, mput_new hnb, ← hG, show bs0 m ++ [(a.dot, ([] : DS))] = bs0 (m ++ [(a.dot, (i : Int))]) by simp [bs0]]
      exact e_trybeg
end Fw
end Go.Proofs.Ytldpanjodokefaa
