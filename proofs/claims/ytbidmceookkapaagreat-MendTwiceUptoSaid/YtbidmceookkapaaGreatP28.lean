/- The law MendTwice, as the printed models say it. No condition. -/
import Derived.Test.YtbidmceookkapaaGreatP27
namespace Go.Proofs.YtbidmceookkapaaGreat
namespace Fw
set_option linter.unusedVariables false
set_option linter.unusedSimpArgs false
set_option linter.unusedSectionVars false

/-! ### plain -/
theorem e_under (a b : Ver) : m_firthlaw14_under a b = some (underM a.past b.past) := by
  unfold m_firthlaw14_under underM
  refine forI_inv (fun i _ => some ((a.past.drop i).all (fun x => b.past.any (fun y => ((x.s == y.s) && (decide (y.f ≤ x.f))) && (decide (x.t ≤ y.t)))))) (fun _ _ => True) (fun s _ => ?_) (fun f i s hi _ hf => ?_) trivial
  · rw [List.drop_of_length_le (Nat.le_refl _)]; rfl
  · unfold m_firthlaw14_under_b4
    have := forI_inv (body := m_firthlaw14_under_b5 a i) (k := fun in_8 => (bif (!in_8) then (some false) else (f ()))) (l := b.past)
      (fun j s => bif (!(s || (b.past.drop j).any (fun y => (((gt a.past i).s == y.s) && (decide (y.f ≤ (gt a.past i).f))) && (decide ((gt a.past i).t ≤ y.t))))) then some false else f ()) (fun _ _ => True) (fun s _ => ?_) (fun g j s hj _ hg => ?_) (s := false) trivial
    · rw [this, drop_gt hi, List.all_cons, hf () trivial, List.drop_zero, Bool.false_or]
      cases b.past.any (fun y => (((gt a.past i).s == y.s) && (decide (y.f ≤ (gt a.past i).f))) && (decide ((gt a.past i).t ≤ y.t))) <;> rfl
    · rw [List.drop_of_length_le (Nat.le_refl _), List.any_nil, Bool.or_false]
    · unfold m_firthlaw14_under_b5
      rw [hg _ trivial, drop_gt hj, List.any_cons, Bool.or_assoc]
def pTwo (x z : Ver) : Bool := !(r3Has x.past z.dot && (r3Has z.past x.dot || !(underM z.past x.past)))
theorem behind_one (x : Ver) (d : Dot) : r5Behind [x] d = r3Has x.past d := by
  show (bif r3Has x.past d then _ else _) = _ <;> cases r3Has x.past d <;> rfl
theorem e_plain {a b : List Ver} (h : a.length + b.length ≤ lim) : ∃ p, m_firthlaw14_plain a b = some p ∧ (p = true → PL (a ++ b)) := by
  unfold m_firthlaw14_plain
  rw [chk_t (decide_eq_true (by omega)), chk_t (decide_eq_true h)]
  rw [forI_all (p := fun i => allFrom (fun j => pTwo (gt (a ++ b) i) (gt (a ++ b) j)) 0 (a ++ b).length) (r := some false) (fun f i hi => ?_)]
  · refine ⟨allFrom (fun i => allFrom (fun j => pTwo (gt (a ++ b) i) (gt (a ++ b) j)) 0 (a ++ b).length) 0 (a ++ b).length, ?_, fun hp => ?_⟩
    · cases allFrom (fun i => allFrom (fun j => pTwo (gt (a ++ b) i) (gt (a ++ b) j)) 0 (a ++ b).length) 0 (a ++ b).length <;> rfl
    · intro x hx z hz hxz
      obtain ⟨i, hi, rfl⟩ := mem_gt hx
      obtain ⟨j, hj, rfl⟩ := mem_gt hz
      rw [all0_iff] at hp
      have h1 := hp i hi
      rw [all0_iff] at h1
      have h2 := h1 j hj
      unfold pTwo at h2
      rw [hxz] at h2
      simp only [Bool.true_and, Bool.not_eq_true', Bool.or_eq_false_iff, Bool.not_eq_false'] at h2
      exact ⟨h2.1, fun d h => under_has h2.2 h⟩
  · unfold m_firthlaw14_plain_b5
    rw [forI_all (p := fun j => pTwo (gt (a ++ b) i) (gt (a ++ b) j)) (r := some false) (fun g j hj => ?_)]
    unfold m_firthlaw14_plain_b6
    rw [chk_t (decide_eq_true (by omega)), cut_one hi, cut_one hj, e_r5Behind, Option.bind_some, behind_one, e_r5Behind, behind_one, e_under]
    unfold pTwo
    have hj1 : decide (j + 1 ≤ (a ++ b).length) = true := decide_eq_true (by omega)
    rw [hj1]
    cases r3Has (gt (a ++ b) i).past (gt (a ++ b) j).dot <;> cases r3Has (gt (a ++ b) j).past (gt (a ++ b) i).dot <;> cases underM (gt (a ++ b) j).past (gt (a ++ b) i).past <;> rfl

/-! ### both -/
theorem e_both {A T : List Rec} (hokA : ∀ r ∈ A, RecOk r) (hrA : ∀ r ∈ A, rr r = true) (hsA : SR A) (hlA : A.length ≤ 4194304) (hokT : ∀ r ∈ T, RecOk r) (hsT : SR T) (hlT : T.length ≤ 4194304) :
    ∃ r, m_firthlaw14_both A T = some r ∧ (r.2 = true → ∀ k, (r5Merge (gvR A k) (gvR T k)).2 = 0) := by
  unfold m_firthlaw14_both
  refine forI_ex (fun i out => SR out ∧ out.length ≤ A.length + i ∧ (∀ k, gvR out k = mg (gvR A k) (gvR (T.take i) k)) ∧ ∀ k, (r5Merge (gvR A k) (gvR (T.take i) k)).2 = 0) (fun r : List Rec × Bool => r.2 = true → ∀ k, (r5Merge (gvR A k) (gvR T k)).2 = 0) (fun out hI => ⟨_, rfl, fun _ => by have := hI.2.2.2; rw [List.take_length] at this; exact this⟩) (fun f i out hi hI hf => ?_) ⟨hsA, Nat.le_refl _, fun k => ?_, fun k => ?_⟩
  · obtain ⟨h1, h2, h3, h4⟩ := hI
    have hrm := gt_mem hi
    have hnone : gvR (T.take i) (gt T i).key = [] := gvR_none (take_ne hsT hi)
    have hself : gvR (T.take (i + 1)) (gt T i).key = (gt T i).vers := by
      have : gt T i ∈ T.take (i + 1) := by rw [take_gt hi]; exact List.mem_append_right _ (List.mem_singleton.2 rfl)
      exact gvR_mem (sr_take hsT _) this
    have hother : ∀ k, k ≠ (gt T i).key → gvR (T.take (i + 1)) k = gvR (T.take i) k := fun k hk => by
      rw [take_gt hi]; exact gvR_snoc_ne (fun e => hk e.symm)
    have hcur : gvR out (gt T i).key = gvR A (gt T i).key := by rw [h3, hnone, mg_nil (gvR_right hrA _)]
    unfold m_firthlaw14_both_b1
    rw [e_Get, Option.bind_some, hcur, e_r5Merge (gvR_ok hokA _) (hokT _ hrm).vers, Option.bind_some]
    cases hc : (r5Merge (gvR A (gt T i).key) (gt T i).vers).2 != 0 with
    | true => exact ⟨_, rfl, fun h => absurd h (by decide)⟩
    | false =>
      have hc0 : (r5Merge (gvR A (gt T i).key) (gt T i).vers).2 = 0 := by simpa using hc
      rw [cond_false, e_With (by rw [lim_v]; omega), Option.bind_some]
      have hwl := withr_len out ⟨(gt T i).key, (r5Merge (gvR A (gt T i).key) (gt T i).vers).1⟩
      refine hf _ ⟨sr_withr h1, by omega, fun k => ?_, fun k => ?_⟩
      · rw [gvR_withr h1]
        by_cases hk : k = (gt T i).key
        · subst hk
          rw [if_pos rfl, hself]
          unfold mg
          rw [hc0]; rfl
        · rw [if_neg hk, hother k hk]; exact h3 k
      · by_cases hk : k = (gt T i).key
        · subst hk; rw [hself]; exact hc0
        · rw [hother k hk]; exact h4 k
  · show gvR A k = mg (gvR A k) []
    rw [mg_nil (gvR_right hrA k)]
  · show (r5Merge (gvR A k) []).2 = 0
    rw [merge_nil, gvR_right hrA k]; rfl

/-! ### laid -/
theorem gv_laid : ∀ {out acc : List Rec} {k : ByteArray}, SR out → SR acc → gvR (out.foldl withr acc) k = if (∃ x ∈ out, x.key = k) then gvR out k else gvR acc k
  | [], acc, k, _, _ => by rw [if_neg (by rintro ⟨x, hx, _⟩; cases hx)]; rfl
  | x :: l, acc, k, ho, ha => by
    have ho2 := ho
    unfold SR at ho2
    rw [List.pairwise_cons] at ho2
    rw [List.foldl_cons, gv_laid ho2.2 (sr_withr ha), gvR_withr ha]
    by_cases hl : ∃ y ∈ l, y.key = k
    · obtain ⟨y, hy, he⟩ := hl
      have hne : ¬ x.key = k := fun e => by
        have := ho2.1 y hy
        rw [ky_key.2 (e.trans he.symm)] at this
        exact lt_irr _ this
      rw [if_pos ⟨y, hy, he⟩, if_pos ⟨y, List.mem_cons_of_mem _ hy, he⟩, gvR_cons, show (x.key == k) = false by simpa using hne, cond_false]
    · rw [if_neg hl]
      by_cases hx : k = x.key
      · subst hx
        rw [if_pos rfl, if_pos ⟨x, List.mem_cons_self, rfl⟩, gvR_cons, show (x.key == x.key) = true by simp, cond_true]
      · rw [if_neg hx, if_neg]
        rintro ⟨y, hy, he⟩
        rcases List.mem_cons.1 hy with h | h
        · subst h; exact hx he.symm
        · exact hl ⟨y, h, he⟩
theorem gvR_ne {L : List Rec} {k : ByteArray} (h : gvR L k ≠ []) : ∃ x ∈ L, x.key = k := by
  rcases Classical.em (∃ x ∈ L, x.key = k) with h2 | h2
  · exact h2
  · exact absurd (gvR_none fun x hx he => h2 ⟨x, hx, he⟩) h
theorem tkC_ne {A T : List Rec} {k : ByteArray} (h : tkC A T k = true) : tkV A T k ≠ [] ∧ tkV A T k ≠ gvR A k := by
  unfold tkC at h
  rw [Bool.and_eq_true_iff] at h
  refine ⟨fun e => ?_, fun e => ?_⟩
  · rw [e] at h; have := h.1; simp at this
  · rw [r5Same_iff.2 e] at h; cases h.2
theorem tkC_f {A T : List Rec} {k : ByteArray} (h : tkV A T k = gvR A k) : tkC A T k = false := by
  unfold tkC
  rw [r5Same_iff.2 h, Bool.not_true, Bool.and_false]
theorem tkV_key {A T : List Rec} {k : ByteArray} (h : tkV A T k ≠ []) : ∃ x, (x ∈ A ∨ x ∈ T) ∧ x.key = k := by
  by_cases h1 : gvR A k = []
  · by_cases h2 : gvR T k = []
    · refine absurd ?_ h
      unfold tkV
      rw [h1, h2, mg_nil rfl]
    · obtain ⟨x, hx, he⟩ := gvR_ne h2; exact ⟨x, .inr hx, he⟩
  · obtain ⟨x, hx, he⟩ := gvR_ne h1; exact ⟨x, .inl hx, he⟩
theorem mg_right {x y : List Ver} (hx : r5Right x = true) : r5Right (mg x y) = true := by
  unfold mg
  cases hc : (r5Merge x y).2 == 0 with
  | false => exact hx
  | true => exact (merged (by simpa using hc)).2.1
theorem sr_keys {L : List Rec} (h : SR L) : (L.map (·.key)).Nodup := by
  unfold SR at h
  rw [List.nodup_iff_pairwise_ne, List.pairwise_map]
  exact h.imp fun {a b} h e => by rw [ky_key.2 e] at h; exact lt_irr _ h
end Fw
end Go.Proofs.YtbidmceookkapaaGreat
