/- Merging twice; what Take comes to. No condition. -/
import Derived.Test.YtbidmceookkapaaGreatP25
namespace Go.Proofs.YtbidmceookkapaaGreat
namespace Fw
set_option linter.unusedVariables false
set_option linter.unusedSimpArgs false
set_option linter.unusedSectionVars false

/-! ### merged twice -/
theorem merge_0 {a b : List Ver} (h : (r5Merge a b).2 = 0) : r5Right a = true ∧ r5Right b = true ∧ ¬ Twin a b ∧ (r5Merge a b).1 = r5Fold b a (r5Fold a b []) ∧ (r5Merge a b).1.length ≤ 512 := by
  have hlen := merge_len a b
  unfold r5Merge at h hlen ⊢
  cases ha : r5Right a with
  | false => rw [ha] at h; exact absurd (show (1 : Int) = 0 from h) (by decide)
  | true =>
    cases hb : r5Right b with
    | false => rw [ha, hb] at h; exact absurd (show (1 : Int) = 0 from h) (by decide)
    | true =>
      rw [ha, hb] at h hlen
      simp only [Bool.not_true, Bool.or_self, cond_false] at h hlen ⊢
      cases ht : r5Twin a b with
      | true => rw [ht] at h; exact absurd (show (50 : Int) = 0 from h) (by decide)
      | false =>
        rw [ht] at h hlen
        simp only [cond_false] at h hlen ⊢
        cases hl : decide ((512 : Int) < ((r5Fold b a (r5Fold a b [])).length : Int)) with
        | true => rw [hl] at h; exact absurd (show (3 : Int) = 0 from h) (by decide)
        | false =>
          rw [hl] at hlen
          simp only [cond_false] at hlen ⊢
          exact ⟨trivial, trivial, fun h => absurd (r5Twin_iff.2 h) (by rw [ht]; decide), trivial, hlen⟩
/-- no version of these came behind another one that doesn't stand under it -/
def PL (l : List Ver) : Prop := ∀ x ∈ l, ∀ z ∈ l, r3Has x.past z.dot = true → r3Has z.past x.dot = false ∧ ∀ d, r3Has z.past d = true → r3Has x.past d = true
theorem made_of {a b : List Ver} (ha : r5Right a = true) (hb : r5Right b = true) (ht : ¬ Twin a b) (hp : PL (a ++ b)) : Made (a ++ b) := by
  refine ⟨fun x hx z hz hd => ?_, hp⟩
  have sa := (right_iff ha).2.2
  have sb := (right_iff hb).2.2
  rcases List.mem_append.1 hx with hx | hx <;> rcases List.mem_append.1 hz with hz | hz
  · exact srt_inj sa hx hz hd
  · exact Classical.byContradiction fun h => ht ⟨x, hx, z, hz, hd, h⟩
  · exact Classical.byContradiction fun h => ht ⟨z, hz, x, hx, hd.symm, fun e => h e.symm⟩
  · exact srt_inj sb hx hz hd
theorem merged {a b : List Ver} (h : (r5Merge a b).2 = 0) : Srt (r5Merge a b).1 ∧ r5Right (r5Merge a b).1 = true ∧ ∀ y, y ∈ (r5Merge a b).1 ↔ (y ∈ a ∨ y ∈ b) ∧ r5Behind a y.dot = false ∧ r5Behind b y.dot = false := by
  obtain ⟨ha, hb, ht, he, hl⟩ := merge_0 h
  have hm := fun y => fold_mem ha hb ht (y := y)
  have hs : Srt (r5Fold b a (r5Fold a b [])) := fold_srt (fold_srt (by simp [Srt]))
  rw [he] at hl ⊢
  refine ⟨hs, right_of hl (fun x hx => ?_) hs, hm⟩
  obtain ⟨h1, h2, h3⟩ := (hm x).1 hx
  refine ⟨h1.elim (fun h => ((right_iff ha).2.1 x h).1) (fun h => ((right_iff hb).2.1 x h).1), ?_⟩
  rw [behind_f]
  intro z hz
  exact ((hm z).1 hz).1.elim (fun h => behind_f.1 h2 z h) (fun h => behind_f.1 h3 z h)
theorem twice {a b : List Ver} (h : (r5Merge a b).2 = 0) (hp : PL (a ++ b)) : (∀ c, c = a ∨ c = b → (r5Merge (r5Merge a b).1 c).2 = 0 → (r5Merge (r5Merge a b).1 c).1 = (r5Merge a b).1) := by
  intro c hc h2
  obtain ⟨ha, hb, ht, _, _⟩ := merge_0 h
  have hM := made_of ha hb ht hp
  have oa : Of (a ++ b) a := ⟨ha, fun x hx => List.mem_append_left _ hx⟩
  have ob : Of (a ++ b) b := ⟨hb, fun x hx => List.mem_append_right _ hx⟩
  obtain ⟨s1, r1, m1⟩ := merged h
  obtain ⟨s2, r2, m2⟩ := merged h2
  refine srt_ext s2 s1 fun y => ?_
  have hcov : ∀ y ∈ c, Cov (r5Merge a b).1 y := fun y hy => by
    rcases hc with rfl | rfl
    · exact cov_mem hM oa ob m1 hy
    · exact cov_mem hM ob oa (fun y => by rw [m1 y]; constructor <;> rintro ⟨h1, h2, h3⟩ <;> exact ⟨h1.symm, h3, h2⟩) hy
  have hnb : ∀ y, y ∈ (r5Merge a b).1 → r5Behind c y.dot = false := fun y hy => by
    rcases hc with rfl | rfl
    · exact ((m1 y).1 hy).2.1
    · exact ((m1 y).1 hy).2.2
  rw [m2 y]
  constructor
  · rintro ⟨h3 | h3, h4, h5⟩
    · exact h3
    · rcases hcov y h3 with h6 | h6
      · exact h6
      · rw [h4] at h6; cases h6
  · intro h3
    exact ⟨.inl h3, ((right_iff r1).2.1 y h3).2, hnb y h3⟩
theorem no_lack {m c : List Ver} (h : (r5Merge m c).2 = 0 → (r5Merge m c).1 = m) : r5Lacks m c = false := by
  unfold r5Lacks
  by_cases h2 : (r5Merge m c).2 = 0
  · rw [h h2, r5Same_iff.2 rfl]; simp
  · rw [show ((r5Merge m c).2 == 0) = false by simpa using h2]; rfl
theorem self_merge {a : List Ver} (h2 : (r5Merge a a).2 = 0) : (r5Merge a a).1 = a := by
  obtain ⟨ha, _, _, _, _⟩ := merge_0 h2
  obtain ⟨s2, r2, m2⟩ := merged h2
  refine srt_ext s2 (right_iff ha).2.2 fun y => ?_
  rw [m2 y]
  constructor
  · rintro ⟨h3 | h3, _⟩ <;> exact h3
  · intro h3
    have := ((right_iff ha).2.1 y h3).2
    exact ⟨.inl h3, this, this⟩
end Fw
end Go.Proofs.YtbidmceookkapaaGreat
