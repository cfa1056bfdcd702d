/- Merging, of versions such as writes make them, as sets. No condition. -/
import Derived.Test.YtbidmceookkapaaGreatP24
namespace Go.Proofs.YtbidmceookkapaaGreat
namespace Fw
set_option linter.unusedVariables false
set_option linter.unusedSimpArgs false
set_option linter.unusedSectionVars false
theorem merge_nil (l : List Ver) : r5Merge l [] = bif r5Right l then (l, 0) else ([], 1) := by
  unfold r5Merge
  have h0 : r5Right [] = true := by decide
  rw [h0]
  cases h : r5Right l
  · rfl
  · simp only [Bool.not_true, Bool.or_self, cond_false, cond_true]
    have ht : r5Twin l [] = false := by
      cases h2 : r5Twin l []
      · rfl
      · obtain ⟨_, _, z, hz, _⟩ := r5Twin_iff.1 h2; cases hz
    obtain ⟨h1, _, h3⟩ := right_iff h
    have hf : r5Fold [] l (r5Fold l [] []) = l := by
      show r5Fold l [] [] = l
      refine srt_ext (fold_srt (by simp [Srt])) h3 fun y => ⟨fun hy => ?_, fun hy => ?_⟩
      · rcases fold_sub hy with h | ⟨h, _⟩
        · cases h
        · exact h
      · exact fold_new (fun p hp q hq hd => srt_inj h3 hp hq hd) (by simp) hy rfl
    rw [ht, cond_false, hf]
    have hd : decide ((512 : Int) < (l.length : Int)) = false := by rw [decide_eq_false_iff_not]; omega
    rw [hd]; rfl
theorem behind_iff {l : List Ver} {d : Dot} : r5Behind l d = true ↔ ∃ z ∈ l, r3Has z.past d = true := by
  induction l with
  | nil => simp [r5Behind]
  | cons x l ih => simp [r5Behind, ih]
theorem behind_f {l : List Ver} {d : Dot} : r5Behind l d = false ↔ ∀ z ∈ l, r3Has z.past d = false := by
  induction l with
  | nil => simp [r5Behind]
  | cons x l ih => simp [r5Behind, ih]
theorem right_of {l : List Ver} (h1 : l.length ≤ 512) (h2 : ∀ x ∈ l, r5RightOne x = true ∧ r5Behind l x.dot = false) (h3 : Srt l) : r5Right l = true := by
  unfold r5Right
  rw [show decide (512 < l.length) = false by rw [decide_eq_false_iff_not]; omega, cond_false, all0_iff]
  intro i hi
  obtain ⟨h4, h5⟩ := h2 _ (gt_mem hi)
  rw [h4, h5]
  cases i with
  | zero => rfl
  | succ i =>
    have := List.pairwise_iff_getElem.1 h3 i (i + 1) (by omega) hi (by omega)
    rw [Nat.add_sub_cancel, gt_eq hi, gt_eq (by omega : i < l.length), this]
    simp
/-- versions such as writes make them -/
structure Made (U : List Ver) : Prop where
  one : ∀ x ∈ U, ∀ z ∈ U, x.dot = z.dot → x = z
  lt : ∀ x ∈ U, ∀ z ∈ U, r3Has x.past z.dot = true → r3Has z.past x.dot = false ∧ ∀ d, r3Has z.past d = true → r3Has x.past d = true
/-- a right list of these -/
structure Of (U l : List Ver) : Prop where
  r : r5Right l = true
  s : ∀ x ∈ l, x ∈ U
theorem srt_len : ∀ {l U : List Ver}, Srt l → (∀ x ∈ l, x ∈ U) → l.length ≤ U.length
  | [], _, _, _ => Nat.zero_le _
  | x :: l, U, h, hs => by
    obtain ⟨h1, h2⟩ := List.pairwise_cons.1 h
    have hx := hs x List.mem_cons_self
    have := srt_len (U := U.erase x) h2 fun y hy => by
      have hne : y ≠ x := fun e => by have := h1 y hy; rw [e, less_irr] at this; cases this
      exact (List.mem_erase_of_ne hne).2 (hs y (List.mem_cons_of_mem _ hy))
    rw [List.length_erase_of_mem hx] at this
    have := List.length_pos_of_mem hx
    simp only [List.length_cons]; omega
theorem fold_mem {a b : List Ver} (ha : r5Right a = true) (hb : r5Right b = true) (ht : ¬ Twin a b) {y : Ver} : y ∈ r5Fold b a (r5Fold a b []) ↔ (y ∈ a ∨ y ∈ b) ∧ r5Behind a y.dot = false ∧ r5Behind b y.dot = false := by
  rw [← merge_lists ha hb ht]
  obtain ⟨_, ha1, ha2⟩ := right_iff ha
  obtain ⟨_, hb1, hb2⟩ := right_iff hb
  have hk : kept a b y = true ↔ r5Behind a y.dot = false ∧ r5Behind b y.dot = false := by unfold kept; simp
  rw [← hk]
  constructor
  · intro h
    rcases go_sub h with h | h
    · cases h
    · exact h
  · intro h; exact go_has ha2 hb2 (Nat.le_refl _) ht (.inr h)
section
variable {U : List Ver} (hU : Made U) (hn : U.length ≤ 512)
include hU
theorem merge_of {a b : List Ver} (hn : U.length ≤ 512) (ha : Of U a) (hb : Of U b) : (r5Merge a b).2 = 0 ∧ Of U (r5Merge a b).1 ∧ Srt (r5Merge a b).1 ∧ ∀ y, y ∈ (r5Merge a b).1 ↔ (y ∈ a ∨ y ∈ b) ∧ r5Behind a y.dot = false ∧ r5Behind b y.dot = false := by
  have ht : ¬ Twin a b := fun ⟨x, hx, z, hz, hd, hne⟩ => hne (hU.one x (ha.s x hx) z (hb.s z hz) hd)
  have htb : r5Twin a b = false := by
    cases h : r5Twin a b
    · rfl
    · exact absurd (r5Twin_iff.1 h) ht
  have hm := fun y => fold_mem ha.r hb.r ht (y := y)
  have hs : Srt (r5Fold b a (r5Fold a b [])) := fold_srt (fold_srt (by simp [Srt]))
  have hsub : ∀ y ∈ r5Fold b a (r5Fold a b []), y ∈ U := fun y hy => ((hm y).1 hy).1.elim (ha.s y) (hb.s y)
  have hl := srt_len hs hsub
  have he : r5Merge a b = (r5Fold b a (r5Fold a b []), 0) := by
    unfold r5Merge
    rw [ha.r, hb.r, htb]
    simp only [Bool.not_true, Bool.or_self, cond_false]
    rw [show decide ((512 : Int) < ((r5Fold b a (r5Fold a b [])).length : Int)) = false by rw [decide_eq_false_iff_not]; omega]
    rfl
  rw [he]
  refine ⟨rfl, ⟨right_of (by show (r5Fold b a (r5Fold a b [])).length ≤ 512; omega) (fun x hx => ?_) hs, hsub⟩, hs, hm⟩
  obtain ⟨h1, h2, h3⟩ := (hm x).1 hx
  refine ⟨h1.elim (fun h => ((right_iff ha.r).2.1 x h).1) (fun h => ((right_iff hb.r).2.1 x h).1), ?_⟩
  rw [behind_f]
  intro z hz
  exact ((hm z).1 hz).1.elim (fun h => behind_f.1 h2 z h) (fun h => behind_f.1 h3 z h)
/-- it is there, or one that came behind it -/
def Cov (l : List Ver) (y : Ver) : Prop := y ∈ l ∨ r5Behind l y.dot = true
theorem cov_mem {a b out : List Ver} (ha : Of U a) (hb : Of U b) (ho : ∀ y, y ∈ out ↔ (y ∈ a ∨ y ∈ b) ∧ r5Behind a y.dot = false ∧ r5Behind b y.dot = false) {y : Ver} (hy : y ∈ a) : Cov out y := by
  have ha1 := fun x hx => ((right_iff ha.r).2.1 x hx).2
  have hb1 := fun x hx => ((right_iff hb.r).2.1 x hx).2
  cases h : r5Behind b y.dot with
  | false => exact .inl ((ho y).2 ⟨.inl hy, ha1 y hy, h⟩)
  | true =>
    obtain ⟨z, hz, h1⟩ := behind_iff.1 h
    refine .inr (behind_iff.2 ⟨z, (ho z).2 ⟨.inr hz, ?_, hb1 z hz⟩, h1⟩)
    rw [behind_f]
    intro w hw
    cases h2 : r3Has w.past z.dot with
    | false => rfl
    | true =>
      have h3 := (hU.lt w (ha.s w hw) z (hb.s z hz) h2).2 _ h1
      have := behind_f.1 (ha1 y hy) w hw
      rw [h3] at this; cases this
theorem cov_cov {l m : List Ver} (hl : ∀ x ∈ l, x ∈ U) (hm : ∀ x ∈ m, x ∈ U) (h : ∀ x ∈ l, Cov m x) {y : Ver} (hy : Cov l y) : Cov m y := by
  rcases hy with hy | hy
  · exact h y hy
  · obtain ⟨z, hz, h1⟩ := behind_iff.1 hy
    rcases h z hz with h2 | h2
    · exact .inr (behind_iff.2 ⟨z, h2, h1⟩)
    · obtain ⟨w, hw, h3⟩ := behind_iff.1 h2
      exact .inr (behind_iff.2 ⟨w, hw, (hU.lt w (hm w hw) z (hl z hz) h3).2 _ h1⟩)
theorem not_behind {l m : List Ver} (hl : ∀ x ∈ l, x ∈ U) (hm : ∀ x ∈ m, x ∈ U) (h : ∀ x ∈ l, Cov m x) {d : Dot} (hy : r5Behind m d = false) : r5Behind l d = false := by
  cases hb : r5Behind l d with
  | false => rfl
  | true =>
    obtain ⟨z, hz, h1⟩ := behind_iff.1 hb
    rcases h z hz with h2 | h2
    · have := behind_f.1 hy z h2; rw [h1] at this; cases this
    · obtain ⟨w, hw, h3⟩ := behind_iff.1 h2
      have := behind_f.1 hy w hw
      rw [(hU.lt w (hm w hw) z (hl z hz) h3).2 _ h1] at this; cases this
end
def underM (a b : List Span) : Bool := a.all (fun x => b.any (fun y => ((x.s == y.s) && (decide (y.f ≤ x.f))) && (decide (x.t ≤ y.t))))
theorem under_has {a b : List Span} (h : underM a b = true) {d : Dot} (hd : r3Has a d = true) : r3Has b d = true := by
  have hi : ∀ l : List Span, r3Has l d = true ↔ ∃ x ∈ l, x.s = d.s ∧ x.f ≤ d.n ∧ d.n ≤ x.t := by
    intro l
    induction l with
    | nil => simp [r3Has]
    | cons x l ih => simp [r3Has, ih, and_assoc]
  rw [hi] at hd ⊢
  obtain ⟨x, hx, h1, h2, h3⟩ := hd
  unfold underM at h
  have := List.all_eq_true.1 h x hx
  obtain ⟨y, hy, hq⟩ := List.any_eq_true.1 this
  simp only [Bool.and_eq_true, beq_iff_eq, decide_eq_true_eq] at hq
  exact ⟨y, hy, by omega, by omega, by omega⟩
theorem cut_one {α : Type} [Inhabited α] {l : List α} {i : Nat} (h : i < l.length) : List.drop i (List.take (i + 1) l) = [gt l i] := by
  rw [take_gt h, List.drop_append_of_le_length (by rw [List.length_take]; omega), List.drop_of_length_le (by rw [List.length_take]; omega)]; rfl
end Fw
end Go.Proofs.YtbidmceookkapaaGreat
