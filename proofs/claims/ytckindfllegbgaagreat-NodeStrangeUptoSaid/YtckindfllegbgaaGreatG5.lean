/- Merging, out of layer 16. No condition. -/
import Derived.Test.YtckindfllegbgaaGreatG4
namespace Go.Proofs.YtckindfllegbgaaGreat
namespace Fw
namespace Mg
set_option linter.unusedVariables false
set_option linter.unusedSimpArgs false
set_option linter.unusedSectionVars false
section
variable {α S R : Type} [Inhabited α]
theorem forI_inv {body : (S → Option R) → Nat → α → S → Option R} {k : S → Option R} {l : List α} (T : Nat → S → Option R) (I : Nat → S → Prop) (hend : ∀ s, I l.length s → k s = T l.length s)
    (hstep : ∀ f i s, i < l.length → I i s → (∀ s', I (i + 1) s' → f s' = T (i + 1) s') → body f i (gt l i) s = T i s) {s : S} (h0 : I 0 s) : forI body k 0 l s = T 0 s := by
  have key : ∀ m i s, l.length - i = m → i ≤ l.length → I i s → forI body k i (l.drop i) s = T i s := by
    intro m
    induction m with
    | zero =>
      intro i s hm hi hI
      have : i = l.length := by omega
      subst this
      rw [List.drop_of_length_le (Nat.le_refl _)]
      exact hend s hI
    | succ m ih =>
      intro i s hm hi hI
      rw [drop_gt (by omega)]
      exact hstep _ i s (by omega) hI fun s' h' => ih (i + 1) s' (by omega) (by omega) h'
  exact key _ 0 s rfl (Nat.zero_le _) h0
end
theorem gcall_s {R : Type} [Inhabited R] (g : Bool) (v : R) : gcall g (some v) = some (bif g then v else default) := by cases g <;> rfl
theorem chk_t {R : Type} {c : Bool} {k : Option R} (h : c = true) : chk c k = k := by rw [h]; rfl
/-- the numbers of a version, as they stand in memory -/
structure VerOk (v : Ver) : Prop where
  dot : I64 v.dot.s ∧ I64 v.dot.n
  len : v.past.length ≤ lim
  past : ∀ x ∈ v.past, I64 x.f
  val : v.val.size ≤ lim
end Mg
end Fw
end Go.Proofs.YtckindfllegbgaaGreat
