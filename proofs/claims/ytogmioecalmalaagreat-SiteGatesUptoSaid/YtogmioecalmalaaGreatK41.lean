/- A map's keys in order, where they are numbers. No condition. -/
import Derived.Test.YtogmioecalmalaaGreatK15
import Derived.Lib.SlKeysI
import Derived.Shelf.SlIterI.Sorted
import Derived.Shelf.SlIterI.Collect
import Derived.Shelf.SlIterI.Nil
namespace Go.Proofs.YtogmioecalmalaaGreat
namespace Fw
set_option linter.unusedVariables false
set_option linter.unusedSimpArgs false
set_option linter.unusedSectionVars false
open Go.RowKit Go.MapKept Go.Shelf Go.Maps Go.Sort Go.WideElems
def insI (x : Int) : List Int → List Int
 | [] => [x]
 | y :: l => bif decide (x ≤ y) then x :: y :: l else y :: insI x l
def srtI : List Int → List Int
 | [] => []
 | x :: l => insI x (srtI l)
theorem mQ (x : Int) : ∀ l, (insI x l).Perm (x :: l)
 | [] => List.Perm.refl _
 | y :: l => by
  unfold insI
  cases decide (x ≤ y) with
  | true => exact List.Perm.refl _
  | false => exact ((mQ x l).cons y).trans (List.Perm.swap x y l)
theorem kA : ∀ l, (srtI l).Perm l
 | [] => List.Perm.refl _
 | x :: l => (mQ x (srtI l)).trans ((kA l).cons x)
theorem rl (x : Int) : ∀ l : List Int, l.Pairwise (· ≤ ·) → (insI x l).Pairwise (· ≤ ·)
 | [], _ => by simp [insI]
 | y :: l, h => by
  rw [List.pairwise_cons] at h
  unfold insI
  cases hc : decide (x ≤ y) with
  | true =>
   have hc := of_decide_eq_true hc
   refine List.pairwise_cons.2 ⟨fun z hz => ?_, List.pairwise_cons.2 h⟩
   rcases List.mem_cons.1 hz with e | hz
   ·rw [e]; exact hc
   ·exact Int.le_trans hc (h.1 z hz)
  | false =>
   have hc := of_decide_eq_false hc
   refine List.pairwise_cons.2 ⟨fun z hz => ?_, rl x l h.2⟩
   rcases List.mem_cons.1 ((mQ x l).mem_iff.1 hz) with e | hz
   ·rw [e]; omega
   ·exact h.1 z hz
theorem sB : ∀ l : List Int, (srtI l).Pairwise (· ≤ ·)
 | [] => List.Pairwise.nil
 | x :: l => rl x _ (sB l)
theorem xB (l : List Int) : srtI l = l.mergeSort (fun x y => decide (x ≤ y)) := by
 have h : (srtI l).mergeSort (fun x y => decide (x ≤ y)) = l.mergeSort (fun x y => decide (x ≤ y)) := mergeSort_of_perm_i (kA l)
 rw [← h, List.mergeSort_of_pairwise]
 exact (sB l).imp fun h => decide_eq_true h
section
variable {P : Program} {N : FN} {F : Fm} {Γ : Gh} {L : List Rowb} {σ : Env} {o : Oper} {Q : Exit → Env → World → Prop} {rest : List Oper} {ops : Array Oper} {κ α : Type} [DecidableEq κ] {k t e : TypeId} {K : KeyT P k κ} {V : Tv α} {row : Rowb} {g : Nat} {es : List (κ × α)}
end
end Fw
end Go.Proofs.YtogmioecalmalaaGreat
