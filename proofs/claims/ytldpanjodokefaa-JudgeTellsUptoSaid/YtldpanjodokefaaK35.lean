/- What comes of a map's keys in whatever order; sorting of what may be empty; one argument of yield. No condition. -/
import Derived.Test.YtldpanjodokefaaK34
import Derived.Test.YtldpanjodokefaaK23
import Derived.Test.YtldpanjodokefaaK13
import Derived.Shelf.SlSortCmp.NoneTotal
namespace Go.Proofs.Ytldpanjodokefaa
namespace Fw
set_option linter.unusedVariables false
set_option linter.unusedSimpArgs false
set_option linter.unusedSectionVars false
open Go.RowKit Go.Shelf Go.Sort
open Classical in
/-- what comes of a list in whatever order, where that is one thing -/
noncomputable def anyP {κ R : Type} (g : List κ → Option R) (xs : List κ) : Option R := if h : ∃ r, ∀ ks : List κ, ks.Perm xs → g ks = some r then some h.choose else none
theorem anyP_all {κ R : Type} {g : List κ → Option R} {xs : List κ} {r : R} (h : anyP g xs = some r) : ∀ ks : List κ, ks.Perm xs → g ks = some r := by
  unfold anyP at h
  split at h
  · rename_i hx; injection h with h; rw [← h]; exact hx.choose_spec
  · cases h
theorem anyP_of {κ R : Type} {g : List κ → Option R} {xs : List κ} {r : R} (h : ∀ ks : List κ, ks.Perm xs → g ks = some r) : anyP g xs = some r := by
  unfold anyP
  have hx : ∃ r, ∀ ks : List κ, ks.Perm xs → g ks = some r := ⟨r, h⟩
  rw [dif_pos hx]
  have h1 := hx.choose_spec xs (List.Perm.refl _)
  rw [h xs (List.Perm.refl _)] at h1
  exact h1.symm
/-- a checked sorting of what may be empty -/
def m_sort0 {α : Type} [DecidableEq α] (cmp : α → α → Option Int) (xs : List α) : Option (List α) := bif xs.isEmpty then some [] else m_sort cmp xs
section
variable {P : Program} {ρ : Ren} {α : Type} [Inhabited α] [DecidableEq α] {T : Ty α} {Γ : Gh} {e : TypeId} {row : Rowb} {A : Option Addr} {c : Nat} {xs ys : List α} {w : World} {g : Nat} {cmp : α → α → Option Int}
theorem Eff.same {U : List Rowb} (hp : Pre U Γ w) : Eff Γ Γ U U w w :=
  ⟨Fr.refl _ _, hp.sat, Gh.refl _, fun b o hb => .inl ⟨o, hb⟩, hp.loc, fun r hr p hq => .inl ⟨r, hr, p, hq, rfl⟩, hp.out, hp.nodup⟩
theorem sort_own0 (L : SlLaysF0.n6 P ρ) (aE : ∀ w, (isAgg (ρ.t 24)).run P w = .ok true w) (zE : ∀ w, (Go.sizeOf (ρ.t 24)).run P w = .ok T.n w) (eg : ∀ args w, (callFunc g args).run P w = .ok (.enter g args) w)
    (hc : ∀ {W : World} {x y : α} {cs ds : List Value} {r : Int}, T.rd (Gh.all W) cs x → T.rd (Gh.all W) ds y → cmp x y = some r → Calls P g #[.agg cs.toArray, .agg ds.toArray] W fun e' w' => e' = .returned (.int .i64 r) ∧ Fr no W w')
    (ho : Own T Γ e row A c xs) (hp : Pre [row] Γ w) (hm : m_sort0 cmp xs = some ys) :
    Calls P (ρ.f 6) #[.slice A xs.length c, .func (.func g) #[] #[]] w (Outc Γ [row] w fun U Δ v => v = .tuple #[] ∧ ∃ row', U = [row'] ∧ Own T Δ e row' A c ys) := by
  unfold m_sort0 at hm
  cases xs with
  | nil =>
    injection hm with hm
    subst hm
    refine (AnyF.slices_SortFunc_none L A c (.func (.func g) #[] #[]) w).mono ?_
    rintro e' w' ⟨rfl, rfl⟩
    exact ⟨_, rfl, Γ, [row], Eff.same hp, rfl, row, rfl, ho⟩
  | cons x xs => exact sort_own L aE zE eg hc ho hp hm
end
theorem Agr.par1 {σ : Env} {n p : Nat} {T : Array Value} {a : Value} (h : Agr ⟨n, []⟩ { tmps := T, defers := [] } σ) (hp : Nat.blt p n = true) :
    Agr ⟨n, []⟩ { tmps := ((#[p] : Array Tmp).zip #[a]).foldl (fun tmps (t, a) => tmps.setIfInBounds t a) T, defers := [] } (upd σ p a) := by
  have e : ((#[p] : Array Tmp).zip #[a]).foldl (fun tmps (t, a) => tmps.setIfInBounds t a) T = T.setIfInBounds p a := by simp [← Array.foldl_toList]
  rw [e]
  exact h.put (dst := some p) hp a
end Fw
end Go.Proofs.Ytldpanjodokefaa
