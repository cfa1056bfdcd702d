/- Loops over a map's entries, in whatever order: folds of steps that commute. No condition. -/
import Derived.Test.YtogmioecalmalaaGreatK14
import Derived.Maps.RangeRun
import Derived.Laws.IdiomRangeMap
namespace Go.Proofs.YtogmioecalmalaaGreat
namespace Fw
set_option linter.unusedVariables false
set_option linter.unusedSimpArgs false
set_option linter.unusedSectionVars false
open Go.RowKit Go.MapKept
def fldO {S β : Type} (step : S → β → Option S) : S → List β → Option S
 | s, [] => some s
 | s, e :: l => (step s e).bind fun s' => fldO step s' l
section
variable {κ α : Type} [DecidableEq κ] {P : Program} {k : TypeId}
structure ItO (K : KeyT P k κ) (V : Tv α) (Γ : Gh) (row : Rowb) (g mg : Nat) (mrow : Rowb) (es l : List (κ × α)) : Prop where
 is : ∃ arr clock ps seen es', row = [(g, .mapIter (some mg) clock seen clock)] ∧ mrow = [(mg, .map arr clock)] ∧ arr.toList.map (fun e => (e.key, e.val)) = ps.map (fun p => (K.val p.1, p.2)) ∧ mrd V Γ ps es' ∧ es'.Perm es ∧ Stamped arr clock ∧
  l.Perm (((arr.toList.zip es').filter (fun p => !seen.contains p.1.born)).map (·.2))
theorem ItO.mono {K : KeyT P k κ} {V : Tv α} {Γ Δ : Gh} {row mrow : Rowb} {g mg : Nat} {es l : List (κ × α)} (h : ItO K V Γ row g mg mrow es l) (hs : Γ.le Δ) : ItO K V Δ row g mg mrow es l := by
 obtain ⟨arr, clock, ps, seen, es', h1, h2, h3, h4, h7, h5, h6⟩ := h.is
 exact ⟨⟨arr, clock, ps, seen, es', h1, h2, h3, oT hs h4, h7, h5, h6⟩⟩
end
section
variable {P : Program} {N : FN} {F : Fm} {Γ : Gh} {L : List Rowb} {σ : Env} {o : Oper} {Q : Exit → Env → World → Prop} {rest : List Oper} {ops : Array Oper} {κ α : Type} [DecidableEq κ] {k t e : TypeId} {K : KeyT P k κ} {V : Tv α} {row mrow : Rowb} {g mg : Nat} {es l : List (κ × α)}
end
section
variable {P : Program} {N : FN} {F : Fm} {Γ : Gh} {L : List Rowb} {σ : Env} {o : Oper} {Q : Exit → Env → World → Prop} {rest : List Oper} {ops : Array Oper} {k t e : TypeId}
end
section
variable {P : Program} {N : FN} {C : World → Prop} {σ : Env} {Q : Exit → Env → World → Prop} {S R β : Type}
def Go (step : S → β → Option S) (K : S → Option R) (r : R) (l : List β) (s : S) : Prop := ∃ f, fldO step s l = some f ∧ K f = some r
structure Per (eqv : S → S → Prop) : Prop where
 sym : ∀ {a b}, eqv a b → eqv b a
 trans : ∀ {a b c}, eqv a b → eqv b c → eqv a c
end
end Fw
end Go.Proofs.YtogmioecalmalaaGreat
