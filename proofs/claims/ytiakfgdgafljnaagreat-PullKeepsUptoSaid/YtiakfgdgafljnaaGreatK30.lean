/- Lists of ours whose elements are lent as yet, and are made ours one by one. No condition. -/
import Derived.Test.YtiakfgdgafljnaaGreatK29
namespace Go.Proofs.YtiakfgdgafljnaaGreat
namespace Fw
set_option linter.unusedVariables false
set_option linter.unusedSimpArgs false
set_option linter.unusedSectionVars false
open Go.RowKit

section
variable {α : Type} [Inhabited α] {T : Ty α} {Γ Δ B : Gh} {A : Option Addr} {e : TypeId} {row : Rowb} {c : Nat} {xs : List α}
/-- what is read by a ghost that stays -/
def atT (T : Ty α) (B : Gh) : Ty α where
  n := T.n
  pos := T.pos
  rd := fun _ cs x => T.rd B cs x
  len := fun h => T.len h
  one := fun h => T.one h
  mono := fun h _ => h
theorem Sl.atB (h : Sl T B A xs) : Sl (atT T B) B A xs := ⟨h.le, h.get⟩
theorem Own.toat (h : Own T B e row A c xs) : Own (atT T B) Γ e row A c xs := ⟨h.le, h.is⟩
theorem Own.unat (h : Own (atT T B) Γ e row A c xs) : Own T B e row A c xs := ⟨h.le, h.is⟩
/-- what is lent, or ours -/
def mixT (T : Ty α) (B : Gh) : Ty (Bool × α) where
  n := T.n
  pos := T.pos
  rd := fun Γ cs p => T.rd (bif p.1 then Γ else B) cs p.2
  len := fun h => T.len h
  one := fun h => T.one h
  mono := fun {Γ Δ cs p} h hs => by
    obtain ⟨b, x⟩ := p
    cases b with
    | false => exact h
    | true => exact T.mono h hs
theorem Own.conv {β : Type} [Inhabited β] {T' : Ty β} {ys : List β} (hn : T'.n = T.n) (hl : ys.length = xs.length) (hc : ∀ i cs, i < xs.length → T.rd Γ cs (gt xs i) → T'.rd Γ cs (gt ys i)) (h : Own T Γ e row A c xs) : Own T' Γ e row A c ys := by
  refine ⟨by rw [hl]; exact h.le, ?_⟩
  rcases h.is with ⟨h1, rfl, h2, h3⟩ | ⟨g, cur, css, h1, h2, h3, h4, h5, h6, h7, h8⟩
  · exact .inl ⟨h1, List.eq_nil_of_length_eq_zero (by rw [hl]; rfl), h2, h3⟩
  · exact .inr ⟨g, cur, css, h1, h2, by rw [hl]; exact h3, h4, by rw [hn]; exact h5, by rw [hl]; exact h6, by rw [hl, hn]; exact h7, fun i hi => hc i _ (by omega) (h8 i hi)⟩
/-- the first i are ours -/
def tg (i : Nat) (xs : List α) : List (Bool × α) := xs.mapIdx fun k x => (decide (k < i), x)
theorem tg_len (i : Nat) (xs : List α) : (tg i xs).length = xs.length := by simp [tg]
theorem gt_tg {i k : Nat} (hk : k < xs.length) : gt (tg i xs) k = (decide (k < i), gt xs k) := by
  rw [gt_eq (by rw [tg_len]; exact hk), gt_eq hk]; simp [tg]
theorem tg_set {i : Nat} {y : α} (hi : i < xs.length) : (tg i xs).set i (true, y) = tg (i + 1) (xs.set i y) := by
  apply List.ext_getElem
  · simp [tg]
  · intro k h1 h2
    have hk : k < xs.length := by simpa [tg] using h2
    simp only [tg, List.getElem_set, List.getElem_mapIdx]
    by_cases he : i = k
    · subst he; simp
    · rw [if_neg he, if_neg he]
      congr 1
      by_cases h3 : k < i
      · rw [decide_eq_true h3, decide_eq_true (by omega)]
      · rw [decide_eq_false h3, decide_eq_false (by omega)]
theorem Own.mix0 (h : Own (atT T B) Γ e row A c xs) : Own (mixT T B) Γ e row A c (tg 0 xs) := h.conv (by rfl) (tg_len 0 xs) fun i cs hi h => by
  rw [gt_tg hi]; exact h
theorem Own.mix_end {i : Nat} (h : Own (mixT T B) Γ e row A c (tg i xs)) (hi : xs.length ≤ i) : Own T Γ e row A c xs := h.conv (by rfl) (tg_len i xs).symm fun k cs hk h => by
  rw [tg_len] at hk
  rw [gt_tg hk, decide_eq_true (show k < i by omega)] at h
  exact h
theorem Own.mix_at {i : Nat} (h : Own (mixT T B) Γ e row A c (tg i xs)) (hi : i < xs.length) : ∃ cs, T.rd B cs (gt xs i) ∧ OCells row A (i * T.n) cs := by
  obtain ⟨cs, h1, h2⟩ := h.get (i := i) (by rw [tg_len]; exact hi)
  rw [gt_tg hi, decide_eq_false (Nat.lt_irrefl i)] at h1
  exact ⟨cs, h1, h2⟩
theorem Own.mix_some {i k : Nat} (h : Own (mixT T B) Γ e row A c (tg i xs)) (hk : k < xs.length) : A.isSome = true := h.some_ (k := k) (by rw [tg_len]; exact hk)
theorem Own.mix_le {i : Nat} (h : Own (mixT T B) Γ e row A c (tg i xs)) : xs.length ≤ lim := by have := h.le; rwa [tg_len] at this
theorem Own.mix_set {i : Nat} {y : α} (h : Own (mixT T B) Γ e row A c ((tg i xs).set i (true, y))) (hi : i < xs.length) : Own (mixT T B) Γ e row A c (tg (i + 1) (xs.set i y)) := by rw [tg_set hi] at h; exact h
end
/-- values that are read by a ghost that stays -/
def atV {α : Type} (V : Tv α) (B : Gh) : Tv α := ⟨fun _ v x => V.rv B v x, fun h _ => h⟩
section
variable {κ α : Type} [DecidableEq κ] {P : Program} {k : TypeId} {K : KeyT P k κ} {V : Tv α} {B Γ : Gh} {row : Rowb} {g : Nat} {es : List (κ × α)}
theorem mrd_at : ∀ {ps : List (κ × Value)} {es : List (κ × α)}, mrd V B ps es → mrd (atV V B) Γ ps es
  | [], [], _ => trivial
  | [], _ :: _, h => h.elim
  | _ :: _, [], h => h.elim
  | _ :: _, _ :: _, ⟨h1, h2, h3⟩ => ⟨h1, h2, mrd_at h3⟩
theorem MapE.atV (h : MapE K V B row g es) : MapE K (atV V B) Γ row g es := by
  obtain ⟨arr, clock, ps, h1, h2, h3⟩ := h.is
  exact ⟨⟨arr, clock, ps, h1, h2, mrd_at h3⟩, h.st, h.ks⟩
theorem MapO.atV (h : MapO K V B row g es) : MapO K (atV V B) Γ row g es := let ⟨es', h1, h2⟩ := h; ⟨es', h1, h2.atV⟩
end
theorem ElemOf.at {P : Program} {t e : TypeId} {α : Type} {T : Ty α} (h : ElemOf P t e T) (B : Gh) : ElemOf P t e (atT T B) := ⟨h.sl, h.ex⟩
end Fw
end Go.Proofs.YtiakfgdgafljnaaGreat
