/- Maps whose values are lent as yet, as they were, or ours. No condition. -/
import Derived.Test.YtlgahohnbkkoiaaK30
import Derived.Test.YtlgahohnbkkoiaaK15
namespace Go.Proofs.Ytlgahohnbkkoiaa
namespace Fw
set_option linter.unusedVariables false
set_option linter.unusedSimpArgs false
set_option linter.unusedSectionVars false
open Go.RowKit

/-- each value with its key -/
def kt {κ α : Type} (es : List (κ × α)) : List (κ × (κ × α)) := es.map fun e => (e.1, e)
theorem kt_len {κ α : Type} (es : List (κ × α)) : (kt es).length = es.length := by simp [kt]
theorem kt_skeys {α : Type} (es : List (ByteArray × α)) : skeys (kt es) = skeys es := by unfold skeys kt; rw [List.map_map]; rfl
section
variable {κ α : Type} [DecidableEq κ] {P : Program} {k : TypeId} {K : KeyT P k κ} {V : Tv α} {B Γ : Gh} {row : Rowb} {g : Nat}
theorem kt_mget (x : κ) : ∀ es : List (κ × α), mget x (kt es) = (mget x es).map (fun a => (x, a))
  | [] => rfl
  | p :: ps => by
    have ih := kt_mget x ps
    have h1 : mget x (kt (p :: ps)) = if x = p.1 then some p else mget x (kt ps) := rfl
    have h2 : mget x (p :: ps) = if x = p.1 then some p.2 else mget x ps := rfl
    rw [h1, h2]
    by_cases h : x = p.1
    · rw [if_pos h, if_pos h, h]; rfl
    · rw [if_neg h, if_neg h]; exact ih
theorem kt_mput (x : κ) (a : α) : ∀ es : List (κ × α), mput x (x, a) (kt es) = kt (mput x a es)
  | [] => rfl
  | p :: ps => by
    have ih := kt_mput x a ps
    have h1 : mput x (x, a) (kt (p :: ps)) = if x = p.1 then (x, (x, a)) :: kt ps else (p.1, p) :: mput x (x, a) (kt ps) := rfl
    have h2 : mput x a (p :: ps) = if x = p.1 then (x, a) :: ps else p :: mput x a ps := rfl
    rw [h1, h2]
    by_cases h : x = p.1
    · rw [if_pos h, if_pos h]; rfl
    · rw [if_neg h, if_neg h, ih]; rfl
/-- lent, and as it is in W; or ours -/
def mixV (V : Tv α) (B : Gh) (W : List (κ × α)) : Tv (κ × α) := ⟨fun Γ v p => V.rv Γ v p.2 ∨ (V.rv B v p.2 ∧ mget p.1 W = some p.2), fun h hs => h.imp (fun h => V.mono h hs) id⟩
theorem mrd_mix {W : List (κ × α)} : ∀ {ps : List (κ × Value)} {es : List (κ × α)}, (∀ e ∈ es, mget e.1 W = some e.2) → mrd (atV V B) Γ ps es → mrd (mixV V B W) Γ ps (kt es)
  | [], [], _, _ => trivial
  | [], _ :: _, _, h => h.elim
  | _ :: _, [], _, h => h.elim
  | _ :: _, e :: _, hW, ⟨h1, h2, h3⟩ => ⟨h1, .inr ⟨h2, hW e List.mem_cons_self⟩, mrd_mix (fun e he => hW e (List.mem_cons_of_mem _ he)) h3⟩
theorem MapO.mixv {es : List (κ × α)} (h : MapO K (Fw.atV V B) Γ row g es) : MapO K (mixV V B es) Γ row g (kt es) := by
  have hn := h.nodup
  obtain ⟨es', h1, h2⟩ := h
  refine ⟨kt es', h1.map _, ?_⟩
  obtain ⟨arr, clock, ps, h3, h4, h5⟩ := h2.is
  refine ⟨⟨arr, clock, ps, h3, h4, mrd_mix (fun e he => mget_of_mem hn (h1.mem_iff.1 he)) h5⟩, h2.st, fun p hp => ?_⟩
  obtain ⟨e, he, rfl⟩ := List.mem_map.1 hp
  exact h2.ks e he
theorem mix_look {T : Ty α} [Inhabited α] {W es : List (κ × List α)} (h : MapO K (mixV (slT T).v B W) Γ row g (kt es)) (x : κ) : ∃ v, (∃ A c, [v] = [Value.slice A ((mget x es).getD []).length c] ∧ ((mget x es).getD []).length ≤ c ∧ (Sl T Γ A ((mget x es).getD []) ∨ (Sl T B A ((mget x es).getD []) ∧ mget x W = some ((mget x es).getD [])))) ∧
    MAt K row g x (.slice none 0 0) v (mget x (kt es)).isSome := by
  obtain ⟨v, hv, hat⟩ := MapO.look h x (z := .slice none 0 0) (zx := (x, [])) (.inl ⟨none, 0, rfl, Nat.zero_le _, Sl.nil _ _ _⟩)
  refine ⟨v, ?_, hat⟩
  have he : (mget x (kt es)).getD (x, []) = (x, (mget x es).getD []) := by
    rw [kt_mget]
    cases mget x es <;> rfl
  rw [he] at hv
  rcases hv with ⟨A, c, h1, h2, h3⟩ | ⟨⟨A, c, h1, h2, h3⟩, h4⟩
  · exact ⟨A, c, h1, h2, .inl h3⟩
  · exact ⟨A, c, h1, h2, .inr ⟨h3, h4⟩⟩
theorem mix_put {es : List (κ × α)} {W : List (κ × α)} {x : κ} {a : α} (h : MapO K (mixV V B W) Γ row g (mput x (x, a) (kt es))) : MapO K (mixV V B W) Γ row g (kt (mput x a es)) := by rw [kt_mput] at h; exact h
end
end Fw
end Go.Proofs.Ytlgahohnbkkoiaa
