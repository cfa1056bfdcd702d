/- Results that lie in memory; tests of a slice against nil. No condition. -/
import Derived.Test.YtogcoieekhbfdaaK9
namespace Go.Proofs.Ytogcoieekhbfdaa
namespace Fw
set_option linter.unusedVariables false
set_option linter.unusedSimpArgs false
set_option linter.unusedSectionVars false
open Go.RowKit
section
variable {P : Program} {N : FN} {C : World → Prop} {Q : Exit → Env → World → Prop} {σ : Env} {o : Oper} {F : Fm} {Γ Δ : Gh} {L : List Rowb} {w : World} {α : Type} [Inhabited α] {T : Ty α}
/-- the way at a test of a slice against nil: where it is empty, both ways must come to the same -/
def nilc {R : Type} [DecidableEq R] (e : Bool) (x y : Option R) : Option R := bif e then (if x = y then x else none) else y
theorem nilc_t {R : Type} [DecidableEq R] {β : Type} {xs : List β} {x y : Option R} {r : R} (h : nilc xs.isEmpty x y = some r) (he : xs = []) : x = some r := by
  subst he
  simp only [nilc, List.isEmpty_nil, cond_true] at h
  split at h
  · exact h
  · cases h
theorem nilc_f {R : Type} [DecidableEq R] {e : Bool} {x y : Option R} {r : R} (h : nilc e x y = some r) : y = some r := by
  cases e with
  | false => exact h
  | true =>
    simp only [nilc, cond_true] at h
    split at h
    · rename_i he; rw [← he]; exact h
    · cases h
theorem Sl.none_nil {A : Option Addr} {xs : List α} (h : Sl T Γ A xs) (hA : A.isNone = true) : xs = [] := by
  cases xs with
  | nil => rfl
  | cons x l => have := h.some_ (k := 0) (by simp); cases A <;> simp_all
theorem Own.none_nil {e : TypeId} {row : Rowb} {A : Option Addr} {c : Nat} {xs : List α} (h : Own T Γ e row A c xs) (hA : A.isNone = true) : xs = [] := by
  cases xs with
  | nil => rfl
  | cons x l => have := h.some_ (k := 0) (by simp); cases A <;> simp_all
theorem WC.cnil {R : Type} [DecidableEq R] {β : Type} {xs : List β} {c : Operand} {x y : Code} {b : Bool} {mx my : Option R} {r : R} (h : nilc xs.isEmpty mx my = some r) (hc : ev σ c = .bool b) (hn : b = true → xs = []) (ht : b = true → mx = some r → WC P N C x Q σ) (hf : b = false → my = some r → WC P N C y Q σ) : WC P N C (.cond c x y) Q σ :=
  WC.cond hc (fun hb => ht hb (nilc_t h (hn hb))) (fun hb => hf hb (nilc_f h))
/-! ### pointers that may be nil -/
def optp {β : Type} (o : Option β) (g : Nat) : Value := match o with
  | none => .pointer none
  | some _ => .pointer (some ⟨g, 0, none⟩)
def optob {β : Type} (ob : Rowb → β → Prop) (row : Rowb) : Option β → Prop
  | none => row = []
  | some x => ob row x
theorem optp_some {β : Type} {o : Option β} {x : β} {g : Nat} {v : Value} (h : v = optp o g) (hx : o = some x) : v = .pointer (some ⟨g, 0, none⟩) := by subst hx; exact h
theorem optob_some {β : Type} {ob : Rowb → β → Prop} {row : Rowb} {o : Option β} {x : β} (h : optob ob row o) (hx : o = some x) : ob row x := by subst hx; exact h
theorem optob_mono {β : Type} {ob ob' : Rowb → β → Prop} {row : Rowb} {o : Option β} (h : optob ob row o) (hs : ∀ x, ob row x → ob' row x) : optob ob' row o := by
  cases o with
  | none => exact h
  | some x => exact hs x h
theorem q_opt_eql {β : Type} {o' : Option β} {g : Nat} {x y : Operand} {t ty e : TypeId} (ht : P.underlying t = some (.pointer e)) (ho : o.op = .binOp .eql t x y ty) (hx : ev σ x = optp o' g) (hy : ev σ y = .pointer none) : QV P C σ o (.bool o'.isNone) := by
  cases o' with
  | none => exact q_ptr_eql (a := none) ht ho hx hy
  | some b => exact q_ptr_eql (a := some ⟨g, 0, none⟩) ht ho hx hy
theorem q_pick_t {c a b : Operand} {g : Bool} {v : Value} (ho : o.op = .pick c a b) (hc : ev σ c = .bool g) (hg : g = true) (ha : ev σ a = v) : QV P C σ o v := q_pick ho hc (by subst hg; exact ha)
theorem q_pick_f {c a b : Operand} {g : Bool} {v : Value} (ho : o.op = .pick c a b) (hc : ev σ c = .bool g) (hg : g = false) (hb : ev σ b = v) : QV P C σ o v := q_pick ho hc (by subst hg; exact hb)

/-- all that the walk knows of an object that is open -/
theorem Cur.raU {row : Rowb} (is : List Nat) (h : Cur F Γ L w) (hi : okp is L.length = true) (hr : row = (pkU is L).flatten) : ∀ p ∈ row, Gh.all w p.1 = some p.2 := by
  subst hr
  intro p hp
  obtain ⟨r, hr, hp⟩ := List.mem_flatten.1 hp
  exact (h.only hi).loc r hr p hp

end
end Fw
end Go.Proofs.Ytogcoieekhbfdaa
