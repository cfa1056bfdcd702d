/- Results that lie in memory; tests of a slice against nil. No condition. -/
import Derived.Test.YtogmioecalmalaaGreatK9
namespace Go.Proofs.YtogmioecalmalaaGreat
namespace Fw
set_option linter.unusedVariables false
set_option linter.unusedSimpArgs false
set_option linter.unusedSectionVars false
open Go.RowKit
section
variable {P : Program} {N : FN} {C : World → Prop} {Q : Exit → Env → World → Prop} {σ : Env} {o : Oper} {F : Fm} {Γ Δ : Gh} {L : List Rowb} {w : World} {α : Type} [Inhabited α] {T : Ty α}
/-! ### results that lie in memory -/
def resRun (P : Program) (σ : Env) (w : World) : List ResultVar → List Value → Prop
  | [], [] => True
  | .tmp t :: rs, v :: vs => σ t = v ∧ resRun P σ w rs vs
  | .cell a t :: rs, v :: vs => (∃ ad, σ a = .pointer (some ad)) ∧ (Instr.loadAt t (σ a)).run P w = .ok v w ∧ resRun P σ w rs vs
  | _, _ => False
def retW : List Value → Value
  | [v] => v
  | vs => .tuple vs.toArray
theorem run_results_r {fn : Func} {a : Act} (ha : Agr N a σ) {rs : List ResultVar} (hrs : fn.results = rs.toArray) {w : World} {vs : List Value} (h : resRun P σ w rs vs) : (results fn a.tmps).run P w = .ok (retW vs) w := by
  have key : ∀ (F : ResultVar → Sem Value), (∀ t, F (.tmp t) = Pure.pure (a.tmps.getD t undef)) → (∀ c t, F (.cell c t) = (asAddr (a.tmps.getD c undef) >>= fun x => loadVar t x)) →
      ∀ (rs : List ResultVar) (vs : List Value), resRun P σ w rs vs → (List.mapM (m := Sem) F rs).run P w = .ok vs w := by
    intro F hF hG rs
    induction rs with
    | nil => intro vs h; cases vs with | nil => rfl | cons _ _ => exact h.elim
    | cons r rs ih =>
      intro vs h
      cases vs with
      | nil => cases r <;> exact h.elim
      | cons v vs =>
        cases r with
        | tmp t =>
          obtain ⟨h1, h2⟩ := h
          simp only [List.mapM_cons, Sem.run_bind, hF, Sem.run_pure, Result.andThen_ok, ih vs h2, ha.read, h1]
        | cell c t =>
          obtain ⟨⟨ad, h0⟩, h1, h2⟩ := h
          have h3 : (loadVar t ad).run P w = .ok v w := by
            rw [h0] at h1
            simpa [Instr.loadAt, Instr.sureAddr, Sem.run_bind, Sem.run_pure] using h1
          simp only [List.mapM_cons, Sem.run_bind, hG, Sem.run_pure, ha.read, h0, asAddr, Result.andThen_ok, h3, ih vs h2]
  unfold results
  rw [hrs, List.mapM_toArray]
  simp only [Sem.run_bind, Sem.run_map]
  rw [key _ (fun t => rfl) (fun c t => rfl) rs vs h]
  match vs with
  | [] => rfl
  | [v] => rfl
  | t :: u :: l => simp [retW, Sem.run_pure]

/-- the way at a test of a slice against nil: where it is empty, both ways must come to the same -/
def nilc {R : Type} [DecidableEq R] (e : Bool) (x y : Option R) : Option R := bif e then (if x = y then x else none) else y
theorem nilc_t {R : Type} [DecidableEq R] {β : Type} {xs : List β} {x y : Option R} {r : R} (h : nilc xs.isEmpty x y = some r) (he : xs = []) : x = some r := by
  subst he
  simp only [nilc, List.isEmpty_nil, cond_true] at h
  split at h
  · exact h
  · cases h
theorem nilc_f {R : Type} [DecidableEq R] {e : Bool} {x y : Option R} {r : R} (h : nilc e x y = some r) : y = some r := by
  cases e with
  | false => exact h
  | true =>
    simp only [nilc, cond_true] at h
    split at h
    · rename_i he; rw [← he]; exact h
    · cases h
theorem Sl.none_nil {A : Option Addr} {xs : List α} (h : Sl T Γ A xs) (hA : A.isNone = true) : xs = [] := by
  cases xs with
  | nil => rfl
  | cons x l => have := h.some_ (k := 0) (by simp); cases A <;> simp_all
theorem Own.none_nil {e : TypeId} {row : Rowb} {A : Option Addr} {c : Nat} {xs : List α} (h : Own T Γ e row A c xs) (hA : A.isNone = true) : xs = [] := by
  cases xs with
  | nil => rfl
  | cons x l => have := h.some_ (k := 0) (by simp); cases A <;> simp_all
theorem WC.cnil {R : Type} [DecidableEq R] {β : Type} {xs : List β} {c : Operand} {x y : Code} {b : Bool} {mx my : Option R} {r : R} (h : nilc xs.isEmpty mx my = some r) (hc : ev σ c = .bool b) (hn : b = true → xs = []) (ht : b = true → mx = some r → WC P N C x Q σ) (hf : b = false → my = some r → WC P N C y Q σ) : WC P N C (.cond c x y) Q σ :=
  WC.cond hc (fun hb => ht hb (nilc_t h (hn hb))) (fun hb => hf hb (nilc_f h))
/-! ### pointers that may be nil -/
def optp {β : Type} (o : Option β) (g : Nat) : Value := match o with
  | none => .pointer none
  | some _ => .pointer (some ⟨g, 0, none⟩)
def optob {β : Type} (ob : Rowb → β → Prop) (row : Rowb) : Option β → Prop
  | none => row = []
  | some x => ob row x
theorem optp_some {β : Type} {o : Option β} {x : β} {g : Nat} {v : Value} (h : v = optp o g) (hx : o = some x) : v = .pointer (some ⟨g, 0, none⟩) := by subst hx; exact h
theorem optob_some {β : Type} {ob : Rowb → β → Prop} {row : Rowb} {o : Option β} {x : β} (h : optob ob row o) (hx : o = some x) : ob row x := by subst hx; exact h
theorem optob_mono {β : Type} {ob ob' : Rowb → β → Prop} {row : Rowb} {o : Option β} (h : optob ob row o) (hs : ∀ x, ob row x → ob' row x) : optob ob' row o := by
  cases o with
  | none => exact h
  | some x => exact hs x h
theorem q_opt_neq {β : Type} {o' : Option β} {g : Nat} {x y : Operand} {t ty e : TypeId} (ht : P.underlying t = some (.pointer e)) (ho : o.op = .binOp .neq t x y ty) (hx : ev σ x = optp o' g) (hy : ev σ y = .pointer none) : QV P C σ o (.bool (!o'.isNone)) := by
  cases o' with
  | none => exact q_ptr_neq (a := none) ht ho hx hy
  | some b => exact q_ptr_neq (a := some ⟨g, 0, none⟩) ht ho hx hy
theorem q_pick_t {c a b : Operand} {g : Bool} {v : Value} (ho : o.op = .pick c a b) (hc : ev σ c = .bool g) (hg : g = true) (ha : ev σ a = v) : QV P C σ o v := q_pick ho hc (by subst hg; exact ha)
theorem q_pick_f {c a b : Operand} {g : Bool} {v : Value} (ho : o.op = .pick c a b) (hc : ev σ c = .bool g) (hg : g = false) (hb : ev σ b = v) : QV P C σ o v := q_pick ho hc (by subst hg; exact hb)

theorem WH.env {S0 : World → Prop} {ops : Array Oper} {fuel : Nat} {listed : Array Bool} {d : Nat} {v u : Value} (h : u = v) (k : WH P N ops S0 C Q fuel listed (upd σ d v)) : WH P N ops S0 C Q fuel listed (upd σ d u) := by subst h; exact k
end
end Fw
end Go.Proofs.YtogmioecalmalaaGreat
