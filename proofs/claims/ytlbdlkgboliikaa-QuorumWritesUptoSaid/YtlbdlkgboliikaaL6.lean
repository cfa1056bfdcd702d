/- More laws of operations for the engine: max, min, texts, cuts. No condition. -/
import Derived.Test.YtlbdlkgboliikaaL5
import Derived.Laws.StructEq
namespace Go.Proofs.Ytlbdlkgboliikaa
namespace Fw
set_option linter.unusedVariables false
set_option linter.unusedSimpArgs false
open Go.RowKit

section
variable {P : Program} {C : World → Prop} {σ : Env} {o : Oper} {α : Type} {T : Ty α}

theorem q_max {x y : Operand} {tys : Array TypeId} {k : IntKind} {a b : Int} (ho : o.op = .call { callee := .builtin .max, args := #[x, y], argTypes := tys }) (hx : ev σ x = .int k a) (hy : ev σ y = .int k b) : QV P C σ o (.int k (max a b)) :=
  fun w _ => by
    have : (if a < b then b else a) = max a b := by omega
    simp [execOp, ho, hx, hy, resolve, invoke, builtin, Builtin.max_, Builtin.max2, this, Sem.run_pure, Sem.run_bind]
theorem q_min {x y : Operand} {tys : Array TypeId} {k : IntKind} {a b : Int} (ho : o.op = .call { callee := .builtin .min, args := #[x, y], argTypes := tys }) (hx : ev σ x = .int k a) (hy : ev σ y = .int k b) : QV P C σ o (.int k (min a b)) :=
  fun w _ => by
    have : (if b < a then b else a) = min a b := by omega
    simp [execOp, ho, hx, hy, resolve, invoke, builtin, Builtin.min_, Builtin.min2, this, Sem.run_pure, Sem.run_bind]

theorem q_seql {x y : Operand} {t ty : TypeId} {a b : ByteArray} (ho : o.op = .binOp .eql t x y ty) (hx : ev σ x = .string a) (hy : ev σ y = .string b) : QV P C σ o (.bool (a == b)) :=
  fun w _ => by simp [execOp, ho, hx, hy, eqGuard, binOp, Op.stringOp, beq_toListBytes, Sem.run_pure, Sem.run_bind]
theorem q_sneq {x y : Operand} {t ty : TypeId} {a b : ByteArray} (ho : o.op = .binOp .neq t x y ty) (hx : ev σ x = .string a) (hy : ev σ y = .string b) : QV P C σ o (.bool (a != b)) :=
  fun w _ => by simp [execOp, ho, hx, hy, eqGuard, binOp, Op.stringOp, bne, beq_toListBytes, Sem.run_pure, Sem.run_bind]
theorem q_beql {x y : Operand} {t ty : TypeId} {a b : Bool} (ht : P.underlying t = some .bool) (ho : o.op = .binOp .eql t x y ty) (hx : ev σ x = .bool a) (hy : ev σ y = .bool b) : QV P C σ o (.bool (a == b)) :=
  fun w _ => by
    have h1 : eqGuard .eql t x y (.bool a) (.bool b) = pure () := rfl
    have h2 : binOp .eql t (.bool a) (.bool b) = (Op.equal t (.bool a) (.bool b) >>= fun r => pure (.bool r)) := rfl
    have h3 : (Op.equal t (.bool a) (.bool b)).run P w = .ok (a == b) w := run_equalIn_bool' w 9999 t a b ht
    simp only [execOp, ho, hx, hy, h1, h2, Sem.run_bind, Sem.run_pure, Result.andThen_ok, h3]
theorem q_bneq {x y : Operand} {t ty : TypeId} {a b : Bool} (ht : P.underlying t = some .bool) (ho : o.op = .binOp .neq t x y ty) (hx : ev σ x = .bool a) (hy : ev σ y = .bool b) : QV P C σ o (.bool (a != b)) :=
  fun w _ => by
    have h1 : eqGuard .neq t x y (.bool a) (.bool b) = pure () := rfl
    have h2 : binOp .neq t (.bool a) (.bool b) = (Op.equal t (.bool a) (.bool b) >>= fun r => pure (.bool !r)) := rfl
    have h3 : (Op.equal t (.bool a) (.bool b)).run P w = .ok (a == b) w := run_equalIn_bool' w 9999 t a b ht
    simp only [execOp, ho, hx, hy, h1, h2, Sem.run_bind, Sem.run_pure, Result.andThen_ok, h3]
    rfl

/-- x[lo:] -/
theorem q_cut_from {x l : Operand} {t e : TypeId} {A : Option Addr} {c lo sz : Nat} {k : IntKind} {xs : List α} (ht : P.underlying t = some (.slice e)) (hsz : ∀ w, (sizeOf e).run P w = .ok sz w) (ho : o.op = .slice t x (some l) none none)
    (hx : ev σ x = .slice A xs.length c) (hl : ev σ l = .int k (lo : Int)) (h1 : lo ≤ xs.length) : QV P C σ o (.slice (if c = lo then A else A.map (·.add (lo * sz))) (xs.drop lo).length (c - lo)) :=
  fun w _ => by
    simp only [execOp, ho, hx, Instr.sliceAt, Instr.slice, Sem.run_bind, run_underlying ht, Result.andThen_ok, Option.map_some, Option.map_none, hl, List.length_drop]
    have : (0 : Int) ≤ (lo : Int) ∧ (lo : Int) ≤ (xs.length : Int) := ⟨by omega, by omega⟩
    simp [Instr.sliceBounds, Instr.sliceBound, asIntOf, this, hsz, h1, Sem.run_pure, Sem.run_bind]
/-- x[:hi] -/
theorem q_cut_to {x h : Operand} {t e : TypeId} {A : Option Addr} {c hi sz : Nat} {k : IntKind} {xs : List α} (ht : P.underlying t = some (.slice e)) (hsz : ∀ w, (sizeOf e).run P w = .ok sz w) (ho : o.op = .slice t x none (some h) none)
    (hx : ev σ x = .slice A xs.length c) (hl : ev σ h = .int k (hi : Int)) (h1 : hi ≤ xs.length) (h2 : xs.length ≤ c) : QV P C σ o (.slice A (xs.take hi).length c) :=
  fun w _ => by
    have e0 : (if c = 0 then A else A.map (·.add 0)) = A := by
      split
      · rfl
      · cases A <;> simp [Addr.add]
    have e1 : min hi xs.length = hi := by omega
    have h3 : hi ≤ c := by omega
    simp [execOp, ho, hx, hl, Instr.sliceAt, Instr.slice, Instr.sliceBounds, Instr.sliceBound, asIntOf, hsz, h3, e0, e1, run_underlying ht, Sem.run_pure, Sem.run_bind]

theorem Sl.cut_from [Inhabited α] {X : Nat → Prop} {w : World} {A : Option Addr} {c lo : Nat} {xs : List α} (h : Sl T X w A xs) (h1 : lo ≤ xs.length) (h2 : xs.length ≤ c) : Sl T X w (if c = lo then A else A.map (·.add (lo * T.n))) (xs.drop lo) := by
  have := h.cut (lo := lo) (hi := xs.length) (cap := c) h1 (Nat.le_refl _) h2
  rwa [List.take_length] at this
theorem Sl.cut_to [Inhabited α] {X : Nat → Prop} {w : World} {A : Option Addr} {hi : Nat} {xs : List α} (h : Sl T X w A xs) (h1 : hi ≤ xs.length) : Sl T X w A (xs.take hi) := by
  have hle := h.le
  refine ⟨by simp; omega, fun i hi' => ?_⟩
  have hi'' : i < hi ∧ i < xs.length := by simpa [Nat.lt_min] using hi'
  obtain ⟨cs, g1, g2⟩ := h.get i hi''.2
  refine ⟨cs, ?_, g2⟩
  rw [gt_eq hi']
  rw [gt_eq hi''.2] at g1
  simpa using g1
end
end Fw
end Go.Proofs.Ytlbdlkgboliikaa
