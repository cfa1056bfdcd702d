/- The types of this program: where fields lie, what slices hold, when structs are one. No condition. -/
import Derived.Test.YtbidmceookkapaaGreatD
import Derived.Test.YtbidmceookkapaaGreatRows
import Derived.ChangeKeysEq
namespace Go.Proofs.YtbidmceookkapaaGreat
namespace Fw
set_option linter.unusedVariables false
set_option linter.unusedSimpArgs false
set_option linter.unusedSectionVars false
open Go.RowKit
theorem elem_22 : ElemOf Tryz.prog 22 51 recT := ⟨Tryz.underlying22, Tryz.t51, by kernel_rfl, by kernel_rfl, by kernel_rfl, by decide⟩
theorem elem_23 : ElemOf Tryz.prog 23 3 intT := ⟨Tryz.underlying23, Tryz.t3, by kernel_rfl, by kernel_rfl, by kernel_rfl, by decide⟩
theorem elem_24 : ElemOf Tryz.prog 24 67 u64T := ⟨Tryz.underlying24, Tryz.t67, by kernel_rfl, by kernel_rfl, by kernel_rfl, by decide⟩
theorem elem_32 : ElemOf Tryz.prog 32 42 dmend_StepT := ⟨Tryz.underlying32, Tryz.t42, by kernel_rfl, by kernel_rfl, by kernel_rfl, by decide⟩
theorem elem_34 : ElemOf Tryz.prog 34 75 dfirthref14_StepT := ⟨Tryz.underlying34, Tryz.t75, by kernel_rfl, by kernel_rfl, by kernel_rfl, by decide⟩
theorem fld_42_0 : FieldAt Tryz.prog 42 0 0 := ⟨_, _, _, Tryz.underlying42, rfl, rfl, Tryz.sizeOf23⟩
theorem fld_42_1 : FieldAt Tryz.prog 42 1 1 := ⟨_, _, _, Tryz.underlying42, rfl, rfl, Tryz.sizeOf24⟩
theorem fld_42_2 : FieldAt Tryz.prog 42 2 2 := ⟨_, _, _, Tryz.underlying42, rfl, rfl, Tryz.sizeOf22⟩
theorem elem_48 : ElemOf Tryz.prog 48 57 verT := ⟨Tryz.underlying48, Tryz.t57, by kernel_rfl, by kernel_rfl, by kernel_rfl, by decide⟩
theorem fld_51_0 : FieldAt Tryz.prog 51 0 0 := ⟨_, _, _, Tryz.underlying51, rfl, rfl, Tryz.sizeOf9⟩
theorem fld_51_1 : FieldAt Tryz.prog 51 1 1 := ⟨_, _, _, Tryz.underlying51, rfl, rfl, Tryz.sizeOf48⟩
theorem fld_54_0 : FieldAt Tryz.prog 54 0 0 := ⟨_, _, _, Tryz.underlying54, rfl, rfl, Tryz.sizeOf3⟩
theorem fld_54_1 : FieldAt Tryz.prog 54 1 1 := ⟨_, _, _, Tryz.underlying54, rfl, rfl, Tryz.sizeOf2⟩
theorem elem_55 : ElemOf Tryz.prog 55 59 spanT := ⟨Tryz.underlying55, Tryz.t59, by kernel_rfl, by kernel_rfl, by kernel_rfl, by decide⟩
theorem fld_57_0 : FieldAt Tryz.prog 57 0 0 := ⟨_, _, _, Tryz.underlying57, rfl, rfl, Tryz.sizeOf54⟩
theorem fld_57_1 : FieldAt Tryz.prog 57 1 2 := ⟨_, _, _, Tryz.underlying57, rfl, rfl, Tryz.sizeOf55⟩
theorem fld_57_2 : FieldAt Tryz.prog 57 2 3 := ⟨_, _, _, Tryz.underlying57, rfl, rfl, Tryz.sizeOf4⟩
theorem fld_57_3 : FieldAt Tryz.prog 57 3 4 := ⟨_, _, _, Tryz.underlying57, rfl, rfl, Tryz.sizeOf9⟩
theorem fld_59_0 : FieldAt Tryz.prog 59 0 0 := ⟨_, _, _, Tryz.underlying59, rfl, rfl, Tryz.sizeOf3⟩
theorem fld_59_1 : FieldAt Tryz.prog 59 1 1 := ⟨_, _, _, Tryz.underlying59, rfl, rfl, Tryz.sizeOf2⟩
theorem fld_59_2 : FieldAt Tryz.prog 59 2 2 := ⟨_, _, _, Tryz.underlying59, rfl, rfl, Tryz.sizeOf2⟩
theorem fld_75_0 : FieldAt Tryz.prog 75 0 0 := ⟨_, _, _, Tryz.underlying75, rfl, rfl, Tryz.sizeOf23⟩
theorem fld_75_1 : FieldAt Tryz.prog 75 1 1 := ⟨_, _, _, Tryz.underlying75, rfl, rfl, Tryz.sizeOf24⟩
theorem fld_75_2 : FieldAt Tryz.prog 75 2 2 := ⟨_, _, _, Tryz.underlying75, rfl, rfl, Tryz.sizeOf22⟩
theorem elem_89 : ElemOf Tryz.prog 89 9 strT := ⟨Tryz.underlying89, Tryz.t9, by kernel_rfl, by kernel_rfl, by kernel_rfl, by decide⟩
theorem elem_97 : ElemOf Tryz.prog 97 5 byteT := ⟨Tryz.underlying97, Tryz.t5, by kernel_rfl, by kernel_rfl, by kernel_rfl, by decide⟩
theorem fld_105_0 : FieldAt Tryz.prog 105 0 0 := ⟨_, _, _, Tryz.underlying105, rfl, rfl, Tryz.sizeOf103⟩
theorem fld_105_1 : FieldAt Tryz.prog 105 1 256 := ⟨_, _, _, Tryz.underlying105, rfl, rfl, Tryz.sizeOf100⟩
theorem fld_134_1 : FieldAt Tryz.prog 134 1 0 := ⟨_, _, _, Tryz.underlying134, rfl, rfl, Tryz.sizeOf132⟩
theorem fld_138_1 : FieldAt Tryz.prog 138 1 0 := ⟨_, _, _, Tryz.underlying138, rfl, rfl, Tryz.sizeOf136⟩
theorem fld_140_1 : FieldAt Tryz.prog 140 1 0 := ⟨_, _, _, Tryz.underlying140, rfl, rfl, Tryz.sizeOf134⟩
theorem fld_140_2 : FieldAt Tryz.prog 140 2 1 := ⟨_, _, _, Tryz.underlying140, rfl, rfl, Tryz.sizeOf138⟩
theorem fld_142_0 : FieldAt Tryz.prog 142 0 0 := ⟨_, _, _, Tryz.underlying142, rfl, rfl, Tryz.sizeOf140⟩
theorem fld_142_1 : FieldAt Tryz.prog 142 1 3 := ⟨_, _, _, Tryz.underlying142, rfl, rfl, Tryz.sizeOf67⟩
theorem Dot.beq_ (a b : Dot) : (a == b) = ((a.s == b.s) && (a.n == b.n)) := by
  rw [Bool.eq_iff_iff]; simp only [beq_iff_eq, Bool.and_eq_true]; cases a; cases b; simp [Dot.mk.injEq, and_assoc]
theorem q_eql_Dot {C : World → Prop} {σ : Env} {o : Oper} {x y : Operand} {ty : TypeId} {a b : Dot} (ho : o.op = .binOp .eql 54 x y ty) (hx : ev σ x = .agg #[.int .i64 a.s, .int .i64 a.n]) (hy : ev σ y = .agg #[.int .i64 b.s, .int .i64 b.n]) : QV Tryz.prog C σ o (.bool (a == b)) :=
  fun w _ => by
    have h1 : (eqGuard .eql 54 x y (.agg #[.int .i64 a.s, .int .i64 a.n]) (.agg #[.int .i64 b.s, .int .i64 b.n])).run Tryz.prog w = .ok () w := run_eqGuard_agg w .eql 54 x y _ _ Tryz.eqGuardType54
    have h2 : (Op.equalIn 10000 54 (.agg #[.int .i64 a.s, .int .i64 a.n]) (.agg #[.int .i64 b.s, .int .i64 b.n])).run Tryz.prog w = .ok (a == b) w := by
      rw [run_equalIn_agg w 9999 54 _ _ (by kernel_rfl) Tryz.stoodInHeld54, Dot.beq_]
      simp [Program.fieldsOf, Tryz.underlying54, Op.eqFields, part, Tryz.isAgg2, Tryz.underlying2, Tryz.isAgg3, Tryz.underlying3, run_equalIn_int, Sem.run_bind, Sem.run_pure]
      clear hx hy h1; by_cases e0 : a.s = b.s <;> by_cases e1 : a.n = b.n <;> simp [e0, e1]
    simp only [execOp, ho, hx, hy, Sem.run_bind, h1, Result.andThen_ok, run_eql_struct, h2, Sem.run_pure]
theorem q_neq_Dot {C : World → Prop} {σ : Env} {o : Oper} {x y : Operand} {ty : TypeId} {a b : Dot} (ho : o.op = .binOp .neq 54 x y ty) (hx : ev σ x = .agg #[.int .i64 a.s, .int .i64 a.n]) (hy : ev σ y = .agg #[.int .i64 b.s, .int .i64 b.n]) : QV Tryz.prog C σ o (.bool (a != b)) :=
  fun w _ => by
    have h1 : (eqGuard .neq 54 x y (.agg #[.int .i64 a.s, .int .i64 a.n]) (.agg #[.int .i64 b.s, .int .i64 b.n])).run Tryz.prog w = .ok () w := run_eqGuard_agg w .neq 54 x y _ _ Tryz.eqGuardType54
    have h2 : (Op.equalIn 10000 54 (.agg #[.int .i64 a.s, .int .i64 a.n]) (.agg #[.int .i64 b.s, .int .i64 b.n])).run Tryz.prog w = .ok (a == b) w := by
      rw [run_equalIn_agg w 9999 54 _ _ (by kernel_rfl) Tryz.stoodInHeld54, Dot.beq_]
      simp [Program.fieldsOf, Tryz.underlying54, Op.eqFields, part, Tryz.isAgg2, Tryz.underlying2, Tryz.isAgg3, Tryz.underlying3, run_equalIn_int, Sem.run_bind, Sem.run_pure]
      clear hx hy h1; by_cases e0 : a.s = b.s <;> by_cases e1 : a.n = b.n <;> simp [e0, e1]
    simp only [execOp, ho, hx, hy, Sem.run_bind, h1, Result.andThen_ok, run_neq_struct, h2, Sem.run_pure]; rfl
theorem Span.beq_ (a b : Span) : (a == b) = ((a.s == b.s) && (a.f == b.f) && (a.t == b.t)) := by
  rw [Bool.eq_iff_iff]; simp only [beq_iff_eq, Bool.and_eq_true]; cases a; cases b; simp [Span.mk.injEq, and_assoc]
theorem q_eql_Span {C : World → Prop} {σ : Env} {o : Oper} {x y : Operand} {ty : TypeId} {a b : Span} (ho : o.op = .binOp .eql 59 x y ty) (hx : ev σ x = .agg #[.int .i64 a.s, .int .i64 a.f, .int .i64 a.t]) (hy : ev σ y = .agg #[.int .i64 b.s, .int .i64 b.f, .int .i64 b.t]) : QV Tryz.prog C σ o (.bool (a == b)) :=
  fun w _ => by
    have h1 : (eqGuard .eql 59 x y (.agg #[.int .i64 a.s, .int .i64 a.f, .int .i64 a.t]) (.agg #[.int .i64 b.s, .int .i64 b.f, .int .i64 b.t])).run Tryz.prog w = .ok () w := run_eqGuard_agg w .eql 59 x y _ _ Tryz.eqGuardType59
    have h2 : (Op.equalIn 10000 59 (.agg #[.int .i64 a.s, .int .i64 a.f, .int .i64 a.t]) (.agg #[.int .i64 b.s, .int .i64 b.f, .int .i64 b.t])).run Tryz.prog w = .ok (a == b) w := by
      rw [run_equalIn_agg w 9999 59 _ _ (by kernel_rfl) Tryz.stoodInHeld59, Span.beq_]
      simp [Program.fieldsOf, Tryz.underlying59, Op.eqFields, part, Tryz.isAgg2, Tryz.underlying2, Tryz.isAgg3, Tryz.underlying3, run_equalIn_int, Sem.run_bind, Sem.run_pure]
      clear hx hy h1; by_cases e0 : a.s = b.s <;> by_cases e1 : a.f = b.f <;> by_cases e2 : a.t = b.t <;> simp [e0, e1, e2]
    simp only [execOp, ho, hx, hy, Sem.run_bind, h1, Result.andThen_ok, run_eql_struct, h2, Sem.run_pure]
theorem q_neq_Span {C : World → Prop} {σ : Env} {o : Oper} {x y : Operand} {ty : TypeId} {a b : Span} (ho : o.op = .binOp .neq 59 x y ty) (hx : ev σ x = .agg #[.int .i64 a.s, .int .i64 a.f, .int .i64 a.t]) (hy : ev σ y = .agg #[.int .i64 b.s, .int .i64 b.f, .int .i64 b.t]) : QV Tryz.prog C σ o (.bool (a != b)) :=
  fun w _ => by
    have h1 : (eqGuard .neq 59 x y (.agg #[.int .i64 a.s, .int .i64 a.f, .int .i64 a.t]) (.agg #[.int .i64 b.s, .int .i64 b.f, .int .i64 b.t])).run Tryz.prog w = .ok () w := run_eqGuard_agg w .neq 59 x y _ _ Tryz.eqGuardType59
    have h2 : (Op.equalIn 10000 59 (.agg #[.int .i64 a.s, .int .i64 a.f, .int .i64 a.t]) (.agg #[.int .i64 b.s, .int .i64 b.f, .int .i64 b.t])).run Tryz.prog w = .ok (a == b) w := by
      rw [run_equalIn_agg w 9999 59 _ _ (by kernel_rfl) Tryz.stoodInHeld59, Span.beq_]
      simp [Program.fieldsOf, Tryz.underlying59, Op.eqFields, part, Tryz.isAgg2, Tryz.underlying2, Tryz.isAgg3, Tryz.underlying3, run_equalIn_int, Sem.run_bind, Sem.run_pure]
      clear hx hy h1; by_cases e0 : a.s = b.s <;> by_cases e1 : a.f = b.f <;> by_cases e2 : a.t = b.t <;> simp [e0, e1, e2]
    simp only [execOp, ho, hx, hy, Sem.run_bind, h1, Result.andThen_ok, run_neq_struct, h2, Sem.run_pure]; rfl
def kv107 (x : Int × Int × Int) : Value := .agg #[.int .i64 x.1, .int .i64 x.2.1, .int .i64 x.2.2]
theorem keq107 (w : World) (x y : Int × Int × Int) : (Op.equal 107 (kv107 x) (kv107 y)).run Tryz.prog w = .ok (decide (x = y)) w := by
  obtain ⟨x0, x1, x2⟩ := x; obtain ⟨y0, y1, y2⟩ := y
  show (Op.equalIn (9999 + 1) 107 (.agg #[.int .i64 x0, .int .i64 x1, .int .i64 x2]) (.agg #[.int .i64 y0, .int .i64 y1, .int .i64 y2])).run _ _ = _
  rw [run_equalIn_array (i := Tryz.t3) w 9999 _ _ Tryz.underlying107 (by kernel_rfl), show Tryz.prog.cellsOf 3 = 1 from by kernel_rfl, show List.range 3 = [0, 1, 2] from rfl]
  have hx0 : (x0 == y0) = decide (x0 = y0) := rfl
  have hx1 : (x1 == y1) = decide (x1 = y1) := rfl
  have hx2 : (x2 == y2) = decide (x2 = y2) := rfl
  simp only [Op.eqItems, part, Tryz.isAgg3, Sem.run_bind, Result.andThen_ok, Sem.run_pure]
  cases ex0 : decide (x0 = y0) <;> cases ex1 : decide (x1 = y1) <;> cases ex2 : decide (x2 = y2) <;> simp_all [run_equalIn_int, Tryz.underlying3, Sem.run_pure, Sem.run_bind]
def kk107 : KeyT Tryz.prog 107 (Int × Int × Int) := KeyT.of_eq Tryz.underlying107 kv107 (fun _ _ => rfl) keq107 (fun w em x => by kernel_rfl) (fun w x => by simp [kv107, Instr.keyThatStays, Instr.sameBits, Sem.run_pure]) (by rintro ⟨x0, x1, x2⟩ ⟨y0, y1, y2⟩ h; simpa [kv107] using h) (fun x => I64 x.1 ∧ I64 x.2.1 ∧ I64 x.2.2)
end Fw
end Go.Proofs.YtbidmceookkapaaGreat
