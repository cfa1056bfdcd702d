/- The types of this program: where fields lie, what slices hold, when structs are one. No condition. -/
import Derived.Test.YtlgahohnbkkoiaaD
import Derived.Test.YtlgahohnbkkoiaaRows
import Derived.ChangeKeysEq
namespace Go.Proofs.Ytlgahohnbkkoiaa
namespace Fw
set_option linter.unusedVariables false
set_option linter.unusedSimpArgs false
set_option linter.unusedSectionVars false
open Go.RowKit
theorem elem_22 : ElemOf Try.prog 22 3 intT := ⟨Try.underlying22, Try.t3, by kernel_rfl, by kernel_rfl, by kernel_rfl, by decide⟩
theorem elem_35 : ElemOf Try.prog 35 43 dfirthlaw16_ReplyT := ⟨Try.underlying35, Try.t43, by kernel_rfl, by kernel_rfl, by kernel_rfl, by decide⟩
theorem elem_40 : ElemOf Try.prog 40 58 verT := ⟨Try.underlying40, Try.t58, by kernel_rfl, by kernel_rfl, by kernel_rfl, by decide⟩
theorem elem_41 : ElemOf Try.prog 41 74 recT := ⟨Try.underlying41, Try.t74, by kernel_rfl, by kernel_rfl, by kernel_rfl, by decide⟩
theorem fld_43_0 : FieldAt Try.prog 43 0 0 := ⟨_, _, _, Try.underlying43, rfl, rfl, Try.sizeOf3⟩
theorem fld_43_1 : FieldAt Try.prog 43 1 1 := ⟨_, _, _, Try.underlying43, rfl, rfl, Try.sizeOf40⟩
theorem fld_43_2 : FieldAt Try.prog 43 2 2 := ⟨_, _, _, Try.underlying43, rfl, rfl, Try.sizeOf41⟩
theorem fld_52_0 : FieldAt Try.prog 52 0 0 := ⟨_, _, _, Try.underlying52, rfl, rfl, Try.sizeOf3⟩
theorem fld_52_1 : FieldAt Try.prog 52 1 1 := ⟨_, _, _, Try.underlying52, rfl, rfl, Try.sizeOf3⟩
theorem fld_52_2 : FieldAt Try.prog 52 2 2 := ⟨_, _, _, Try.underlying52, rfl, rfl, Try.sizeOf3⟩
theorem fld_52_3 : FieldAt Try.prog 52 3 3 := ⟨_, _, _, Try.underlying52, rfl, rfl, Try.sizeOf22⟩
theorem fld_52_4 : FieldAt Try.prog 52 4 4 := ⟨_, _, _, Try.underlying52, rfl, rfl, Try.sizeOf22⟩
theorem elem_53 : ElemOf Try.prog 53 40 (slT verT) := ⟨Try.underlying53, Try.t40, by kernel_rfl, by kernel_rfl, by kernel_rfl, by decide⟩
theorem fld_55_0 : FieldAt Try.prog 55 0 0 := ⟨_, _, _, Try.underlying55, rfl, rfl, Try.sizeOf3⟩
theorem fld_55_1 : FieldAt Try.prog 55 1 1 := ⟨_, _, _, Try.underlying55, rfl, rfl, Try.sizeOf2⟩
theorem elem_56 : ElemOf Try.prog 56 71 spanT := ⟨Try.underlying56, Try.t71, by kernel_rfl, by kernel_rfl, by kernel_rfl, by decide⟩
theorem fld_58_0 : FieldAt Try.prog 58 0 0 := ⟨_, _, _, Try.underlying58, rfl, rfl, Try.sizeOf55⟩
theorem fld_58_1 : FieldAt Try.prog 58 1 2 := ⟨_, _, _, Try.underlying58, rfl, rfl, Try.sizeOf56⟩
theorem fld_58_2 : FieldAt Try.prog 58 2 3 := ⟨_, _, _, Try.underlying58, rfl, rfl, Try.sizeOf4⟩
theorem fld_58_3 : FieldAt Try.prog 58 3 4 := ⟨_, _, _, Try.underlying58, rfl, rfl, Try.sizeOf9⟩
theorem fld_71_0 : FieldAt Try.prog 71 0 0 := ⟨_, _, _, Try.underlying71, rfl, rfl, Try.sizeOf3⟩
theorem fld_71_1 : FieldAt Try.prog 71 1 1 := ⟨_, _, _, Try.underlying71, rfl, rfl, Try.sizeOf2⟩
theorem fld_71_2 : FieldAt Try.prog 71 2 2 := ⟨_, _, _, Try.underlying71, rfl, rfl, Try.sizeOf2⟩
theorem fld_74_0 : FieldAt Try.prog 74 0 0 := ⟨_, _, _, Try.underlying74, rfl, rfl, Try.sizeOf9⟩
theorem fld_74_1 : FieldAt Try.prog 74 1 1 := ⟨_, _, _, Try.underlying74, rfl, rfl, Try.sizeOf40⟩
theorem fld_81_0 : FieldAt Try.prog 81 0 0 := ⟨_, _, _, Try.underlying81, rfl, rfl, Try.sizeOf22⟩
theorem fld_81_1 : FieldAt Try.prog 81 1 1 := ⟨_, _, _, Try.underlying81, rfl, rfl, Try.sizeOf3⟩
theorem fld_81_2 : FieldAt Try.prog 81 2 2 := ⟨_, _, _, Try.underlying81, rfl, rfl, Try.sizeOf79⟩
theorem fld_85_0 : FieldAt Try.prog 85 0 0 := ⟨_, _, _, Try.underlying85, rfl, rfl, Try.sizeOf81⟩
theorem elem_86 : ElemOf Try.prog 86 4 boolT := ⟨Try.underlying86, Try.t4, by kernel_rfl, by kernel_rfl, by kernel_rfl, by decide⟩
theorem elem_87 : ElemOf Try.prog 87 41 (slT recT) := ⟨Try.underlying87, Try.t41, by kernel_rfl, by kernel_rfl, by kernel_rfl, by decide⟩
theorem fld_89_0 : FieldAt Try.prog 89 0 0 := ⟨_, _, _, Try.underlying89, rfl, rfl, Try.sizeOf22⟩
theorem fld_89_1 : FieldAt Try.prog 89 1 1 := ⟨_, _, _, Try.underlying89, rfl, rfl, Try.sizeOf3⟩
theorem fld_89_2 : FieldAt Try.prog 89 2 2 := ⟨_, _, _, Try.underlying89, rfl, rfl, Try.sizeOf86⟩
theorem fld_89_3 : FieldAt Try.prog 89 3 3 := ⟨_, _, _, Try.underlying89, rfl, rfl, Try.sizeOf53⟩
theorem fld_89_4 : FieldAt Try.prog 89 4 4 := ⟨_, _, _, Try.underlying89, rfl, rfl, Try.sizeOf87⟩
theorem fld_94_0 : FieldAt Try.prog 94 0 0 := ⟨_, _, _, Try.underlying94, rfl, rfl, Try.sizeOf22⟩
theorem fld_94_1 : FieldAt Try.prog 94 1 1 := ⟨_, _, _, Try.underlying94, rfl, rfl, Try.sizeOf3⟩
theorem fld_94_2 : FieldAt Try.prog 94 2 2 := ⟨_, _, _, Try.underlying94, rfl, rfl, Try.sizeOf92⟩
theorem fld_98_0 : FieldAt Try.prog 98 0 0 := ⟨_, _, _, Try.underlying98, rfl, rfl, Try.sizeOf94⟩
theorem fld_113_0 : FieldAt Try.prog 113 0 0 := ⟨_, _, _, Try.underlying113, rfl, rfl, Try.sizeOf22⟩
theorem fld_113_1 : FieldAt Try.prog 113 1 1 := ⟨_, _, _, Try.underlying113, rfl, rfl, Try.sizeOf3⟩
theorem fld_113_2 : FieldAt Try.prog 113 2 2 := ⟨_, _, _, Try.underlying113, rfl, rfl, Try.sizeOf111⟩
theorem fld_117_0 : FieldAt Try.prog 117 0 0 := ⟨_, _, _, Try.underlying117, rfl, rfl, Try.sizeOf113⟩
theorem elem_137 : ElemOf Try.prog 137 9 strT := ⟨Try.underlying137, Try.t9, by kernel_rfl, by kernel_rfl, by kernel_rfl, by decide⟩
theorem Dot.beq_ (a b : Dot) : (a == b) = ((a.s == b.s) && (a.n == b.n)) := by
  rw [Bool.eq_iff_iff]; simp only [beq_iff_eq, Bool.and_eq_true]; cases a; cases b; simp [Dot.mk.injEq, and_assoc]
theorem q_eql_Dot {C : World → Prop} {σ : Env} {o : Oper} {x y : Operand} {ty : TypeId} {a b : Dot} (ho : o.op = .binOp .eql 55 x y ty) (hx : ev σ x = .agg #[.int .i64 a.s, .int .i64 a.n]) (hy : ev σ y = .agg #[.int .i64 b.s, .int .i64 b.n]) : QV Try.prog C σ o (.bool (a == b)) :=
  fun w _ => by
    have h1 : (eqGuard .eql 55 x y (.agg #[.int .i64 a.s, .int .i64 a.n]) (.agg #[.int .i64 b.s, .int .i64 b.n])).run Try.prog w = .ok () w := run_eqGuard_agg w .eql 55 x y _ _ Try.eqGuardType55
    have h2 : (Op.equalIn 10000 55 (.agg #[.int .i64 a.s, .int .i64 a.n]) (.agg #[.int .i64 b.s, .int .i64 b.n])).run Try.prog w = .ok (a == b) w := by
      rw [run_equalIn_agg w 9999 55 _ _ (by kernel_rfl) Try.stoodInHeld55, Dot.beq_]
      simp [Program.fieldsOf, Try.underlying55, Op.eqFields, part, Try.isAgg2, Try.underlying2, Try.isAgg3, Try.underlying3, run_equalIn_int, Sem.run_bind, Sem.run_pure]
      clear hx hy h1; by_cases e0 : a.s = b.s <;> by_cases e1 : a.n = b.n <;> simp [e0, e1]
    simp only [execOp, ho, hx, hy, Sem.run_bind, h1, Result.andThen_ok, run_eql_struct, h2, Sem.run_pure]
theorem q_neq_Dot {C : World → Prop} {σ : Env} {o : Oper} {x y : Operand} {ty : TypeId} {a b : Dot} (ho : o.op = .binOp .neq 55 x y ty) (hx : ev σ x = .agg #[.int .i64 a.s, .int .i64 a.n]) (hy : ev σ y = .agg #[.int .i64 b.s, .int .i64 b.n]) : QV Try.prog C σ o (.bool (a != b)) :=
  fun w _ => by
    have h1 : (eqGuard .neq 55 x y (.agg #[.int .i64 a.s, .int .i64 a.n]) (.agg #[.int .i64 b.s, .int .i64 b.n])).run Try.prog w = .ok () w := run_eqGuard_agg w .neq 55 x y _ _ Try.eqGuardType55
    have h2 : (Op.equalIn 10000 55 (.agg #[.int .i64 a.s, .int .i64 a.n]) (.agg #[.int .i64 b.s, .int .i64 b.n])).run Try.prog w = .ok (a == b) w := by
      rw [run_equalIn_agg w 9999 55 _ _ (by kernel_rfl) Try.stoodInHeld55, Dot.beq_]
      simp [Program.fieldsOf, Try.underlying55, Op.eqFields, part, Try.isAgg2, Try.underlying2, Try.isAgg3, Try.underlying3, run_equalIn_int, Sem.run_bind, Sem.run_pure]
      clear hx hy h1; by_cases e0 : a.s = b.s <;> by_cases e1 : a.n = b.n <;> simp [e0, e1]
    simp only [execOp, ho, hx, hy, Sem.run_bind, h1, Result.andThen_ok, run_neq_struct, h2, Sem.run_pure]; rfl
theorem Span.beq_ (a b : Span) : (a == b) = ((a.s == b.s) && (a.f == b.f) && (a.t == b.t)) := by
  rw [Bool.eq_iff_iff]; simp only [beq_iff_eq, Bool.and_eq_true]; cases a; cases b; simp [Span.mk.injEq, and_assoc]
theorem q_eql_Span {C : World → Prop} {σ : Env} {o : Oper} {x y : Operand} {ty : TypeId} {a b : Span} (ho : o.op = .binOp .eql 71 x y ty) (hx : ev σ x = .agg #[.int .i64 a.s, .int .i64 a.f, .int .i64 a.t]) (hy : ev σ y = .agg #[.int .i64 b.s, .int .i64 b.f, .int .i64 b.t]) : QV Try.prog C σ o (.bool (a == b)) :=
  fun w _ => by
    have h1 : (eqGuard .eql 71 x y (.agg #[.int .i64 a.s, .int .i64 a.f, .int .i64 a.t]) (.agg #[.int .i64 b.s, .int .i64 b.f, .int .i64 b.t])).run Try.prog w = .ok () w := run_eqGuard_agg w .eql 71 x y _ _ Try.eqGuardType71
    have h2 : (Op.equalIn 10000 71 (.agg #[.int .i64 a.s, .int .i64 a.f, .int .i64 a.t]) (.agg #[.int .i64 b.s, .int .i64 b.f, .int .i64 b.t])).run Try.prog w = .ok (a == b) w := by
      rw [run_equalIn_agg w 9999 71 _ _ (by kernel_rfl) Try.stoodInHeld71, Span.beq_]
      simp [Program.fieldsOf, Try.underlying71, Op.eqFields, part, Try.isAgg2, Try.underlying2, Try.isAgg3, Try.underlying3, run_equalIn_int, Sem.run_bind, Sem.run_pure]
      clear hx hy h1; by_cases e0 : a.s = b.s <;> by_cases e1 : a.f = b.f <;> by_cases e2 : a.t = b.t <;> simp [e0, e1, e2]
    simp only [execOp, ho, hx, hy, Sem.run_bind, h1, Result.andThen_ok, run_eql_struct, h2, Sem.run_pure]
theorem q_neq_Span {C : World → Prop} {σ : Env} {o : Oper} {x y : Operand} {ty : TypeId} {a b : Span} (ho : o.op = .binOp .neq 71 x y ty) (hx : ev σ x = .agg #[.int .i64 a.s, .int .i64 a.f, .int .i64 a.t]) (hy : ev σ y = .agg #[.int .i64 b.s, .int .i64 b.f, .int .i64 b.t]) : QV Try.prog C σ o (.bool (a != b)) :=
  fun w _ => by
    have h1 : (eqGuard .neq 71 x y (.agg #[.int .i64 a.s, .int .i64 a.f, .int .i64 a.t]) (.agg #[.int .i64 b.s, .int .i64 b.f, .int .i64 b.t])).run Try.prog w = .ok () w := run_eqGuard_agg w .neq 71 x y _ _ Try.eqGuardType71
    have h2 : (Op.equalIn 10000 71 (.agg #[.int .i64 a.s, .int .i64 a.f, .int .i64 a.t]) (.agg #[.int .i64 b.s, .int .i64 b.f, .int .i64 b.t])).run Try.prog w = .ok (a == b) w := by
      rw [run_equalIn_agg w 9999 71 _ _ (by kernel_rfl) Try.stoodInHeld71, Span.beq_]
      simp [Program.fieldsOf, Try.underlying71, Op.eqFields, part, Try.isAgg2, Try.underlying2, Try.isAgg3, Try.underlying3, run_equalIn_int, Sem.run_bind, Sem.run_pure]
      clear hx hy h1; by_cases e0 : a.s = b.s <;> by_cases e1 : a.f = b.f <;> by_cases e2 : a.t = b.t <;> simp [e0, e1, e2]
    simp only [execOp, ho, hx, hy, Sem.run_bind, h1, Result.andThen_ok, run_neq_struct, h2, Sem.run_pure]; rfl
end Fw
end Go.Proofs.Ytlgahohnbkkoiaa
