/- The types of this program: where fields lie, what slices hold, when structs are one. No condition. -/
import Derived.Test.YtlbdlkgboliikaaD
import Derived.Test.YtlbdlkgboliikaaRows
namespace Go.Proofs.Ytlbdlkgboliikaa
namespace Fw
set_option linter.unusedVariables false
set_option linter.unusedSimpArgs false
set_option linter.unusedSectionVars false
open Go.RowKit
theorem elem_22 : ElemOf Try.prog 22 3 intT := ⟨Try.underlying22, Try.t3, by kernel_rfl, by kernel_rfl, by kernel_rfl, by decide⟩
theorem elem_35 : ElemOf Try.prog 35 43 dfirthlaw16_ReplyT := ⟨Try.underlying35, Try.t43, by kernel_rfl, by kernel_rfl, by kernel_rfl, by decide⟩
theorem elem_40 : ElemOf Try.prog 40 58 verT := ⟨Try.underlying40, Try.t58, by kernel_rfl, by kernel_rfl, by kernel_rfl, by decide⟩
theorem elem_41 : ElemOf Try.prog 41 89 recT := ⟨Try.underlying41, Try.t89, by kernel_rfl, by kernel_rfl, by kernel_rfl, by decide⟩
theorem fld_43_0 : FieldAt Try.prog 43 0 0 := ⟨_, _, _, Try.underlying43, rfl, rfl, Try.sizeOf3⟩
theorem fld_43_1 : FieldAt Try.prog 43 1 1 := ⟨_, _, _, Try.underlying43, rfl, rfl, Try.sizeOf40⟩
theorem fld_43_2 : FieldAt Try.prog 43 2 2 := ⟨_, _, _, Try.underlying43, rfl, rfl, Try.sizeOf41⟩
theorem fld_52_0 : FieldAt Try.prog 52 0 0 := ⟨_, _, _, Try.underlying52, rfl, rfl, Try.sizeOf3⟩
theorem fld_52_1 : FieldAt Try.prog 52 1 1 := ⟨_, _, _, Try.underlying52, rfl, rfl, Try.sizeOf3⟩
theorem fld_52_2 : FieldAt Try.prog 52 2 2 := ⟨_, _, _, Try.underlying52, rfl, rfl, Try.sizeOf3⟩
theorem fld_52_3 : FieldAt Try.prog 52 3 3 := ⟨_, _, _, Try.underlying52, rfl, rfl, Try.sizeOf22⟩
theorem fld_52_4 : FieldAt Try.prog 52 4 4 := ⟨_, _, _, Try.underlying52, rfl, rfl, Try.sizeOf22⟩
theorem elem_53 : ElemOf Try.prog 53 40 (slT verT) := ⟨Try.underlying53, Try.t40, by kernel_rfl, by kernel_rfl, by kernel_rfl, by decide⟩
theorem fld_55_0 : FieldAt Try.prog 55 0 0 := ⟨_, _, _, Try.underlying55, rfl, rfl, Try.sizeOf3⟩
theorem fld_55_1 : FieldAt Try.prog 55 1 1 := ⟨_, _, _, Try.underlying55, rfl, rfl, Try.sizeOf2⟩
theorem elem_56 : ElemOf Try.prog 56 106 spanT := ⟨Try.underlying56, Try.t106, by kernel_rfl, by kernel_rfl, by kernel_rfl, by decide⟩
theorem fld_58_0 : FieldAt Try.prog 58 0 0 := ⟨_, _, _, Try.underlying58, rfl, rfl, Try.sizeOf55⟩
theorem fld_58_1 : FieldAt Try.prog 58 1 2 := ⟨_, _, _, Try.underlying58, rfl, rfl, Try.sizeOf56⟩
theorem fld_58_2 : FieldAt Try.prog 58 2 3 := ⟨_, _, _, Try.underlying58, rfl, rfl, Try.sizeOf4⟩
theorem fld_58_3 : FieldAt Try.prog 58 3 4 := ⟨_, _, _, Try.underlying58, rfl, rfl, Try.sizeOf9⟩
theorem fld_68_0 : FieldAt Try.prog 68 0 0 := ⟨_, _, _, Try.underlying68, rfl, rfl, Try.sizeOf22⟩
theorem fld_68_1 : FieldAt Try.prog 68 1 1 := ⟨_, _, _, Try.underlying68, rfl, rfl, Try.sizeOf3⟩
theorem fld_68_2 : FieldAt Try.prog 68 2 2 := ⟨_, _, _, Try.underlying68, rfl, rfl, Try.sizeOf66⟩
theorem fld_72_0 : FieldAt Try.prog 72 0 0 := ⟨_, _, _, Try.underlying72, rfl, rfl, Try.sizeOf68⟩
theorem elem_73 : ElemOf Try.prog 73 4 boolT := ⟨Try.underlying73, Try.t4, by kernel_rfl, by kernel_rfl, by kernel_rfl, by decide⟩
theorem elem_74 : ElemOf Try.prog 74 41 (slT recT) := ⟨Try.underlying74, Try.t41, by kernel_rfl, by kernel_rfl, by kernel_rfl, by decide⟩
theorem fld_76_0 : FieldAt Try.prog 76 0 0 := ⟨_, _, _, Try.underlying76, rfl, rfl, Try.sizeOf22⟩
theorem fld_76_1 : FieldAt Try.prog 76 1 1 := ⟨_, _, _, Try.underlying76, rfl, rfl, Try.sizeOf3⟩
theorem fld_76_2 : FieldAt Try.prog 76 2 2 := ⟨_, _, _, Try.underlying76, rfl, rfl, Try.sizeOf73⟩
theorem fld_76_3 : FieldAt Try.prog 76 3 3 := ⟨_, _, _, Try.underlying76, rfl, rfl, Try.sizeOf53⟩
theorem fld_76_4 : FieldAt Try.prog 76 4 4 := ⟨_, _, _, Try.underlying76, rfl, rfl, Try.sizeOf74⟩
theorem fld_81_0 : FieldAt Try.prog 81 0 0 := ⟨_, _, _, Try.underlying81, rfl, rfl, Try.sizeOf22⟩
theorem fld_81_1 : FieldAt Try.prog 81 1 1 := ⟨_, _, _, Try.underlying81, rfl, rfl, Try.sizeOf3⟩
theorem fld_81_2 : FieldAt Try.prog 81 2 2 := ⟨_, _, _, Try.underlying81, rfl, rfl, Try.sizeOf79⟩
theorem fld_85_0 : FieldAt Try.prog 85 0 0 := ⟨_, _, _, Try.underlying85, rfl, rfl, Try.sizeOf81⟩
theorem fld_89_0 : FieldAt Try.prog 89 0 0 := ⟨_, _, _, Try.underlying89, rfl, rfl, Try.sizeOf9⟩
theorem fld_89_1 : FieldAt Try.prog 89 1 1 := ⟨_, _, _, Try.underlying89, rfl, rfl, Try.sizeOf40⟩
theorem fld_106_0 : FieldAt Try.prog 106 0 0 := ⟨_, _, _, Try.underlying106, rfl, rfl, Try.sizeOf3⟩
theorem fld_106_1 : FieldAt Try.prog 106 1 1 := ⟨_, _, _, Try.underlying106, rfl, rfl, Try.sizeOf2⟩
theorem fld_106_2 : FieldAt Try.prog 106 2 2 := ⟨_, _, _, Try.underlying106, rfl, rfl, Try.sizeOf2⟩
theorem Dot.beq_ (a b : Dot) : (a == b) = ((a.s == b.s) && (a.n == b.n)) := by
  rw [Bool.eq_iff_iff]; simp only [beq_iff_eq, Bool.and_eq_true]; cases a; cases b; simp [Dot.mk.injEq, and_assoc]
theorem q_eql_Dot {C : World → Prop} {σ : Env} {o : Oper} {x y : Operand} {ty : TypeId} {a b : Dot} (ho : o.op = .binOp .eql 55 x y ty) (hx : ev σ x = .agg #[.int .i64 a.s, .int .i64 a.n]) (hy : ev σ y = .agg #[.int .i64 b.s, .int .i64 b.n]) : QV Try.prog C σ o (.bool (a == b)) :=
  fun w _ => by
    have h1 : (eqGuard .eql 55 x y (.agg #[.int .i64 a.s, .int .i64 a.n]) (.agg #[.int .i64 b.s, .int .i64 b.n])).run Try.prog w = .ok () w := run_eqGuard_agg w .eql 55 x y _ _ Try.eqGuardType55
    have h2 : (Op.equalIn 10000 55 (.agg #[.int .i64 a.s, .int .i64 a.n]) (.agg #[.int .i64 b.s, .int .i64 b.n])).run Try.prog w = .ok (a == b) w := by
      rw [run_equalIn_agg w 9999 55 _ _ (by kernel_rfl) Try.stoodInHeld55, Dot.beq_]
      simp [Program.fieldsOf, Try.underlying55, Op.eqFields, part, Try.isAgg2, Try.underlying2, Try.isAgg3, Try.underlying3, run_equalIn_int, Sem.run_bind, Sem.run_pure]
      clear hx hy h1; by_cases e0 : a.s = b.s <;> by_cases e1 : a.n = b.n <;> simp [e0, e1]
    simp only [execOp, ho, hx, hy, Sem.run_bind, h1, Result.andThen_ok, run_eql_struct, h2, Sem.run_pure]
theorem q_neq_Dot {C : World → Prop} {σ : Env} {o : Oper} {x y : Operand} {ty : TypeId} {a b : Dot} (ho : o.op = .binOp .neq 55 x y ty) (hx : ev σ x = .agg #[.int .i64 a.s, .int .i64 a.n]) (hy : ev σ y = .agg #[.int .i64 b.s, .int .i64 b.n]) : QV Try.prog C σ o (.bool (a != b)) :=
  fun w _ => by
    have h1 : (eqGuard .neq 55 x y (.agg #[.int .i64 a.s, .int .i64 a.n]) (.agg #[.int .i64 b.s, .int .i64 b.n])).run Try.prog w = .ok () w := run_eqGuard_agg w .neq 55 x y _ _ Try.eqGuardType55
    have h2 : (Op.equalIn 10000 55 (.agg #[.int .i64 a.s, .int .i64 a.n]) (.agg #[.int .i64 b.s, .int .i64 b.n])).run Try.prog w = .ok (a == b) w := by
      rw [run_equalIn_agg w 9999 55 _ _ (by kernel_rfl) Try.stoodInHeld55, Dot.beq_]
      simp [Program.fieldsOf, Try.underlying55, Op.eqFields, part, Try.isAgg2, Try.underlying2, Try.isAgg3, Try.underlying3, run_equalIn_int, Sem.run_bind, Sem.run_pure]
      clear hx hy h1; by_cases e0 : a.s = b.s <;> by_cases e1 : a.n = b.n <;> simp [e0, e1]
    simp only [execOp, ho, hx, hy, Sem.run_bind, h1, Result.andThen_ok, run_neq_struct, h2, Sem.run_pure]; rfl
theorem Span.beq_ (a b : Span) : (a == b) = ((a.s == b.s) && (a.f == b.f) && (a.t == b.t)) := by
  rw [Bool.eq_iff_iff]; simp only [beq_iff_eq, Bool.and_eq_true]; cases a; cases b; simp [Span.mk.injEq, and_assoc]
theorem q_eql_Span {C : World → Prop} {σ : Env} {o : Oper} {x y : Operand} {ty : TypeId} {a b : Span} (ho : o.op = .binOp .eql 106 x y ty) (hx : ev σ x = .agg #[.int .i64 a.s, .int .i64 a.f, .int .i64 a.t]) (hy : ev σ y = .agg #[.int .i64 b.s, .int .i64 b.f, .int .i64 b.t]) : QV Try.prog C σ o (.bool (a == b)) :=
  fun w _ => by
    have h1 : (eqGuard .eql 106 x y (.agg #[.int .i64 a.s, .int .i64 a.f, .int .i64 a.t]) (.agg #[.int .i64 b.s, .int .i64 b.f, .int .i64 b.t])).run Try.prog w = .ok () w := run_eqGuard_agg w .eql 106 x y _ _ Try.eqGuardType106
    have h2 : (Op.equalIn 10000 106 (.agg #[.int .i64 a.s, .int .i64 a.f, .int .i64 a.t]) (.agg #[.int .i64 b.s, .int .i64 b.f, .int .i64 b.t])).run Try.prog w = .ok (a == b) w := by
      rw [run_equalIn_agg w 9999 106 _ _ (by kernel_rfl) Try.stoodInHeld106, Span.beq_]
      simp [Program.fieldsOf, Try.underlying106, Op.eqFields, part, Try.isAgg2, Try.underlying2, Try.isAgg3, Try.underlying3, run_equalIn_int, Sem.run_bind, Sem.run_pure]
      clear hx hy h1; by_cases e0 : a.s = b.s <;> by_cases e1 : a.f = b.f <;> by_cases e2 : a.t = b.t <;> simp [e0, e1, e2]
    simp only [execOp, ho, hx, hy, Sem.run_bind, h1, Result.andThen_ok, run_eql_struct, h2, Sem.run_pure]
theorem q_neq_Span {C : World → Prop} {σ : Env} {o : Oper} {x y : Operand} {ty : TypeId} {a b : Span} (ho : o.op = .binOp .neq 106 x y ty) (hx : ev σ x = .agg #[.int .i64 a.s, .int .i64 a.f, .int .i64 a.t]) (hy : ev σ y = .agg #[.int .i64 b.s, .int .i64 b.f, .int .i64 b.t]) : QV Try.prog C σ o (.bool (a != b)) :=
  fun w _ => by
    have h1 : (eqGuard .neq 106 x y (.agg #[.int .i64 a.s, .int .i64 a.f, .int .i64 a.t]) (.agg #[.int .i64 b.s, .int .i64 b.f, .int .i64 b.t])).run Try.prog w = .ok () w := run_eqGuard_agg w .neq 106 x y _ _ Try.eqGuardType106
    have h2 : (Op.equalIn 10000 106 (.agg #[.int .i64 a.s, .int .i64 a.f, .int .i64 a.t]) (.agg #[.int .i64 b.s, .int .i64 b.f, .int .i64 b.t])).run Try.prog w = .ok (a == b) w := by
      rw [run_equalIn_agg w 9999 106 _ _ (by kernel_rfl) Try.stoodInHeld106, Span.beq_]
      simp [Program.fieldsOf, Try.underlying106, Op.eqFields, part, Try.isAgg2, Try.underlying2, Try.isAgg3, Try.underlying3, run_equalIn_int, Sem.run_bind, Sem.run_pure]
      clear hx hy h1; by_cases e0 : a.s = b.s <;> by_cases e1 : a.f = b.f <;> by_cases e2 : a.t = b.t <;> simp [e0, e1, e2]
    simp only [execOp, ho, hx, hy, Sem.run_bind, h1, Result.andThen_ok, run_neq_struct, h2, Sem.run_pure]; rfl
end Fw
end Go.Proofs.Ytlbdlkgboliikaa
