/- The types of this program: where fields lie, what slices hold, when structs are one. No condition. -/
import Derived.Test.YtdhenoidmialaaaD
import Derived.Test.YtdhenoidmialaaaRows
namespace Go.Proofs.Ytdhenoidmialaaa
namespace Fw
set_option linter.unusedVariables false
set_option linter.unusedSimpArgs false
set_option linter.unusedSectionVars false
open Go.RowKit
theorem elem_22 : ElemOf Try.prog 22 3 intT := ⟨Try.underlying22, Try.t3, by kernel_rfl, by kernel_rfl, by kernel_rfl, by decide⟩
theorem elem_32 : ElemOf Try.prog 32 35 dring_MoveT := ⟨Try.underlying32, Try.t35, by kernel_rfl, by kernel_rfl, by kernel_rfl, by decide⟩
theorem fld_35_0 : FieldAt Try.prog 35 0 0 := ⟨_, _, _, Try.underlying35, rfl, rfl, Try.sizeOf3⟩
theorem fld_35_1 : FieldAt Try.prog 35 1 1 := ⟨_, _, _, Try.underlying35, rfl, rfl, Try.sizeOf22⟩
theorem fld_35_2 : FieldAt Try.prog 35 2 2 := ⟨_, _, _, Try.underlying35, rfl, rfl, Try.sizeOf22⟩
theorem elem_41 : ElemOf Try.prog 41 5 byteT := ⟨Try.underlying41, Try.t5, by kernel_rfl, by kernel_rfl, by kernel_rfl, by decide⟩
theorem elem_43 : ElemOf Try.prog 43 45 dring_pointT := ⟨Try.underlying43, Try.t45, by kernel_rfl, by kernel_rfl, by kernel_rfl, by decide⟩
theorem fld_45_0 : FieldAt Try.prog 45 0 0 := ⟨_, _, _, Try.underlying45, rfl, rfl, Try.sizeOf39⟩
theorem fld_45_1 : FieldAt Try.prog 45 1 1 := ⟨_, _, _, Try.underlying45, rfl, rfl, Try.sizeOf3⟩
theorem elem_56 : ElemOf Try.prog 56 4 boolT := ⟨Try.underlying56, Try.t4, by kernel_rfl, by kernel_rfl, by kernel_rfl, by decide⟩
theorem Dring_point.beq_ (a b : Dring_point) : (a == b) = ((a.at_ == b.at_) && (a.node == b.node)) := by
  rw [Bool.eq_iff_iff]; simp only [beq_iff_eq, Bool.and_eq_true]; cases a; cases b; simp [Dring_point.mk.injEq, and_assoc]
theorem q_eql_Dring_point {C : World → Prop} {σ : Env} {o : Oper} {x y : Operand} {ty : TypeId} {a b : Dring_point} (ho : o.op = .binOp .eql 45 x y ty) (hx : ev σ x = .agg #[.int .u64 a.at_, .int .i64 a.node]) (hy : ev σ y = .agg #[.int .u64 b.at_, .int .i64 b.node]) : QV Try.prog C σ o (.bool (a == b)) :=
  fun w _ => by
    have h1 : (eqGuard .eql 45 x y (.agg #[.int .u64 a.at_, .int .i64 a.node]) (.agg #[.int .u64 b.at_, .int .i64 b.node])).run Try.prog w = .ok () w := run_eqGuard_agg w .eql 45 x y _ _ Try.eqGuardType45
    have h2 : (Op.equalIn 10000 45 (.agg #[.int .u64 a.at_, .int .i64 a.node]) (.agg #[.int .u64 b.at_, .int .i64 b.node])).run Try.prog w = .ok (a == b) w := by
      rw [run_equalIn_agg w 9999 45 _ _ (by kernel_rfl) Try.stoodInHeld45, Dring_point.beq_]
      simp [Program.fieldsOf, Try.underlying45, Op.eqFields, part, Try.isAgg3, Try.underlying3, Try.isAgg39, Try.underlying39, run_equalIn_int, Sem.run_bind, Sem.run_pure]
      clear hx hy h1; by_cases e0 : a.at_ = b.at_ <;> by_cases e1 : a.node = b.node <;> simp [e0, e1]
    simp only [execOp, ho, hx, hy, Sem.run_bind, h1, Result.andThen_ok, run_eql_struct, h2, Sem.run_pure]
theorem q_neq_Dring_point {C : World → Prop} {σ : Env} {o : Oper} {x y : Operand} {ty : TypeId} {a b : Dring_point} (ho : o.op = .binOp .neq 45 x y ty) (hx : ev σ x = .agg #[.int .u64 a.at_, .int .i64 a.node]) (hy : ev σ y = .agg #[.int .u64 b.at_, .int .i64 b.node]) : QV Try.prog C σ o (.bool (a != b)) :=
  fun w _ => by
    have h1 : (eqGuard .neq 45 x y (.agg #[.int .u64 a.at_, .int .i64 a.node]) (.agg #[.int .u64 b.at_, .int .i64 b.node])).run Try.prog w = .ok () w := run_eqGuard_agg w .neq 45 x y _ _ Try.eqGuardType45
    have h2 : (Op.equalIn 10000 45 (.agg #[.int .u64 a.at_, .int .i64 a.node]) (.agg #[.int .u64 b.at_, .int .i64 b.node])).run Try.prog w = .ok (a == b) w := by
      rw [run_equalIn_agg w 9999 45 _ _ (by kernel_rfl) Try.stoodInHeld45, Dring_point.beq_]
      simp [Program.fieldsOf, Try.underlying45, Op.eqFields, part, Try.isAgg3, Try.underlying3, Try.isAgg39, Try.underlying39, run_equalIn_int, Sem.run_bind, Sem.run_pure]
      clear hx hy h1; by_cases e0 : a.at_ = b.at_ <;> by_cases e1 : a.node = b.node <;> simp [e0, e1]
    simp only [execOp, ho, hx, hy, Sem.run_bind, h1, Result.andThen_ok, run_neq_struct, h2, Sem.run_pure]; rfl
end Fw
end Go.Proofs.Ytdhenoidmialaaa
