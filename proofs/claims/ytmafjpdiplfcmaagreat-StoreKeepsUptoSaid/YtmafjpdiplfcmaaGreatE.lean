/- The types of this program: where fields lie, what slices hold, when structs are one. No condition. -/
import Derived.Test.YtmafjpdiplfcmaaGreatD
import Derived.Test.YtmafjpdiplfcmaaGreatRows
import Derived.ChangeKeysEq
namespace Go.Proofs.YtmafjpdiplfcmaaGreat
namespace Fw
set_option linter.unusedVariables false
set_option linter.unusedSimpArgs false
set_option linter.unusedSectionVars false
open Go.RowKit
theorem elem_22 : ElemOf Tryz.prog 22 39 verT := ⟨Tryz.underlying22, Tryz.t39, by kernel_rfl, by kernel_rfl, by kernel_rfl, by decide⟩
theorem fld_24_0 : FieldAt Tryz.prog 24 0 0 := ⟨_, _, _, Tryz.underlying24, rfl, rfl, Tryz.sizeOf9⟩
theorem fld_24_1 : FieldAt Tryz.prog 24 1 1 := ⟨_, _, _, Tryz.underlying24, rfl, rfl, Tryz.sizeOf22⟩
theorem fld_36_0 : FieldAt Tryz.prog 36 0 0 := ⟨_, _, _, Tryz.underlying36, rfl, rfl, Tryz.sizeOf3⟩
theorem fld_36_1 : FieldAt Tryz.prog 36 1 1 := ⟨_, _, _, Tryz.underlying36, rfl, rfl, Tryz.sizeOf2⟩
theorem elem_37 : ElemOf Tryz.prog 37 41 spanT := ⟨Tryz.underlying37, Tryz.t41, by kernel_rfl, by kernel_rfl, by kernel_rfl, by decide⟩
theorem fld_39_0 : FieldAt Tryz.prog 39 0 0 := ⟨_, _, _, Tryz.underlying39, rfl, rfl, Tryz.sizeOf36⟩
theorem fld_39_1 : FieldAt Tryz.prog 39 1 2 := ⟨_, _, _, Tryz.underlying39, rfl, rfl, Tryz.sizeOf37⟩
theorem fld_39_2 : FieldAt Tryz.prog 39 2 3 := ⟨_, _, _, Tryz.underlying39, rfl, rfl, Tryz.sizeOf4⟩
theorem fld_39_3 : FieldAt Tryz.prog 39 3 4 := ⟨_, _, _, Tryz.underlying39, rfl, rfl, Tryz.sizeOf9⟩
theorem fld_41_0 : FieldAt Tryz.prog 41 0 0 := ⟨_, _, _, Tryz.underlying41, rfl, rfl, Tryz.sizeOf3⟩
theorem fld_41_1 : FieldAt Tryz.prog 41 1 1 := ⟨_, _, _, Tryz.underlying41, rfl, rfl, Tryz.sizeOf2⟩
theorem fld_41_2 : FieldAt Tryz.prog 41 2 2 := ⟨_, _, _, Tryz.underlying41, rfl, rfl, Tryz.sizeOf2⟩
theorem elem_44 : ElemOf Tryz.prog 44 53 dfirthlaw10_OpT := ⟨Tryz.underlying44, Tryz.t53, by kernel_rfl, by kernel_rfl, by kernel_rfl, by decide⟩
theorem elem_50 : ElemOf Tryz.prog 50 2 intT := ⟨Tryz.underlying50, Tryz.t2, by kernel_rfl, by kernel_rfl, by kernel_rfl, by decide⟩
theorem elem_51 : ElemOf Tryz.prog 51 5 byteT := ⟨Tryz.underlying51, Tryz.t5, by kernel_rfl, by kernel_rfl, by kernel_rfl, by decide⟩
theorem fld_53_0 : FieldAt Tryz.prog 53 0 0 := ⟨_, _, _, Tryz.underlying53, rfl, rfl, Tryz.sizeOf3⟩
theorem fld_53_1 : FieldAt Tryz.prog 53 1 1 := ⟨_, _, _, Tryz.underlying53, rfl, rfl, Tryz.sizeOf24⟩
theorem fld_53_2 : FieldAt Tryz.prog 53 2 3 := ⟨_, _, _, Tryz.underlying53, rfl, rfl, Tryz.sizeOf50⟩
theorem fld_53_3 : FieldAt Tryz.prog 53 3 4 := ⟨_, _, _, Tryz.underlying53, rfl, rfl, Tryz.sizeOf51⟩
theorem fld_53_4 : FieldAt Tryz.prog 53 4 5 := ⟨_, _, _, Tryz.underlying53, rfl, rfl, Tryz.sizeOf3⟩
theorem fld_53_5 : FieldAt Tryz.prog 53 5 6 := ⟨_, _, _, Tryz.underlying53, rfl, rfl, Tryz.sizeOf3⟩
theorem elem_62 : ElemOf Tryz.prog 62 126 dfirthref07_FileT := ⟨Tryz.underlying62, Tryz.t126, by kernel_rfl, by kernel_rfl, by kernel_rfl, by decide⟩
theorem elem_66 : ElemOf Tryz.prog 66 24 recT := ⟨Tryz.underlying66, Tryz.t24, by kernel_rfl, by kernel_rfl, by kernel_rfl, by decide⟩
theorem elem_72 : ElemOf Tryz.prog 72 9 strT := ⟨Tryz.underlying72, Tryz.t9, by kernel_rfl, by kernel_rfl, by kernel_rfl, by decide⟩
theorem elem_78 : ElemOf Tryz.prog 78 115 ddisk_changeT := ⟨Tryz.underlying78, Tryz.t115, by kernel_rfl, by kernel_rfl, by kernel_rfl, by decide⟩
theorem fld_80_0 : FieldAt Tryz.prog 80 0 0 := ⟨_, _, _, Tryz.underlying80, rfl, rfl, Tryz.sizeOf3⟩
theorem fld_80_1 : FieldAt Tryz.prog 80 1 1 := ⟨_, _, _, Tryz.underlying80, rfl, rfl, Tryz.sizeOf77⟩
theorem fld_80_2 : FieldAt Tryz.prog 80 2 2 := ⟨_, _, _, Tryz.underlying80, rfl, rfl, Tryz.sizeOf77⟩
theorem fld_80_3 : FieldAt Tryz.prog 80 3 3 := ⟨_, _, _, Tryz.underlying80, rfl, rfl, Tryz.sizeOf78⟩
theorem elem_82 : ElemOf Tryz.prog 82 51 (slT byteT) := ⟨Tryz.underlying82, Tryz.t51, by kernel_rfl, by kernel_rfl, by kernel_rfl, by decide⟩
theorem fld_86_0 : FieldAt Tryz.prog 86 0 0 := ⟨_, _, _, Tryz.underlying86, rfl, rfl, Tryz.sizeOf81⟩
theorem fld_86_1 : FieldAt Tryz.prog 86 1 1 := ⟨_, _, _, Tryz.underlying86, rfl, rfl, Tryz.sizeOf76⟩
theorem elem_94 : ElemOf Tryz.prog 94 119 dfirthref07_ChangeT := ⟨Tryz.underlying94, Tryz.t119, by kernel_rfl, by kernel_rfl, by kernel_rfl, by decide⟩
theorem fld_96_0 : FieldAt Tryz.prog 96 0 0 := ⟨_, _, _, Tryz.underlying96, rfl, rfl, Tryz.sizeOf3⟩
theorem fld_96_1 : FieldAt Tryz.prog 96 1 1 := ⟨_, _, _, Tryz.underlying96, rfl, rfl, Tryz.sizeOf62⟩
theorem fld_96_2 : FieldAt Tryz.prog 96 2 2 := ⟨_, _, _, Tryz.underlying96, rfl, rfl, Tryz.sizeOf94⟩
theorem fld_101_0 : FieldAt Tryz.prog 101 0 0 := ⟨_, _, _, Tryz.underlying101, rfl, rfl, Tryz.sizeOf97⟩
theorem fld_101_1 : FieldAt Tryz.prog 101 1 1 := ⟨_, _, _, Tryz.underlying101, rfl, rfl, Tryz.sizeOf66⟩
theorem elem_107 : ElemOf Tryz.prog 107 3 intT := ⟨Tryz.underlying107, Tryz.t3, by kernel_rfl, by kernel_rfl, by kernel_rfl, by decide⟩
theorem fld_109_0 : FieldAt Tryz.prog 109 0 0 := ⟨_, _, _, Tryz.underlying109, rfl, rfl, Tryz.sizeOf45⟩
theorem fld_109_1 : FieldAt Tryz.prog 109 1 1 := ⟨_, _, _, Tryz.underlying109, rfl, rfl, Tryz.sizeOf9⟩
theorem fld_109_2 : FieldAt Tryz.prog 109 2 2 := ⟨_, _, _, Tryz.underlying109, rfl, rfl, Tryz.sizeOf3⟩
theorem fld_109_3 : FieldAt Tryz.prog 109 3 3 := ⟨_, _, _, Tryz.underlying109, rfl, rfl, Tryz.sizeOf2⟩
theorem fld_109_4 : FieldAt Tryz.prog 109 4 4 := ⟨_, _, _, Tryz.underlying109, rfl, rfl, Tryz.sizeOf107⟩
theorem fld_109_5 : FieldAt Tryz.prog 109 5 5 := ⟨_, _, _, Tryz.underlying109, rfl, rfl, Tryz.sizeOf3⟩
theorem fld_115_0 : FieldAt Tryz.prog 115 0 0 := ⟨_, _, _, Tryz.underlying115, rfl, rfl, Tryz.sizeOf113⟩
theorem fld_115_1 : FieldAt Tryz.prog 115 1 1 := ⟨_, _, _, Tryz.underlying115, rfl, rfl, Tryz.sizeOf9⟩
theorem fld_115_2 : FieldAt Tryz.prog 115 2 2 := ⟨_, _, _, Tryz.underlying115, rfl, rfl, Tryz.sizeOf51⟩
theorem fld_119_0 : FieldAt Tryz.prog 119 0 0 := ⟨_, _, _, Tryz.underlying119, rfl, rfl, Tryz.sizeOf3⟩
theorem fld_119_1 : FieldAt Tryz.prog 119 1 1 := ⟨_, _, _, Tryz.underlying119, rfl, rfl, Tryz.sizeOf9⟩
theorem fld_119_2 : FieldAt Tryz.prog 119 2 2 := ⟨_, _, _, Tryz.underlying119, rfl, rfl, Tryz.sizeOf9⟩
theorem fld_119_3 : FieldAt Tryz.prog 119 3 3 := ⟨_, _, _, Tryz.underlying119, rfl, rfl, Tryz.sizeOf51⟩
theorem fld_119_4 : FieldAt Tryz.prog 119 4 4 := ⟨_, _, _, Tryz.underlying119, rfl, rfl, Tryz.sizeOf3⟩
theorem fld_126_0 : FieldAt Tryz.prog 126 0 0 := ⟨_, _, _, Tryz.underlying126, rfl, rfl, Tryz.sizeOf9⟩
theorem fld_126_1 : FieldAt Tryz.prog 126 1 1 := ⟨_, _, _, Tryz.underlying126, rfl, rfl, Tryz.sizeOf51⟩
theorem fld_138_0 : FieldAt Tryz.prog 138 0 0 := ⟨_, _, _, Tryz.underlying138, rfl, rfl, Tryz.sizeOf27⟩
theorem fld_138_1 : FieldAt Tryz.prog 138 1 1 := ⟨_, _, _, Tryz.underlying138, rfl, rfl, Tryz.sizeOf9⟩
theorem fld_138_2 : FieldAt Tryz.prog 138 2 2 := ⟨_, _, _, Tryz.underlying138, rfl, rfl, Tryz.sizeOf2⟩
theorem fld_146_0 : FieldAt Tryz.prog 146 0 0 := ⟨_, _, _, Tryz.underlying146, rfl, rfl, Tryz.sizeOf138⟩
theorem fld_146_1 : FieldAt Tryz.prog 146 1 3 := ⟨_, _, _, Tryz.underlying146, rfl, rfl, Tryz.sizeOf3⟩
theorem fld_146_2 : FieldAt Tryz.prog 146 2 4 := ⟨_, _, _, Tryz.underlying146, rfl, rfl, Tryz.sizeOf2⟩
theorem fld_146_3 : FieldAt Tryz.prog 146 3 5 := ⟨_, _, _, Tryz.underlying146, rfl, rfl, Tryz.sizeOf3⟩
theorem fld_146_4 : FieldAt Tryz.prog 146 4 6 := ⟨_, _, _, Tryz.underlying146, rfl, rfl, Tryz.sizeOf3⟩
theorem fld_146_5 : FieldAt Tryz.prog 146 5 7 := ⟨_, _, _, Tryz.underlying146, rfl, rfl, Tryz.sizeOf3⟩
theorem fld_154_0 : FieldAt Tryz.prog 154 0 0 := ⟨_, _, _, Tryz.underlying154, rfl, rfl, Tryz.sizeOf51⟩
theorem fld_169_0 : FieldAt Tryz.prog 169 0 0 := ⟨_, _, _, Tryz.underlying169, rfl, rfl, Tryz.sizeOf51⟩
theorem fld_169_1 : FieldAt Tryz.prog 169 1 1 := ⟨_, _, _, Tryz.underlying169, rfl, rfl, Tryz.sizeOf3⟩
theorem fld_169_2 : FieldAt Tryz.prog 169 2 2 := ⟨_, _, _, Tryz.underlying169, rfl, rfl, Tryz.sizeOf4⟩
theorem fld_196_0 : FieldAt Tryz.prog 196 0 0 := ⟨_, _, _, Tryz.underlying196, rfl, rfl, Tryz.sizeOf51⟩
theorem fld_196_1 : FieldAt Tryz.prog 196 1 1 := ⟨_, _, _, Tryz.underlying196, rfl, rfl, Tryz.sizeOf3⟩
theorem Dot.beq_ (a b : Dot) : (a == b) = ((a.s == b.s) && (a.n == b.n)) := by
  rw [Bool.eq_iff_iff]; simp only [beq_iff_eq, Bool.and_eq_true]; cases a; cases b; simp [Dot.mk.injEq, and_assoc]
theorem q_eql_Dot {C : World → Prop} {σ : Env} {o : Oper} {x y : Operand} {ty : TypeId} {a b : Dot} (ho : o.op = .binOp .eql 36 x y ty) (hx : ev σ x = .agg #[.int .i64 a.s, .int .i64 a.n]) (hy : ev σ y = .agg #[.int .i64 b.s, .int .i64 b.n]) : QV Tryz.prog C σ o (.bool (a == b)) :=
  fun w _ => by
    have h1 : (eqGuard .eql 36 x y (.agg #[.int .i64 a.s, .int .i64 a.n]) (.agg #[.int .i64 b.s, .int .i64 b.n])).run Tryz.prog w = .ok () w := run_eqGuard_agg w .eql 36 x y _ _ Tryz.eqGuardType36
    have h2 : (Op.equalIn 10000 36 (.agg #[.int .i64 a.s, .int .i64 a.n]) (.agg #[.int .i64 b.s, .int .i64 b.n])).run Tryz.prog w = .ok (a == b) w := by
      rw [run_equalIn_agg w 9999 36 _ _ (by kernel_rfl) Tryz.stoodInHeld36, Dot.beq_]
      simp [Program.fieldsOf, Tryz.underlying36, Op.eqFields, part, Tryz.isAgg2, Tryz.underlying2, Tryz.isAgg3, Tryz.underlying3, run_equalIn_int, Sem.run_bind, Sem.run_pure]
      clear hx hy h1; by_cases e0 : a.s = b.s <;> by_cases e1 : a.n = b.n <;> simp [e0, e1]
    simp only [execOp, ho, hx, hy, Sem.run_bind, h1, Result.andThen_ok, run_eql_struct, h2, Sem.run_pure]
theorem q_neq_Dot {C : World → Prop} {σ : Env} {o : Oper} {x y : Operand} {ty : TypeId} {a b : Dot} (ho : o.op = .binOp .neq 36 x y ty) (hx : ev σ x = .agg #[.int .i64 a.s, .int .i64 a.n]) (hy : ev σ y = .agg #[.int .i64 b.s, .int .i64 b.n]) : QV Tryz.prog C σ o (.bool (a != b)) :=
  fun w _ => by
    have h1 : (eqGuard .neq 36 x y (.agg #[.int .i64 a.s, .int .i64 a.n]) (.agg #[.int .i64 b.s, .int .i64 b.n])).run Tryz.prog w = .ok () w := run_eqGuard_agg w .neq 36 x y _ _ Tryz.eqGuardType36
    have h2 : (Op.equalIn 10000 36 (.agg #[.int .i64 a.s, .int .i64 a.n]) (.agg #[.int .i64 b.s, .int .i64 b.n])).run Tryz.prog w = .ok (a == b) w := by
      rw [run_equalIn_agg w 9999 36 _ _ (by kernel_rfl) Tryz.stoodInHeld36, Dot.beq_]
      simp [Program.fieldsOf, Tryz.underlying36, Op.eqFields, part, Tryz.isAgg2, Tryz.underlying2, Tryz.isAgg3, Tryz.underlying3, run_equalIn_int, Sem.run_bind, Sem.run_pure]
      clear hx hy h1; by_cases e0 : a.s = b.s <;> by_cases e1 : a.n = b.n <;> simp [e0, e1]
    simp only [execOp, ho, hx, hy, Sem.run_bind, h1, Result.andThen_ok, run_neq_struct, h2, Sem.run_pure]; rfl
theorem Span.beq_ (a b : Span) : (a == b) = ((a.s == b.s) && (a.f == b.f) && (a.t == b.t)) := by
  rw [Bool.eq_iff_iff]; simp only [beq_iff_eq, Bool.and_eq_true]; cases a; cases b; simp [Span.mk.injEq, and_assoc]
theorem q_eql_Span {C : World → Prop} {σ : Env} {o : Oper} {x y : Operand} {ty : TypeId} {a b : Span} (ho : o.op = .binOp .eql 41 x y ty) (hx : ev σ x = .agg #[.int .i64 a.s, .int .i64 a.f, .int .i64 a.t]) (hy : ev σ y = .agg #[.int .i64 b.s, .int .i64 b.f, .int .i64 b.t]) : QV Tryz.prog C σ o (.bool (a == b)) :=
  fun w _ => by
    have h1 : (eqGuard .eql 41 x y (.agg #[.int .i64 a.s, .int .i64 a.f, .int .i64 a.t]) (.agg #[.int .i64 b.s, .int .i64 b.f, .int .i64 b.t])).run Tryz.prog w = .ok () w := run_eqGuard_agg w .eql 41 x y _ _ Tryz.eqGuardType41
    have h2 : (Op.equalIn 10000 41 (.agg #[.int .i64 a.s, .int .i64 a.f, .int .i64 a.t]) (.agg #[.int .i64 b.s, .int .i64 b.f, .int .i64 b.t])).run Tryz.prog w = .ok (a == b) w := by
      rw [run_equalIn_agg w 9999 41 _ _ (by kernel_rfl) Tryz.stoodInHeld41, Span.beq_]
      simp [Program.fieldsOf, Tryz.underlying41, Op.eqFields, part, Tryz.isAgg2, Tryz.underlying2, Tryz.isAgg3, Tryz.underlying3, run_equalIn_int, Sem.run_bind, Sem.run_pure]
      clear hx hy h1; by_cases e0 : a.s = b.s <;> by_cases e1 : a.f = b.f <;> by_cases e2 : a.t = b.t <;> simp [e0, e1, e2]
    simp only [execOp, ho, hx, hy, Sem.run_bind, h1, Result.andThen_ok, run_eql_struct, h2, Sem.run_pure]
theorem q_neq_Span {C : World → Prop} {σ : Env} {o : Oper} {x y : Operand} {ty : TypeId} {a b : Span} (ho : o.op = .binOp .neq 41 x y ty) (hx : ev σ x = .agg #[.int .i64 a.s, .int .i64 a.f, .int .i64 a.t]) (hy : ev σ y = .agg #[.int .i64 b.s, .int .i64 b.f, .int .i64 b.t]) : QV Tryz.prog C σ o (.bool (a != b)) :=
  fun w _ => by
    have h1 : (eqGuard .neq 41 x y (.agg #[.int .i64 a.s, .int .i64 a.f, .int .i64 a.t]) (.agg #[.int .i64 b.s, .int .i64 b.f, .int .i64 b.t])).run Tryz.prog w = .ok () w := run_eqGuard_agg w .neq 41 x y _ _ Tryz.eqGuardType41
    have h2 : (Op.equalIn 10000 41 (.agg #[.int .i64 a.s, .int .i64 a.f, .int .i64 a.t]) (.agg #[.int .i64 b.s, .int .i64 b.f, .int .i64 b.t])).run Tryz.prog w = .ok (a == b) w := by
      rw [run_equalIn_agg w 9999 41 _ _ (by kernel_rfl) Tryz.stoodInHeld41, Span.beq_]
      simp [Program.fieldsOf, Tryz.underlying41, Op.eqFields, part, Tryz.isAgg2, Tryz.underlying2, Tryz.isAgg3, Tryz.underlying3, run_equalIn_int, Sem.run_bind, Sem.run_pure]
      clear hx hy h1; by_cases e0 : a.s = b.s <;> by_cases e1 : a.f = b.f <;> by_cases e2 : a.t = b.t <;> simp [e0, e1, e2]
    simp only [execOp, ho, hx, hy, Sem.run_bind, h1, Result.andThen_ok, run_neq_struct, h2, Sem.run_pure]; rfl
end Fw
end Go.Proofs.YtmafjpdiplfcmaaGreat
