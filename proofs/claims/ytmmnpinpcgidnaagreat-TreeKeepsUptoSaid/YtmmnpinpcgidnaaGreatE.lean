/- The types of this program: where fields lie, what slices hold, when structs are one. No condition. -/
import Derived.Test.YtmmnpinpcgidnaaGreatD
import Derived.Test.YtmmnpinpcgidnaaGreatRows
import Derived.ChangeKeysEq
namespace Go.Proofs.YtmmnpinpcgidnaaGreat
namespace Fw
set_option linter.unusedVariables false
set_option linter.unusedSimpArgs false
set_option linter.unusedSectionVars false
open Go.RowKit
theorem elem_22 : ElemOf Tryz.prog 22 41 recT := ⟨Tryz.underlying22, Tryz.t41, by kernel_rfl, by kernel_rfl, by kernel_rfl, by decide⟩
theorem elem_23 : ElemOf Tryz.prog 23 3 intT := ⟨Tryz.underlying23, Tryz.t3, by kernel_rfl, by kernel_rfl, by kernel_rfl, by decide⟩
theorem elem_32 : ElemOf Tryz.prog 32 28 u64T := ⟨Tryz.underlying32, Tryz.t28, by kernel_rfl, by kernel_rfl, by kernel_rfl, by decide⟩
theorem elem_39 : ElemOf Tryz.prog 39 51 verT := ⟨Tryz.underlying39, Tryz.t51, by kernel_rfl, by kernel_rfl, by kernel_rfl, by decide⟩
theorem fld_41_0 : FieldAt Tryz.prog 41 0 0 := ⟨_, _, _, Tryz.underlying41, rfl, rfl, Tryz.sizeOf9⟩
theorem fld_41_1 : FieldAt Tryz.prog 41 1 1 := ⟨_, _, _, Tryz.underlying41, rfl, rfl, Tryz.sizeOf39⟩
theorem fld_48_0 : FieldAt Tryz.prog 48 0 0 := ⟨_, _, _, Tryz.underlying48, rfl, rfl, Tryz.sizeOf3⟩
theorem fld_48_1 : FieldAt Tryz.prog 48 1 1 := ⟨_, _, _, Tryz.underlying48, rfl, rfl, Tryz.sizeOf2⟩
theorem elem_49 : ElemOf Tryz.prog 49 53 spanT := ⟨Tryz.underlying49, Tryz.t53, by kernel_rfl, by kernel_rfl, by kernel_rfl, by decide⟩
theorem fld_51_0 : FieldAt Tryz.prog 51 0 0 := ⟨_, _, _, Tryz.underlying51, rfl, rfl, Tryz.sizeOf48⟩
theorem fld_51_1 : FieldAt Tryz.prog 51 1 2 := ⟨_, _, _, Tryz.underlying51, rfl, rfl, Tryz.sizeOf49⟩
theorem fld_51_2 : FieldAt Tryz.prog 51 2 3 := ⟨_, _, _, Tryz.underlying51, rfl, rfl, Tryz.sizeOf4⟩
theorem fld_51_3 : FieldAt Tryz.prog 51 3 4 := ⟨_, _, _, Tryz.underlying51, rfl, rfl, Tryz.sizeOf9⟩
theorem fld_53_0 : FieldAt Tryz.prog 53 0 0 := ⟨_, _, _, Tryz.underlying53, rfl, rfl, Tryz.sizeOf3⟩
theorem fld_53_1 : FieldAt Tryz.prog 53 1 1 := ⟨_, _, _, Tryz.underlying53, rfl, rfl, Tryz.sizeOf2⟩
theorem fld_53_2 : FieldAt Tryz.prog 53 2 2 := ⟨_, _, _, Tryz.underlying53, rfl, rfl, Tryz.sizeOf2⟩
theorem fld_67_0 : FieldAt Tryz.prog 67 0 0 := ⟨_, _, _, Tryz.underlying67, rfl, rfl, Tryz.sizeOf64⟩
theorem fld_67_1 : FieldAt Tryz.prog 67 1 256 := ⟨_, _, _, Tryz.underlying67, rfl, rfl, Tryz.sizeOf65⟩
theorem fld_73_1 : FieldAt Tryz.prog 73 1 0 := ⟨_, _, _, Tryz.underlying73, rfl, rfl, Tryz.sizeOf71⟩
theorem fld_77_1 : FieldAt Tryz.prog 77 1 0 := ⟨_, _, _, Tryz.underlying77, rfl, rfl, Tryz.sizeOf75⟩
theorem fld_79_1 : FieldAt Tryz.prog 79 1 0 := ⟨_, _, _, Tryz.underlying79, rfl, rfl, Tryz.sizeOf73⟩
theorem fld_79_2 : FieldAt Tryz.prog 79 2 1 := ⟨_, _, _, Tryz.underlying79, rfl, rfl, Tryz.sizeOf77⟩
theorem fld_81_0 : FieldAt Tryz.prog 81 0 0 := ⟨_, _, _, Tryz.underlying81, rfl, rfl, Tryz.sizeOf79⟩
theorem fld_81_1 : FieldAt Tryz.prog 81 1 3 := ⟨_, _, _, Tryz.underlying81, rfl, rfl, Tryz.sizeOf28⟩
theorem elem_86 : ElemOf Tryz.prog 86 5 byteT := ⟨Tryz.underlying86, Tryz.t5, by kernel_rfl, by kernel_rfl, by kernel_rfl, by decide⟩
theorem elem_92 : ElemOf Tryz.prog 92 9 strT := ⟨Tryz.underlying92, Tryz.t9, by kernel_rfl, by kernel_rfl, by kernel_rfl, by decide⟩
theorem Dot.beq_ (a b : Dot) : (a == b) = ((a.s == b.s) && (a.n == b.n)) := by
  rw [Bool.eq_iff_iff]; simp only [beq_iff_eq, Bool.and_eq_true]; cases a; cases b; simp [Dot.mk.injEq, and_assoc]
theorem q_eql_Dot {C : World → Prop} {σ : Env} {o : Oper} {x y : Operand} {ty : TypeId} {a b : Dot} (ho : o.op = .binOp .eql 48 x y ty) (hx : ev σ x = .agg #[.int .i64 a.s, .int .i64 a.n]) (hy : ev σ y = .agg #[.int .i64 b.s, .int .i64 b.n]) : QV Tryz.prog C σ o (.bool (a == b)) :=
  fun w _ => by
    have h1 : (eqGuard .eql 48 x y (.agg #[.int .i64 a.s, .int .i64 a.n]) (.agg #[.int .i64 b.s, .int .i64 b.n])).run Tryz.prog w = .ok () w := run_eqGuard_agg w .eql 48 x y _ _ Tryz.eqGuardType48
    have h2 : (Op.equalIn 10000 48 (.agg #[.int .i64 a.s, .int .i64 a.n]) (.agg #[.int .i64 b.s, .int .i64 b.n])).run Tryz.prog w = .ok (a == b) w := by
      rw [run_equalIn_agg w 9999 48 _ _ (by kernel_rfl) Tryz.stoodInHeld48, Dot.beq_]
      simp [Program.fieldsOf, Tryz.underlying48, Op.eqFields, part, Tryz.isAgg2, Tryz.underlying2, Tryz.isAgg3, Tryz.underlying3, run_equalIn_int, Sem.run_bind, Sem.run_pure]
      clear hx hy h1; by_cases e0 : a.s = b.s <;> by_cases e1 : a.n = b.n <;> simp [e0, e1]
    simp only [execOp, ho, hx, hy, Sem.run_bind, h1, Result.andThen_ok, run_eql_struct, h2, Sem.run_pure]
theorem q_neq_Dot {C : World → Prop} {σ : Env} {o : Oper} {x y : Operand} {ty : TypeId} {a b : Dot} (ho : o.op = .binOp .neq 48 x y ty) (hx : ev σ x = .agg #[.int .i64 a.s, .int .i64 a.n]) (hy : ev σ y = .agg #[.int .i64 b.s, .int .i64 b.n]) : QV Tryz.prog C σ o (.bool (a != b)) :=
  fun w _ => by
    have h1 : (eqGuard .neq 48 x y (.agg #[.int .i64 a.s, .int .i64 a.n]) (.agg #[.int .i64 b.s, .int .i64 b.n])).run Tryz.prog w = .ok () w := run_eqGuard_agg w .neq 48 x y _ _ Tryz.eqGuardType48
    have h2 : (Op.equalIn 10000 48 (.agg #[.int .i64 a.s, .int .i64 a.n]) (.agg #[.int .i64 b.s, .int .i64 b.n])).run Tryz.prog w = .ok (a == b) w := by
      rw [run_equalIn_agg w 9999 48 _ _ (by kernel_rfl) Tryz.stoodInHeld48, Dot.beq_]
      simp [Program.fieldsOf, Tryz.underlying48, Op.eqFields, part, Tryz.isAgg2, Tryz.underlying2, Tryz.isAgg3, Tryz.underlying3, run_equalIn_int, Sem.run_bind, Sem.run_pure]
      clear hx hy h1; by_cases e0 : a.s = b.s <;> by_cases e1 : a.n = b.n <;> simp [e0, e1]
    simp only [execOp, ho, hx, hy, Sem.run_bind, h1, Result.andThen_ok, run_neq_struct, h2, Sem.run_pure]; rfl
theorem Span.beq_ (a b : Span) : (a == b) = ((a.s == b.s) && (a.f == b.f) && (a.t == b.t)) := by
  rw [Bool.eq_iff_iff]; simp only [beq_iff_eq, Bool.and_eq_true]; cases a; cases b; simp [Span.mk.injEq, and_assoc]
theorem q_eql_Span {C : World → Prop} {σ : Env} {o : Oper} {x y : Operand} {ty : TypeId} {a b : Span} (ho : o.op = .binOp .eql 53 x y ty) (hx : ev σ x = .agg #[.int .i64 a.s, .int .i64 a.f, .int .i64 a.t]) (hy : ev σ y = .agg #[.int .i64 b.s, .int .i64 b.f, .int .i64 b.t]) : QV Tryz.prog C σ o (.bool (a == b)) :=
  fun w _ => by
    have h1 : (eqGuard .eql 53 x y (.agg #[.int .i64 a.s, .int .i64 a.f, .int .i64 a.t]) (.agg #[.int .i64 b.s, .int .i64 b.f, .int .i64 b.t])).run Tryz.prog w = .ok () w := run_eqGuard_agg w .eql 53 x y _ _ Tryz.eqGuardType53
    have h2 : (Op.equalIn 10000 53 (.agg #[.int .i64 a.s, .int .i64 a.f, .int .i64 a.t]) (.agg #[.int .i64 b.s, .int .i64 b.f, .int .i64 b.t])).run Tryz.prog w = .ok (a == b) w := by
      rw [run_equalIn_agg w 9999 53 _ _ (by kernel_rfl) Tryz.stoodInHeld53, Span.beq_]
      simp [Program.fieldsOf, Tryz.underlying53, Op.eqFields, part, Tryz.isAgg2, Tryz.underlying2, Tryz.isAgg3, Tryz.underlying3, run_equalIn_int, Sem.run_bind, Sem.run_pure]
      clear hx hy h1; by_cases e0 : a.s = b.s <;> by_cases e1 : a.f = b.f <;> by_cases e2 : a.t = b.t <;> simp [e0, e1, e2]
    simp only [execOp, ho, hx, hy, Sem.run_bind, h1, Result.andThen_ok, run_eql_struct, h2, Sem.run_pure]
theorem q_neq_Span {C : World → Prop} {σ : Env} {o : Oper} {x y : Operand} {ty : TypeId} {a b : Span} (ho : o.op = .binOp .neq 53 x y ty) (hx : ev σ x = .agg #[.int .i64 a.s, .int .i64 a.f, .int .i64 a.t]) (hy : ev σ y = .agg #[.int .i64 b.s, .int .i64 b.f, .int .i64 b.t]) : QV Tryz.prog C σ o (.bool (a != b)) :=
  fun w _ => by
    have h1 : (eqGuard .neq 53 x y (.agg #[.int .i64 a.s, .int .i64 a.f, .int .i64 a.t]) (.agg #[.int .i64 b.s, .int .i64 b.f, .int .i64 b.t])).run Tryz.prog w = .ok () w := run_eqGuard_agg w .neq 53 x y _ _ Tryz.eqGuardType53
    have h2 : (Op.equalIn 10000 53 (.agg #[.int .i64 a.s, .int .i64 a.f, .int .i64 a.t]) (.agg #[.int .i64 b.s, .int .i64 b.f, .int .i64 b.t])).run Tryz.prog w = .ok (a == b) w := by
      rw [run_equalIn_agg w 9999 53 _ _ (by kernel_rfl) Tryz.stoodInHeld53, Span.beq_]
      simp [Program.fieldsOf, Tryz.underlying53, Op.eqFields, part, Tryz.isAgg2, Tryz.underlying2, Tryz.isAgg3, Tryz.underlying3, run_equalIn_int, Sem.run_bind, Sem.run_pure]
      clear hx hy h1; by_cases e0 : a.s = b.s <;> by_cases e1 : a.f = b.f <;> by_cases e2 : a.t = b.t <;> simp [e0, e1, e2]
    simp only [execOp, ho, hx, hy, Sem.run_bind, h1, Result.andThen_ok, run_neq_struct, h2, Sem.run_pure]; rfl
def kv58 (x : Int × Int × Int) : Value := .agg #[.int .i64 x.1, .int .i64 x.2.1, .int .i64 x.2.2]
theorem keq58 (w : World) (x y : Int × Int × Int) : (Op.equal 58 (kv58 x) (kv58 y)).run Tryz.prog w = .ok (decide (x = y)) w := by
  obtain ⟨x0, x1, x2⟩ := x; obtain ⟨y0, y1, y2⟩ := y
  show (Op.equalIn (9999 + 1) 58 (.agg #[.int .i64 x0, .int .i64 x1, .int .i64 x2]) (.agg #[.int .i64 y0, .int .i64 y1, .int .i64 y2])).run _ _ = _
  rw [run_equalIn_array (i := Tryz.t3) w 9999 _ _ Tryz.underlying58 (by kernel_rfl), show Tryz.prog.cellsOf 3 = 1 from by kernel_rfl, show List.range 3 = [0, 1, 2] from rfl]
  have hx0 : (x0 == y0) = decide (x0 = y0) := rfl
  have hx1 : (x1 == y1) = decide (x1 = y1) := rfl
  have hx2 : (x2 == y2) = decide (x2 = y2) := rfl
  simp only [Op.eqItems, part, Tryz.isAgg3, Sem.run_bind, Result.andThen_ok, Sem.run_pure]
  cases ex0 : decide (x0 = y0) <;> cases ex1 : decide (x1 = y1) <;> cases ex2 : decide (x2 = y2) <;> simp_all [run_equalIn_int, Tryz.underlying3, Sem.run_pure, Sem.run_bind]
def kk58 : KeyT Tryz.prog 58 (Int × Int × Int) := KeyT.of_eq Tryz.underlying58 kv58 (fun _ _ => rfl) keq58 (fun w em x => by kernel_rfl) (fun w x => by simp [kv58, Instr.keyThatStays, Instr.sameBits, Sem.run_pure]) (by rintro ⟨x0, x1, x2⟩ ⟨y0, y1, y2⟩ h; simpa [kv58] using h) (fun x => I64 x.1 ∧ I64 x.2.1 ∧ I64 x.2.2)
end Fw
end Go.Proofs.YtmmnpinpcgidnaaGreat
