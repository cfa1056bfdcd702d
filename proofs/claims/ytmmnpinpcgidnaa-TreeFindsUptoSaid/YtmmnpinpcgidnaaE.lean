/- The types of this program: where fields lie, what slices hold, when structs are one. No condition. -/
import Derived.Test.YtmmnpinpcgidnaaD
import Derived.Test.YtmmnpinpcgidnaaRows
import Derived.ChangeKeysEq
namespace Go.Proofs.Ytmmnpinpcgidnaa
namespace Fw
set_option linter.unusedVariables false
set_option linter.unusedSimpArgs false
set_option linter.unusedSectionVars false
open Go.RowKit
theorem elem_22 : ElemOf Try.prog 22 40 u64T := ⟨Try.underlying22, Try.t40, by kernel_rfl, by kernel_rfl, by kernel_rfl, by decide⟩
theorem elem_25 : ElemOf Try.prog 25 3 intT := ⟨Try.underlying25, Try.t3, by kernel_rfl, by kernel_rfl, by kernel_rfl, by decide⟩
theorem elem_29 : ElemOf Try.prog 29 37 recT := ⟨Try.underlying29, Try.t37, by kernel_rfl, by kernel_rfl, by kernel_rfl, by decide⟩
theorem elem_35 : ElemOf Try.prog 35 54 verT := ⟨Try.underlying35, Try.t54, by kernel_rfl, by kernel_rfl, by kernel_rfl, by decide⟩
theorem fld_37_0 : FieldAt Try.prog 37 0 0 := ⟨_, _, _, Try.underlying37, rfl, rfl, Try.sizeOf9⟩
theorem fld_37_1 : FieldAt Try.prog 37 1 1 := ⟨_, _, _, Try.underlying37, rfl, rfl, Try.sizeOf35⟩
theorem fld_51_0 : FieldAt Try.prog 51 0 0 := ⟨_, _, _, Try.underlying51, rfl, rfl, Try.sizeOf3⟩
theorem fld_51_1 : FieldAt Try.prog 51 1 1 := ⟨_, _, _, Try.underlying51, rfl, rfl, Try.sizeOf2⟩
theorem elem_52 : ElemOf Try.prog 52 110 spanT := ⟨Try.underlying52, Try.t110, by kernel_rfl, by kernel_rfl, by kernel_rfl, by decide⟩
theorem fld_54_0 : FieldAt Try.prog 54 0 0 := ⟨_, _, _, Try.underlying54, rfl, rfl, Try.sizeOf51⟩
theorem fld_54_1 : FieldAt Try.prog 54 1 2 := ⟨_, _, _, Try.underlying54, rfl, rfl, Try.sizeOf52⟩
theorem fld_54_2 : FieldAt Try.prog 54 2 3 := ⟨_, _, _, Try.underlying54, rfl, rfl, Try.sizeOf4⟩
theorem fld_54_3 : FieldAt Try.prog 54 3 4 := ⟨_, _, _, Try.underlying54, rfl, rfl, Try.sizeOf9⟩
theorem elem_56 : ElemOf Try.prog 56 5 byteT := ⟨Try.underlying56, Try.t5, by kernel_rfl, by kernel_rfl, by kernel_rfl, by decide⟩
theorem fld_65_0 : FieldAt Try.prog 65 0 0 := ⟨_, _, _, Try.underlying65, rfl, rfl, Try.sizeOf63⟩
theorem fld_65_1 : FieldAt Try.prog 65 1 256 := ⟨_, _, _, Try.underlying65, rfl, rfl, Try.sizeOf60⟩
theorem fld_77_1 : FieldAt Try.prog 77 1 0 := ⟨_, _, _, Try.underlying77, rfl, rfl, Try.sizeOf75⟩
theorem fld_81_1 : FieldAt Try.prog 81 1 0 := ⟨_, _, _, Try.underlying81, rfl, rfl, Try.sizeOf79⟩
theorem fld_83_1 : FieldAt Try.prog 83 1 0 := ⟨_, _, _, Try.underlying83, rfl, rfl, Try.sizeOf77⟩
theorem fld_83_2 : FieldAt Try.prog 83 2 1 := ⟨_, _, _, Try.underlying83, rfl, rfl, Try.sizeOf81⟩
theorem fld_85_0 : FieldAt Try.prog 85 0 0 := ⟨_, _, _, Try.underlying85, rfl, rfl, Try.sizeOf83⟩
theorem fld_85_1 : FieldAt Try.prog 85 1 3 := ⟨_, _, _, Try.underlying85, rfl, rfl, Try.sizeOf40⟩
theorem elem_90 : ElemOf Try.prog 90 9 strT := ⟨Try.underlying90, Try.t9, by kernel_rfl, by kernel_rfl, by kernel_rfl, by decide⟩
theorem fld_110_0 : FieldAt Try.prog 110 0 0 := ⟨_, _, _, Try.underlying110, rfl, rfl, Try.sizeOf3⟩
theorem fld_110_1 : FieldAt Try.prog 110 1 1 := ⟨_, _, _, Try.underlying110, rfl, rfl, Try.sizeOf2⟩
theorem fld_110_2 : FieldAt Try.prog 110 2 2 := ⟨_, _, _, Try.underlying110, rfl, rfl, Try.sizeOf2⟩
theorem Dot.beq_ (a b : Dot) : (a == b) = ((a.s == b.s) && (a.n == b.n)) := by
  rw [Bool.eq_iff_iff]; simp only [beq_iff_eq, Bool.and_eq_true]; cases a; cases b; simp [Dot.mk.injEq, and_assoc]
theorem q_eql_Dot {C : World → Prop} {σ : Env} {o : Oper} {x y : Operand} {ty : TypeId} {a b : Dot} (ho : o.op = .binOp .eql 51 x y ty) (hx : ev σ x = .agg #[.int .i64 a.s, .int .i64 a.n]) (hy : ev σ y = .agg #[.int .i64 b.s, .int .i64 b.n]) : QV Try.prog C σ o (.bool (a == b)) :=
  fun w _ => by
    have h1 : (eqGuard .eql 51 x y (.agg #[.int .i64 a.s, .int .i64 a.n]) (.agg #[.int .i64 b.s, .int .i64 b.n])).run Try.prog w = .ok () w := run_eqGuard_agg w .eql 51 x y _ _ Try.eqGuardType51
    have h2 : (Op.equalIn 10000 51 (.agg #[.int .i64 a.s, .int .i64 a.n]) (.agg #[.int .i64 b.s, .int .i64 b.n])).run Try.prog w = .ok (a == b) w := by
      rw [run_equalIn_agg w 9999 51 _ _ (by kernel_rfl) Try.stoodInHeld51, Dot.beq_]
      simp [Program.fieldsOf, Try.underlying51, Op.eqFields, part, Try.isAgg2, Try.underlying2, Try.isAgg3, Try.underlying3, run_equalIn_int, Sem.run_bind, Sem.run_pure]
      clear hx hy h1; by_cases e0 : a.s = b.s <;> by_cases e1 : a.n = b.n <;> simp [e0, e1]
    simp only [execOp, ho, hx, hy, Sem.run_bind, h1, Result.andThen_ok, run_eql_struct, h2, Sem.run_pure]
theorem q_neq_Dot {C : World → Prop} {σ : Env} {o : Oper} {x y : Operand} {ty : TypeId} {a b : Dot} (ho : o.op = .binOp .neq 51 x y ty) (hx : ev σ x = .agg #[.int .i64 a.s, .int .i64 a.n]) (hy : ev σ y = .agg #[.int .i64 b.s, .int .i64 b.n]) : QV Try.prog C σ o (.bool (a != b)) :=
  fun w _ => by
    have h1 : (eqGuard .neq 51 x y (.agg #[.int .i64 a.s, .int .i64 a.n]) (.agg #[.int .i64 b.s, .int .i64 b.n])).run Try.prog w = .ok () w := run_eqGuard_agg w .neq 51 x y _ _ Try.eqGuardType51
    have h2 : (Op.equalIn 10000 51 (.agg #[.int .i64 a.s, .int .i64 a.n]) (.agg #[.int .i64 b.s, .int .i64 b.n])).run Try.prog w = .ok (a == b) w := by
      rw [run_equalIn_agg w 9999 51 _ _ (by kernel_rfl) Try.stoodInHeld51, Dot.beq_]
      simp [Program.fieldsOf, Try.underlying51, Op.eqFields, part, Try.isAgg2, Try.underlying2, Try.isAgg3, Try.underlying3, run_equalIn_int, Sem.run_bind, Sem.run_pure]
      clear hx hy h1; by_cases e0 : a.s = b.s <;> by_cases e1 : a.n = b.n <;> simp [e0, e1]
    simp only [execOp, ho, hx, hy, Sem.run_bind, h1, Result.andThen_ok, run_neq_struct, h2, Sem.run_pure]; rfl
theorem Span.beq_ (a b : Span) : (a == b) = ((a.s == b.s) && (a.f == b.f) && (a.t == b.t)) := by
  rw [Bool.eq_iff_iff]; simp only [beq_iff_eq, Bool.and_eq_true]; cases a; cases b; simp [Span.mk.injEq, and_assoc]
theorem q_eql_Span {C : World → Prop} {σ : Env} {o : Oper} {x y : Operand} {ty : TypeId} {a b : Span} (ho : o.op = .binOp .eql 110 x y ty) (hx : ev σ x = .agg #[.int .i64 a.s, .int .i64 a.f, .int .i64 a.t]) (hy : ev σ y = .agg #[.int .i64 b.s, .int .i64 b.f, .int .i64 b.t]) : QV Try.prog C σ o (.bool (a == b)) :=
  fun w _ => by
    have h1 : (eqGuard .eql 110 x y (.agg #[.int .i64 a.s, .int .i64 a.f, .int .i64 a.t]) (.agg #[.int .i64 b.s, .int .i64 b.f, .int .i64 b.t])).run Try.prog w = .ok () w := run_eqGuard_agg w .eql 110 x y _ _ Try.eqGuardType110
    have h2 : (Op.equalIn 10000 110 (.agg #[.int .i64 a.s, .int .i64 a.f, .int .i64 a.t]) (.agg #[.int .i64 b.s, .int .i64 b.f, .int .i64 b.t])).run Try.prog w = .ok (a == b) w := by
      rw [run_equalIn_agg w 9999 110 _ _ (by kernel_rfl) Try.stoodInHeld110, Span.beq_]
      simp [Program.fieldsOf, Try.underlying110, Op.eqFields, part, Try.isAgg2, Try.underlying2, Try.isAgg3, Try.underlying3, run_equalIn_int, Sem.run_bind, Sem.run_pure]
      clear hx hy h1; by_cases e0 : a.s = b.s <;> by_cases e1 : a.f = b.f <;> by_cases e2 : a.t = b.t <;> simp [e0, e1, e2]
    simp only [execOp, ho, hx, hy, Sem.run_bind, h1, Result.andThen_ok, run_eql_struct, h2, Sem.run_pure]
theorem q_neq_Span {C : World → Prop} {σ : Env} {o : Oper} {x y : Operand} {ty : TypeId} {a b : Span} (ho : o.op = .binOp .neq 110 x y ty) (hx : ev σ x = .agg #[.int .i64 a.s, .int .i64 a.f, .int .i64 a.t]) (hy : ev σ y = .agg #[.int .i64 b.s, .int .i64 b.f, .int .i64 b.t]) : QV Try.prog C σ o (.bool (a != b)) :=
  fun w _ => by
    have h1 : (eqGuard .neq 110 x y (.agg #[.int .i64 a.s, .int .i64 a.f, .int .i64 a.t]) (.agg #[.int .i64 b.s, .int .i64 b.f, .int .i64 b.t])).run Try.prog w = .ok () w := run_eqGuard_agg w .neq 110 x y _ _ Try.eqGuardType110
    have h2 : (Op.equalIn 10000 110 (.agg #[.int .i64 a.s, .int .i64 a.f, .int .i64 a.t]) (.agg #[.int .i64 b.s, .int .i64 b.f, .int .i64 b.t])).run Try.prog w = .ok (a == b) w := by
      rw [run_equalIn_agg w 9999 110 _ _ (by kernel_rfl) Try.stoodInHeld110, Span.beq_]
      simp [Program.fieldsOf, Try.underlying110, Op.eqFields, part, Try.isAgg2, Try.underlying2, Try.isAgg3, Try.underlying3, run_equalIn_int, Sem.run_bind, Sem.run_pure]
      clear hx hy h1; by_cases e0 : a.s = b.s <;> by_cases e1 : a.f = b.f <;> by_cases e2 : a.t = b.t <;> simp [e0, e1, e2]
    simp only [execOp, ho, hx, hy, Sem.run_bind, h1, Result.andThen_ok, run_neq_struct, h2, Sem.run_pure]; rfl
def kv68 (x : Int × Int × Int) : Value := .agg #[.int .i64 x.1, .int .i64 x.2.1, .int .i64 x.2.2]
theorem keq68 (w : World) (x y : Int × Int × Int) : (Op.equal 68 (kv68 x) (kv68 y)).run Try.prog w = .ok (decide (x = y)) w := by
  obtain ⟨x0, x1, x2⟩ := x; obtain ⟨y0, y1, y2⟩ := y
  show (Op.equalIn (9999 + 1) 68 (.agg #[.int .i64 x0, .int .i64 x1, .int .i64 x2]) (.agg #[.int .i64 y0, .int .i64 y1, .int .i64 y2])).run _ _ = _
  rw [run_equalIn_array (i := Try.t3) w 9999 _ _ Try.underlying68 (by kernel_rfl), show Try.prog.cellsOf 3 = 1 from by kernel_rfl, show List.range 3 = [0, 1, 2] from rfl]
  have hx0 : (x0 == y0) = decide (x0 = y0) := rfl
  have hx1 : (x1 == y1) = decide (x1 = y1) := rfl
  have hx2 : (x2 == y2) = decide (x2 = y2) := rfl
  simp only [Op.eqItems, part, Try.isAgg3, Sem.run_bind, Result.andThen_ok, Sem.run_pure]
  cases ex0 : decide (x0 = y0) <;> cases ex1 : decide (x1 = y1) <;> cases ex2 : decide (x2 = y2) <;> simp_all [run_equalIn_int, Try.underlying3, Sem.run_pure, Sem.run_bind]
def kk68 : KeyT Try.prog 68 (Int × Int × Int) := KeyT.of_eq Try.underlying68 kv68 (fun _ _ => rfl) keq68 (fun w em x => by kernel_rfl) (fun w x => by simp [kv68, Instr.keyThatStays, Instr.sameBits, Sem.run_pure]) (by rintro ⟨x0, x1, x2⟩ ⟨y0, y1, y2⟩ h; simpa [kv68] using h) (fun x => I64 x.1 ∧ I64 x.2.1 ∧ I64 x.2.2)
end Fw
end Go.Proofs.Ytmmnpinpcgidnaa
