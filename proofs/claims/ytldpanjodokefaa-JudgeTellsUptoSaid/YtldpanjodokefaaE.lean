/- The types of this program: where fields lie, what slices hold, when structs are one. No condition. -/
import Derived.Test.YtldpanjodokefaaD
import Derived.Test.YtldpanjodokefaaRows
import Derived.ChangeKeysEq
namespace Go.Proofs.Ytldpanjodokefaa
namespace Fw
set_option linter.unusedVariables false
set_option linter.unusedSimpArgs false
set_option linter.unusedSectionVars false
open Go.RowKit
theorem elem_22 : ElemOf Try.prog 22 5 byteT := ⟨Try.underlying22, Try.t5, by kernel_rfl, by kernel_rfl, by kernel_rfl, by decide⟩
theorem elem_24 : ElemOf Try.prog 24 32 djudge_ActT := ⟨Try.underlying24, Try.t32, by kernel_rfl, by kernel_rfl, by kernel_rfl, by decide⟩
theorem fld_27_0 : FieldAt Try.prog 27 0 0 := ⟨_, _, _, Try.underlying27, rfl, rfl, Try.sizeOf3⟩
theorem fld_27_1 : FieldAt Try.prog 27 1 1 := ⟨_, _, _, Try.underlying27, rfl, rfl, Try.sizeOf2⟩
theorem elem_29 : ElemOf Try.prog 29 27 dotT := ⟨Try.underlying29, Try.t27, by kernel_rfl, by kernel_rfl, by kernel_rfl, by decide⟩
theorem elem_30 : ElemOf Try.prog 30 2 intT := ⟨Try.underlying30, Try.t2, by kernel_rfl, by kernel_rfl, by kernel_rfl, by decide⟩
theorem fld_32_0 : FieldAt Try.prog 32 0 0 := ⟨_, _, _, Try.underlying32, rfl, rfl, Try.sizeOf4⟩
theorem fld_32_1 : FieldAt Try.prog 32 1 1 := ⟨_, _, _, Try.underlying32, rfl, rfl, Try.sizeOf3⟩
theorem fld_32_2 : FieldAt Try.prog 32 2 2 := ⟨_, _, _, Try.underlying32, rfl, rfl, Try.sizeOf9⟩
theorem fld_32_3 : FieldAt Try.prog 32 3 3 := ⟨_, _, _, Try.underlying32, rfl, rfl, Try.sizeOf27⟩
theorem fld_32_4 : FieldAt Try.prog 32 4 5 := ⟨_, _, _, Try.underlying32, rfl, rfl, Try.sizeOf4⟩
theorem fld_32_5 : FieldAt Try.prog 32 5 6 := ⟨_, _, _, Try.underlying32, rfl, rfl, Try.sizeOf29⟩
theorem fld_32_6 : FieldAt Try.prog 32 6 7 := ⟨_, _, _, Try.underlying32, rfl, rfl, Try.sizeOf30⟩
theorem elem_36 : ElemOf Try.prog 36 49 dfirthref23_ActT := ⟨Try.underlying36, Try.t49, by kernel_rfl, by kernel_rfl, by kernel_rfl, by decide⟩
theorem fld_49_0 : FieldAt Try.prog 49 0 0 := ⟨_, _, _, Try.underlying49, rfl, rfl, Try.sizeOf4⟩
theorem fld_49_1 : FieldAt Try.prog 49 1 1 := ⟨_, _, _, Try.underlying49, rfl, rfl, Try.sizeOf3⟩
theorem fld_49_2 : FieldAt Try.prog 49 2 2 := ⟨_, _, _, Try.underlying49, rfl, rfl, Try.sizeOf9⟩
theorem fld_49_3 : FieldAt Try.prog 49 3 3 := ⟨_, _, _, Try.underlying49, rfl, rfl, Try.sizeOf27⟩
theorem fld_49_4 : FieldAt Try.prog 49 4 5 := ⟨_, _, _, Try.underlying49, rfl, rfl, Try.sizeOf4⟩
theorem fld_49_5 : FieldAt Try.prog 49 5 6 := ⟨_, _, _, Try.underlying49, rfl, rfl, Try.sizeOf29⟩
theorem fld_49_6 : FieldAt Try.prog 49 6 7 := ⟨_, _, _, Try.underlying49, rfl, rfl, Try.sizeOf30⟩
theorem fld_56_0 : FieldAt Try.prog 56 0 0 := ⟨_, _, _, Try.underlying56, rfl, rfl, Try.sizeOf24⟩
theorem fld_56_1 : FieldAt Try.prog 56 1 1 := ⟨_, _, _, Try.underlying56, rfl, rfl, Try.sizeOf53⟩
theorem fld_56_2 : FieldAt Try.prog 56 2 2 := ⟨_, _, _, Try.underlying56, rfl, rfl, Try.sizeOf54⟩
theorem elem_84 : ElemOf Try.prog 84 3 intT := ⟨Try.underlying84, Try.t3, by kernel_rfl, by kernel_rfl, by kernel_rfl, by decide⟩
theorem Dot.beq_ (a b : Dot) : (a == b) = ((a.s == b.s) && (a.n == b.n)) := by
  rw [Bool.eq_iff_iff]; simp only [beq_iff_eq, Bool.and_eq_true]; cases a; cases b; simp [Dot.mk.injEq, and_assoc]
theorem q_eql_Dot {C : World → Prop} {σ : Env} {o : Oper} {x y : Operand} {ty : TypeId} {a b : Dot} (ho : o.op = .binOp .eql 27 x y ty) (hx : ev σ x = .agg #[.int .i64 a.s, .int .i64 a.n]) (hy : ev σ y = .agg #[.int .i64 b.s, .int .i64 b.n]) : QV Try.prog C σ o (.bool (a == b)) :=
  fun w _ => by
    have h1 : (eqGuard .eql 27 x y (.agg #[.int .i64 a.s, .int .i64 a.n]) (.agg #[.int .i64 b.s, .int .i64 b.n])).run Try.prog w = .ok () w := run_eqGuard_agg w .eql 27 x y _ _ Try.eqGuardType27
    have h2 : (Op.equalIn 10000 27 (.agg #[.int .i64 a.s, .int .i64 a.n]) (.agg #[.int .i64 b.s, .int .i64 b.n])).run Try.prog w = .ok (a == b) w := by
      rw [run_equalIn_agg w 9999 27 _ _ (by kernel_rfl) Try.stoodInHeld27, Dot.beq_]
      simp [Program.fieldsOf, Try.underlying27, Op.eqFields, part, Try.isAgg2, Try.underlying2, Try.isAgg3, Try.underlying3, run_equalIn_int, Sem.run_bind, Sem.run_pure]
      clear hx hy h1; by_cases e0 : a.s = b.s <;> by_cases e1 : a.n = b.n <;> simp [e0, e1]
    simp only [execOp, ho, hx, hy, Sem.run_bind, h1, Result.andThen_ok, run_eql_struct, h2, Sem.run_pure]
theorem q_neq_Dot {C : World → Prop} {σ : Env} {o : Oper} {x y : Operand} {ty : TypeId} {a b : Dot} (ho : o.op = .binOp .neq 27 x y ty) (hx : ev σ x = .agg #[.int .i64 a.s, .int .i64 a.n]) (hy : ev σ y = .agg #[.int .i64 b.s, .int .i64 b.n]) : QV Try.prog C σ o (.bool (a != b)) :=
  fun w _ => by
    have h1 : (eqGuard .neq 27 x y (.agg #[.int .i64 a.s, .int .i64 a.n]) (.agg #[.int .i64 b.s, .int .i64 b.n])).run Try.prog w = .ok () w := run_eqGuard_agg w .neq 27 x y _ _ Try.eqGuardType27
    have h2 : (Op.equalIn 10000 27 (.agg #[.int .i64 a.s, .int .i64 a.n]) (.agg #[.int .i64 b.s, .int .i64 b.n])).run Try.prog w = .ok (a == b) w := by
      rw [run_equalIn_agg w 9999 27 _ _ (by kernel_rfl) Try.stoodInHeld27, Dot.beq_]
      simp [Program.fieldsOf, Try.underlying27, Op.eqFields, part, Try.isAgg2, Try.underlying2, Try.isAgg3, Try.underlying3, run_equalIn_int, Sem.run_bind, Sem.run_pure]
      clear hx hy h1; by_cases e0 : a.s = b.s <;> by_cases e1 : a.n = b.n <;> simp [e0, e1]
    simp only [execOp, ho, hx, hy, Sem.run_bind, h1, Result.andThen_ok, run_neq_struct, h2, Sem.run_pure]; rfl
def kv27 (x : Dot) : Value := .agg #[.int .i64 x.s, .int .i64 x.n]
theorem keq27 (w : World) (x y : Dot) : (Op.equal 27 (kv27 x) (kv27 y)).run Try.prog w = .ok (decide (x = y)) w := by
  show (Op.equalIn (9999 + 1) 27 (kv27 x) (kv27 y)).run _ _ = _
  have h1 : (Op.equalIn 10000 27 (kv27 x) (kv27 y)).run Try.prog w = .ok (x == y) w := by
    unfold kv27; rw [run_equalIn_agg w 9999 27 _ _ (by kernel_rfl) Try.stoodInHeld27, Dot.beq_]
    simp [Program.fieldsOf, Try.underlying27, Op.eqFields, part, Try.isAgg2, Try.underlying2, Try.isAgg3, Try.underlying3, run_equalIn_int, Sem.run_bind, Sem.run_pure]
    by_cases e0 : x.s = y.s <;> by_cases e1 : x.n = y.n <;> simp [e0, e1]
  rw [h1]; rfl
def kk27 : KeyT Try.prog 27 (Dot) := KeyT.of_eq Try.underlying27 kv27 (fun _ _ => rfl) keq27 (fun w em x => by kernel_rfl) (fun w x => by simp [kv27, Instr.keyThatStays, Instr.sameBits, Sem.run_pure]) (by rintro ⟨x0, x1⟩ ⟨y0, y1⟩ h; simpa [kv27] using h) (fun x => I64 x.s ∧ I64 x.n)
def kl27 (a b : Dot) : Bool := decide (a.s < b.s) || decide (a.s = b.s) && (decide (a.n < b.n))
end Fw
end Go.Proofs.Ytldpanjodokefaa
