/- The types of this program: where fields lie, what slices hold, when structs are one. No condition. -/
import Derived.Test.YtogmioecalmalaaGreatD
import Derived.Test.YtogmioecalmalaaGreatRows
import Derived.ChangeKeysEq
namespace Go.Proofs.YtogmioecalmalaaGreat
namespace Fw
set_option linter.unusedVariables false
set_option linter.unusedSimpArgs false
set_option linter.unusedSectionVars false
open Go.RowKit
theorem elem_22 : ElemOf Tryz.prog 22 81 dapi_arr2T := ⟨Tryz.underlying22, Tryz.t81, by kernel_rfl, by kernel_rfl, by kernel_rfl, by decide⟩
theorem elem_23 : ElemOf Tryz.prog 23 3 intT := ⟨Tryz.underlying23, Tryz.t3, by kernel_rfl, by kernel_rfl, by kernel_rfl, by decide⟩
theorem fld_25_0 : FieldAt Tryz.prog 25 0 0 := ⟨_, _, _, Tryz.underlying25, rfl, rfl, Tryz.sizeOf3⟩
theorem fld_25_1 : FieldAt Tryz.prog 25 1 1 := ⟨_, _, _, Tryz.underlying25, rfl, rfl, Tryz.sizeOf22⟩
theorem fld_25_2 : FieldAt Tryz.prog 25 2 2 := ⟨_, _, _, Tryz.underlying25, rfl, rfl, Tryz.sizeOf3⟩
theorem fld_25_3 : FieldAt Tryz.prog 25 3 3 := ⟨_, _, _, Tryz.underlying25, rfl, rfl, Tryz.sizeOf23⟩
theorem fld_25_4 : FieldAt Tryz.prog 25 4 4 := ⟨_, _, _, Tryz.underlying25, rfl, rfl, Tryz.sizeOf3⟩
theorem fld_25_5 : FieldAt Tryz.prog 25 5 5 := ⟨_, _, _, Tryz.underlying25, rfl, rfl, Tryz.sizeOf3⟩
theorem fld_25_6 : FieldAt Tryz.prog 25 6 6 := ⟨_, _, _, Tryz.underlying25, rfl, rfl, Tryz.sizeOf3⟩
theorem fld_25_7 : FieldAt Tryz.prog 25 7 7 := ⟨_, _, _, Tryz.underlying25, rfl, rfl, Tryz.sizeOf2⟩
theorem fld_25_8 : FieldAt Tryz.prog 25 8 8 := ⟨_, _, _, Tryz.underlying25, rfl, rfl, Tryz.sizeOf9⟩
theorem fld_25_9 : FieldAt Tryz.prog 25 9 9 := ⟨_, _, _, Tryz.underlying25, rfl, rfl, Tryz.sizeOf3⟩
theorem fld_25_10 : FieldAt Tryz.prog 25 10 10 := ⟨_, _, _, Tryz.underlying25, rfl, rfl, Tryz.sizeOf3⟩
theorem fld_25_11 : FieldAt Tryz.prog 25 11 11 := ⟨_, _, _, Tryz.underlying25, rfl, rfl, Tryz.sizeOf3⟩
theorem fld_25_12 : FieldAt Tryz.prog 25 12 12 := ⟨_, _, _, Tryz.underlying25, rfl, rfl, Tryz.sizeOf3⟩
theorem fld_25_13 : FieldAt Tryz.prog 25 13 13 := ⟨_, _, _, Tryz.underlying25, rfl, rfl, Tryz.sizeOf3⟩
theorem fld_25_14 : FieldAt Tryz.prog 25 14 14 := ⟨_, _, _, Tryz.underlying25, rfl, rfl, Tryz.sizeOf3⟩
theorem fld_25_15 : FieldAt Tryz.prog 25 15 15 := ⟨_, _, _, Tryz.underlying25, rfl, rfl, Tryz.sizeOf3⟩
theorem fld_25_16 : FieldAt Tryz.prog 25 16 16 := ⟨_, _, _, Tryz.underlying25, rfl, rfl, Tryz.sizeOf2⟩
theorem elem_35 : ElemOf Tryz.prog 35 9 strT := ⟨Tryz.underlying35, Tryz.t9, by kernel_rfl, by kernel_rfl, by kernel_rfl, by decide⟩
theorem elem_44 : ElemOf Tryz.prog 44 2 intT := ⟨Tryz.underlying44, Tryz.t2, by kernel_rfl, by kernel_rfl, by kernel_rfl, by decide⟩
theorem elem_61 : ElemOf Tryz.prog 61 5 byteT := ⟨Tryz.underlying61, Tryz.t5, by kernel_rfl, by kernel_rfl, by kernel_rfl, by decide⟩
theorem elem_69 : ElemOf Tryz.prog 69 61 (slT byteT) := ⟨Tryz.underlying69, Tryz.t61, by kernel_rfl, by kernel_rfl, by kernel_rfl, by decide⟩
theorem fld_95_2 : FieldAt Tryz.prog 95 2 18 := ⟨_, _, _, Tryz.underlying95, rfl, rfl, Tryz.sizeOf23⟩
theorem fld_95_3 : FieldAt Tryz.prog 95 3 19 := ⟨_, _, _, Tryz.underlying95, rfl, rfl, Tryz.sizeOf86⟩
theorem fld_100_0 : FieldAt Tryz.prog 100 0 0 := ⟨_, _, _, Tryz.underlying100, rfl, rfl, Tryz.sizeOf3⟩
theorem fld_100_1 : FieldAt Tryz.prog 100 1 1 := ⟨_, _, _, Tryz.underlying100, rfl, rfl, Tryz.sizeOf3⟩
theorem fld_100_2 : FieldAt Tryz.prog 100 2 2 := ⟨_, _, _, Tryz.underlying100, rfl, rfl, Tryz.sizeOf23⟩
theorem fld_100_3 : FieldAt Tryz.prog 100 3 3 := ⟨_, _, _, Tryz.underlying100, rfl, rfl, Tryz.sizeOf3⟩
theorem fld_100_4 : FieldAt Tryz.prog 100 4 4 := ⟨_, _, _, Tryz.underlying100, rfl, rfl, Tryz.sizeOf2⟩
theorem fld_100_5 : FieldAt Tryz.prog 100 5 5 := ⟨_, _, _, Tryz.underlying100, rfl, rfl, Tryz.sizeOf23⟩
theorem elem_103 : ElemOf Tryz.prog 103 461 ddisk_changeT := ⟨Tryz.underlying103, Tryz.t461, by kernel_rfl, by kernel_rfl, by kernel_rfl, by decide⟩
theorem fld_105_1 : FieldAt Tryz.prog 105 1 1 := ⟨_, _, _, Tryz.underlying105, rfl, rfl, Tryz.sizeOf102⟩
theorem fld_105_2 : FieldAt Tryz.prog 105 2 2 := ⟨_, _, _, Tryz.underlying105, rfl, rfl, Tryz.sizeOf102⟩
theorem fld_105_3 : FieldAt Tryz.prog 105 3 3 := ⟨_, _, _, Tryz.underlying105, rfl, rfl, Tryz.sizeOf103⟩
theorem fld_154_2 : FieldAt Tryz.prog 154 2 7 := ⟨_, _, _, Tryz.underlying154, rfl, rfl, Tryz.sizeOf44⟩
theorem fld_240_0 : FieldAt Tryz.prog 240 0 0 := ⟨_, _, _, Tryz.underlying240, rfl, rfl, Tryz.sizeOf30⟩
theorem fld_240_1 : FieldAt Tryz.prog 240 1 1 := ⟨_, _, _, Tryz.underlying240, rfl, rfl, Tryz.sizeOf9⟩
theorem fld_240_2 : FieldAt Tryz.prog 240 2 2 := ⟨_, _, _, Tryz.underlying240, rfl, rfl, Tryz.sizeOf2⟩
theorem fld_249_0 : FieldAt Tryz.prog 249 0 0 := ⟨_, _, _, Tryz.underlying249, rfl, rfl, Tryz.sizeOf240⟩
theorem fld_249_2 : FieldAt Tryz.prog 249 2 4 := ⟨_, _, _, Tryz.underlying249, rfl, rfl, Tryz.sizeOf2⟩
theorem fld_249_3 : FieldAt Tryz.prog 249 3 5 := ⟨_, _, _, Tryz.underlying249, rfl, rfl, Tryz.sizeOf3⟩
theorem fld_249_4 : FieldAt Tryz.prog 249 4 6 := ⟨_, _, _, Tryz.underlying249, rfl, rfl, Tryz.sizeOf3⟩
theorem fld_249_5 : FieldAt Tryz.prog 249 5 7 := ⟨_, _, _, Tryz.underlying249, rfl, rfl, Tryz.sizeOf3⟩
theorem fld_461_0 : FieldAt Tryz.prog 461 0 0 := ⟨_, _, _, Tryz.underlying461, rfl, rfl, Tryz.sizeOf459⟩
theorem Dapi_arr2.beq_ (a b : Dapi_arr2) : (a == b) = ((a.a0 == b.a0) && (a.a1 == b.a1)) := by
  rw [Bool.eq_iff_iff]; simp only [beq_iff_eq, Bool.and_eq_true]; cases a; cases b; simp [Dapi_arr2.mk.injEq, and_assoc]
theorem q_eql_Dapi_arr2 {C : World → Prop} {σ : Env} {o : Oper} {x y : Operand} {ty : TypeId} {a b : Dapi_arr2} (ho : o.op = .binOp .eql 81 x y ty) (hx : ev σ x = .agg #[.int .i64 a.a0, .int .i64 a.a1]) (hy : ev σ y = .agg #[.int .i64 b.a0, .int .i64 b.a1]) : QV Tryz.prog C σ o (.bool (a == b)) :=
  fun w _ => by
    have h1 : (eqGuard .eql 81 x y (.agg #[.int .i64 a.a0, .int .i64 a.a1]) (.agg #[.int .i64 b.a0, .int .i64 b.a1])).run Tryz.prog w = .ok () w := run_eqGuard_agg w .eql 81 x y _ _ Tryz.eqGuardType81
    have h2 : (Op.equalIn 10000 81 (.agg #[.int .i64 a.a0, .int .i64 a.a1]) (.agg #[.int .i64 b.a0, .int .i64 b.a1])).run Tryz.prog w = .ok (a == b) w := by
      show (Op.equalIn (9999 + 1) 81 _ _).run _ _ = _
      rw [run_equalIn_array (i := Tryz.t3) w 9999 _ _ Tryz.underlying81 (by kernel_rfl), show Tryz.prog.cellsOf 3 = 1 from by kernel_rfl, show List.range 2 = [0, 1] from rfl, Dapi_arr2.beq_]
      simp only [Op.eqItems, part, Tryz.isAgg3, Sem.run_bind, Result.andThen_ok, Sem.run_pure]
      clear hx hy h1; by_cases e0 : a.a0 = b.a0 <;> by_cases e1 : a.a1 = b.a1 <;> simp [e0, e1, run_equalIn_int, Tryz.underlying3, Sem.run_pure, Sem.run_bind]
    simp only [execOp, ho, hx, hy, Sem.run_bind, h1, Result.andThen_ok, run_eql_struct, h2, Sem.run_pure]
theorem Adr.beq_ (a b : Adr) : (a == b) = ((a.site == b.site) && (a.node == b.node)) := by
  rw [Bool.eq_iff_iff]; simp only [beq_iff_eq, Bool.and_eq_true]; cases a; cases b; simp [Adr.mk.injEq, and_assoc]
theorem Dot.beq_ (a b : Dot) : (a == b) = ((a.s == b.s) && (a.n == b.n)) := by
  rw [Bool.eq_iff_iff]; simp only [beq_iff_eq, Bool.and_eq_true]; cases a; cases b; simp [Dot.mk.injEq, and_assoc]
theorem Span.beq_ (a b : Span) : (a == b) = ((a.s == b.s) && (a.f == b.f) && (a.t == b.t)) := by
  rw [Bool.eq_iff_iff]; simp only [beq_iff_eq, Bool.and_eq_true]; cases a; cases b; simp [Span.mk.injEq, and_assoc]
theorem Dsite_want.beq_ (a b : Dsite_want) : (a == b) = ((a.site == b.site) && (a.id == b.id)) := by
  rw [Bool.eq_iff_iff]; simp only [beq_iff_eq, Bool.and_eq_true]; cases a; cases b; simp [Dsite_want.mk.injEq, and_assoc]
theorem Dqueue_ack.beq_ (a b : Dqueue_ack) : (a == b) = ((a.sink == b.sink) && (a.seq == b.seq)) := by
  rw [Bool.eq_iff_iff]; simp only [beq_iff_eq, Bool.and_eq_true]; cases a; cases b; simp [Dqueue_ack.mk.injEq, and_assoc]
theorem Dqueue_clear.beq_ (a b : Dqueue_clear) : (a == b) = ((a.sink == b.sink)) := by
  rw [Bool.eq_iff_iff]; simp only [beq_iff_eq, Bool.and_eq_true]; cases a; cases b; simp [Dqueue_clear.mk.injEq, and_assoc]
theorem Dqueue_nextn.beq_ (a b : Dqueue_nextn) : (a == b) = ((a.seq == b.seq)) := by
  rw [Bool.eq_iff_iff]; simp only [beq_iff_eq, Bool.and_eq_true]; cases a; cases b; simp [Dqueue_nextn.mk.injEq, and_assoc]
theorem Dqueue_gap.beq_ (a b : Dqueue_gap) : (a == b) = ((a.sink == b.sink)) := by
  rw [Bool.eq_iff_iff]; simp only [beq_iff_eq, Bool.and_eq_true]; cases a; cases b; simp [Dqueue_gap.mk.injEq, and_assoc]
theorem Dpull_way.beq_ (a b : Dpull_way) : (a == b) = ((a.a0 == b.a0) && (a.a1 == b.a1)) := by
  rw [Bool.eq_iff_iff]; simp only [beq_iff_eq, Bool.and_eq_true]; cases a; cases b; simp [Dpull_way.mk.injEq, and_assoc]
theorem Dapi_arr3.beq_ (a b : Dapi_arr3) : (a == b) = ((a.a0 == b.a0) && (a.a1 == b.a1) && (a.a2 == b.a2)) := by
  rw [Bool.eq_iff_iff]; simp only [beq_iff_eq, Bool.and_eq_true]; cases a; cases b; simp [Dapi_arr3.mk.injEq, and_assoc]
theorem Dring_point.beq_ (a b : Dring_point) : (a == b) = ((a.at_ == b.at_) && (a.node == b.node)) := by
  rw [Bool.eq_iff_iff]; simp only [beq_iff_eq, Bool.and_eq_true]; cases a; cases b; simp [Dring_point.mk.injEq, and_assoc]
def kv425 (x : Int × Int × Int) : Value := .agg #[.int .i64 x.1, .int .i64 x.2.1, .int .i64 x.2.2]
theorem keq425 (w : World) (x y : Int × Int × Int) : (Op.equal 425 (kv425 x) (kv425 y)).run Tryz.prog w = .ok (decide (x = y)) w := by
  obtain ⟨x0, x1, x2⟩ := x; obtain ⟨y0, y1, y2⟩ := y
  show (Op.equalIn (9999 + 1) 425 (.agg #[.int .i64 x0, .int .i64 x1, .int .i64 x2]) (.agg #[.int .i64 y0, .int .i64 y1, .int .i64 y2])).run _ _ = _
  rw [run_equalIn_array (i := Tryz.t3) w 9999 _ _ Tryz.underlying425 (by kernel_rfl), show Tryz.prog.cellsOf 3 = 1 from by kernel_rfl, show List.range 3 = [0, 1, 2] from rfl]
  have hx0 : (x0 == y0) = decide (x0 = y0) := rfl
  have hx1 : (x1 == y1) = decide (x1 = y1) := rfl
  have hx2 : (x2 == y2) = decide (x2 = y2) := rfl
  simp only [Op.eqItems, part, Tryz.isAgg3, Sem.run_bind, Result.andThen_ok, Sem.run_pure]
  cases ex0 : decide (x0 = y0) <;> cases ex1 : decide (x1 = y1) <;> cases ex2 : decide (x2 = y2) <;> simp_all [run_equalIn_int, Tryz.underlying3, Sem.run_pure, Sem.run_bind]
def kk425 : KeyT Tryz.prog 425 (Int × Int × Int) := KeyT.of_eq Tryz.underlying425 kv425 (fun _ _ => rfl) keq425 (fun w em x => by kernel_rfl) (fun w x => by simp [kv425, Instr.keyThatStays, Instr.sameBits, Sem.run_pure]) (by rintro ⟨x0, x1, x2⟩ ⟨y0, y1, y2⟩ h; simpa [kv425] using h) (fun x => I64 x.1 ∧ I64 x.2.1 ∧ I64 x.2.2)
end Fw
end Go.Proofs.YtogmioecalmalaaGreat
