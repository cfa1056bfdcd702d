/- The types of this program: where fields lie, what slices hold, when structs are one. No condition. -/
import Derived.Test.YtogmioecalmalaaGreatD
import Derived.Test.YtogmioecalmalaaGreatRows
import Derived.ChangeKeysEq
namespace Go.Proofs.YtogmioecalmalaaGreat
namespace Fw
set_option linter.unusedVariables false
set_option linter.unusedSimpArgs false
set_option linter.unusedSectionVars false
open Go.RowKit
theorem tK : gS Tryz.prog 22 81 bC := ⟨Tryz.underlying22, Tryz.t81, by kernel_rfl, by kernel_rfl, by kernel_rfl, by decide⟩
theorem gi : gS Tryz.prog 23 3 intT := ⟨Tryz.underlying23, Tryz.t3, by kernel_rfl, by kernel_rfl, by kernel_rfl, by decide⟩
theorem iU : aw Tryz.prog 25 0 0 := ⟨_, _, _, Tryz.underlying25, rfl, rfl, Tryz.sizeOf3⟩
theorem eu : aw Tryz.prog 25 1 1 := ⟨_, _, _, Tryz.underlying25, rfl, rfl, Tryz.sizeOf22⟩
theorem oV : aw Tryz.prog 25 2 2 := ⟨_, _, _, Tryz.underlying25, rfl, rfl, Tryz.sizeOf3⟩
theorem ey : aw Tryz.prog 25 3 3 := ⟨_, _, _, Tryz.underlying25, rfl, rfl, Tryz.sizeOf23⟩
theorem kc : aw Tryz.prog 25 4 4 := ⟨_, _, _, Tryz.underlying25, rfl, rfl, Tryz.sizeOf3⟩
theorem pt : aw Tryz.prog 25 5 5 := ⟨_, _, _, Tryz.underlying25, rfl, rfl, Tryz.sizeOf3⟩
theorem oZ : aw Tryz.prog 25 6 6 := ⟨_, _, _, Tryz.underlying25, rfl, rfl, Tryz.sizeOf3⟩
theorem lI : aw Tryz.prog 25 7 7 := ⟨_, _, _, Tryz.underlying25, rfl, rfl, Tryz.sizeOf2⟩
theorem jJ : aw Tryz.prog 25 8 8 := ⟨_, _, _, Tryz.underlying25, rfl, rfl, Tryz.sizeOf9⟩
theorem we : aw Tryz.prog 25 9 9 := ⟨_, _, _, Tryz.underlying25, rfl, rfl, Tryz.sizeOf3⟩
theorem qt : aw Tryz.prog 25 10 10 := ⟨_, _, _, Tryz.underlying25, rfl, rfl, Tryz.sizeOf3⟩
theorem kF : aw Tryz.prog 25 11 11 := ⟨_, _, _, Tryz.underlying25, rfl, rfl, Tryz.sizeOf3⟩
theorem q9 : aw Tryz.prog 25 12 12 := ⟨_, _, _, Tryz.underlying25, rfl, rfl, Tryz.sizeOf3⟩
theorem pO : aw Tryz.prog 25 13 13 := ⟨_, _, _, Tryz.underlying25, rfl, rfl, Tryz.sizeOf3⟩
theorem pI : aw Tryz.prog 25 14 14 := ⟨_, _, _, Tryz.underlying25, rfl, rfl, Tryz.sizeOf3⟩
theorem vr : aw Tryz.prog 25 15 15 := ⟨_, _, _, Tryz.underlying25, rfl, rfl, Tryz.sizeOf3⟩
theorem iX : aw Tryz.prog 25 16 16 := ⟨_, _, _, Tryz.underlying25, rfl, rfl, Tryz.sizeOf2⟩
theorem xw : gS Tryz.prog 35 9 strT := ⟨Tryz.underlying35, Tryz.t9, by kernel_rfl, by kernel_rfl, by kernel_rfl, by decide⟩
theorem ma : gS Tryz.prog 44 2 intT := ⟨Tryz.underlying44, Tryz.t2, by kernel_rfl, by kernel_rfl, by kernel_rfl, by decide⟩
theorem iL : aw Tryz.prog 53 0 0 := ⟨_, _, _, Tryz.underlying53, rfl, rfl, Tryz.sizeOf3⟩
theorem iO : aw Tryz.prog 53 1 1 := ⟨_, _, _, Tryz.underlying53, rfl, rfl, Tryz.sizeOf2⟩
theorem uz : gS Tryz.prog 54 131 aW := ⟨Tryz.underlying54, Tryz.t131, by kernel_rfl, by kernel_rfl, by kernel_rfl, by decide⟩
theorem bq : gS Tryz.prog 61 5 ar := ⟨Tryz.underlying61, Tryz.t5, by kernel_rfl, by kernel_rfl, by kernel_rfl, by decide⟩
theorem tE : gS Tryz.prog 69 61 (slT ar) := ⟨Tryz.underlying69, Tryz.t61, by kernel_rfl, by kernel_rfl, by kernel_rfl, by decide⟩
theorem p7 : aw Tryz.prog 95 0 0 := ⟨_, _, _, Tryz.underlying95, rfl, rfl, Tryz.sizeOf25⟩
theorem cx : aw Tryz.prog 95 2 18 := ⟨_, _, _, Tryz.underlying95, rfl, rfl, Tryz.sizeOf23⟩
theorem ly : aw Tryz.prog 95 3 19 := ⟨_, _, _, Tryz.underlying95, rfl, rfl, Tryz.sizeOf86⟩
theorem wl : aw Tryz.prog 95 6 22 := ⟨_, _, _, Tryz.underlying95, rfl, rfl, Tryz.sizeOf87⟩
theorem vW : aw Tryz.prog 95 7 23 := ⟨_, _, _, Tryz.underlying95, rfl, rfl, Tryz.sizeOf88⟩
theorem sA : aw Tryz.prog 95 8 24 := ⟨_, _, _, Tryz.underlying95, rfl, rfl, Tryz.sizeOf89⟩
theorem sy : aw Tryz.prog 95 9 25 := ⟨_, _, _, Tryz.underlying95, rfl, rfl, Tryz.sizeOf90⟩
theorem uV : aw Tryz.prog 95 10 26 := ⟨_, _, _, Tryz.underlying95, rfl, rfl, Tryz.sizeOf91⟩
theorem uR : aw Tryz.prog 95 12 28 := ⟨_, _, _, Tryz.underlying95, rfl, rfl, Tryz.sizeOf92⟩
theorem uH : aw Tryz.prog 95 13 29 := ⟨_, _, _, Tryz.underlying95, rfl, rfl, Tryz.sizeOf93⟩
theorem pN : aw Tryz.prog 95 15 31 := ⟨_, _, _, Tryz.underlying95, rfl, rfl, Tryz.sizeOf59⟩
theorem mT : aw Tryz.prog 100 0 0 := ⟨_, _, _, Tryz.underlying100, rfl, rfl, Tryz.sizeOf3⟩
theorem gA : aw Tryz.prog 100 1 1 := ⟨_, _, _, Tryz.underlying100, rfl, rfl, Tryz.sizeOf3⟩
theorem ki : aw Tryz.prog 100 2 2 := ⟨_, _, _, Tryz.underlying100, rfl, rfl, Tryz.sizeOf23⟩
theorem pX : aw Tryz.prog 100 3 3 := ⟨_, _, _, Tryz.underlying100, rfl, rfl, Tryz.sizeOf3⟩
theorem kj : aw Tryz.prog 100 4 4 := ⟨_, _, _, Tryz.underlying100, rfl, rfl, Tryz.sizeOf2⟩
theorem pP : aw Tryz.prog 100 5 5 := ⟨_, _, _, Tryz.underlying100, rfl, rfl, Tryz.sizeOf23⟩
theorem rr : gS Tryz.prog 103 461 fG := ⟨Tryz.underlying103, Tryz.t461, by kernel_rfl, by kernel_rfl, by kernel_rfl, by decide⟩
theorem vw : aw Tryz.prog 105 1 1 := ⟨_, _, _, Tryz.underlying105, rfl, rfl, Tryz.sizeOf102⟩
theorem gD : aw Tryz.prog 105 2 2 := ⟨_, _, _, Tryz.underlying105, rfl, rfl, Tryz.sizeOf102⟩
theorem j0 : aw Tryz.prog 105 3 3 := ⟨_, _, _, Tryz.underlying105, rfl, rfl, Tryz.sizeOf103⟩
theorem bU : aw Tryz.prog 131 0 0 := ⟨_, _, _, Tryz.underlying131, rfl, rfl, Tryz.sizeOf3⟩
theorem de : aw Tryz.prog 131 1 1 := ⟨_, _, _, Tryz.underlying131, rfl, rfl, Tryz.sizeOf2⟩
theorem cS : aw Tryz.prog 131 2 2 := ⟨_, _, _, Tryz.underlying131, rfl, rfl, Tryz.sizeOf2⟩
theorem fp : aw Tryz.prog 154 2 7 := ⟨_, _, _, Tryz.underlying154, rfl, rfl, Tryz.sizeOf44⟩
theorem uY : aw Tryz.prog 154 3 8 := ⟨_, _, _, Tryz.underlying154, rfl, rfl, Tryz.sizeOf151⟩
theorem pL : aw Tryz.prog 213 0 0 := ⟨_, _, _, Tryz.underlying213, rfl, rfl, Tryz.sizeOf61⟩
theorem kx : aw Tryz.prog 213 1 1 := ⟨_, _, _, Tryz.underlying213, rfl, rfl, Tryz.sizeOf3⟩
theorem gB : aw Tryz.prog 213 2 2 := ⟨_, _, _, Tryz.underlying213, rfl, rfl, Tryz.sizeOf4⟩
theorem gx : aw Tryz.prog 240 0 0 := ⟨_, _, _, Tryz.underlying240, rfl, rfl, Tryz.sizeOf30⟩
theorem mW : aw Tryz.prog 240 1 1 := ⟨_, _, _, Tryz.underlying240, rfl, rfl, Tryz.sizeOf9⟩
theorem pZ : aw Tryz.prog 240 2 2 := ⟨_, _, _, Tryz.underlying240, rfl, rfl, Tryz.sizeOf2⟩
theorem kn : aw Tryz.prog 249 0 0 := ⟨_, _, _, Tryz.underlying249, rfl, rfl, Tryz.sizeOf240⟩
theorem iD : aw Tryz.prog 249 2 4 := ⟨_, _, _, Tryz.underlying249, rfl, rfl, Tryz.sizeOf2⟩
theorem uD : aw Tryz.prog 249 3 5 := ⟨_, _, _, Tryz.underlying249, rfl, rfl, Tryz.sizeOf3⟩
theorem uJ : aw Tryz.prog 249 4 6 := ⟨_, _, _, Tryz.underlying249, rfl, rfl, Tryz.sizeOf3⟩
theorem pW : aw Tryz.prog 249 5 7 := ⟨_, _, _, Tryz.underlying249, rfl, rfl, Tryz.sizeOf3⟩
theorem vA : aw Tryz.prog 461 0 0 := ⟨_, _, _, Tryz.underlying461, rfl, rfl, Tryz.sizeOf459⟩
theorem pU : aw Tryz.prog 475 0 0 := ⟨_, _, _, Tryz.underlying475, rfl, rfl, Tryz.sizeOf61⟩
theorem kE : aw Tryz.prog 475 1 1 := ⟨_, _, _, Tryz.underlying475, rfl, rfl, Tryz.sizeOf3⟩
theorem al.beq_ (a b : al) : (a == b) = ((a.a0 == b.a0) && (a.a1 == b.a1)) := by
 rw [Bool.eq_iff_iff]; simp only [beq_iff_eq, Bool.and_eq_true]; cases a; cases b; simp [al.mk.injEq, and_assoc]
theorem nV {C : World → Prop} {σ : Env} {o : Oper} {x y : Operand} {ty : TypeId} {a b : al} (ho : o.op = .binOp .eql 81 x y ty) (hx : ev σ x = .agg #[.int .i64 a.a0, .int .i64 a.a1]) (hy : ev σ y = .agg #[.int .i64 b.a0, .int .i64 b.a1]) : QV Tryz.prog C σ o (.bool (a == b)) :=
 fun w _ => by
  have h1 : (eqGuard .eql 81 x y (.agg #[.int .i64 a.a0, .int .i64 a.a1]) (.agg #[.int .i64 b.a0, .int .i64 b.a1])).run Tryz.prog w = .ok () w := run_eqGuard_agg w .eql 81 x y _ _ Tryz.eqGuardType81
  have h2 : (Op.equalIn 10000 81 (.agg #[.int .i64 a.a0, .int .i64 a.a1]) (.agg #[.int .i64 b.a0, .int .i64 b.a1])).run Tryz.prog w = .ok (a == b) w := by
   show (Op.equalIn (9999 + 1) 81 _ _).run _ _ = _
   rw [run_equalIn_array (i := Tryz.t3) w 9999 _ _ Tryz.underlying81 (by kernel_rfl), show Tryz.prog.cellsOf 3 = 1 from by kernel_rfl, show List.range 2 = [0, 1] from rfl, al.beq_]
   simp only [Op.eqItems, part, Tryz.isAgg3, Sem.run_bind, Result.andThen_ok, Sem.run_pure]
   clear hx hy h1; by_cases e0 : a.a0 = b.a0 <;> by_cases e1 : a.a1 = b.a1 <;> simp [e0, e1, run_equalIn_int, Tryz.underlying3, Sem.run_pure, Sem.run_bind]
  simp only [execOp, ho, hx, hy, Sem.run_bind, h1, Result.andThen_ok, run_eql_struct, h2, Sem.run_pure]
theorem Adr.beq_ (a b : Adr) : (a == b) = ((a.site == b.site) && (a.node == b.node)) := by
 rw [Bool.eq_iff_iff]; simp only [beq_iff_eq, Bool.and_eq_true]; cases a; cases b; simp [Adr.mk.injEq, and_assoc]
theorem Dot.beq_ (a b : Dot) : (a == b) = ((a.s == b.s) && (a.n == b.n)) := by
 rw [Bool.eq_iff_iff]; simp only [beq_iff_eq, Bool.and_eq_true]; cases a; cases b; simp [Dot.mk.injEq, and_assoc]
theorem Span.beq_ (a b : Span) : (a == b) = ((a.s == b.s) && (a.f == b.f) && (a.t == b.t)) := by
 rw [Bool.eq_iff_iff]; simp only [beq_iff_eq, Bool.and_eq_true]; cases a; cases b; simp [Span.mk.injEq, and_assoc]
theorem bR.beq_ (a b : bR) : (a == b) = ((a.site == b.site) && (a.id == b.id)) := by
 rw [Bool.eq_iff_iff]; simp only [beq_iff_eq, Bool.and_eq_true]; cases a; cases b; simp [bR.mk.injEq, and_assoc]
theorem bV.beq_ (a b : bV) : (a == b) = ((a.sink == b.sink) && (a.seq == b.seq)) := by
 rw [Bool.eq_iff_iff]; simp only [beq_iff_eq, Bool.and_eq_true]; cases a; cases b; simp [bV.mk.injEq, and_assoc]
theorem bl.beq_ (a b : bl) : (a == b) = ((a.sink == b.sink)) := by
 rw [Bool.eq_iff_iff]; simp only [beq_iff_eq, Bool.and_eq_true]; cases a; cases b; simp [bl.mk.injEq, and_assoc]
theorem bp.beq_ (a b : bp) : (a == b) = ((a.seq == b.seq)) := by
 rw [Bool.eq_iff_iff]; simp only [beq_iff_eq, Bool.and_eq_true]; cases a; cases b; simp [bp.mk.injEq, and_assoc]
theorem bS.beq_ (a b : bS) : (a == b) = ((a.sink == b.sink)) := by
 rw [Bool.eq_iff_iff]; simp only [beq_iff_eq, Bool.and_eq_true]; cases a; cases b; simp [bS.mk.injEq, and_assoc]
theorem cF.beq_ (a b : cF) : (a == b) = ((a.a0 == b.a0) && (a.a1 == b.a1)) := by
 rw [Bool.eq_iff_iff]; simp only [beq_iff_eq, Bool.and_eq_true]; cases a; cases b; simp [cF.mk.injEq, and_assoc]
theorem cE.beq_ (a b : cE) : (a == b) = ((a.a0 == b.a0) && (a.a1 == b.a1) && (a.a2 == b.a2)) := by
 rw [Bool.eq_iff_iff]; simp only [beq_iff_eq, Bool.and_eq_true]; cases a; cases b; simp [cE.mk.injEq, and_assoc]
theorem bF.beq_ (a b : bF) : (a == b) = ((a.at_ == b.at_) && (a.node == b.node)) := by
 rw [Bool.eq_iff_iff]; simp only [beq_iff_eq, Bool.and_eq_true]; cases a; cases b; simp [bF.mk.injEq, and_assoc]
def rV (x : Int × Int × Int) : Value := .agg #[.int .i64 x.1, .int .i64 x.2.1, .int .i64 x.2.2]
theorem zF (w : World) (x y : Int × Int × Int) : (Op.equal 425 (rV x) (rV y)).run Tryz.prog w = .ok (decide (x = y)) w := by
 obtain ⟨x0, x1, x2⟩ := x; obtain ⟨y0, y1, y2⟩ := y
 show (Op.equalIn (9999 + 1) 425 (.agg #[.int .i64 x0, .int .i64 x1, .int .i64 x2]) (.agg #[.int .i64 y0, .int .i64 y1, .int .i64 y2])).run _ _ = _
 rw [run_equalIn_array (i := Tryz.t3) w 9999 _ _ Tryz.underlying425 (by kernel_rfl), show Tryz.prog.cellsOf 3 = 1 from by kernel_rfl, show List.range 3 = [0, 1, 2] from rfl]
 have hx0 : (x0 == y0) = decide (x0 = y0) := rfl
 have hx1 : (x1 == y1) = decide (x1 = y1) := rfl
 have hx2 : (x2 == y2) = decide (x2 = y2) := rfl
 simp only [Op.eqItems, part, Tryz.isAgg3, Sem.run_bind, Result.andThen_ok, Sem.run_pure]
 cases ex0 : decide (x0 = y0) <;> cases ex1 : decide (x1 = y1) <;> cases ex2 : decide (x2 = y2) <;> simp_all [run_equalIn_int, Tryz.underlying3, Sem.run_pure, Sem.run_bind]
def Ak : KeyT Tryz.prog 425 (Int × Int × Int) := KeyT.of_eq Tryz.underlying425 rV (fun _ _ => rfl) zF (fun w em x => by kernel_rfl) (fun w x => by simp [rV, Instr.keyThatStays, Instr.sameBits, Sem.run_pure]) (by rintro ⟨x0, x1, x2⟩ ⟨y0, y1, y2⟩ h; simpa [rV] using h) (fun x => I64 x.1 ∧ I64 x.2.1 ∧ I64 x.2.2)
end Fw
end Go.Proofs.YtogmioecalmalaaGreat
