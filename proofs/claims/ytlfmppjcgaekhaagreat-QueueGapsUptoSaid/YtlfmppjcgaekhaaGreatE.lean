/- The types of this program: where fields lie, what slices hold, when structs are one. No condition. -/
import Derived.Test.YtlfmppjcgaekhaaGreatD
import Derived.Test.YtlfmppjcgaekhaaGreatRows
import Derived.ChangeKeysEq
namespace Go.Proofs.YtlfmppjcgaekhaaGreat
namespace Fw
set_option linter.unusedVariables false
set_option linter.unusedSimpArgs false
set_option linter.unusedSectionVars false
open Go.RowKit
theorem tn : ir Tryz.prog 22 3 intT := ⟨Tryz.underlying22, Tryz.t3, by kernel_rfl, by kernel_rfl, by kernel_rfl, by decide⟩
theorem iJ : aA Tryz.prog 25 0 0 := ⟨_, _, _, Tryz.underlying25, rfl, rfl, Tryz.sizeOf3⟩
theorem iD : aA Tryz.prog 25 1 1 := ⟨_, _, _, Tryz.underlying25, rfl, rfl, Tryz.sizeOf3⟩
theorem gx : aA Tryz.prog 25 2 2 := ⟨_, _, _, Tryz.underlying25, rfl, rfl, Tryz.sizeOf22⟩
theorem kb : aA Tryz.prog 25 3 3 := ⟨_, _, _, Tryz.underlying25, rfl, rfl, Tryz.sizeOf3⟩
theorem l7 : aA Tryz.prog 25 4 4 := ⟨_, _, _, Tryz.underlying25, rfl, rfl, Tryz.sizeOf2⟩
theorem r8 : aA Tryz.prog 25 5 5 := ⟨_, _, _, Tryz.underlying25, rfl, rfl, Tryz.sizeOf22⟩
theorem Ae : ir Tryz.prog 33 277 iU := ⟨Tryz.underlying33, Tryz.t277, by kernel_rfl, by kernel_rfl, by kernel_rfl, by decide⟩
theorem cP : aA Tryz.prog 35 0 0 := ⟨_, _, _, Tryz.underlying35, rfl, rfl, Tryz.sizeOf3⟩
theorem fD : aA Tryz.prog 35 1 1 := ⟨_, _, _, Tryz.underlying35, rfl, rfl, Tryz.sizeOf2⟩
theorem cg : aA Tryz.prog 37 0 0 := ⟨_, _, _, Tryz.underlying37, rfl, rfl, Tryz.sizeOf35⟩
theorem fF : aA Tryz.prog 37 1 2 := ⟨_, _, _, Tryz.underlying37, rfl, rfl, Tryz.sizeOf33⟩
theorem mI : aA Tryz.prog 37 2 3 := ⟨_, _, _, Tryz.underlying37, rfl, rfl, Tryz.sizeOf4⟩
theorem lk : aA Tryz.prog 37 3 4 := ⟨_, _, _, Tryz.underlying37, rfl, rfl, Tryz.sizeOf9⟩
theorem zg : ir Tryz.prog 40 37 verT := ⟨Tryz.underlying40, Tryz.t37, by kernel_rfl, by kernel_rfl, by kernel_rfl, by decide⟩
theorem mh : aA Tryz.prog 42 0 0 := ⟨_, _, _, Tryz.underlying42, rfl, rfl, Tryz.sizeOf9⟩
theorem df : aA Tryz.prog 42 1 1 := ⟨_, _, _, Tryz.underlying42, rfl, rfl, Tryz.sizeOf40⟩
theorem mX : ir Tryz.prog 46 2 intT := ⟨Tryz.underlying46, Tryz.t2, by kernel_rfl, by kernel_rfl, by kernel_rfl, by decide⟩
theorem zN : ir Tryz.prog 49 52 eC := ⟨Tryz.underlying49, Tryz.t52, by kernel_rfl, by kernel_rfl, by kernel_rfl, by decide⟩
theorem oc : aA Tryz.prog 52 0 0 := ⟨_, _, _, Tryz.underlying52, rfl, rfl, Tryz.sizeOf2⟩
theorem yS : aA Tryz.prog 52 1 1 := ⟨_, _, _, Tryz.underlying52, rfl, rfl, Tryz.sizeOf42⟩
theorem yV : aA Tryz.prog 52 2 3 := ⟨_, _, _, Tryz.underlying52, rfl, rfl, Tryz.sizeOf22⟩
theorem r5 : aA Tryz.prog 57 0 0 := ⟨_, _, _, Tryz.underlying57, rfl, rfl, Tryz.sizeOf3⟩
theorem oj : aA Tryz.prog 57 1 1 := ⟨_, _, _, Tryz.underlying57, rfl, rfl, Tryz.sizeOf3⟩
theorem lh : aA Tryz.prog 57 2 2 := ⟨_, _, _, Tryz.underlying57, rfl, rfl, Tryz.sizeOf22⟩
theorem tO : aA Tryz.prog 57 3 3 := ⟨_, _, _, Tryz.underlying57, rfl, rfl, Tryz.sizeOf3⟩
theorem tH : aA Tryz.prog 57 4 4 := ⟨_, _, _, Tryz.underlying57, rfl, rfl, Tryz.sizeOf2⟩
theorem yy : aA Tryz.prog 57 5 5 := ⟨_, _, _, Tryz.underlying57, rfl, rfl, Tryz.sizeOf22⟩
theorem gT : ir Tryz.prog 70 5 av := ⟨Tryz.underlying70, Tryz.t5, by kernel_rfl, by kernel_rfl, by kernel_rfl, by decide⟩
theorem vN : ir Tryz.prog 76 70 (slT av) := ⟨Tryz.underlying76, Tryz.t70, by kernel_rfl, by kernel_rfl, by kernel_rfl, by decide⟩
theorem wu : ir Tryz.prog 82 104 ba := ⟨Tryz.underlying82, Tryz.t104, by kernel_rfl, by kernel_rfl, by kernel_rfl, by decide⟩
theorem iL : aA Tryz.prog 84 0 0 := ⟨_, _, _, Tryz.underlying84, rfl, rfl, Tryz.sizeOf25⟩
theorem jy : aA Tryz.prog 84 1 6 := ⟨_, _, _, Tryz.underlying84, rfl, rfl, Tryz.sizeOf75⟩
theorem eR : aA Tryz.prog 84 2 7 := ⟨_, _, _, Tryz.underlying84, rfl, rfl, Tryz.sizeOf46⟩
theorem iM : aA Tryz.prog 84 3 8 := ⟨_, _, _, Tryz.underlying84, rfl, rfl, Tryz.sizeOf81⟩
theorem dD : aA Tryz.prog 84 4 9 := ⟨_, _, _, Tryz.underlying84, rfl, rfl, Tryz.sizeOf82⟩
theorem oF : aA Tryz.prog 84 5 10 := ⟨_, _, _, Tryz.underlying84, rfl, rfl, Tryz.sizeOf2⟩
theorem pc : aA Tryz.prog 84 6 11 := ⟨_, _, _, Tryz.underlying84, rfl, rfl, Tryz.sizeOf80⟩
theorem vR : ir Tryz.prog 91 111 ey := ⟨Tryz.underlying91, Tryz.t111, by kernel_rfl, by kernel_rfl, by kernel_rfl, by decide⟩
theorem xP : aA Tryz.prog 93 0 0 := ⟨_, _, _, Tryz.underlying93, rfl, rfl, Tryz.sizeOf3⟩
theorem oh : aA Tryz.prog 93 1 1 := ⟨_, _, _, Tryz.underlying93, rfl, rfl, Tryz.sizeOf90⟩
theorem jF : aA Tryz.prog 93 2 2 := ⟨_, _, _, Tryz.underlying93, rfl, rfl, Tryz.sizeOf90⟩
theorem hZ : aA Tryz.prog 93 3 3 := ⟨_, _, _, Tryz.underlying93, rfl, rfl, Tryz.sizeOf91⟩
theorem oI : aA Tryz.prog 98 0 0 := ⟨_, _, _, Tryz.underlying98, rfl, rfl, Tryz.sizeOf42⟩
theorem mO : aA Tryz.prog 101 0 0 := ⟨_, _, _, Tryz.underlying101, rfl, rfl, Tryz.sizeOf22⟩
theorem jf : aA Tryz.prog 101 1 1 := ⟨_, _, _, Tryz.underlying101, rfl, rfl, Tryz.sizeOf42⟩
theorem lc : aA Tryz.prog 104 0 0 := ⟨_, _, _, Tryz.underlying104, rfl, rfl, Tryz.sizeOf52⟩
theorem k9 : aA Tryz.prog 104 1 4 := ⟨_, _, _, Tryz.underlying104, rfl, rfl, Tryz.sizeOf80⟩
theorem pK : aA Tryz.prog 107 0 0 := ⟨_, _, _, Tryz.underlying107, rfl, rfl, Tryz.sizeOf2⟩
theorem pU : aA Tryz.prog 107 1 1 := ⟨_, _, _, Tryz.underlying107, rfl, rfl, Tryz.sizeOf2⟩
theorem s8 : aA Tryz.prog 111 0 0 := ⟨_, _, _, Tryz.underlying111, rfl, rfl, Tryz.sizeOf109⟩
theorem wU : aA Tryz.prog 111 1 1 := ⟨_, _, _, Tryz.underlying111, rfl, rfl, Tryz.sizeOf9⟩
theorem sE : aA Tryz.prog 111 2 2 := ⟨_, _, _, Tryz.underlying111, rfl, rfl, Tryz.sizeOf70⟩
theorem pu : aA Tryz.prog 118 0 0 := ⟨_, _, _, Tryz.underlying118, rfl, rfl, Tryz.sizeOf2⟩
theorem iw : aA Tryz.prog 148 0 0 := ⟨_, _, _, Tryz.underlying148, rfl, rfl, Tryz.sizeOf31⟩
theorem pr : aA Tryz.prog 148 1 1 := ⟨_, _, _, Tryz.underlying148, rfl, rfl, Tryz.sizeOf9⟩
theorem ph : aA Tryz.prog 148 2 2 := ⟨_, _, _, Tryz.underlying148, rfl, rfl, Tryz.sizeOf2⟩
theorem ix : aA Tryz.prog 156 0 0 := ⟨_, _, _, Tryz.underlying156, rfl, rfl, Tryz.sizeOf148⟩
theorem wW : aA Tryz.prog 156 1 3 := ⟨_, _, _, Tryz.underlying156, rfl, rfl, Tryz.sizeOf3⟩
theorem ja : aA Tryz.prog 156 2 4 := ⟨_, _, _, Tryz.underlying156, rfl, rfl, Tryz.sizeOf2⟩
theorem pG : aA Tryz.prog 156 3 5 := ⟨_, _, _, Tryz.underlying156, rfl, rfl, Tryz.sizeOf3⟩
theorem pN : aA Tryz.prog 156 4 6 := ⟨_, _, _, Tryz.underlying156, rfl, rfl, Tryz.sizeOf3⟩
theorem mS : aA Tryz.prog 156 5 7 := ⟨_, _, _, Tryz.underlying156, rfl, rfl, Tryz.sizeOf3⟩
theorem k7 : aA Tryz.prog 160 0 0 := ⟨_, _, _, Tryz.underlying160, rfl, rfl, Tryz.sizeOf70⟩
theorem fM : aA Tryz.prog 160 1 1 := ⟨_, _, _, Tryz.underlying160, rfl, rfl, Tryz.sizeOf3⟩
theorem eX : aA Tryz.prog 160 2 2 := ⟨_, _, _, Tryz.underlying160, rfl, rfl, Tryz.sizeOf4⟩
theorem xS : ir Tryz.prog 232 9 strT := ⟨Tryz.underlying232, Tryz.t9, by kernel_rfl, by kernel_rfl, by kernel_rfl, by decide⟩
theorem jb : aA Tryz.prog 252 0 0 := ⟨_, _, _, Tryz.underlying252, rfl, rfl, Tryz.sizeOf70⟩
theorem fL : aA Tryz.prog 277 0 0 := ⟨_, _, _, Tryz.underlying277, rfl, rfl, Tryz.sizeOf3⟩
theorem gP : aA Tryz.prog 277 1 1 := ⟨_, _, _, Tryz.underlying277, rfl, rfl, Tryz.sizeOf2⟩
theorem fK : aA Tryz.prog 277 2 2 := ⟨_, _, _, Tryz.underlying277, rfl, rfl, Tryz.sizeOf2⟩
theorem ld : aA Tryz.prog 306 0 0 := ⟨_, _, _, Tryz.underlying306, rfl, rfl, Tryz.sizeOf70⟩
theorem jh : aA Tryz.prog 306 1 1 := ⟨_, _, _, Tryz.underlying306, rfl, rfl, Tryz.sizeOf3⟩
theorem Dot.beq_ (a b : Dot) : (a == b) = ((a.s == b.s) && (a.n == b.n)) := by
 rw [Bool.eq_iff_iff]; simp only [beq_iff_eq, Bool.and_eq_true]; cases a; cases b; simp [Dot.mk.injEq, and_assoc]
theorem si {C : World → Prop} {σ : Env} {o : Oper} {x y : Operand} {ty : TypeId} {a b : Dot} (ho : o.op = .binOp .eql 35 x y ty) (hx : ev σ x = .agg #[.int .i64 a.s, .int .i64 a.n]) (hy : ev σ y = .agg #[.int .i64 b.s, .int .i64 b.n]) : QV Tryz.prog C σ o (.bool (a == b)) :=
 fun w _ => by
  have h1 : (eqGuard .eql 35 x y (.agg #[.int .i64 a.s, .int .i64 a.n]) (.agg #[.int .i64 b.s, .int .i64 b.n])).run Tryz.prog w = .ok () w := run_eqGuard_agg w .eql 35 x y _ _ Tryz.eqGuardType35
  have h2 : (Op.equalIn 10000 35 (.agg #[.int .i64 a.s, .int .i64 a.n]) (.agg #[.int .i64 b.s, .int .i64 b.n])).run Tryz.prog w = .ok (a == b) w := by
   rw [run_equalIn_agg w 9999 35 _ _ (by kernel_rfl) Tryz.stoodInHeld35, Dot.beq_]
   simp [Program.fieldsOf, Tryz.underlying35, Op.eqFields, part, Tryz.isAgg2, Tryz.underlying2, Tryz.isAgg3, Tryz.underlying3, run_equalIn_int, Sem.run_bind, Sem.run_pure]
   clear hx hy h1; by_cases e0 : a.s = b.s <;> by_cases e1 : a.n = b.n <;> simp [e0, e1]
  simp only [execOp, ho, hx, hy, Sem.run_bind, h1, Result.andThen_ok, run_eql_struct, h2, Sem.run_pure]
theorem pR {C : World → Prop} {σ : Env} {o : Oper} {x y : Operand} {ty : TypeId} {a b : Dot} (ho : o.op = .binOp .neq 35 x y ty) (hx : ev σ x = .agg #[.int .i64 a.s, .int .i64 a.n]) (hy : ev σ y = .agg #[.int .i64 b.s, .int .i64 b.n]) : QV Tryz.prog C σ o (.bool (a != b)) :=
 fun w _ => by
  have h1 : (eqGuard .neq 35 x y (.agg #[.int .i64 a.s, .int .i64 a.n]) (.agg #[.int .i64 b.s, .int .i64 b.n])).run Tryz.prog w = .ok () w := run_eqGuard_agg w .neq 35 x y _ _ Tryz.eqGuardType35
  have h2 : (Op.equalIn 10000 35 (.agg #[.int .i64 a.s, .int .i64 a.n]) (.agg #[.int .i64 b.s, .int .i64 b.n])).run Tryz.prog w = .ok (a == b) w := by
   rw [run_equalIn_agg w 9999 35 _ _ (by kernel_rfl) Tryz.stoodInHeld35, Dot.beq_]
   simp [Program.fieldsOf, Tryz.underlying35, Op.eqFields, part, Tryz.isAgg2, Tryz.underlying2, Tryz.isAgg3, Tryz.underlying3, run_equalIn_int, Sem.run_bind, Sem.run_pure]
   clear hx hy h1; by_cases e0 : a.s = b.s <;> by_cases e1 : a.n = b.n <;> simp [e0, e1]
  simp only [execOp, ho, hx, hy, Sem.run_bind, h1, Result.andThen_ok, run_neq_struct, h2, Sem.run_pure]; rfl
theorem Span.beq_ (a b : Span) : (a == b) = ((a.s == b.s) && (a.f == b.f) && (a.t == b.t)) := by
 rw [Bool.eq_iff_iff]; simp only [beq_iff_eq, Bool.and_eq_true]; cases a; cases b; simp [Span.mk.injEq, and_assoc]
theorem vy {C : World → Prop} {σ : Env} {o : Oper} {x y : Operand} {ty : TypeId} {a b : Span} (ho : o.op = .binOp .neq 277 x y ty) (hx : ev σ x = .agg #[.int .i64 a.s, .int .i64 a.f, .int .i64 a.t]) (hy : ev σ y = .agg #[.int .i64 b.s, .int .i64 b.f, .int .i64 b.t]) : QV Tryz.prog C σ o (.bool (a != b)) :=
 fun w _ => by
  have h1 : (eqGuard .neq 277 x y (.agg #[.int .i64 a.s, .int .i64 a.f, .int .i64 a.t]) (.agg #[.int .i64 b.s, .int .i64 b.f, .int .i64 b.t])).run Tryz.prog w = .ok () w := run_eqGuard_agg w .neq 277 x y _ _ Tryz.eqGuardType277
  have h2 : (Op.equalIn 10000 277 (.agg #[.int .i64 a.s, .int .i64 a.f, .int .i64 a.t]) (.agg #[.int .i64 b.s, .int .i64 b.f, .int .i64 b.t])).run Tryz.prog w = .ok (a == b) w := by
   rw [run_equalIn_agg w 9999 277 _ _ (by kernel_rfl) Tryz.stoodInHeld277, Span.beq_]
   simp [Program.fieldsOf, Tryz.underlying277, Op.eqFields, part, Tryz.isAgg2, Tryz.underlying2, Tryz.isAgg3, Tryz.underlying3, run_equalIn_int, Sem.run_bind, Sem.run_pure]
   clear hx hy h1; by_cases e0 : a.s = b.s <;> by_cases e1 : a.f = b.f <;> by_cases e2 : a.t = b.t <;> simp [e0, e1, e2]
  simp only [execOp, ho, hx, hy, Sem.run_bind, h1, Result.andThen_ok, run_neq_struct, h2, Sem.run_pure]; rfl
theorem ak.beq_ (a b : ak) : (a == b) = ((a.sink == b.sink) && (a.seq == b.seq)) := by
 rw [Bool.eq_iff_iff]; simp only [beq_iff_eq, Bool.and_eq_true]; cases a; cases b; simp [ak.mk.injEq, and_assoc]
theorem au.beq_ (a b : au) : (a == b) = ((a.sink == b.sink)) := by
 rw [Bool.eq_iff_iff]; simp only [beq_iff_eq, Bool.and_eq_true]; cases a; cases b; simp [au.mk.injEq, and_assoc]
theorem bP.beq_ (a b : bP) : (a == b) = ((a.seq == b.seq)) := by
 rw [Bool.eq_iff_iff]; simp only [beq_iff_eq, Bool.and_eq_true]; cases a; cases b; simp [bP.mk.injEq, and_assoc]
theorem cU.beq_ (a b : cU) : (a == b) = ((a.sink == b.sink)) := by
 rw [Bool.eq_iff_iff]; simp only [beq_iff_eq, Bool.and_eq_true]; cases a; cases b; simp [cU.mk.injEq, and_assoc]
end Fw
end Go.Proofs.YtlfmppjcgaekhaaGreat
