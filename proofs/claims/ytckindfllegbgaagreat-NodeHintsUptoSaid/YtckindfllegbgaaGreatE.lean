/- The types of this program: where fields lie, what slices hold, when structs are one. No condition. -/
import Derived.Test.YtckindfllegbgaaGreatD
import Derived.Test.YtckindfllegbgaaGreatRows
import Derived.ChangeKeysEq
namespace Go.Proofs.YtckindfllegbgaaGreat
namespace Fw
set_option linter.unusedVariables false
set_option linter.unusedSimpArgs false
set_option linter.unusedSectionVars false
open Go.RowKit
theorem elem_22:ElemOf Tryz.prog 22 45 recT:=⟨Tryz.underlying22,Tryz.t45,by kernel_rfl,by kernel_rfl,by kernel_rfl,by decide⟩
theorem fld_32_0:FieldAt Tryz.prog 32 0 0:=⟨_,_,_,Tryz.underlying32,rfl,rfl,Tryz.sizeOf3⟩
theorem fld_32_1:FieldAt Tryz.prog 32 1 1:=⟨_,_,_,Tryz.underlying32,rfl,rfl,Tryz.sizeOf3⟩
theorem elem_34:ElemOf Tryz.prog 34 40 dapi_MsgT:=⟨Tryz.underlying34,Tryz.t40,by kernel_rfl,by kernel_rfl,by kernel_rfl,by decide⟩
theorem fld_40_0:FieldAt Tryz.prog 40 0 0:=⟨_,_,_,Tryz.underlying40,rfl,rfl,Tryz.sizeOf3⟩
theorem fld_40_1:FieldAt Tryz.prog 40 1 1:=⟨_,_,_,Tryz.underlying40,rfl,rfl,Tryz.sizeOf32⟩
theorem fld_40_2:FieldAt Tryz.prog 40 2 3:=⟨_,_,_,Tryz.underlying40,rfl,rfl,Tryz.sizeOf32⟩
theorem fld_40_3:FieldAt Tryz.prog 40 3 5:=⟨_,_,_,Tryz.underlying40,rfl,rfl,Tryz.sizeOf2⟩
theorem fld_40_4:FieldAt Tryz.prog 40 4 6:=⟨_,_,_,Tryz.underlying40,rfl,rfl,Tryz.sizeOf2⟩
theorem fld_40_5:FieldAt Tryz.prog 40 5 7:=⟨_,_,_,Tryz.underlying40,rfl,rfl,Tryz.sizeOf3⟩
theorem fld_40_6:FieldAt Tryz.prog 40 6 8:=⟨_,_,_,Tryz.underlying40,rfl,rfl,Tryz.sizeOf28⟩
theorem fld_40_7:FieldAt Tryz.prog 40 7 9:=⟨_,_,_,Tryz.underlying40,rfl,rfl,Tryz.sizeOf9⟩
theorem fld_40_8:FieldAt Tryz.prog 40 8 10:=⟨_,_,_,Tryz.underlying40,rfl,rfl,Tryz.sizeOf22⟩
theorem fld_40_9:FieldAt Tryz.prog 40 9 11:=⟨_,_,_,Tryz.underlying40,rfl,rfl,Tryz.sizeOf36⟩
theorem fld_40_10:FieldAt Tryz.prog 40 10 12:=⟨_,_,_,Tryz.underlying40,rfl,rfl,Tryz.sizeOf37⟩
theorem fld_40_11:FieldAt Tryz.prog 40 11 13:=⟨_,_,_,Tryz.underlying40,rfl,rfl,Tryz.sizeOf38⟩
theorem fld_40_12:FieldAt Tryz.prog 40 12 14:=⟨_,_,_,Tryz.underlying40,rfl,rfl,Tryz.sizeOf37⟩
theorem elem_43:ElemOf Tryz.prog 43 89 verT:=⟨Tryz.underlying43,Tryz.t89,by kernel_rfl,by kernel_rfl,by kernel_rfl,by decide⟩
theorem fld_45_0:FieldAt Tryz.prog 45 0 0:=⟨_,_,_,Tryz.underlying45,rfl,rfl,Tryz.sizeOf9⟩
theorem fld_45_1:FieldAt Tryz.prog 45 1 1:=⟨_,_,_,Tryz.underlying45,rfl,rfl,Tryz.sizeOf43⟩
theorem elem_65:ElemOf Tryz.prog 65 96 ddisk_changeT:=⟨Tryz.underlying65,Tryz.t96,by kernel_rfl,by kernel_rfl,by kernel_rfl,by decide⟩
theorem fld_67_0:FieldAt Tryz.prog 67 0 0:=⟨_,_,_,Tryz.underlying67,rfl,rfl,Tryz.sizeOf3⟩
theorem fld_67_1:FieldAt Tryz.prog 67 1 1:=⟨_,_,_,Tryz.underlying67,rfl,rfl,Tryz.sizeOf64⟩
theorem fld_67_2:FieldAt Tryz.prog 67 2 2:=⟨_,_,_,Tryz.underlying67,rfl,rfl,Tryz.sizeOf64⟩
theorem fld_67_3:FieldAt Tryz.prog 67 3 3:=⟨_,_,_,Tryz.underlying67,rfl,rfl,Tryz.sizeOf65⟩
theorem fld_74_0:FieldAt Tryz.prog 74 0 0:=⟨_,_,_,Tryz.underlying74,rfl,rfl,Tryz.sizeOf2⟩
theorem fld_74_2:FieldAt Tryz.prog 74 2 2:=⟨_,_,_,Tryz.underlying74,rfl,rfl,Tryz.sizeOf32⟩
theorem fld_74_3:FieldAt Tryz.prog 74 3 4:=⟨_,_,_,Tryz.underlying74,rfl,rfl,Tryz.sizeOf68⟩
theorem fld_74_4:FieldAt Tryz.prog 74 4 5:=⟨_,_,_,Tryz.underlying74,rfl,rfl,Tryz.sizeOf71⟩
theorem fld_74_5:FieldAt Tryz.prog 74 5 6:=⟨_,_,_,Tryz.underlying74,rfl,rfl,Tryz.sizeOf72⟩
theorem elem_77:ElemOf Tryz.prog 77 5 byteT:=⟨Tryz.underlying77,Tryz.t5,by kernel_rfl,by kernel_rfl,by kernel_rfl,by decide⟩
theorem fld_86_0:FieldAt Tryz.prog 86 0 0:=⟨_,_,_,Tryz.underlying86,rfl,rfl,Tryz.sizeOf3⟩
theorem fld_86_1:FieldAt Tryz.prog 86 1 1:=⟨_,_,_,Tryz.underlying86,rfl,rfl,Tryz.sizeOf2⟩
theorem elem_87:ElemOf Tryz.prog 87 93 spanT:=⟨Tryz.underlying87,Tryz.t93,by kernel_rfl,by kernel_rfl,by kernel_rfl,by decide⟩
theorem fld_89_0:FieldAt Tryz.prog 89 0 0:=⟨_,_,_,Tryz.underlying89,rfl,rfl,Tryz.sizeOf86⟩
theorem fld_89_1:FieldAt Tryz.prog 89 1 2:=⟨_,_,_,Tryz.underlying89,rfl,rfl,Tryz.sizeOf87⟩
theorem fld_89_2:FieldAt Tryz.prog 89 2 3:=⟨_,_,_,Tryz.underlying89,rfl,rfl,Tryz.sizeOf4⟩
theorem fld_89_3:FieldAt Tryz.prog 89 3 4:=⟨_,_,_,Tryz.underlying89,rfl,rfl,Tryz.sizeOf9⟩
theorem fld_93_0:FieldAt Tryz.prog 93 0 0:=⟨_,_,_,Tryz.underlying93,rfl,rfl,Tryz.sizeOf3⟩
theorem fld_93_1:FieldAt Tryz.prog 93 1 1:=⟨_,_,_,Tryz.underlying93,rfl,rfl,Tryz.sizeOf2⟩
theorem fld_93_2:FieldAt Tryz.prog 93 2 2:=⟨_,_,_,Tryz.underlying93,rfl,rfl,Tryz.sizeOf2⟩
theorem fld_96_0:FieldAt Tryz.prog 96 0 0:=⟨_,_,_,Tryz.underlying96,rfl,rfl,Tryz.sizeOf94⟩
theorem fld_96_1:FieldAt Tryz.prog 96 1 1:=⟨_,_,_,Tryz.underlying96,rfl,rfl,Tryz.sizeOf9⟩
theorem fld_96_2:FieldAt Tryz.prog 96 2 2:=⟨_,_,_,Tryz.underlying96,rfl,rfl,Tryz.sizeOf77⟩
theorem elem_103:ElemOf Tryz.prog 103 77 (slT byteT):=⟨Tryz.underlying103,Tryz.t77,by kernel_rfl,by kernel_rfl,by kernel_rfl,by decide⟩
theorem fld_107_0:FieldAt Tryz.prog 107 0 0:=⟨_,_,_,Tryz.underlying107,rfl,rfl,Tryz.sizeOf102⟩
theorem fld_107_1:FieldAt Tryz.prog 107 1 1:=⟨_,_,_,Tryz.underlying107,rfl,rfl,Tryz.sizeOf63⟩
theorem elem_133:ElemOf Tryz.prog 133 9 strT:=⟨Tryz.underlying133,Tryz.t9,by kernel_rfl,by kernel_rfl,by kernel_rfl,by decide⟩
theorem fld_141_0:FieldAt Tryz.prog 141 0 0:=⟨_,_,_,Tryz.underlying141,rfl,rfl,Tryz.sizeOf25⟩
theorem fld_141_1:FieldAt Tryz.prog 141 1 1:=⟨_,_,_,Tryz.underlying141,rfl,rfl,Tryz.sizeOf9⟩
theorem fld_141_2:FieldAt Tryz.prog 141 2 2:=⟨_,_,_,Tryz.underlying141,rfl,rfl,Tryz.sizeOf2⟩
theorem fld_150_0:FieldAt Tryz.prog 150 0 0:=⟨_,_,_,Tryz.underlying150,rfl,rfl,Tryz.sizeOf141⟩
theorem fld_150_1:FieldAt Tryz.prog 150 1 3:=⟨_,_,_,Tryz.underlying150,rfl,rfl,Tryz.sizeOf3⟩
theorem fld_150_2:FieldAt Tryz.prog 150 2 4:=⟨_,_,_,Tryz.underlying150,rfl,rfl,Tryz.sizeOf2⟩
theorem fld_150_3:FieldAt Tryz.prog 150 3 5:=⟨_,_,_,Tryz.underlying150,rfl,rfl,Tryz.sizeOf3⟩
theorem fld_150_4:FieldAt Tryz.prog 150 4 6:=⟨_,_,_,Tryz.underlying150,rfl,rfl,Tryz.sizeOf3⟩
theorem fld_150_5:FieldAt Tryz.prog 150 5 7:=⟨_,_,_,Tryz.underlying150,rfl,rfl,Tryz.sizeOf3⟩
theorem fld_194_0:FieldAt Tryz.prog 194 0 0:=⟨_,_,_,Tryz.underlying194,rfl,rfl,Tryz.sizeOf77⟩
theorem fld_194_1:FieldAt Tryz.prog 194 1 1:=⟨_,_,_,Tryz.underlying194,rfl,rfl,Tryz.sizeOf3⟩
theorem fld_202_0:FieldAt Tryz.prog 202 0 0:=⟨_,_,_,Tryz.underlying202,rfl,rfl,Tryz.sizeOf77⟩
theorem Adr.beq_(a b:Adr):(a==b)=((a.site==b.site)&&(a.node==b.node)):=by
 rw [Bool.eq_iff_iff]; simp only [beq_iff_eq,Bool.and_eq_true]; cases a; cases b; simp [Adr.mk.injEq,and_assoc]
theorem q_neq_Adr{C:World→Prop}{σ:Env}{o:Oper}{x y:Operand}{ty:TypeId}{a b:Adr}(ho:o.op = .binOp .neq 32 x y ty)(hx:ev σ x = .agg #[.int .i64 a.site,.int .i64 a.node])(hy:ev σ y = .agg #[.int .i64 b.site,.int .i64 b.node]):QV Tryz.prog C σ o (.bool (a != b)):=
 λw _=>by
  have h1:(eqGuard .neq 32 x y (.agg #[.int .i64 a.site,.int .i64 a.node]) (.agg #[.int .i64 b.site,.int .i64 b.node])).run Tryz.prog w = .ok () w:=run_eqGuard_agg w .neq 32 x y _ _ Tryz.eqGuardType32
  have h2:(Op.equalIn 10000 32 (.agg #[.int .i64 a.site,.int .i64 a.node]) (.agg #[.int .i64 b.site,.int .i64 b.node])).run Tryz.prog w = .ok (a==b) w:=by
   rw [run_equalIn_agg w 9999 32 _ _ (by kernel_rfl) Tryz.stoodInHeld32,Adr.beq_]
   simp [Program.fieldsOf,Tryz.underlying32,Op.eqFields,part,Tryz.isAgg3,Tryz.underlying3,run_equalIn_int,Sem.run_bind,Sem.run_pure]
   clear hx hy h1; by_cases e0:a.site=b.site <;> by_cases e1:a.node=b.node <;> simp [e0,e1]
  simp only [execOp,ho,hx,hy,Sem.run_bind,h1,Result.andThen_ok,run_neq_struct,h2,Sem.run_pure]; rfl
theorem Dot.beq_(a b:Dot):(a==b)=((a.s==b.s)&&(a.n==b.n)):=by
 rw [Bool.eq_iff_iff]; simp only [beq_iff_eq,Bool.and_eq_true]; cases a; cases b; simp [Dot.mk.injEq,and_assoc]
theorem q_eql_Dot{C:World→Prop}{σ:Env}{o:Oper}{x y:Operand}{ty:TypeId}{a b:Dot}(ho:o.op = .binOp .eql 86 x y ty)(hx:ev σ x = .agg #[.int .i64 a.s,.int .i64 a.n])(hy:ev σ y = .agg #[.int .i64 b.s,.int .i64 b.n]):QV Tryz.prog C σ o (.bool (a==b)):=
 λw _=>by
  have h1:(eqGuard .eql 86 x y (.agg #[.int .i64 a.s,.int .i64 a.n]) (.agg #[.int .i64 b.s,.int .i64 b.n])).run Tryz.prog w = .ok () w:=run_eqGuard_agg w .eql 86 x y _ _ Tryz.eqGuardType86
  have h2:(Op.equalIn 10000 86 (.agg #[.int .i64 a.s,.int .i64 a.n]) (.agg #[.int .i64 b.s,.int .i64 b.n])).run Tryz.prog w = .ok (a==b) w:=by
   rw [run_equalIn_agg w 9999 86 _ _ (by kernel_rfl) Tryz.stoodInHeld86,Dot.beq_]
   simp [Program.fieldsOf,Tryz.underlying86,Op.eqFields,part,Tryz.isAgg2,Tryz.underlying2,Tryz.isAgg3,Tryz.underlying3,run_equalIn_int,Sem.run_bind,Sem.run_pure]
   clear hx hy h1; by_cases e0:a.s=b.s <;> by_cases e1:a.n=b.n <;> simp [e0,e1]
  simp only [execOp,ho,hx,hy,Sem.run_bind,h1,Result.andThen_ok,run_eql_struct,h2,Sem.run_pure]
theorem q_neq_Dot{C:World→Prop}{σ:Env}{o:Oper}{x y:Operand}{ty:TypeId}{a b:Dot}(ho:o.op = .binOp .neq 86 x y ty)(hx:ev σ x = .agg #[.int .i64 a.s,.int .i64 a.n])(hy:ev σ y = .agg #[.int .i64 b.s,.int .i64 b.n]):QV Tryz.prog C σ o (.bool (a != b)):=
 λw _=>by
  have h1:(eqGuard .neq 86 x y (.agg #[.int .i64 a.s,.int .i64 a.n]) (.agg #[.int .i64 b.s,.int .i64 b.n])).run Tryz.prog w = .ok () w:=run_eqGuard_agg w .neq 86 x y _ _ Tryz.eqGuardType86
  have h2:(Op.equalIn 10000 86 (.agg #[.int .i64 a.s,.int .i64 a.n]) (.agg #[.int .i64 b.s,.int .i64 b.n])).run Tryz.prog w = .ok (a==b) w:=by
   rw [run_equalIn_agg w 9999 86 _ _ (by kernel_rfl) Tryz.stoodInHeld86,Dot.beq_]
   simp [Program.fieldsOf,Tryz.underlying86,Op.eqFields,part,Tryz.isAgg2,Tryz.underlying2,Tryz.isAgg3,Tryz.underlying3,run_equalIn_int,Sem.run_bind,Sem.run_pure]
   clear hx hy h1; by_cases e0:a.s=b.s <;> by_cases e1:a.n=b.n <;> simp [e0,e1]
  simp only [execOp,ho,hx,hy,Sem.run_bind,h1,Result.andThen_ok,run_neq_struct,h2,Sem.run_pure]; rfl
theorem Span.beq_(a b:Span):(a==b)=((a.s==b.s)&&(a.f==b.f)&&(a.t==b.t)):=by
 rw [Bool.eq_iff_iff]; simp only [beq_iff_eq,Bool.and_eq_true]; cases a; cases b; simp [Span.mk.injEq,and_assoc]
theorem q_neq_Span{C:World→Prop}{σ:Env}{o:Oper}{x y:Operand}{ty:TypeId}{a b:Span}(ho:o.op = .binOp .neq 93 x y ty)(hx:ev σ x = .agg #[.int .i64 a.s,.int .i64 a.f,.int .i64 a.t])(hy:ev σ y = .agg #[.int .i64 b.s,.int .i64 b.f,.int .i64 b.t]):QV Tryz.prog C σ o (.bool (a != b)):=
 λw _=>by
  have h1:(eqGuard .neq 93 x y (.agg #[.int .i64 a.s,.int .i64 a.f,.int .i64 a.t]) (.agg #[.int .i64 b.s,.int .i64 b.f,.int .i64 b.t])).run Tryz.prog w = .ok () w:=run_eqGuard_agg w .neq 93 x y _ _ Tryz.eqGuardType93
  have h2:(Op.equalIn 10000 93 (.agg #[.int .i64 a.s,.int .i64 a.f,.int .i64 a.t]) (.agg #[.int .i64 b.s,.int .i64 b.f,.int .i64 b.t])).run Tryz.prog w = .ok (a==b) w:=by
   rw [run_equalIn_agg w 9999 93 _ _ (by kernel_rfl) Tryz.stoodInHeld93,Span.beq_]
   simp [Program.fieldsOf,Tryz.underlying93,Op.eqFields,part,Tryz.isAgg2,Tryz.underlying2,Tryz.isAgg3,Tryz.underlying3,run_equalIn_int,Sem.run_bind,Sem.run_pure]
   clear hx hy h1; by_cases e0:a.s=b.s <;> by_cases e1:a.f=b.f <;> by_cases e2:a.t=b.t <;> simp [e0,e1,e2]
  simp only [execOp,ho,hx,hy,Sem.run_bind,h1,Result.andThen_ok,run_neq_struct,h2,Sem.run_pure]; rfl
end Fw
end Go.Proofs.YtckindfllegbgaaGreat
