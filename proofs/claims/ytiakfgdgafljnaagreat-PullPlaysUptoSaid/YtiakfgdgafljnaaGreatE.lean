/- The types of this program: where fields lie, what slices hold, when structs are one. No condition. -/
import Derived.Test.YtiakfgdgafljnaaGreatD
import Derived.Test.YtiakfgdgafljnaaGreatRows
import Derived.ChangeKeysEq
namespace Go.Proofs.YtiakfgdgafljnaaGreat
namespace Fw
set_option linter.unusedVariables false
set_option linter.unusedSimpArgs false
set_option linter.unusedSectionVars false
open Go.RowKit
theorem elem_22:ElemOf Tryz.prog 22 2 intT:=⟨Tryz.underlying22,Tryz.t2,by kernel_rfl,by kernel_rfl,by kernel_rfl,by decide⟩
theorem elem_23:ElemOf Tryz.prog 23 70 recT:=⟨Tryz.underlying23,Tryz.t70,by kernel_rfl,by kernel_rfl,by kernel_rfl,by decide⟩
theorem elem_24:ElemOf Tryz.prog 24 3 intT:=⟨Tryz.underlying24,Tryz.t3,by kernel_rfl,by kernel_rfl,by kernel_rfl,by decide⟩
theorem elem_33:ElemOf Tryz.prog 33 78 u64T:=⟨Tryz.underlying33,Tryz.t78,by kernel_rfl,by kernel_rfl,by kernel_rfl,by decide⟩
theorem fld_41_0:FieldAt Tryz.prog 41 0 0:=⟨_,_,_,Tryz.underlying41,rfl,rfl,Tryz.sizeOf2⟩
theorem fld_41_1:FieldAt Tryz.prog 41 1 1:=⟨_,_,_,Tryz.underlying41,rfl,rfl,Tryz.sizeOf22⟩
theorem fld_41_2:FieldAt Tryz.prog 41 2 2:=⟨_,_,_,Tryz.underlying41,rfl,rfl,Tryz.sizeOf23⟩
theorem elem_46:ElemOf Tryz.prog 46 54 dfirthlaw19_OpT:=⟨Tryz.underlying46,Tryz.t54,by kernel_rfl,by kernel_rfl,by kernel_rfl,by decide⟩
theorem fld_54_0:FieldAt Tryz.prog 54 0 0:=⟨_,_,_,Tryz.underlying54,rfl,rfl,Tryz.sizeOf3⟩
theorem fld_54_1:FieldAt Tryz.prog 54 1 1:=⟨_,_,_,Tryz.underlying54,rfl,rfl,Tryz.sizeOf22⟩
theorem fld_54_2:FieldAt Tryz.prog 54 2 2:=⟨_,_,_,Tryz.underlying54,rfl,rfl,Tryz.sizeOf24⟩
theorem fld_54_3:FieldAt Tryz.prog 54 3 3:=⟨_,_,_,Tryz.underlying54,rfl,rfl,Tryz.sizeOf33⟩
theorem fld_54_4:FieldAt Tryz.prog 54 4 4:=⟨_,_,_,Tryz.underlying54,rfl,rfl,Tryz.sizeOf23⟩
theorem elem_57:ElemOf Tryz.prog 57 24 (slT intT):=⟨Tryz.underlying57,Tryz.t24,by kernel_rfl,by kernel_rfl,by kernel_rfl,by decide⟩
theorem fld_59_0:FieldAt Tryz.prog 59 0 0:=⟨_,_,_,Tryz.underlying59,rfl,rfl,Tryz.sizeOf2⟩
theorem fld_59_1:FieldAt Tryz.prog 59 1 1:=⟨_,_,_,Tryz.underlying59,rfl,rfl,Tryz.sizeOf23⟩
theorem fld_59_2:FieldAt Tryz.prog 59 2 2:=⟨_,_,_,Tryz.underlying59,rfl,rfl,Tryz.sizeOf4⟩
theorem fld_59_3:FieldAt Tryz.prog 59 3 3:=⟨_,_,_,Tryz.underlying59,rfl,rfl,Tryz.sizeOf22⟩
theorem fld_59_4:FieldAt Tryz.prog 59 4 4:=⟨_,_,_,Tryz.underlying59,rfl,rfl,Tryz.sizeOf57⟩
theorem fld_59_5:FieldAt Tryz.prog 59 5 5:=⟨_,_,_,Tryz.underlying59,rfl,rfl,Tryz.sizeOf23⟩
theorem elem_67:ElemOf Tryz.prog 67 115 verT:=⟨Tryz.underlying67,Tryz.t115,by kernel_rfl,by kernel_rfl,by kernel_rfl,by decide⟩
theorem fld_70_0:FieldAt Tryz.prog 70 0 0:=⟨_,_,_,Tryz.underlying70,rfl,rfl,Tryz.sizeOf9⟩
theorem fld_70_1:FieldAt Tryz.prog 70 1 1:=⟨_,_,_,Tryz.underlying70,rfl,rfl,Tryz.sizeOf67⟩
theorem fld_85_0:FieldAt Tryz.prog 85 0 0:=⟨_,_,_,Tryz.underlying85,rfl,rfl,Tryz.sizeOf2⟩
theorem fld_85_1:FieldAt Tryz.prog 85 1 1:=⟨_,_,_,Tryz.underlying85,rfl,rfl,Tryz.sizeOf22⟩
theorem fld_85_2:FieldAt Tryz.prog 85 2 2:=⟨_,_,_,Tryz.underlying85,rfl,rfl,Tryz.sizeOf79⟩
theorem elem_95:ElemOf Tryz.prog 95 100 dpull_wayT:=⟨Tryz.underlying95,Tryz.t100,by kernel_rfl,by kernel_rfl,by kernel_rfl,by decide⟩
theorem fld_97_0:FieldAt Tryz.prog 97 0 0:=⟨_,_,_,Tryz.underlying97,rfl,rfl,Tryz.sizeOf2⟩
theorem fld_97_1:FieldAt Tryz.prog 97 1 1:=⟨_,_,_,Tryz.underlying97,rfl,rfl,Tryz.sizeOf79⟩
theorem fld_97_2:FieldAt Tryz.prog 97 2 2:=⟨_,_,_,Tryz.underlying97,rfl,rfl,Tryz.sizeOf4⟩
theorem fld_97_3:FieldAt Tryz.prog 97 3 3:=⟨_,_,_,Tryz.underlying97,rfl,rfl,Tryz.sizeOf22⟩
theorem fld_97_4:FieldAt Tryz.prog 97 4 4:=⟨_,_,_,Tryz.underlying97,rfl,rfl,Tryz.sizeOf95⟩
theorem fld_97_5:FieldAt Tryz.prog 97 5 5:=⟨_,_,_,Tryz.underlying97,rfl,rfl,Tryz.sizeOf79⟩
theorem fld_112_0:FieldAt Tryz.prog 112 0 0:=⟨_,_,_,Tryz.underlying112,rfl,rfl,Tryz.sizeOf3⟩
theorem fld_112_1:FieldAt Tryz.prog 112 1 1:=⟨_,_,_,Tryz.underlying112,rfl,rfl,Tryz.sizeOf2⟩
theorem elem_113:ElemOf Tryz.prog 113 117 spanT:=⟨Tryz.underlying113,Tryz.t117,by kernel_rfl,by kernel_rfl,by kernel_rfl,by decide⟩
theorem fld_115_0:FieldAt Tryz.prog 115 0 0:=⟨_,_,_,Tryz.underlying115,rfl,rfl,Tryz.sizeOf112⟩
theorem fld_115_1:FieldAt Tryz.prog 115 1 2:=⟨_,_,_,Tryz.underlying115,rfl,rfl,Tryz.sizeOf113⟩
theorem fld_115_2:FieldAt Tryz.prog 115 2 3:=⟨_,_,_,Tryz.underlying115,rfl,rfl,Tryz.sizeOf4⟩
theorem fld_115_3:FieldAt Tryz.prog 115 3 4:=⟨_,_,_,Tryz.underlying115,rfl,rfl,Tryz.sizeOf9⟩
theorem fld_117_0:FieldAt Tryz.prog 117 0 0:=⟨_,_,_,Tryz.underlying117,rfl,rfl,Tryz.sizeOf3⟩
theorem fld_117_1:FieldAt Tryz.prog 117 1 1:=⟨_,_,_,Tryz.underlying117,rfl,rfl,Tryz.sizeOf2⟩
theorem fld_117_2:FieldAt Tryz.prog 117 2 2:=⟨_,_,_,Tryz.underlying117,rfl,rfl,Tryz.sizeOf2⟩
theorem fld_123_0:FieldAt Tryz.prog 123 0 0:=⟨_,_,_,Tryz.underlying123,rfl,rfl,Tryz.sizeOf121⟩
theorem fld_123_1:FieldAt Tryz.prog 123 1 256:=⟨_,_,_,Tryz.underlying123,rfl,rfl,Tryz.sizeOf118⟩
theorem elem_130:ElemOf Tryz.prog 130 9 strT:=⟨Tryz.underlying130,Tryz.t9,by kernel_rfl,by kernel_rfl,by kernel_rfl,by decide⟩
theorem elem_136:ElemOf Tryz.prog 136 5 byteT:=⟨Tryz.underlying136,Tryz.t5,by kernel_rfl,by kernel_rfl,by kernel_rfl,by decide⟩
theorem fld_150_1:FieldAt Tryz.prog 150 1 0:=⟨_,_,_,Tryz.underlying150,rfl,rfl,Tryz.sizeOf148⟩
theorem fld_154_1:FieldAt Tryz.prog 154 1 0:=⟨_,_,_,Tryz.underlying154,rfl,rfl,Tryz.sizeOf152⟩
theorem fld_156_1:FieldAt Tryz.prog 156 1 0:=⟨_,_,_,Tryz.underlying156,rfl,rfl,Tryz.sizeOf150⟩
theorem fld_156_2:FieldAt Tryz.prog 156 2 1:=⟨_,_,_,Tryz.underlying156,rfl,rfl,Tryz.sizeOf154⟩
theorem fld_158_0:FieldAt Tryz.prog 158 0 0:=⟨_,_,_,Tryz.underlying158,rfl,rfl,Tryz.sizeOf156⟩
theorem fld_158_1:FieldAt Tryz.prog 158 1 3:=⟨_,_,_,Tryz.underlying158,rfl,rfl,Tryz.sizeOf78⟩
theorem Dot.beq_(a b:Dot):(a==b)=((a.s==b.s)&&(a.n==b.n)):=by
  rw [Bool.eq_iff_iff]; simp only [beq_iff_eq,Bool.and_eq_true]; cases a; cases b; simp [Dot.mk.injEq,and_assoc]
theorem q_eql_Dot{C:World→Prop}{σ:Env}{o:Oper}{x y:Operand}{ty:TypeId}{a b:Dot}(ho:o.op = .binOp .eql 112 x y ty)(hx:ev σ x = .agg #[.int .i64 a.s,.int .i64 a.n])(hy:ev σ y = .agg #[.int .i64 b.s,.int .i64 b.n]):QV Tryz.prog C σ o (.bool (a==b)):=
  λw _=>by
    have h1:(eqGuard .eql 112 x y (.agg #[.int .i64 a.s,.int .i64 a.n]) (.agg #[.int .i64 b.s,.int .i64 b.n])).run Tryz.prog w = .ok () w:=run_eqGuard_agg w .eql 112 x y _ _ Tryz.eqGuardType112
    have h2:(Op.equalIn 10000 112 (.agg #[.int .i64 a.s,.int .i64 a.n]) (.agg #[.int .i64 b.s,.int .i64 b.n])).run Tryz.prog w = .ok (a==b) w:=by
      rw [run_equalIn_agg w 9999 112 _ _ (by kernel_rfl) Tryz.stoodInHeld112,Dot.beq_]
      simp [Program.fieldsOf,Tryz.underlying112,Op.eqFields,part,Tryz.isAgg2,Tryz.underlying2,Tryz.isAgg3,Tryz.underlying3,run_equalIn_int,Sem.run_bind,Sem.run_pure]
      clear hx hy h1; by_cases e0:a.s=b.s <;> by_cases e1:a.n=b.n <;> simp [e0,e1]
    simp only [execOp,ho,hx,hy,Sem.run_bind,h1,Result.andThen_ok,run_eql_struct,h2,Sem.run_pure]
theorem q_neq_Dot{C:World→Prop}{σ:Env}{o:Oper}{x y:Operand}{ty:TypeId}{a b:Dot}(ho:o.op = .binOp .neq 112 x y ty)(hx:ev σ x = .agg #[.int .i64 a.s,.int .i64 a.n])(hy:ev σ y = .agg #[.int .i64 b.s,.int .i64 b.n]):QV Tryz.prog C σ o (.bool (a != b)):=
  λw _=>by
    have h1:(eqGuard .neq 112 x y (.agg #[.int .i64 a.s,.int .i64 a.n]) (.agg #[.int .i64 b.s,.int .i64 b.n])).run Tryz.prog w = .ok () w:=run_eqGuard_agg w .neq 112 x y _ _ Tryz.eqGuardType112
    have h2:(Op.equalIn 10000 112 (.agg #[.int .i64 a.s,.int .i64 a.n]) (.agg #[.int .i64 b.s,.int .i64 b.n])).run Tryz.prog w = .ok (a==b) w:=by
      rw [run_equalIn_agg w 9999 112 _ _ (by kernel_rfl) Tryz.stoodInHeld112,Dot.beq_]
      simp [Program.fieldsOf,Tryz.underlying112,Op.eqFields,part,Tryz.isAgg2,Tryz.underlying2,Tryz.isAgg3,Tryz.underlying3,run_equalIn_int,Sem.run_bind,Sem.run_pure]
      clear hx hy h1; by_cases e0:a.s=b.s <;> by_cases e1:a.n=b.n <;> simp [e0,e1]
    simp only [execOp,ho,hx,hy,Sem.run_bind,h1,Result.andThen_ok,run_neq_struct,h2,Sem.run_pure]; rfl
theorem Span.beq_(a b:Span):(a==b)=((a.s==b.s)&&(a.f==b.f)&&(a.t==b.t)):=by
  rw [Bool.eq_iff_iff]; simp only [beq_iff_eq,Bool.and_eq_true]; cases a; cases b; simp [Span.mk.injEq,and_assoc]
theorem q_eql_Span{C:World→Prop}{σ:Env}{o:Oper}{x y:Operand}{ty:TypeId}{a b:Span}(ho:o.op = .binOp .eql 117 x y ty)(hx:ev σ x = .agg #[.int .i64 a.s,.int .i64 a.f,.int .i64 a.t])(hy:ev σ y = .agg #[.int .i64 b.s,.int .i64 b.f,.int .i64 b.t]):QV Tryz.prog C σ o (.bool (a==b)):=
  λw _=>by
    have h1:(eqGuard .eql 117 x y (.agg #[.int .i64 a.s,.int .i64 a.f,.int .i64 a.t]) (.agg #[.int .i64 b.s,.int .i64 b.f,.int .i64 b.t])).run Tryz.prog w = .ok () w:=run_eqGuard_agg w .eql 117 x y _ _ Tryz.eqGuardType117
    have h2:(Op.equalIn 10000 117 (.agg #[.int .i64 a.s,.int .i64 a.f,.int .i64 a.t]) (.agg #[.int .i64 b.s,.int .i64 b.f,.int .i64 b.t])).run Tryz.prog w = .ok (a==b) w:=by
      rw [run_equalIn_agg w 9999 117 _ _ (by kernel_rfl) Tryz.stoodInHeld117,Span.beq_]
      simp [Program.fieldsOf,Tryz.underlying117,Op.eqFields,part,Tryz.isAgg2,Tryz.underlying2,Tryz.isAgg3,Tryz.underlying3,run_equalIn_int,Sem.run_bind,Sem.run_pure]
      clear hx hy h1; by_cases e0:a.s=b.s <;> by_cases e1:a.f=b.f <;> by_cases e2:a.t=b.t <;> simp [e0,e1,e2]
    simp only [execOp,ho,hx,hy,Sem.run_bind,h1,Result.andThen_ok,run_eql_struct,h2,Sem.run_pure]
theorem q_neq_Span{C:World→Prop}{σ:Env}{o:Oper}{x y:Operand}{ty:TypeId}{a b:Span}(ho:o.op = .binOp .neq 117 x y ty)(hx:ev σ x = .agg #[.int .i64 a.s,.int .i64 a.f,.int .i64 a.t])(hy:ev σ y = .agg #[.int .i64 b.s,.int .i64 b.f,.int .i64 b.t]):QV Tryz.prog C σ o (.bool (a != b)):=
  λw _=>by
    have h1:(eqGuard .neq 117 x y (.agg #[.int .i64 a.s,.int .i64 a.f,.int .i64 a.t]) (.agg #[.int .i64 b.s,.int .i64 b.f,.int .i64 b.t])).run Tryz.prog w = .ok () w:=run_eqGuard_agg w .neq 117 x y _ _ Tryz.eqGuardType117
    have h2:(Op.equalIn 10000 117 (.agg #[.int .i64 a.s,.int .i64 a.f,.int .i64 a.t]) (.agg #[.int .i64 b.s,.int .i64 b.f,.int .i64 b.t])).run Tryz.prog w = .ok (a==b) w:=by
      rw [run_equalIn_agg w 9999 117 _ _ (by kernel_rfl) Tryz.stoodInHeld117,Span.beq_]
      simp [Program.fieldsOf,Tryz.underlying117,Op.eqFields,part,Tryz.isAgg2,Tryz.underlying2,Tryz.isAgg3,Tryz.underlying3,run_equalIn_int,Sem.run_bind,Sem.run_pure]
      clear hx hy h1; by_cases e0:a.s=b.s <;> by_cases e1:a.f=b.f <;> by_cases e2:a.t=b.t <;> simp [e0,e1,e2]
    simp only [execOp,ho,hx,hy,Sem.run_bind,h1,Result.andThen_ok,run_neq_struct,h2,Sem.run_pure]; rfl
theorem Dpull_way.beq_(a b:Dpull_way):(a==b)=((a.a0==b.a0)&&(a.a1==b.a1)):=by
  rw [Bool.eq_iff_iff]; simp only [beq_iff_eq,Bool.and_eq_true]; cases a; cases b; simp [Dpull_way.mk.injEq,and_assoc]
theorem q_eql_Dpull_way{C:World→Prop}{σ:Env}{o:Oper}{x y:Operand}{ty:TypeId}{a b:Dpull_way}(ho:o.op = .binOp .eql 100 x y ty)(hx:ev σ x = .agg #[.int .i64 a.a0,.int .i64 a.a1])(hy:ev σ y = .agg #[.int .i64 b.a0,.int .i64 b.a1]):QV Tryz.prog C σ o (.bool (a==b)):=
  λw _=>by
    have h1:(eqGuard .eql 100 x y (.agg #[.int .i64 a.a0,.int .i64 a.a1]) (.agg #[.int .i64 b.a0,.int .i64 b.a1])).run Tryz.prog w = .ok () w:=run_eqGuard_agg w .eql 100 x y _ _ Tryz.eqGuardType100
    have h2:(Op.equalIn 10000 100 (.agg #[.int .i64 a.a0,.int .i64 a.a1]) (.agg #[.int .i64 b.a0,.int .i64 b.a1])).run Tryz.prog w = .ok (a==b) w:=by
      show (Op.equalIn (9999+1) 100 _ _).run _ _=_
      rw [run_equalIn_array (i:=Tryz.t3) w 9999 _ _ Tryz.underlying100 (by kernel_rfl),show Tryz.prog.cellsOf 3=1 from by kernel_rfl,show List.range 2 = [0,1] from rfl,Dpull_way.beq_]
      simp only [Op.eqItems,part,Tryz.isAgg3,Sem.run_bind,Result.andThen_ok,Sem.run_pure]
      clear hx hy h1; by_cases e0:a.a0=b.a0 <;> by_cases e1:a.a1=b.a1 <;> simp [e0,e1,run_equalIn_int,Tryz.underlying3,Sem.run_pure,Sem.run_bind]
    simp only [execOp,ho,hx,hy,Sem.run_bind,h1,Result.andThen_ok,run_eql_struct,h2,Sem.run_pure]
theorem q_neq_Dpull_way{C:World→Prop}{σ:Env}{o:Oper}{x y:Operand}{ty:TypeId}{a b:Dpull_way}(ho:o.op = .binOp .neq 100 x y ty)(hx:ev σ x = .agg #[.int .i64 a.a0,.int .i64 a.a1])(hy:ev σ y = .agg #[.int .i64 b.a0,.int .i64 b.a1]):QV Tryz.prog C σ o (.bool (a != b)):=
  λw _=>by
    have h1:(eqGuard .neq 100 x y (.agg #[.int .i64 a.a0,.int .i64 a.a1]) (.agg #[.int .i64 b.a0,.int .i64 b.a1])).run Tryz.prog w = .ok () w:=run_eqGuard_agg w .neq 100 x y _ _ Tryz.eqGuardType100
    have h2:(Op.equalIn 10000 100 (.agg #[.int .i64 a.a0,.int .i64 a.a1]) (.agg #[.int .i64 b.a0,.int .i64 b.a1])).run Tryz.prog w = .ok (a==b) w:=by
      show (Op.equalIn (9999+1) 100 _ _).run _ _=_
      rw [run_equalIn_array (i:=Tryz.t3) w 9999 _ _ Tryz.underlying100 (by kernel_rfl),show Tryz.prog.cellsOf 3=1 from by kernel_rfl,show List.range 2 = [0,1] from rfl,Dpull_way.beq_]
      simp only [Op.eqItems,part,Tryz.isAgg3,Sem.run_bind,Result.andThen_ok,Sem.run_pure]
      clear hx hy h1; by_cases e0:a.a0=b.a0 <;> by_cases e1:a.a1=b.a1 <;> simp [e0,e1,run_equalIn_int,Tryz.underlying3,Sem.run_pure,Sem.run_bind]
    simp only [execOp,ho,hx,hy,Sem.run_bind,h1,Result.andThen_ok,run_neq_struct,h2,Sem.run_pure]; rfl
def kv125(x:Int×Int×Int):Value:=.agg #[.int .i64 x.1,.int .i64 x.2.1,.int .i64 x.2.2]
theorem keq125(w:World)(x y:Int×Int×Int):(Op.equal 125 (kv125 x) (kv125 y)).run Tryz.prog w = .ok (decide (x=y)) w:=by
  obtain⟨x0,x1,x2⟩:=x; obtain⟨y0,y1,y2⟩:=y
  show (Op.equalIn (9999+1) 125 (.agg #[.int .i64 x0,.int .i64 x1,.int .i64 x2]) (.agg #[.int .i64 y0,.int .i64 y1,.int .i64 y2])).run _ _=_
  rw [run_equalIn_array (i:=Tryz.t3) w 9999 _ _ Tryz.underlying125 (by kernel_rfl),show Tryz.prog.cellsOf 3=1 from by kernel_rfl,show List.range 3 = [0,1,2] from rfl]
  have hx0:(x0==y0)=decide (x0=y0):=rfl
  have hx1:(x1==y1)=decide (x1=y1):=rfl
  have hx2:(x2==y2)=decide (x2=y2):=rfl
  simp only [Op.eqItems,part,Tryz.isAgg3,Sem.run_bind,Result.andThen_ok,Sem.run_pure]
  cases ex0:decide (x0=y0) <;> cases ex1:decide (x1=y1) <;> cases ex2:decide (x2=y2) <;> simp_all [run_equalIn_int,Tryz.underlying3,Sem.run_pure,Sem.run_bind]
def kk125:KeyT Tryz.prog 125 (Int×Int×Int):=KeyT.of_eq Tryz.underlying125 kv125 (λ_ _=>rfl) keq125 (λw em x=>by kernel_rfl) (λw x=>by simp [kv125,Instr.keyThatStays,Instr.sameBits,Sem.run_pure]) (by rintro⟨x0,x1,x2⟩ ⟨y0,y1,y2⟩ h; simpa [kv125] using h) (λx=>I64 x.1∧I64 x.2.1∧I64 x.2.2)
end Fw
end Go.Proofs.YtiakfgdgafljnaaGreat
