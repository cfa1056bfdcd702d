/- The types of this program: where fields lie, what slices hold, when structs are one. No condition. -/
import Derived.Test.YtangaamigenjjaaGreatD
import Derived.Test.YtangaamigenjjaaGreatRows
import Derived.ChangeKeysEq
namespace Go.Proofs.YtangaamigenjjaaGreat
namespace Fw
set_option linter.unusedVariables false
set_option linter.unusedSimpArgs false
set_option linter.unusedSectionVars false
open Go.RowKit
theorem lD:fS Tryz.prog 22 3 intT:=⟨Tryz.underlying22,Tryz.t3,by kernel_rfl,by kernel_rfl,by kernel_rfl,by decide⟩
theorem ke:aF Tryz.prog 25 0 0:=⟨_,_,_,Tryz.underlying25,rfl,rfl,Tryz.sizeOf3⟩
theorem gS:aF Tryz.prog 25 1 1:=⟨_,_,_,Tryz.underlying25,rfl,rfl,Tryz.sizeOf3⟩
theorem iJ:aF Tryz.prog 25 2 2:=⟨_,_,_,Tryz.underlying25,rfl,rfl,Tryz.sizeOf22⟩
theorem rF:aF Tryz.prog 25 3 3:=⟨_,_,_,Tryz.underlying25,rfl,rfl,Tryz.sizeOf3⟩
theorem l6:aF Tryz.prog 25 4 4:=⟨_,_,_,Tryz.underlying25,rfl,rfl,Tryz.sizeOf2⟩
theorem rc:aF Tryz.prog 25 5 5:=⟨_,_,_,Tryz.underlying25,rfl,rfl,Tryz.sizeOf22⟩
theorem zA:fS Tryz.prog 33 207 gO:=⟨Tryz.underlying33,Tryz.t207,by kernel_rfl,by kernel_rfl,by kernel_rfl,by decide⟩
theorem cz:aF Tryz.prog 35 0 0:=⟨_,_,_,Tryz.underlying35,rfl,rfl,Tryz.sizeOf3⟩
theorem eP:aF Tryz.prog 35 1 1:=⟨_,_,_,Tryz.underlying35,rfl,rfl,Tryz.sizeOf2⟩
theorem bJ:aF Tryz.prog 37 0 0:=⟨_,_,_,Tryz.underlying37,rfl,rfl,Tryz.sizeOf35⟩
theorem eX:aF Tryz.prog 37 1 2:=⟨_,_,_,Tryz.underlying37,rfl,rfl,Tryz.sizeOf33⟩
theorem la:aF Tryz.prog 37 2 3:=⟨_,_,_,Tryz.underlying37,rfl,rfl,Tryz.sizeOf4⟩
theorem dX:aF Tryz.prog 37 3 4:=⟨_,_,_,Tryz.underlying37,rfl,rfl,Tryz.sizeOf9⟩
theorem zg:fS Tryz.prog 40 37 verT:=⟨Tryz.underlying40,Tryz.t37,by kernel_rfl,by kernel_rfl,by kernel_rfl,by decide⟩
theorem kc:aF Tryz.prog 42 0 0:=⟨_,_,_,Tryz.underlying42,rfl,rfl,Tryz.sizeOf9⟩
theorem bG:aF Tryz.prog 42 1 1:=⟨_,_,_,Tryz.underlying42,rfl,rfl,Tryz.sizeOf40⟩
theorem iz:fS Tryz.prog 46 2 intT:=⟨Tryz.underlying46,Tryz.t2,by kernel_rfl,by kernel_rfl,by kernel_rfl,by decide⟩
theorem zP:fS Tryz.prog 49 52 bN:=⟨Tryz.underlying49,Tryz.t52,by kernel_rfl,by kernel_rfl,by kernel_rfl,by decide⟩
theorem qO:aF Tryz.prog 52 0 0:=⟨_,_,_,Tryz.underlying52,rfl,rfl,Tryz.sizeOf2⟩
theorem mu:aF Tryz.prog 52 1 1:=⟨_,_,_,Tryz.underlying52,rfl,rfl,Tryz.sizeOf42⟩
theorem kb:aF Tryz.prog 52 2 3:=⟨_,_,_,Tryz.underlying52,rfl,rfl,Tryz.sizeOf22⟩
theorem wv:fS Tryz.prog 60 69 (slT ay):=⟨Tryz.underlying60,Tryz.t69,by kernel_rfl,by kernel_rfl,by kernel_rfl,by decide⟩
theorem vD:fS Tryz.prog 66 89 aZ:=⟨Tryz.underlying66,Tryz.t89,by kernel_rfl,by kernel_rfl,by kernel_rfl,by decide⟩
theorem ix:aF Tryz.prog 68 0 0:=⟨_,_,_,Tryz.underlying68,rfl,rfl,Tryz.sizeOf25⟩
theorem gW:aF Tryz.prog 68 1 6:=⟨_,_,_,Tryz.underlying68,rfl,rfl,Tryz.sizeOf59⟩
theorem cj:aF Tryz.prog 68 2 7:=⟨_,_,_,Tryz.underlying68,rfl,rfl,Tryz.sizeOf46⟩
theorem gA:aF Tryz.prog 68 3 8:=⟨_,_,_,Tryz.underlying68,rfl,rfl,Tryz.sizeOf65⟩
theorem dO:aF Tryz.prog 68 4 9:=⟨_,_,_,Tryz.underlying68,rfl,rfl,Tryz.sizeOf66⟩
theorem p6:aF Tryz.prog 68 5 10:=⟨_,_,_,Tryz.underlying68,rfl,rfl,Tryz.sizeOf2⟩
theorem og:aF Tryz.prog 68 6 11:=⟨_,_,_,Tryz.underlying68,rfl,rfl,Tryz.sizeOf64⟩
theorem yj:aF Tryz.prog 68 7 12:=⟨_,_,_,Tryz.underlying68,rfl,rfl,Tryz.sizeOf22⟩
theorem gc:fS Tryz.prog 69 5 ay:=⟨Tryz.underlying69,Tryz.t5,by kernel_rfl,by kernel_rfl,by kernel_rfl,by decide⟩
theorem wd:fS Tryz.prog 76 195 j7:=⟨Tryz.underlying76,Tryz.t195,by kernel_rfl,by kernel_rfl,by kernel_rfl,by decide⟩
theorem xr:aF Tryz.prog 78 0 0:=⟨_,_,_,Tryz.underlying78,rfl,rfl,Tryz.sizeOf3⟩
theorem xU:aF Tryz.prog 78 1 1:=⟨_,_,_,Tryz.underlying78,rfl,rfl,Tryz.sizeOf75⟩
theorem k5:aF Tryz.prog 78 2 2:=⟨_,_,_,Tryz.underlying78,rfl,rfl,Tryz.sizeOf75⟩
theorem mi:aF Tryz.prog 78 3 3:=⟨_,_,_,Tryz.underlying78,rfl,rfl,Tryz.sizeOf76⟩
theorem oN:aF Tryz.prog 83 0 0:=⟨_,_,_,Tryz.underlying83,rfl,rfl,Tryz.sizeOf42⟩
theorem mK:aF Tryz.prog 86 0 0:=⟨_,_,_,Tryz.underlying86,rfl,rfl,Tryz.sizeOf22⟩
theorem jg:aF Tryz.prog 86 1 1:=⟨_,_,_,Tryz.underlying86,rfl,rfl,Tryz.sizeOf42⟩
theorem mI:aF Tryz.prog 89 0 0:=⟨_,_,_,Tryz.underlying89,rfl,rfl,Tryz.sizeOf52⟩
theorem lk:aF Tryz.prog 89 1 4:=⟨_,_,_,Tryz.underlying89,rfl,rfl,Tryz.sizeOf64⟩
theorem r7:aF Tryz.prog 95 0 0:=⟨_,_,_,Tryz.underlying95,rfl,rfl,Tryz.sizeOf2⟩
theorem qQ:aF Tryz.prog 95 1 1:=⟨_,_,_,Tryz.underlying95,rfl,rfl,Tryz.sizeOf2⟩
theorem qT:aF Tryz.prog 97 0 0:=⟨_,_,_,Tryz.underlying97,rfl,rfl,Tryz.sizeOf2⟩
theorem ip:aF Tryz.prog 101 0 0:=⟨_,_,_,Tryz.underlying101,rfl,rfl,Tryz.sizeOf31⟩
theorem pQ:aF Tryz.prog 101 1 1:=⟨_,_,_,Tryz.underlying101,rfl,rfl,Tryz.sizeOf9⟩
theorem pP:aF Tryz.prog 101 2 2:=⟨_,_,_,Tryz.underlying101,rfl,rfl,Tryz.sizeOf2⟩
theorem iq:aF Tryz.prog 109 0 0:=⟨_,_,_,Tryz.underlying109,rfl,rfl,Tryz.sizeOf101⟩
theorem wQ:aF Tryz.prog 109 1 3:=⟨_,_,_,Tryz.underlying109,rfl,rfl,Tryz.sizeOf3⟩
theorem j3:aF Tryz.prog 109 2 4:=⟨_,_,_,Tryz.underlying109,rfl,rfl,Tryz.sizeOf2⟩
theorem pA:aF Tryz.prog 109 3 5:=⟨_,_,_,Tryz.underlying109,rfl,rfl,Tryz.sizeOf3⟩
theorem pt:aF Tryz.prog 109 4 6:=⟨_,_,_,Tryz.underlying109,rfl,rfl,Tryz.sizeOf3⟩
theorem mZ:aF Tryz.prog 109 5 7:=⟨_,_,_,Tryz.underlying109,rfl,rfl,Tryz.sizeOf3⟩
theorem jN:aF Tryz.prog 113 0 0:=⟨_,_,_,Tryz.underlying113,rfl,rfl,Tryz.sizeOf69⟩
theorem fK:aF Tryz.prog 113 1 1:=⟨_,_,_,Tryz.underlying113,rfl,rfl,Tryz.sizeOf3⟩
theorem eQ:aF Tryz.prog 113 2 2:=⟨_,_,_,Tryz.underlying113,rfl,rfl,Tryz.sizeOf4⟩
theorem y7:fS Tryz.prog 154 9 strT:=⟨Tryz.underlying154,Tryz.t9,by kernel_rfl,by kernel_rfl,by kernel_rfl,by decide⟩
theorem ir:aF Tryz.prog 177 0 0:=⟨_,_,_,Tryz.underlying177,rfl,rfl,Tryz.sizeOf69⟩
theorem wD:aF Tryz.prog 195 0 0:=⟨_,_,_,Tryz.underlying195,rfl,rfl,Tryz.sizeOf193⟩
theorem fM:aF Tryz.prog 207 0 0:=⟨_,_,_,Tryz.underlying207,rfl,rfl,Tryz.sizeOf3⟩
theorem gI:aF Tryz.prog 207 1 1:=⟨_,_,_,Tryz.underlying207,rfl,rfl,Tryz.sizeOf2⟩
theorem fJ:aF Tryz.prog 207 2 2:=⟨_,_,_,Tryz.underlying207,rfl,rfl,Tryz.sizeOf2⟩
theorem l7:aF Tryz.prog 221 0 0:=⟨_,_,_,Tryz.underlying221,rfl,rfl,Tryz.sizeOf69⟩
theorem iZ:aF Tryz.prog 221 1 1:=⟨_,_,_,Tryz.underlying221,rfl,rfl,Tryz.sizeOf3⟩
theorem Dot.beq_(a b:Dot):(a==b)=((a.s==b.s)&&(a.n==b.n)):=by
 rw [Bool.eq_iff_iff]; simp only [beq_iff_eq,Cs]; cases a; cases b; simp [Dot.mk.injEq,and_assoc]
theorem pp{C:World→Prop}{σ:Env}{o:Oper}{x y:Operand}{ty:TypeId}{a b:Dot}(ho:o.op = .binOp .eql 35 x y ty)(hx:ev σ x = .agg #[.int .i64 a.s,.int .i64 a.n])(hy:ev σ y = .agg #[.int .i64 b.s,.int .i64 b.n]):QV Tryz.prog C σ o (.bool (a==b)):=
 λw _=>by
  have h1:(eqGuard .eql 35 x y (.agg #[.int .i64 a.s,.int .i64 a.n]) (.agg #[.int .i64 b.s,.int .i64 b.n])).run Tryz.prog w = .ok () w:=run_eqGuard_agg w .eql 35 x y _ _ Tryz.eqGuardType35
  have h2:(Op.equalIn 10000 35 (.agg #[.int .i64 a.s,.int .i64 a.n]) (.agg #[.int .i64 b.s,.int .i64 b.n])).run Tryz.prog w = .ok (a==b) w:=by
   rw [run_equalIn_agg w 9999 35 _ _ (by kernel_rfl) Tryz.stoodInHeld35,Dot.beq_]
   simp [Program.fieldsOf,Tryz.underlying35,Op.eqFields,part,Tryz.isAgg2,Tryz.underlying2,Tryz.isAgg3,Tryz.underlying3,run_equalIn_int,Cz,CA]
   clear hx hy h1; by_cases e0:a.s=b.s <;> by_cases e1:a.n=b.n <;> simp [e0,e1]
  simp only [execOp,ho,hx,hy,Cz,h1,Result.andThen_ok,run_eql_struct,h2,CA]
theorem pe{C:World→Prop}{σ:Env}{o:Oper}{x y:Operand}{ty:TypeId}{a b:Dot}(ho:o.op = .binOp .neq 35 x y ty)(hx:ev σ x = .agg #[.int .i64 a.s,.int .i64 a.n])(hy:ev σ y = .agg #[.int .i64 b.s,.int .i64 b.n]):QV Tryz.prog C σ o (.bool (a != b)):=
 λw _=>by
  have h1:(eqGuard .neq 35 x y (.agg #[.int .i64 a.s,.int .i64 a.n]) (.agg #[.int .i64 b.s,.int .i64 b.n])).run Tryz.prog w = .ok () w:=run_eqGuard_agg w .neq 35 x y _ _ Tryz.eqGuardType35
  have h2:(Op.equalIn 10000 35 (.agg #[.int .i64 a.s,.int .i64 a.n]) (.agg #[.int .i64 b.s,.int .i64 b.n])).run Tryz.prog w = .ok (a==b) w:=by
   rw [run_equalIn_agg w 9999 35 _ _ (by kernel_rfl) Tryz.stoodInHeld35,Dot.beq_]
   simp [Program.fieldsOf,Tryz.underlying35,Op.eqFields,part,Tryz.isAgg2,Tryz.underlying2,Tryz.isAgg3,Tryz.underlying3,run_equalIn_int,Cz,CA]
   clear hx hy h1; by_cases e0:a.s=b.s <;> by_cases e1:a.n=b.n <;> simp [e0,e1]
  simp only [execOp,ho,hx,hy,Cz,h1,Result.andThen_ok,run_neq_struct,h2,CA]; rfl
theorem Span.beq_(a b:Span):(a==b)=((a.s==b.s)&&(a.f==b.f)&&(a.t==b.t)):=by
 rw [Bool.eq_iff_iff]; simp only [beq_iff_eq,Cs]; cases a; cases b; simp [Span.mk.injEq,and_assoc]
theorem vn{C:World→Prop}{σ:Env}{o:Oper}{x y:Operand}{ty:TypeId}{a b:Span}(ho:o.op = .binOp .neq 207 x y ty)(hx:ev σ x = .agg #[.int .i64 a.s,.int .i64 a.f,.int .i64 a.t])(hy:ev σ y = .agg #[.int .i64 b.s,.int .i64 b.f,.int .i64 b.t]):QV Tryz.prog C σ o (.bool (a != b)):=
 λw _=>by
  have h1:(eqGuard .neq 207 x y (.agg #[.int .i64 a.s,.int .i64 a.f,.int .i64 a.t]) (.agg #[.int .i64 b.s,.int .i64 b.f,.int .i64 b.t])).run Tryz.prog w = .ok () w:=run_eqGuard_agg w .neq 207 x y _ _ Tryz.eqGuardType207
  have h2:(Op.equalIn 10000 207 (.agg #[.int .i64 a.s,.int .i64 a.f,.int .i64 a.t]) (.agg #[.int .i64 b.s,.int .i64 b.f,.int .i64 b.t])).run Tryz.prog w = .ok (a==b) w:=by
   rw [run_equalIn_agg w 9999 207 _ _ (by kernel_rfl) Tryz.stoodInHeld207,Span.beq_]
   simp [Program.fieldsOf,Tryz.underlying207,Op.eqFields,part,Tryz.isAgg2,Tryz.underlying2,Tryz.isAgg3,Tryz.underlying3,run_equalIn_int,Cz,CA]
   clear hx hy h1; by_cases e0:a.s=b.s <;> by_cases e1:a.f=b.f <;> by_cases e2:a.t=b.t <;> simp [e0,e1,e2]
  simp only [execOp,ho,hx,hy,Cz,h1,Result.andThen_ok,run_neq_struct,h2,CA]; rfl
theorem al.beq_(a b:al):(a==b)=((a.sink==b.sink)&&(a.seq==b.seq)):=by
 rw [Bool.eq_iff_iff]; simp only [beq_iff_eq,Cs]; cases a; cases b; simp [al.mk.injEq,and_assoc]
theorem ax.beq_(a b:ax):(a==b)=((a.sink==b.sink)):=by
 rw [Bool.eq_iff_iff]; simp only [beq_iff_eq,Cs]; cases a; cases b; simp [ax.mk.injEq,and_assoc]
theorem bR.beq_(a b:bR):(a==b)=((a.seq==b.seq)):=by
 rw [Bool.eq_iff_iff]; simp only [beq_iff_eq,Cs]; cases a; cases b; simp [bR.mk.injEq,and_assoc]
theorem cP.beq_(a b:cP):(a==b)=((a.sink==b.sink)):=by
 rw [Bool.eq_iff_iff]; simp only [beq_iff_eq,Cs]; cases a; cases b; simp [cP.mk.injEq,and_assoc]
abbrev CU:=@Tryz.underlying9
abbrev CV:=@Tryz.sizeOf25
abbrev CW:=@Tryz.underlying22
abbrev CX:=@Tryz.sizeOf3
abbrev CY:=@Tryz.isAgg3
abbrev CZ:=@Tryz.isAgg22
abbrev D0:=@Tryz.isAgg2
abbrev D1:=@Tryz.isAgg9
abbrev D2:=@Tryz.underlying69
abbrev D3:=@Tryz.underlying75
abbrev D4:=@Tryz.zeroValue69
abbrev D5:=@Tryz.sizeOf5
abbrev D6:=@Tryz.underlying191
abbrev D7:=@Tryz.underlying5
abbrev D8:=@Tryz.underlying60
abbrev D9:=@Tryz.sizeOf69
abbrev Da:=@Tryz.isAgg69
abbrev Db:=@Tryz.isAgg31
abbrev Dd:=@Tryz.isAgg101
abbrev De:=@Tryz.sizeOf101
abbrev Df:=@Tryz.underlying154
abbrev Dg:=@Tryz.sizeOf9
abbrev Dh:=@Tryz.sizeOf2
abbrev Di:=@Tryz.isAgg59
abbrev Dj:=@Tryz.isAgg4
abbrev Dl:=@Tryz.underlying219
abbrev Dm:=@Tryz.call157
abbrev Dn:=@Tryz.zeroValue207
abbrev Do:=@Tryz.sizeOf207
abbrev Dp:=@Tryz.isAgg207
abbrev Dq:=@Tryz.zeroValue37
abbrev Dr:=@Tryz.sizeOf37
abbrev Ds:=@Tryz.isAgg37
abbrev Dt:=@Tryz.zeroValue42
abbrev Du:=@Tryz.sizeOf42
abbrev Dv:=@Tryz.isAgg42
abbrev Dw:=@Tryz.underlying33
abbrev Dx:=@Tryz.isAgg33
abbrev Dy:=@Tryz.underlying40
abbrev Dz:=@Tryz.isAgg35
abbrev DA:=@Tryz.sizeOf35
abbrev DB:=@Tryz.isAgg40
abbrev DC:=@Tryz.underlying83
abbrev DD:=@Tryz.underlying86
abbrev DE:=@Tryz.underlying95
abbrev DF:=@Tryz.underlying97
abbrev DG:=@Tryz.zeroValue83
abbrev DH:=@Tryz.zeroValue86
abbrev DJ:=@Tryz.underlying119
abbrev DK:=@Tryz.zeroValue119
abbrev DL:=@Tryz.zeroValue95
abbrev DM:=@Tryz.zeroValue97
abbrev DN:=@Tryz.underlying46
abbrev DO:=@Tryz.zeroValue35
abbrev DP:=@Tryz.isAgg46
abbrev DQ:=@Tryz.isAgg27
abbrev DR:=@Tryz.isAgg65
abbrev DS:=@Tryz.underlying65
abbrev DT:=@Tryz.underlying3
abbrev DU:=@Tryz.sizeOf89
abbrev DV:=@Tryz.isAgg64
abbrev DW:=@Tryz.underlying64
abbrev DX:=@Tryz.isAgg66
abbrev DY:=@Tryz.sizeOf46
abbrev DZ:=@Tryz.underlying66
abbrev E0:=@Tryz.call24
abbrev E1:=@Tryz.call25
abbrev E2:=@Tryz.call152
abbrev E3:=@Tryz.underlying49
abbrev E4:=@Tryz.sizeOf52
end Fw
end Go.Proofs.YtangaamigenjjaaGreat
