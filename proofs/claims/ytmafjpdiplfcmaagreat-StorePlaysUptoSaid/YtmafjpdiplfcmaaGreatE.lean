/- The types of this program: where fields lie, what slices hold, when structs are one. No condition. -/
import Derived.Test.YtmafjpdiplfcmaaGreatD
import Derived.Test.YtmafjpdiplfcmaaGreatRows
import Derived.ChangeKeysEq
namespace Go.Proofs.YtmafjpdiplfcmaaGreat
namespace Fw
set_option linter.unusedVariables false
set_option linter.unusedSimpArgs false
set_option linter.unusedSectionVars false
open Go.RowKit
theorem vZ:mj Tryz.prog 22 39 verT:=⟨Tryz.underlying22,Tryz.t39,by kernel_rfl,by kernel_rfl,by kernel_rfl,by decide⟩
theorem cV:aI Tryz.prog 24 0 0:=⟨_,_,_,Tryz.underlying24,rfl,rfl,Tryz.sizeOf9⟩
theorem ci:aI Tryz.prog 24 1 1:=⟨_,_,_,Tryz.underlying24,rfl,rfl,Tryz.sizeOf22⟩
theorem cJ:aI Tryz.prog 36 0 0:=⟨_,_,_,Tryz.underlying36,rfl,rfl,Tryz.sizeOf3⟩
theorem cA:aI Tryz.prog 36 1 1:=⟨_,_,_,Tryz.underlying36,rfl,rfl,Tryz.sizeOf2⟩
theorem vV:mj Tryz.prog 37 41 gS:=⟨Tryz.underlying37,Tryz.t41,by kernel_rfl,by kernel_rfl,by kernel_rfl,by decide⟩
theorem bO:aI Tryz.prog 39 0 0:=⟨_,_,_,Tryz.underlying39,rfl,rfl,Tryz.sizeOf36⟩
theorem fI:aI Tryz.prog 39 1 2:=⟨_,_,_,Tryz.underlying39,rfl,rfl,Tryz.sizeOf37⟩
theorem jC:aI Tryz.prog 39 2 3:=⟨_,_,_,Tryz.underlying39,rfl,rfl,Tryz.sizeOf4⟩
theorem jw:aI Tryz.prog 39 3 4:=⟨_,_,_,Tryz.underlying39,rfl,rfl,Tryz.sizeOf9⟩
theorem eM:aI Tryz.prog 41 0 0:=⟨_,_,_,Tryz.underlying41,rfl,rfl,Tryz.sizeOf3⟩
theorem eI:aI Tryz.prog 41 1 1:=⟨_,_,_,Tryz.underlying41,rfl,rfl,Tryz.sizeOf2⟩
theorem eu:aI Tryz.prog 41 2 2:=⟨_,_,_,Tryz.underlying41,rfl,rfl,Tryz.sizeOf2⟩
theorem dq:mj Tryz.prog 51 5 av:=⟨Tryz.underlying51,Tryz.t5,by kernel_rfl,by kernel_rfl,by kernel_rfl,by decide⟩
theorem oX:aI Tryz.prog 53 0 0:=⟨_,_,_,Tryz.underlying53,rfl,rfl,Tryz.sizeOf3⟩
theorem zO:aI Tryz.prog 53 1 1:=⟨_,_,_,Tryz.underlying53,rfl,rfl,Tryz.sizeOf24⟩
theorem zj:aI Tryz.prog 53 2 3:=⟨_,_,_,Tryz.underlying53,rfl,rfl,Tryz.sizeOf50⟩
theorem zM:aI Tryz.prog 53 3 4:=⟨_,_,_,Tryz.underlying53,rfl,rfl,Tryz.sizeOf51⟩
theorem AA:aI Tryz.prog 53 4 5:=⟨_,_,_,Tryz.underlying53,rfl,rfl,Tryz.sizeOf3⟩
theorem zL:aI Tryz.prog 53 5 6:=⟨_,_,_,Tryz.underlying53,rfl,rfl,Tryz.sizeOf3⟩
theorem te:mj Tryz.prog 62 126 aA:=⟨Tryz.underlying62,Tryz.t126,by kernel_rfl,by kernel_rfl,by kernel_rfl,by decide⟩
theorem tH:mj Tryz.prog 66 24 recT:=⟨Tryz.underlying66,Tryz.t24,by kernel_rfl,by kernel_rfl,by kernel_rfl,by decide⟩
theorem FG:mj Tryz.prog 72 9 strT:=⟨Tryz.underlying72,Tryz.t9,by kernel_rfl,by kernel_rfl,by kernel_rfl,by decide⟩
theorem CF:mj Tryz.prog 78 115 iz:=⟨Tryz.underlying78,Tryz.t115,by kernel_rfl,by kernel_rfl,by kernel_rfl,by decide⟩
theorem E8:aI Tryz.prog 80 0 0:=⟨_,_,_,Tryz.underlying80,rfl,rfl,Tryz.sizeOf3⟩
theorem tz:aI Tryz.prog 80 1 1:=⟨_,_,_,Tryz.underlying80,rfl,rfl,Tryz.sizeOf77⟩
theorem n2:aI Tryz.prog 80 2 2:=⟨_,_,_,Tryz.underlying80,rfl,rfl,Tryz.sizeOf77⟩
theorem kS:aI Tryz.prog 80 3 3:=⟨_,_,_,Tryz.underlying80,rfl,rfl,Tryz.sizeOf78⟩
theorem rG:mj Tryz.prog 82 51 (slT av):=⟨Tryz.underlying82,Tryz.t51,by kernel_rfl,by kernel_rfl,by kernel_rfl,by decide⟩
theorem oZ:aI Tryz.prog 86 0 0:=⟨_,_,_,Tryz.underlying86,rfl,rfl,Tryz.sizeOf81⟩
theorem kT:aI Tryz.prog 86 1 1:=⟨_,_,_,Tryz.underlying86,rfl,rfl,Tryz.sizeOf76⟩
theorem BN:mj Tryz.prog 94 119 cv:=⟨Tryz.underlying94,Tryz.t119,by kernel_rfl,by kernel_rfl,by kernel_rfl,by decide⟩
theorem DM:aI Tryz.prog 96 0 0:=⟨_,_,_,Tryz.underlying96,rfl,rfl,Tryz.sizeOf3⟩
theorem tf:aI Tryz.prog 96 1 1:=⟨_,_,_,Tryz.underlying96,rfl,rfl,Tryz.sizeOf62⟩
theorem ki:aI Tryz.prog 96 2 2:=⟨_,_,_,Tryz.underlying96,rfl,rfl,Tryz.sizeOf94⟩
theorem rM:aI Tryz.prog 101 0 0:=⟨_,_,_,Tryz.underlying101,rfl,rfl,Tryz.sizeOf97⟩
theorem eO:aI Tryz.prog 101 1 1:=⟨_,_,_,Tryz.underlying101,rfl,rfl,Tryz.sizeOf66⟩
theorem zI:mj Tryz.prog 107 3 intT:=⟨Tryz.underlying107,Tryz.t3,by kernel_rfl,by kernel_rfl,by kernel_rfl,by decide⟩
theorem kA:aI Tryz.prog 109 0 0:=⟨_,_,_,Tryz.underlying109,rfl,rfl,Tryz.sizeOf45⟩
theorem pt:aI Tryz.prog 109 1 1:=⟨_,_,_,Tryz.underlying109,rfl,rfl,Tryz.sizeOf9⟩
theorem ya:aI Tryz.prog 109 2 2:=⟨_,_,_,Tryz.underlying109,rfl,rfl,Tryz.sizeOf3⟩
theorem li:aI Tryz.prog 109 3 3:=⟨_,_,_,Tryz.underlying109,rfl,rfl,Tryz.sizeOf2⟩
theorem ft:aI Tryz.prog 109 4 4:=⟨_,_,_,Tryz.underlying109,rfl,rfl,Tryz.sizeOf107⟩
theorem nB:aI Tryz.prog 109 5 5:=⟨_,_,_,Tryz.underlying109,rfl,rfl,Tryz.sizeOf3⟩
theorem xQ:aI Tryz.prog 115 0 0:=⟨_,_,_,Tryz.underlying115,rfl,rfl,Tryz.sizeOf113⟩
theorem CO:aI Tryz.prog 115 1 1:=⟨_,_,_,Tryz.underlying115,rfl,rfl,Tryz.sizeOf9⟩
theorem xH:aI Tryz.prog 115 2 2:=⟨_,_,_,Tryz.underlying115,rfl,rfl,Tryz.sizeOf51⟩
theorem oN:aI Tryz.prog 119 0 0:=⟨_,_,_,Tryz.underlying119,rfl,rfl,Tryz.sizeOf3⟩
theorem ku:aI Tryz.prog 119 1 1:=⟨_,_,_,Tryz.underlying119,rfl,rfl,Tryz.sizeOf9⟩
theorem xD:aI Tryz.prog 119 2 2:=⟨_,_,_,Tryz.underlying119,rfl,rfl,Tryz.sizeOf9⟩
theorem lf:aI Tryz.prog 119 3 3:=⟨_,_,_,Tryz.underlying119,rfl,rfl,Tryz.sizeOf51⟩
theorem uv:aI Tryz.prog 119 4 4:=⟨_,_,_,Tryz.underlying119,rfl,rfl,Tryz.sizeOf3⟩
theorem mc:aI Tryz.prog 126 0 0:=⟨_,_,_,Tryz.underlying126,rfl,rfl,Tryz.sizeOf9⟩
theorem pj:aI Tryz.prog 126 1 1:=⟨_,_,_,Tryz.underlying126,rfl,rfl,Tryz.sizeOf51⟩
theorem eC:aI Tryz.prog 138 0 0:=⟨_,_,_,Tryz.underlying138,rfl,rfl,Tryz.sizeOf27⟩
theorem ve:aI Tryz.prog 138 1 1:=⟨_,_,_,Tryz.underlying138,rfl,rfl,Tryz.sizeOf9⟩
theorem fB:aI Tryz.prog 138 2 2:=⟨_,_,_,Tryz.underlying138,rfl,rfl,Tryz.sizeOf2⟩
theorem aW:aI Tryz.prog 146 0 0:=⟨_,_,_,Tryz.underlying146,rfl,rfl,Tryz.sizeOf138⟩
theorem xw:aI Tryz.prog 146 1 3:=⟨_,_,_,Tryz.underlying146,rfl,rfl,Tryz.sizeOf3⟩
theorem m9:aI Tryz.prog 146 2 4:=⟨_,_,_,Tryz.underlying146,rfl,rfl,Tryz.sizeOf2⟩
theorem uM:aI Tryz.prog 146 3 5:=⟨_,_,_,Tryz.underlying146,rfl,rfl,Tryz.sizeOf3⟩
theorem ry:aI Tryz.prog 146 4 6:=⟨_,_,_,Tryz.underlying146,rfl,rfl,Tryz.sizeOf3⟩
theorem rD:aI Tryz.prog 146 5 7:=⟨_,_,_,Tryz.underlying146,rfl,rfl,Tryz.sizeOf3⟩
theorem lj:aI Tryz.prog 154 0 0:=⟨_,_,_,Tryz.underlying154,rfl,rfl,Tryz.sizeOf51⟩
theorem rH:aI Tryz.prog 169 0 0:=⟨_,_,_,Tryz.underlying169,rfl,rfl,Tryz.sizeOf51⟩
theorem nC:aI Tryz.prog 169 1 1:=⟨_,_,_,Tryz.underlying169,rfl,rfl,Tryz.sizeOf3⟩
theorem jE:aI Tryz.prog 169 2 2:=⟨_,_,_,Tryz.underlying169,rfl,rfl,Tryz.sizeOf4⟩
theorem jF:aI Tryz.prog 196 0 0:=⟨_,_,_,Tryz.underlying196,rfl,rfl,Tryz.sizeOf51⟩
theorem fm:aI Tryz.prog 196 1 1:=⟨_,_,_,Tryz.underlying196,rfl,rfl,Tryz.sizeOf3⟩
theorem Dot.beq_(a b:Dot):(a==b)=((a.s==b.s)&&(a.n==b.n)):=by
 rw [Bool.eq_iff_iff]; simp only [beq_iff_eq,Iw]; cases a; cases b; simp [Dot.mk.injEq,and_assoc]
theorem CL{C:World→Prop}{σ:Env}{o:Oper}{x y:Operand}{ty:TypeId}{a b:Dot}(ho:o.op = .binOp .eql 36 x y ty)(hx:ev σ x = .agg #[.int .i64 a.s,.int .i64 a.n])(hy:ev σ y = .agg #[.int .i64 b.s,.int .i64 b.n]):QV Tryz.prog C σ o (.bool (a==b)):=
 λw _=>by
  have h1:(eqGuard .eql 36 x y (.agg #[.int .i64 a.s,.int .i64 a.n]) (.agg #[.int .i64 b.s,.int .i64 b.n])).run Tryz.prog w = .ok () w:=run_eqGuard_agg w .eql 36 x y _ _ Tryz.eqGuardType36
  have h2:(Op.equalIn 10000 36 (.agg #[.int .i64 a.s,.int .i64 a.n]) (.agg #[.int .i64 b.s,.int .i64 b.n])).run Tryz.prog w = .ok (a==b) w:=by
   rw [run_equalIn_agg w 9999 36 _ _ (by kernel_rfl) Tryz.stoodInHeld36,Dot.beq_]
   simp [Program.fieldsOf,Tryz.underlying36,Op.eqFields,part,Tryz.isAgg2,Tryz.underlying2,Tryz.isAgg3,Tryz.underlying3,run_equalIn_int,ID,IE]
   clear hx hy h1; by_cases e0:a.s=b.s <;> by_cases e1:a.n=b.n <;> simp [e0,e1]
  simp only [execOp,ho,hx,hy,ID,h1,Result.andThen_ok,run_eql_struct,h2,IE]
theorem Span.beq_(a b:Span):(a==b)=((a.s==b.s)&&(a.f==b.f)&&(a.t==b.t)):=by
 rw [Bool.eq_iff_iff]; simp only [beq_iff_eq,Iw]; cases a; cases b; simp [Span.mk.injEq,and_assoc]
theorem B4{C:World→Prop}{σ:Env}{o:Oper}{x y:Operand}{ty:TypeId}{a b:Span}(ho:o.op = .binOp .neq 41 x y ty)(hx:ev σ x = .agg #[.int .i64 a.s,.int .i64 a.f,.int .i64 a.t])(hy:ev σ y = .agg #[.int .i64 b.s,.int .i64 b.f,.int .i64 b.t]):QV Tryz.prog C σ o (.bool (a != b)):=
 λw _=>by
  have h1:(eqGuard .neq 41 x y (.agg #[.int .i64 a.s,.int .i64 a.f,.int .i64 a.t]) (.agg #[.int .i64 b.s,.int .i64 b.f,.int .i64 b.t])).run Tryz.prog w = .ok () w:=run_eqGuard_agg w .neq 41 x y _ _ Tryz.eqGuardType41
  have h2:(Op.equalIn 10000 41 (.agg #[.int .i64 a.s,.int .i64 a.f,.int .i64 a.t]) (.agg #[.int .i64 b.s,.int .i64 b.f,.int .i64 b.t])).run Tryz.prog w = .ok (a==b) w:=by
   rw [run_equalIn_agg w 9999 41 _ _ (by kernel_rfl) Tryz.stoodInHeld41,Span.beq_]
   simp [Program.fieldsOf,Tryz.underlying41,Op.eqFields,part,Tryz.isAgg2,Tryz.underlying2,Tryz.isAgg3,Tryz.underlying3,run_equalIn_int,ID,IE]
   clear hx hy h1; by_cases e0:a.s=b.s <;> by_cases e1:a.f=b.f <;> by_cases e2:a.t=b.t <;> simp [e0,e1,e2]
  simp only [execOp,ho,hx,hy,ID,h1,Result.andThen_ok,run_neq_struct,h2,IE]; rfl
abbrev IX:=@Tryz.underlying9
abbrev IY:=@Tryz.isAgg9
abbrev IZ:=@Tryz.underlying51
abbrev J0:=@Tryz.isAgg77
abbrev J1:=@Tryz.underlying77
abbrev J2:=@Tryz.zeroValue51
abbrev J3:=@Tryz.sizeOf5
abbrev J4:=@Tryz.underlying219
abbrev J5:=@Tryz.underlying5
abbrev J6:=@Tryz.underlying2
abbrev J7:=@Tryz.underlying82
abbrev J8:=@Tryz.sizeOf51
abbrev J9:=@Tryz.isAgg51
abbrev Ja:=@Tryz.underlying202
abbrev Jb:=@Tryz.sizeOf3
abbrev Jc:=@Tryz.isAgg3
abbrev Jd:=@Tryz.isAgg27
abbrev Je:=@Tryz.isAgg138
abbrev Jf:=@Tryz.sizeOf138
abbrev Jg:=@Tryz.underlying78
abbrev Jh:=@Tryz.underlying72
abbrev Ji:=@Tryz.sizeOf9
abbrev Jj:=@Tryz.sizeOf115
abbrev Jk:=@Tryz.sizeOf2
abbrev Jl:=@Tryz.isAgg2
abbrev Jm:=@Tryz.isAgg81
abbrev Jn:=@Tryz.underlying194
abbrev Jo:=@Tryz.call161
abbrev Jp:=@Tryz.zeroValue41
abbrev Jq:=@Tryz.call162
abbrev Jr:=@Tryz.sizeOf41
abbrev Js:=@Tryz.isAgg41
abbrev Jt:=@Tryz.zeroValue39
abbrev Ju:=@Tryz.sizeOf39
abbrev Jv:=@Tryz.call123
abbrev Jw:=@Tryz.sizeOf4
abbrev Jx:=@Tryz.isAgg39
abbrev Jy:=@Tryz.zeroValue24
abbrev Jz:=@Tryz.sizeOf24
abbrev JA:=@Tryz.isAgg24
abbrev JB:=@Tryz.underlying37
abbrev JC:=@Tryz.isAgg37
abbrev JD:=@Tryz.isAgg4
abbrev JE:=@Tryz.underlying22
abbrev JF:=@Tryz.isAgg36
abbrev JG:=@Tryz.sizeOf36
abbrev JH:=@Tryz.isAgg22
abbrev JI:=@Tryz.results77
abbrev JJ:=@Tryz.isAgg76
abbrev JK:=@Tryz.underlying76
abbrev JL:=@Tryz.call169
abbrev JM:=@Tryz.underlying50
abbrev JN:=@Tryz.underlying66
abbrev JO:=@Tryz.underlying29
abbrev JP:=@Tryz.underlying62
abbrev JQ:=@Tryz.sizeOf126
abbrev JR:=@Tryz.isAgg94
abbrev JS:=@Tryz.underlying94
abbrev JT:=@Tryz.sizeOf119
abbrev JU:=@Tryz.isAgg107
abbrev JV:=@Tryz.underlying107
abbrev JW:=@Tryz.isAgg66
abbrev JX:=@Tryz.isAgg45
abbrev JY:=@Tryz.underlying47
end Fw
end Go.Proofs.YtmafjpdiplfcmaaGreat
