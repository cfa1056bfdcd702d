/- The types of this program: where fields lie, what slices hold, when structs are one. No condition. -/
import Derived.Test.YtgaplodcdhhefaaGreatD
import Derived.Test.YtgaplodcdhhefaaGreatRows
import Derived.ChangeKeysEq
namespace Go.Proofs.YtgaplodcdhhefaaGreat
namespace Fw
set_option linter.unusedVariables false
set_option linter.unusedSimpArgs false
set_option linter.unusedSectionVars false
open Go.RowKit
theorem lI:ir Tryz.prog 22 36 recT:=⟨Tryz.underlying22,Tryz.t36,by kernel_rfl,by kernel_rfl,by kernel_rfl,by decide⟩
theorem ik:aD Tryz.prog 32 0 0:=⟨_,_,_,Tryz.underlying32,rfl,rfl,Tryz.sizeOf3⟩
theorem k8:aD Tryz.prog 32 1 1:=⟨_,_,_,Tryz.underlying32,rfl,rfl,Tryz.sizeOf3⟩
theorem lv:ir Tryz.prog 34 72 verT:=⟨Tryz.underlying34,Tryz.t72,by kernel_rfl,by kernel_rfl,by kernel_rfl,by decide⟩
theorem b6:aD Tryz.prog 36 0 0:=⟨_,_,_,Tryz.underlying36,rfl,rfl,Tryz.sizeOf9⟩
theorem aM:aD Tryz.prog 36 1 1:=⟨_,_,_,Tryz.underlying36,rfl,rfl,Tryz.sizeOf34⟩
theorem rc:ir Tryz.prog 38 44 bd:=⟨Tryz.underlying38,Tryz.t44,by kernel_rfl,by kernel_rfl,by kernel_rfl,by decide⟩
theorem mq:aD Tryz.prog 44 0 0:=⟨_,_,_,Tryz.underlying44,rfl,rfl,Tryz.sizeOf3⟩
theorem gL:aD Tryz.prog 44 1 1:=⟨_,_,_,Tryz.underlying44,rfl,rfl,Tryz.sizeOf32⟩
theorem jY:aD Tryz.prog 44 2 3:=⟨_,_,_,Tryz.underlying44,rfl,rfl,Tryz.sizeOf32⟩
theorem ki:aD Tryz.prog 44 3 5:=⟨_,_,_,Tryz.underlying44,rfl,rfl,Tryz.sizeOf2⟩
theorem zw:aD Tryz.prog 44 4 6:=⟨_,_,_,Tryz.underlying44,rfl,rfl,Tryz.sizeOf2⟩
theorem k7:aD Tryz.prog 44 5 7:=⟨_,_,_,Tryz.underlying44,rfl,rfl,Tryz.sizeOf3⟩
theorem uQ:aD Tryz.prog 44 6 8:=⟨_,_,_,Tryz.underlying44,rfl,rfl,Tryz.sizeOf26⟩
theorem zj:aD Tryz.prog 44 7 9:=⟨_,_,_,Tryz.underlying44,rfl,rfl,Tryz.sizeOf9⟩
theorem fZ:aD Tryz.prog 44 8 10:=⟨_,_,_,Tryz.underlying44,rfl,rfl,Tryz.sizeOf22⟩
theorem Aj:aD Tryz.prog 44 9 11:=⟨_,_,_,Tryz.underlying44,rfl,rfl,Tryz.sizeOf40⟩
theorem xL:aD Tryz.prog 44 10 12:=⟨_,_,_,Tryz.underlying44,rfl,rfl,Tryz.sizeOf41⟩
theorem y5:aD Tryz.prog 44 11 13:=⟨_,_,_,Tryz.underlying44,rfl,rfl,Tryz.sizeOf42⟩
theorem y9:aD Tryz.prog 44 12 14:=⟨_,_,_,Tryz.underlying44,rfl,rfl,Tryz.sizeOf41⟩
theorem vn:aD Tryz.prog 60 0 0:=⟨_,_,_,Tryz.underlying60,rfl,rfl,Tryz.sizeOf2⟩
theorem gH:aD Tryz.prog 60 2 2:=⟨_,_,_,Tryz.underlying60,rfl,rfl,Tryz.sizeOf32⟩
theorem p7:aD Tryz.prog 60 3 4:=⟨_,_,_,Tryz.underlying60,rfl,rfl,Tryz.sizeOf54⟩
theorem oM:aD Tryz.prog 60 4 5:=⟨_,_,_,Tryz.underlying60,rfl,rfl,Tryz.sizeOf57⟩
theorem rX:aD Tryz.prog 60 5 6:=⟨_,_,_,Tryz.underlying60,rfl,rfl,Tryz.sizeOf58⟩
theorem xa:ir Tryz.prog 65 214 jb:=⟨Tryz.underlying65,Tryz.t214,by kernel_rfl,by kernel_rfl,by kernel_rfl,by decide⟩
theorem yR:aD Tryz.prog 67 0 0:=⟨_,_,_,Tryz.underlying67,rfl,rfl,Tryz.sizeOf3⟩
theorem zn:aD Tryz.prog 67 1 1:=⟨_,_,_,Tryz.underlying67,rfl,rfl,Tryz.sizeOf64⟩
theorem kp:aD Tryz.prog 67 2 2:=⟨_,_,_,Tryz.underlying67,rfl,rfl,Tryz.sizeOf64⟩
theorem mK:aD Tryz.prog 67 3 3:=⟨_,_,_,Tryz.underlying67,rfl,rfl,Tryz.sizeOf65⟩
theorem cN:aD Tryz.prog 69 0 0:=⟨_,_,_,Tryz.underlying69,rfl,rfl,Tryz.sizeOf3⟩
theorem cy:aD Tryz.prog 69 1 1:=⟨_,_,_,Tryz.underlying69,rfl,rfl,Tryz.sizeOf2⟩
theorem lx:ir Tryz.prog 70 78 bW:=⟨Tryz.underlying70,Tryz.t78,by kernel_rfl,by kernel_rfl,by kernel_rfl,by decide⟩
theorem aG:aD Tryz.prog 72 0 0:=⟨_,_,_,Tryz.underlying72,rfl,rfl,Tryz.sizeOf69⟩
theorem aN:aD Tryz.prog 72 1 2:=⟨_,_,_,Tryz.underlying72,rfl,rfl,Tryz.sizeOf70⟩
theorem gF:aD Tryz.prog 72 2 3:=⟨_,_,_,Tryz.underlying72,rfl,rfl,Tryz.sizeOf4⟩
theorem ec:aD Tryz.prog 72 3 4:=⟨_,_,_,Tryz.underlying72,rfl,rfl,Tryz.sizeOf9⟩
theorem cg:aD Tryz.prog 78 0 0:=⟨_,_,_,Tryz.underlying78,rfl,rfl,Tryz.sizeOf3⟩
theorem cB:aD Tryz.prog 78 1 1:=⟨_,_,_,Tryz.underlying78,rfl,rfl,Tryz.sizeOf2⟩
theorem bK:aD Tryz.prog 78 2 2:=⟨_,_,_,Tryz.underlying78,rfl,rfl,Tryz.sizeOf2⟩
theorem xi:ir Tryz.prog 84 89 (slT au):=⟨Tryz.underlying84,Tryz.t89,by kernel_rfl,by kernel_rfl,by kernel_rfl,by decide⟩
theorem pp:aD Tryz.prog 88 0 0:=⟨_,_,_,Tryz.underlying88,rfl,rfl,Tryz.sizeOf83⟩
theorem jy:aD Tryz.prog 88 1 1:=⟨_,_,_,Tryz.underlying88,rfl,rfl,Tryz.sizeOf63⟩
theorem im:ir Tryz.prog 89 5 au:=⟨Tryz.underlying89,Tryz.t5,by kernel_rfl,by kernel_rfl,by kernel_rfl,by decide⟩
theorem zA:ir Tryz.prog 116 9 strT:=⟨Tryz.underlying116,Tryz.t9,by kernel_rfl,by kernel_rfl,by kernel_rfl,by decide⟩
theorem ia:aD Tryz.prog 124 0 0:=⟨_,_,_,Tryz.underlying124,rfl,rfl,Tryz.sizeOf29⟩
theorem qh:aD Tryz.prog 124 1 1:=⟨_,_,_,Tryz.underlying124,rfl,rfl,Tryz.sizeOf9⟩
theorem pY:aD Tryz.prog 124 2 2:=⟨_,_,_,Tryz.underlying124,rfl,rfl,Tryz.sizeOf2⟩
theorem i6:aD Tryz.prog 133 0 0:=⟨_,_,_,Tryz.underlying133,rfl,rfl,Tryz.sizeOf124⟩
theorem yg:aD Tryz.prog 133 1 3:=⟨_,_,_,Tryz.underlying133,rfl,rfl,Tryz.sizeOf3⟩
theorem iQ:aD Tryz.prog 133 2 4:=⟨_,_,_,Tryz.underlying133,rfl,rfl,Tryz.sizeOf2⟩
theorem qn:aD Tryz.prog 133 3 5:=⟨_,_,_,Tryz.underlying133,rfl,rfl,Tryz.sizeOf3⟩
theorem qb:aD Tryz.prog 133 4 6:=⟨_,_,_,Tryz.underlying133,rfl,rfl,Tryz.sizeOf3⟩
theorem np:aD Tryz.prog 133 5 7:=⟨_,_,_,Tryz.underlying133,rfl,rfl,Tryz.sizeOf3⟩
theorem fC:aD Tryz.prog 181 0 0:=⟨_,_,_,Tryz.underlying181,rfl,rfl,Tryz.sizeOf89⟩
theorem cU:aD Tryz.prog 181 1 1:=⟨_,_,_,Tryz.underlying181,rfl,rfl,Tryz.sizeOf3⟩
theorem ib:aD Tryz.prog 189 0 0:=⟨_,_,_,Tryz.underlying189,rfl,rfl,Tryz.sizeOf89⟩
theorem xT:aD Tryz.prog 214 0 0:=⟨_,_,_,Tryz.underlying214,rfl,rfl,Tryz.sizeOf211⟩
theorem Adr.beq_(a b:Adr):(a==b)=((a.site==b.site)&&(a.node==b.node)):=by
 rw [Bool.eq_iff_iff]; simp only [beq_iff_eq,DW]; cases a; cases b; simp [Adr.mk.injEq,and_assoc]
theorem pQ{C:World→Prop}{σ:Env}{o:Oper}{x y:Operand}{ty:TypeId}{a b:Adr}(ho:o.op = .binOp .neq 32 x y ty)(hx:ev σ x = .agg #[.int .i64 a.site,.int .i64 a.node])(hy:ev σ y = .agg #[.int .i64 b.site,.int .i64 b.node]):QV Tryz.prog C σ o (.bool (a != b)):=
 λw _=>by
  have h1:(eqGuard .neq 32 x y (.agg #[.int .i64 a.site,.int .i64 a.node]) (.agg #[.int .i64 b.site,.int .i64 b.node])).run Tryz.prog w = .ok () w:=run_eqGuard_agg w .neq 32 x y _ _ Tryz.eqGuardType32
  have h2:(Op.equalIn 10000 32 (.agg #[.int .i64 a.site,.int .i64 a.node]) (.agg #[.int .i64 b.site,.int .i64 b.node])).run Tryz.prog w = .ok (a==b) w:=by
   rw [run_equalIn_agg w 9999 32 _ _ (by kernel_rfl) Tryz.stoodInHeld32,Adr.beq_]
   simp [Program.fieldsOf,Tryz.underlying32,Op.eqFields,part,Tryz.isAgg3,Tryz.underlying3,run_equalIn_int,E3,E4]
   clear hx hy h1; by_cases e0:a.site=b.site <;> by_cases e1:a.node=b.node <;> simp [e0,e1]
  simp only [execOp,ho,hx,hy,E3,h1,Result.andThen_ok,run_neq_struct,h2,E4]; rfl
theorem Dot.beq_(a b:Dot):(a==b)=((a.s==b.s)&&(a.n==b.n)):=by
 rw [Bool.eq_iff_iff]; simp only [beq_iff_eq,DW]; cases a; cases b; simp [Dot.mk.injEq,and_assoc]
theorem nr{C:World→Prop}{σ:Env}{o:Oper}{x y:Operand}{ty:TypeId}{a b:Dot}(ho:o.op = .binOp .eql 69 x y ty)(hx:ev σ x = .agg #[.int .i64 a.s,.int .i64 a.n])(hy:ev σ y = .agg #[.int .i64 b.s,.int .i64 b.n]):QV Tryz.prog C σ o (.bool (a==b)):=
 λw _=>by
  have h1:(eqGuard .eql 69 x y (.agg #[.int .i64 a.s,.int .i64 a.n]) (.agg #[.int .i64 b.s,.int .i64 b.n])).run Tryz.prog w = .ok () w:=run_eqGuard_agg w .eql 69 x y _ _ Tryz.eqGuardType69
  have h2:(Op.equalIn 10000 69 (.agg #[.int .i64 a.s,.int .i64 a.n]) (.agg #[.int .i64 b.s,.int .i64 b.n])).run Tryz.prog w = .ok (a==b) w:=by
   rw [run_equalIn_agg w 9999 69 _ _ (by kernel_rfl) Tryz.stoodInHeld69,Dot.beq_]
   simp [Program.fieldsOf,Tryz.underlying69,Op.eqFields,part,Tryz.isAgg2,Tryz.underlying2,Tryz.isAgg3,Tryz.underlying3,run_equalIn_int,E3,E4]
   clear hx hy h1; by_cases e0:a.s=b.s <;> by_cases e1:a.n=b.n <;> simp [e0,e1]
  simp only [execOp,ho,hx,hy,E3,h1,Result.andThen_ok,run_eql_struct,h2,E4]
theorem xJ{C:World→Prop}{σ:Env}{o:Oper}{x y:Operand}{ty:TypeId}{a b:Dot}(ho:o.op = .binOp .neq 69 x y ty)(hx:ev σ x = .agg #[.int .i64 a.s,.int .i64 a.n])(hy:ev σ y = .agg #[.int .i64 b.s,.int .i64 b.n]):QV Tryz.prog C σ o (.bool (a != b)):=
 λw _=>by
  have h1:(eqGuard .neq 69 x y (.agg #[.int .i64 a.s,.int .i64 a.n]) (.agg #[.int .i64 b.s,.int .i64 b.n])).run Tryz.prog w = .ok () w:=run_eqGuard_agg w .neq 69 x y _ _ Tryz.eqGuardType69
  have h2:(Op.equalIn 10000 69 (.agg #[.int .i64 a.s,.int .i64 a.n]) (.agg #[.int .i64 b.s,.int .i64 b.n])).run Tryz.prog w = .ok (a==b) w:=by
   rw [run_equalIn_agg w 9999 69 _ _ (by kernel_rfl) Tryz.stoodInHeld69,Dot.beq_]
   simp [Program.fieldsOf,Tryz.underlying69,Op.eqFields,part,Tryz.isAgg2,Tryz.underlying2,Tryz.isAgg3,Tryz.underlying3,run_equalIn_int,E3,E4]
   clear hx hy h1; by_cases e0:a.s=b.s <;> by_cases e1:a.n=b.n <;> simp [e0,e1]
  simp only [execOp,ho,hx,hy,E3,h1,Result.andThen_ok,run_neq_struct,h2,E4]; rfl
theorem Span.beq_(a b:Span):(a==b)=((a.s==b.s)&&(a.f==b.f)&&(a.t==b.t)):=by
 rw [Bool.eq_iff_iff]; simp only [beq_iff_eq,DW]; cases a; cases b; simp [Span.mk.injEq,and_assoc]
theorem ry{C:World→Prop}{σ:Env}{o:Oper}{x y:Operand}{ty:TypeId}{a b:Span}(ho:o.op = .binOp .neq 78 x y ty)(hx:ev σ x = .agg #[.int .i64 a.s,.int .i64 a.f,.int .i64 a.t])(hy:ev σ y = .agg #[.int .i64 b.s,.int .i64 b.f,.int .i64 b.t]):QV Tryz.prog C σ o (.bool (a != b)):=
 λw _=>by
  have h1:(eqGuard .neq 78 x y (.agg #[.int .i64 a.s,.int .i64 a.f,.int .i64 a.t]) (.agg #[.int .i64 b.s,.int .i64 b.f,.int .i64 b.t])).run Tryz.prog w = .ok () w:=run_eqGuard_agg w .neq 78 x y _ _ Tryz.eqGuardType78
  have h2:(Op.equalIn 10000 78 (.agg #[.int .i64 a.s,.int .i64 a.f,.int .i64 a.t]) (.agg #[.int .i64 b.s,.int .i64 b.f,.int .i64 b.t])).run Tryz.prog w = .ok (a==b) w:=by
   rw [run_equalIn_agg w 9999 78 _ _ (by kernel_rfl) Tryz.stoodInHeld78,Span.beq_]
   simp [Program.fieldsOf,Tryz.underlying78,Op.eqFields,part,Tryz.isAgg2,Tryz.underlying2,Tryz.isAgg3,Tryz.underlying3,run_equalIn_int,E3,E4]
   clear hx hy h1; by_cases e0:a.s=b.s <;> by_cases e1:a.f=b.f <;> by_cases e2:a.t=b.t <;> simp [e0,e1,e2]
  simp only [execOp,ho,hx,hy,E3,h1,Result.andThen_ok,run_neq_struct,h2,E4]; rfl
abbrev Ek:=@Tryz.underlying9
abbrev El:=@Tryz.sizeOf32
abbrev Em:=@Tryz.isAgg32
abbrev En:=@Tryz.isAgg9
abbrev Eo:=@Tryz.underlying89
abbrev Ep:=@Tryz.underlying64
abbrev Er:=@Tryz.zeroValue89
abbrev Es:=@Tryz.sizeOf5
abbrev Et:=@Tryz.underlying94
abbrev Eu:=@Tryz.underlying5
abbrev Ev:=@Tryz.underlying84
abbrev Ew:=@Tryz.sizeOf89
abbrev Ex:=@Tryz.isAgg89
abbrev Ey:=@Tryz.sizeOf3
abbrev Ez:=@Tryz.isAgg3
abbrev EA:=@Tryz.isAgg26
abbrev EB:=@Tryz.isAgg29
abbrev EC:=@Tryz.isAgg124
abbrev ED:=@Tryz.sizeOf124
abbrev EE:=@Tryz.underlying116
abbrev EF:=@Tryz.sizeOf9
abbrev EG:=@Tryz.sizeOf2
abbrev EH:=@Tryz.isAgg2
abbrev EI:=@Tryz.underlying179
abbrev EJ:=@Tryz.call151
abbrev EK:=@Tryz.zeroValue78
abbrev EL:=@Tryz.call152
abbrev EM:=@Tryz.sizeOf78
abbrev EN:=@Tryz.isAgg78
abbrev EO:=@Tryz.zeroValue72
abbrev EP:=@Tryz.sizeOf72
abbrev EQ:=@Tryz.sizeOf70
abbrev ER:=@Tryz.call111
abbrev ES:=@Tryz.isAgg72
abbrev ET:=@Tryz.zeroValue36
abbrev EU:=@Tryz.sizeOf36
abbrev EV:=@Tryz.isAgg36
abbrev EW:=@Tryz.underlying70
abbrev EX:=@Tryz.isAgg70
abbrev EY:=@Tryz.underlying34
abbrev EZ:=@Tryz.isAgg69
abbrev F0:=@Tryz.sizeOf69
abbrev F1:=@Tryz.isAgg34
abbrev F2:=@Tryz.results76
abbrev F3:=@Tryz.isAgg63
abbrev F4:=@Tryz.underlying63
abbrev F5:=@Tryz.underlying3
abbrev F6:=@Tryz.underlying57
abbrev F7:=@Tryz.underlying58
abbrev F8:=@Tryz.sizeOf44
abbrev F9:=@Tryz.isAgg44
abbrev Fa:=@Tryz.underlying22
abbrev Fb:=@Tryz.isAgg22
abbrev Fc:=@Tryz.call186
abbrev Fd:=@Tryz.isAgg25
abbrev Fe:=@Tryz.zeroValue54
abbrev Ff:=@Tryz.underlying54
abbrev Fg:=@Tryz.underlying62
abbrev Fh:=@Tryz.underlying38
end Fw
end Go.Proofs.YtgaplodcdhhefaaGreat
