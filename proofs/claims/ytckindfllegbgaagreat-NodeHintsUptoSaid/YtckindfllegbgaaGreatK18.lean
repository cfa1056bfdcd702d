/- Strings in order and joined; bytes of a literal; small numbers. No condition. -/
import Derived.Test.YtckindfllegbgaaGreatK14
import Derived.Test.YtckindfllegbgaaGreatK11
import Derived.Sort.Walk0
import Derived.Laws.Strings
import Derived.Laws.Cover1
namespace Go.Proofs.YtckindfllegbgaaGreat
namespace Fw
set_option linter.unusedVariables false
set_option linter.unusedSimpArgs false
set_option linter.unusedSectionVars false
open Go.RowKit
section
variable {P:Program} {C:World→Prop} {σ:Env} {o:Oper} {x y:Operand} {t ty:TypeId} {a b:ByteArray}
theorem q_sadd(ho:o.op = .binOp .add t x y ty)(hx:ev σ x = .string a)(hy:ev σ y = .string b)(ha:a.size≤lim)(hb:b.size≤lim):QV P C σ o (.string (a++b)):=
 λw _=>by
  have h1:lim=2147483648:=lim_eq
  have h:((a.size+b.size:Nat):Int)≤9223372036854775807:=by omega
  have h2:IntKind.i64.max=9223372036854775807:=by decide
  simp only [execOp,ho,hx,hy,eqGuard,binOp,Op.stringOp,h2,Int.not_lt.2 h,if_false,Sem.run_pure,Sem.run_bind,gt_iff_lt,Bool.not_false,if_true,Result.andThen_ok,bne_self_eq_false]
  try rfl
end
@[reducible] def U16 (x:Int):Prop:=0≤x∧x≤65535
theorem okWide_arr{P:Program}{w:World}{r:Reach}{base:Nat}{t n e:Nat}{v:Value}(ht:P.underlying t=some (.array n e))(h:Value.okWide P w r base t v):∃cs,v = .agg cs:=by
 simp only [Value.okWide,ht] at h
 obtain⟨cs,h1,_⟩:=h
 exact⟨cs,h1⟩
theorem opens_arr_i64{P:Program}{t n e:Nat}(ht:P.underlying t=some (.array n e))(he:P.underlying e=some (.int .i64))(hc:P.cellsOf e=1)(hn:P.cellsOf t=n){H:Type}{enc:TypeId×Value→H}{w:World}{base:Nat}{spare:Nat→Bool}{held:Bool}{fuel:Nat}{cs:List Value}{x:DataW H×List MemPlace}
  (h:DataW.trod enc P w base spare held fuel t cs=some x):∃ys:List Int,ys.length=n∧cs=ys.map (λy=>.int .i64 y)∧∀y∈ys,I64 y:=by
 obtain⟨xs,m,_,_,hl,hxl,hf⟩:=DataW.trod_array ht h
 rw [hn] at hl
 have key:∀k,k≤n→∃ys:List Int,ys.length=k∧cs.take k=ys.map (λy=>.int .i64 y)∧∀y∈ys,I64 y:=by
  intro k
  induction k with
  | zero=>intro _; exact⟨[],rfl,rfl,λy hy=>by cases hy⟩
  | succ k ih=>
   intro hk
   obtain⟨ys,h1,h2,h3⟩:=ih (by omega)
   have h4:=hf k (by omega)
   rw [hc,Nat.mul_one,List.getElem?_eq_getElem (show k<xs.length by omega)] at h4
   obtain⟨y,h5,_,h6⟩:=DataW.trod_int he h4
   refine⟨ys++[y],by simp [h1],?_,λz hz=>?_⟩
   ·rw [List.map_append, ← h2,List.map_cons,List.map_nil, ← h5,List.take_add]
   ·rcases List.mem_append.1 hz with hz | hz
    ·exact h3 z hz
    ·rw [List.mem_singleton.1 hz]; simpa [Lit.wf,IntKind.min,IntKind.max,IntKind.signed,IntKind.bits,I64] using h6
 obtain⟨ys,h1,h2,h3⟩:=key n (Nat.le_refl _)
 exact⟨ys,h1,by rw [← h2,List.take_of_length_le (by omega)],h3⟩
section
variable {P:Program} {N:FN} {F:Fm} {Γ:Gh} {L:List Rowb} {σ:Env} {o:Oper} {Q:Exit→Env→World→Prop} {rest:List Oper} {ops:Array Oper}
end
end Fw
end Go.Proofs.YtckindfllegbgaaGreat
