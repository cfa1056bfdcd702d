/- More effects: a string appended to bytes, a part of an element stored, arrays as rows: loaded whole, sliced, copied into. No condition. -/
import Derived.Test.YtgaplodcdhhefaaGreatK14
import Derived.Lib.AppendStr
import Derived.Laws.CopyRow
import Derived.Laws.IdiomCopy
namespace Go.Proofs.YtgaplodcdhhefaaGreat
namespace Fw
set_option linter.unusedVariables false
set_option linter.unusedSimpArgs false
set_option linter.unusedSectionVars false
open Go.RowKit
theorem lR{P:Program}{w w':World}{t u ty e:TypeId}{i:TypeInfo}(ht:P.underlying t=some (.slice e))(hu:P.underlying u=some .string)(hi:P.info? e=some i)(hz:i.zero=some (.int .u8 0))(hsize:i.size=1)(hby:i.bytes=1)
  {v v':Value} {n:Nat} {xs:List Value} (hown:w.ownsRow 0 e 1 v n xs) {s:ByteArray} (h63:n+s.size≤maxLen) (hbytes:n+s.size≤140737488355328) (hrun:(Builtin.append_ #[t,u] ty #[v,.string s]).run P w = .ok v' w'):w.drawn≤w'.drawn∧(v'.ownBlock=v.ownBlock∨v'.ownBlock=some w.heap.size):=by
 have hxl:xs.length=n:=by simpa using hown.1
 have hsmall:n+s.size≤9223372036854775807:=by simp only [maxLen] at h63; omega
 rcases hown.2 with ⟨rfl,rfl⟩ | ⟨g,cap,cur,rfl,hbg,hg,hnc,hcm,hcs,htake⟩
 ·by_cases hm:s.size=0
  ·have hf:=Lib.run_firstCells_string (P:=P) w 1 s
   rw [hm] at hf
   have hn:Lib.strCells s = []:=List.eq_nil_of_length_eq_zero (by rw [Lib.strCells_length]; exact hm)
   have hrun2:(Builtin.append_ #[t,u] ty #[.slice none 0 0,.string s]).run P w = .ok (.slice none 0 0) w:=by
    simp [Builtin.append_,run_underlying ht,run_underlying hu,sizeOf,typeInfo,hi,hsize,Builtin.lenOf,hm,hf]
   rw [hrun2] at hrun
   injection hrun with h0 h; subst h0 h
   exact⟨E6 _,.inl rfl⟩
  ·have hr:=run_append_nil_string (P:=P) w t u ty e i (.int .u8 0) ht hu hi hz s (by omega) (by omega) (by rw [hby]; omega)
   rw [hr] at hrun
   injection hrun with h0 h; subst h0 h
   exact⟨Nat.le_succ w.drawn,.inr rfl⟩
 ·by_cases hroom:n+s.size≤cap
  ·have hcs':cur.size=cap:=by simpa using hcs
   have hr:=Lib.run_append_room_string (P:=P) w t u ty e i ht hu hi hsize g n cap cur hg s hroom (by omega)
   rw [hr] at hrun
   injection hrun with h0 h; subst h0 h
   exact⟨E6 _,.inl rfl⟩
  ·have holds:∀j u,xs[j]? = some u→w.cell? ((⟨g,0,none⟩:Addr).add j)=some u:=hown.cells (g:=g) rfl
   have hr:=Lib.run_append_grow_string (P:=P) w t u ty e i (.int .u8 0) ht hu hi hz ⟨g,0,none⟩ n cap xs (by rw [hsize]; simpa using hxl) holds s (by omega) (by omega) (by rw [hby]; exact growslice_fits (by omega) (by omega))
   rw [hr] at hrun
   injection hrun with h0 h; subst h0 h
   exact⟨Nat.le_succ w.drawn,.inr rfl⟩
section
variable {P:Program} {N:FN} {Q:Exit→Env→World→Prop} {σ:Env} {o:Oper} {F:Fm} {Γ Δ:Gh} {L:List Rowb} {ops:Array Oper} {rest:List Oper}
theorem ud{t e u:TypeId}{x y:Operand}{d i:Nat}{A:Option Addr}{c:Nat}{xs:List UInt8}{s:ByteArray}{row:Rowb}{ti:TypeInfo}(ht:P.underlying t=some (.slice e))(hu:P.underlying u=some .string)(hi:P.info? e=some ti)(hz:ti.zero=some (.int .u8 0))(hsize:ti.size=1)(hby:ti.bytes=1)
  (hg:o.guard=none) (hdst:o.dst=some d) (hd:bR N (some d)=true)
  (ho:o.op = .call { callee:=.builtin .append,args:=#[x,y],argTypes:=#[t,u] })
  (hx:ev σ x = .slice A xs.length c) (hy:ev σ y = .string s) (hL:L[i]? = some row) (hown:Own au Γ e row A c xs) (hlen:xs.length+s.size≤lim)
  (k:∀row' A' c',Own au Γ e row' A' c' (xs++s.data.toList)→WR P N ops (CC F Γ (L.set i row')) Q rest (upd σ d (.slice A' (xs++s.data.toList).length c'))):WR P N ops (CC F Γ L) Q (o::rest) σ:=by
 refine WR.eff hg (by rw [hdst]; exact hd) λw hw=>?_
 have hmem:row∈L:=List.mem_of_getElem? hL
 obtain⟨css,ho1,hcl,hrd⟩:=hown.owns (w:=w) (hw.loc row hmem)
 have hl2:s.data.toList.length=s.size:=rfl
 have hmax:xs.length+s.size≤maxLen:=by have h1:=hlen; unfold lim at h1; unfold maxLen; omega
 have hbytes:xs.length+s.size≤140737488355328:=by have h1:=hlen; unfold lim at h1; omega
 obtain⟨v',w',hrun,h2,h3,h5⟩:=Lib.run_append_own_string (P:=P) w 0 t u o.type e ti ht hu hi hz hsize hby (.slice A xs.length c) xs.length css.flatten ho1 s hmax hbytes (E7 _)
 have hxy:(xs++s.data.toList).length=xs.length+s.size:=by rw [DS,hl2]
 have hform:∃A' c',v' = .slice A' (xs++s.data.toList).length c':=by
  rw [hxy]
  rcases h2.2 with ⟨hv,h0⟩ | ⟨g,cap,cur,hv,_⟩
  ·exact⟨none,0,by rw [hv,h0]⟩
  ·exact⟨_,_,hv⟩
 obtain⟨A',c',rfl⟩:=hform
 have hcs2:Lib.strCells s=(s.data.toList.map λb=>[Value.int .u8 (b.toNat:Int)]).flatten:=by
  unfold Lib.strCells
  generalize s.data.toList=l
  induction l with
  | nil=>rfl
  | cons b l ih=>simp [ih]
 rw [hcs2, ← List.flatten_append, ← hxy] at h2
 obtain⟨row',hown',hrow',hnd',hob⟩:=Own.of_owns (T:=au) (Γ:=Γ) (xs:=xs++s.data.toList) h2 (by simp [hcl]) (by rw [hxy]; exact hlen) (λq h1=>by
  by_cases hq:q<css.length
  ·rw [List.getElem_append_left hq,iC (by omega)]
   exact hrd q hq
  ·rw [List.getElem_append_right (by omega),gN (by omega)]
   simp only [DS,E8] at h1
   simp only [hcl,List.getElem_map]
   rw [bA (by omega)]
   rfl)
 refine⟨.slice A' (xs++s.data.toList).length c',w',.inl ?_,?_⟩
 ·simp only [execOp,ho,resolve,invoke,builtin,E4,E3,Result.andThen_ok,List.map_toArray,E0,List.map_nil,hx,hy,hrun]
 ·rw [hdst]
  refine k row' A' c' hown' w' (hw.set hL ?_ hrow' ?_ hnd')
  ·refine(Fr.of_grown h3 (lR ht hu hi hz hsize hby ho1 hmax hbytes hrun).1).mono λq hq=>?_
   rcases hown.is with ⟨rfl,_⟩ | ⟨g,cur,_,rfl,rfl,_⟩
   ·simp [Value.ownBlock] at hq
   ·simp [Value.ownBlock] at hq; exact⟨_,List.mem_singleton.2 rfl,hq.symm⟩
  ·intro p hp
   have h6:=hob p hp
   rcases (lR ht hu hi hz hsize hby ho1 hmax hbytes hrun).2 with h7 | h7
   ·rw [h7] at h6
    rcases hown.is with ⟨rfl,_⟩ | ⟨g,cur,_,rfl,rfl,_⟩
    ·simp [Value.ownBlock] at h6
    ·simp [Value.ownBlock] at h6; exact .inl ⟨_,List.mem_singleton.2 rfl,h6⟩
   ·rw [h7] at h6; injection h6 with h6; exact .inr (by omega)
section
variable {α:Type} [Inhabited α] {T:Ty α} {row:Rowb} {e:TypeId} {A:Option Addr} {c:Nat} {xs:List α}
end
end
theorem xA{P:Program}{C:World→Prop}{σ:Env}{o:Oper}{a b:Bool}(h:a=b)(hv:QV P C σ o (.bool a)):QV P C σ o (.bool b):=h▸hv
end Fw
end Go.Proofs.YtgaplodcdhhefaaGreat
