/- Appending to what is sealed and clipped; slices cut to their length. No condition. -/
import Derived.Test.YtgaplodcdhhefaaGreatK14
namespace Go.Proofs.YtgaplodcdhhefaaGreat
namespace Fw
set_option linter.unusedVariables false
set_option linter.unusedSimpArgs false
set_option linter.unusedSectionVars false
open Go.RowKit
section
variable {P:Program} {N:FN} {F:Fm} {Γ:Gh} {L:List Rowb} {σ:Env} {o:Oper} {Q:Exit→Env→World→Prop} {rest:List Oper} {ops:Array Oper} {α:Type} [Inhabited α] {T:Ty α}
theorem BZ{t e:TypeId}{x:Operand}{hi mx:Operand}{A:Option Addr}{xs:List α}{c:Nat}{kh km:IntKind}(ht:P.underlying t=some (.slice e))(hsz:∀w,(sizeOf e).run P w = .ok T.n w)(ho:o.op = .slice t x none (some hi) (some mx))
  (hx:ev σ x = .slice A xs.length c) (hh:ev σ hi = .int kh (xs.length:Int)) (hm:ev σ mx = .int km (xs.length:Int)) (hc:xs.length≤c) {C:World→Prop}:QV P C σ o (.slice A xs.length xs.length):=
 λw _=>by
  simp [execOp,ho,hx,hh,hm,Instr.sliceAt,Instr.slice,Instr.sliceBounds,Instr.sliceBound,asIntOf,hsz,hc,run_underlying ht,E4,E3]
  intro _
  cases A <;> simp [Addr.add]
theorem vq{Δ:Gh}{g:Nat}{arr:Array Value}{e:TypeId}{xs:List α}{css:List (List Value)}(hΔ:Δ g=some (.cells arr e (0,0)))(hn:css.length=xs.length)(hle:xs.length≤lim)(hrd:∀i (h1:i<css.length),T.rd Δ css[i] (gt xs i))
  (hcell:∀(j:Nat) (u:Value),css.flatten[j]? = some u→arr[j]? = some u):Sl T Δ (some ⟨g,0,none⟩) xs:=by
 refine⟨hle,λi hi=>⟨css[i]'(by omega),hrd i (by omega),λj v hj=>⟨g,0,arr,e,(0,0),rfl,hΔ,?_,nfz0 _⟩⟩⟩
 have hall:∀cs∈css,cs.length=T.n:=by
  intro cs hcs
  obtain⟨q,hq,rfl⟩:=List.getElem_of_mem hcs
  exact T.len (hrd q hq)
 have hjl:j<T.n:=by
  rw [← T.len (hrd i (by omega))]; exact(List.getElem?_eq_some_iff.1 hj).1
 have:=jj T.n css i j (by omega) hall hjl
 rw [hj] at this
 rw [Nat.zero_add]
 exact hcell _ _ this
theorem sI{t e:TypeId}{x y:Operand}{d:Nat}{A:Option Addr}{xs ys:List α}{A2:Option Addr}{c2:Nat}(hE:ir P t e T)(hg:o.guard=none)(hdst:o.dst=some d)(hd:bR N (some d)=true)
  (ho:o.op = .call { callee:=.builtin .append,args:=#[x,y],argTypes:=#[t,t] })
  (hx:ev σ x = .slice A xs.length xs.length) (hy:ev σ y = .slice A2 ys.length c2) (hs:Sl T Γ A xs) (hlen:xs.length+ys.length≤lim)
  (hsrc:∀w,Cur F Γ L w→(A2=none∧ys = [])∨∃a2,A2=some a2∧∃css:List (List Value),css.length=ys.length∧(∀k (h1:k<css.length),T.rd Γ css[k] (gt ys k))∧∀j u,css.flatten[j]? = some u→w.cell? (a2.add j)=some u)
  (k:∀Δ A' c',Γ.le Δ→Sl T Δ A' (xs++ys)→(xs++ys).length≤c'→WR P N ops (CC F Δ ([]::L)) Q rest (upd σ d (.slice A' (xs++ys).length c'))):WR P N ops (CC F Γ L) Q (o::rest) σ:=by
 obtain⟨ht,ti,hi,hzz,hsize,hby⟩:=hE
 obtain⟨z,hz,hzs⟩:=Option.map_eq_some_iff.1 hzz
 refine WR.eff hg (by rw [hdst]; exact hd) λw hw=>?_
 have hempty:ys = []→∃v w',(((execOp (ev σ) o).run P w = .ok (.value v) w')∨((execOp (ev σ) o).run P w = .ok .skip w'∧v=undef))∧WRp P N ops Q rest (updo σ o.dst v) w':=by
  rintro rfl
  refine⟨.slice A xs.length xs.length,w,.inl ?_,?_⟩
  ·have hrun:(Builtin.append_ #[t,t] o.type #[.slice A xs.length xs.length,.slice A2 0 c2]).run P w = .ok (.slice A xs.length xs.length) w:=by
    cases A with
    | none=>
     have:xs = []:=hs.none_nil rfl
     subst this
     cases A2 <;> simp [Builtin.append_,run_underlying ht,sizeOf,typeInfo,hi,Builtin.lenOf,Builtin.firstCells,loadCells,loadCellsFrom]
    | some a=>cases A2 <;> simp [Builtin.append_,run_underlying ht,sizeOf,typeInfo,hi,Builtin.lenOf,Builtin.firstCells,loadCells,loadCellsFrom,storeCells]
   simp only [Ea] at hy
   simp [execOp,ho,resolve,invoke,builtin,hx,hy,hrun,E4,E3]
  ·rw [hdst]
   have:=k Γ A xs.length (Gh.refl _) (by rw [Eb]; exact hs) (by simp)
   rw [Eb] at this
   exact this w hw.pad
 by_cases h0:ys = []
 ·exact hempty h0
 have hpos:0<ys.length:=List.length_pos_iff.2 h0
 rcases hsrc w hw with ⟨_,h⟩ | ⟨a2,rfl,css2,hc2,hrd2,hcell⟩
 ·exact absurd h h0
 have hall2:∀cs∈css2,cs.length=T.n:=by
  intro cs hcs
  obtain⟨q,hq,rfl⟩:=List.getElem_of_mem hcs
  exact T.len (hrd2 q hq)
 have hl2:css2.flatten.length=ys.length*T.n:=by rw [da T.n css2 hall2,hc2]
 have hbytes:(xs.length+ys.length)*ti.bytes≤140737488355328:=by
  have h1:(xs.length+ys.length)*ti.bytes≤2147483648*65536:=Nat.mul_le_mul hlen hby
  omega
 have hmax:xs.length+ys.length≤maxLen:=by have h1:=hlen; unfold lim at h1; unfold maxLen; omega
 have key:∀(arr:Array Value) (css:List (List Value)) (cap:Nat),css.length=xs.length→(∀q (h1:q<css.length),T.rd Γ css[q] (gt xs q))→(∀(j:Nat) (u:Value),(css++css2).flatten[j]? = some u→arr[j]? = some u)→(xs++ys).length≤cap →
   WRp P N ops Q rest (upd σ d (.slice (some ⟨w.heap.size,0,none⟩) (xs++ys).length cap)) (w.drew.alloc (.cells arr e)):=by
  intro arr css cap hc1 hrd1 hcl hcap
  have hw2:Cur F Γ ([(w.heap.size,.cells arr e (0,0))]::L) (w.drew.alloc (.cells arr e)):=(hw.drawn 1).new (.cells arr e)
  obtain⟨Δ,hw3,hle,hr⟩:=hw2.seal (i:=0) rfl
  refine k Δ (some ⟨w.heap.size,0,none⟩) cap hle ?_ hcap _ hw3
  refine vq (css:=css++css2) (hr _ (List.mem_singleton.2 rfl)) (by simp [hc1,hc2]) (by rw [DS]; exact hlen) (λq h1=>T.mono ?_ hle) hcl
  by_cases hq:q<css.length
  ·rw [List.getElem_append_left hq,iC (by omega)]
   exact hrd1 q hq
  ·rw [List.getElem_append_right (by omega),gN (by omega)]
   simp only [hc1]
   exact hrd2 _ _
 rcases mQ hs hw with ⟨rfl,rfl⟩ | ⟨a,rfl,css,hc1,hrd1,hcell1⟩
 ·have hr:=run_append_nil (P:=P) w t o.type e ti z ht hi hz a2 ys.length c2 css2.flatten (by rw [hl2,hsize]) hcell hpos (by simp only [Ea] at hmax; unfold maxLen at hmax; omega) (by simp only [Ea,Nat.zero_add] at hbytes; omega)
  refine⟨.slice (some ⟨w.heap.size,0,none⟩) ys.length (grownCap w ys.length 0 e),w.drew.alloc (.cells (css2.flatten.toArray++Builtin.zeroCells z.cells (grownCap w ys.length 0 e - ys.length)) e),.inl ?_,?_⟩
  ·simp only [Ea] at hx
   simp only [execOp,ho,resolve,invoke,builtin,E4,E3,Result.andThen_ok,List.map_toArray,E0,List.map_nil,hx,hy,hr]
  ·rw [hdst]
   refine key _ [] _ rfl (λq h1=>absurd h1 (by simp)) (λj u hj=>?_) (by simpa using grownCap_ge w ys.length 0 e)
   simp only [Ee] at hj
   have hjl:=(List.getElem?_eq_some_iff.1 hj).1
   rw [Array.getElem?_append_left (by simpa using hjl)]
   simpa using hj
 ·have hall1:∀cs∈css,cs.length=T.n:=by
   intro cs hcs
   obtain⟨q,hq,rfl⟩:=List.getElem_of_mem hcs
   exact T.len (hrd1 q hq)
  have hl1:css.flatten.length=xs.length*T.n:=by rw [da T.n css hall1,hc1]
  have hr:=run_append_grow (P:=P) w t o.type e ti z ht hi hz a xs.length xs.length css.flatten (by rw [hl1,hsize]) hcell1 a2 ys.length c2 css2.flatten (by rw [hl2,hsize]) hcell (by omega) (by unfold maxLen at hmax; omega) (growslice_fits (by omega) hbytes)
  refine⟨.slice (some ⟨w.heap.size,0,none⟩) (xs.length+ys.length) (grownCap w (xs.length+ys.length) xs.length e),w.drew.alloc (.cells (css.flatten.toArray++css2.flatten.toArray++Builtin.zeroCells z.cells (grownCap w (xs.length+ys.length) xs.length e - (xs.length+ys.length))) e),.inl ?_,?_⟩
  ·simp only [execOp,ho,resolve,invoke,builtin,E4,E3,Result.andThen_ok,List.map_toArray,E0,List.map_nil,hx,hy,hr]
  ·rw [hdst]
   have:=key (css.flatten.toArray++css2.flatten.toArray++Builtin.zeroCells z.cells (grownCap w (xs.length+ys.length) xs.length e - (xs.length+ys.length))) css (grownCap w (xs.length+ys.length) xs.length e) hc1 hrd1 (λj u hj=>?_) (by rw [DS]; exact grownCap_ge w _ _ e)
   ·rw [DS] at this; exact this
   ·have hjl:=(List.getElem?_eq_some_iff.1 hj).1
    rw [List.flatten_append] at hj hjl
    rw [Array.getElem?_append_left (by simpa using hjl)]
    simpa using hj
end
end Fw
end Go.Proofs.YtgaplodcdhhefaaGreat
