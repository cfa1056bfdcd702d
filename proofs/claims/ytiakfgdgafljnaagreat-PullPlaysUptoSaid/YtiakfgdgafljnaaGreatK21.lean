/- Slices cut out of a row of the call's own and put together again in place; tails that are cleared; arrays told by their cells. No condition. -/
import Derived.Test.YtiakfgdgafljnaaGreatK19
import Derived.Laws.CopyRow
namespace Go.Proofs.YtiakfgdgafljnaaGreat
namespace Fw
set_option linter.unusedVariables false
set_option linter.unusedSimpArgs false
set_option linter.unusedSectionVars false
open Go.RowKit
theorem flatten_take{β:Type}(n:Nat):∀(css:List (List β)) (k:Nat),(∀cs∈css,cs.length=n)→css.flatten.take (k*n)=(css.take k).flatten
  | [],k,_=>by simp
  | cs::css,0,_=>by simp
  | cs::css,k+1,hl=>by
    have h0:=hl cs (by simp)
    simp only [List.flatten_cons,List.take_succ_cons]
    rw [show (k+1)*n=cs.length+k*n by rw [h0,Nat.add_mul]; omega,List.take_length_add_append,flatten_take n css k (λc hc=>hl c (by simp [hc]))]
theorem flatten_drop{β:Type}(n:Nat):∀(css:List (List β)) (k:Nat),(∀cs∈css,cs.length=n)→css.flatten.drop (k*n)=(css.drop k).flatten
  | [],k,_=>by simp
  | cs::css,0,_=>by simp
  | cs::css,k+1,hl=>by
    have h0:=hl cs (by simp)
    simp only [List.flatten_cons,List.drop_succ_cons]
    rw [show (k+1)*n=cs.length+k*n by rw [h0,Nat.add_mul]; omega,List.drop_length_add_append,flatten_drop n css k (λc hc=>hl c (by simp [hc]))]
theorem lt_len{n m i:Nat}(h:n=m)(hi:i<m):i<n:=by omega
theorem set_self{β:Type}{L:List β}{i:Nat}{x:β}(h:L[i]? = some x):L.set i x=L:=by
  apply List.ext_getElem?
  intro q
  rw [List.getElem?_set]
  split
  · rename_i hq; subst hq; split
    · exact h.symm
    · rename_i hlt; rw [List.getElem?_eq_none (by omega)]
  · rfl
section
variable {α:Type} [Inhabited α] {T:Ty α} {P:Program} {N:Nat} {C:World→Prop} {Q:Exit→Env→World→Prop} {σ:Env} {o:Oper} {F:Fm} {Γ:Gh} {L:List Rowb} {ops:Array Oper} {rest:List Oper} {e:TypeId} {row:Rowb} {A:Option Addr} {c:Nat} {xs:List α}
/-- x[lo:hi], hi within the room -/
theorem q_cut_cap{x l h:Operand}{t e:TypeId}{A:Option Addr}{n c lo hi sz:Nat}{k k':IntKind}(ht:P.underlying t=some (.slice e))(hsz:∀w,(sizeOf e).run P w = .ok sz w)(ho:o.op = .slice t x (some l) (some h) none)
    (hx:ev σ x = .slice A n c) (hl:ev σ l = .int k (lo:Int)) (hh:ev σ h = .int k' (hi:Int)) (h1:lo≤hi) (h2:hi≤c) :
    QV P C σ o (.slice (if c=lo then A else A.map (·.add (lo*sz))) (hi - lo) (c - lo)):=
  λw _=>by
    have h5:lo≤c:=by omega
    simp [execOp,ho,hx,hl,hh,Instr.sliceAt,Instr.slice,Instr.sliceBounds,Instr.sliceBound,asIntOf,hsz,h1,h2,h5,run_underlying ht,Sem.run_pure,Sem.run_bind]
/-- x[lo:hi:m] -/
theorem q_cut3{x l h m:Operand}{t e:TypeId}{A:Option Addr}{n c lo hi mx sz:Nat}{k k' k2:IntKind}(ht:P.underlying t=some (.slice e))(hsz:∀w,(sizeOf e).run P w = .ok sz w)(ho:o.op = .slice t x (some l) (some h) (some m))
    (hx:ev σ x = .slice A n c) (hl:ev σ l = .int k (lo:Int)) (hh:ev σ h = .int k' (hi:Int)) (hm:ev σ m = .int k2 (mx:Int)) (h1:lo≤hi) (h2:hi≤mx) (h3:mx≤c) :
    QV P C σ o (.slice (if mx=lo then A else A.map (·.add (lo*sz))) (hi - lo) (mx - lo)):=
  λw _=>by
    have h5:lo≤mx:=by omega
    simp [execOp,ho,hx,hl,hh,hm,Instr.sliceAt,Instr.slice,Instr.sliceBounds,Instr.sliceBound,asIntOf,hsz,h1,h2,h3,h5,run_underlying ht,Sem.run_pure,Sem.run_bind]
theorem gt_take_{β:Type}[Inhabited β]{l:List β}{n i:Nat}(h:i<n):gt (l.take n) i=gt l i:=by
  unfold gt; simp [List.getD_eq_getElem?_getD,List.getElem?_take,h]
theorem gt_drop_{β:Type}[Inhabited β]{l:List β}{n i:Nat}:gt (l.drop n) i=gt l (n+i):=by
  unfold gt; simp [List.getD_eq_getElem?_getD,List.getElem?_drop]
theorem rd_join{css:List (List Value)}(h6:css.length=xs.length)(h8:∀q (h1:q<css.length),T.rd Γ css[q] (gt xs q)){hi lo:Nat}(h1:hi≤lo)(h2:lo≤xs.length):∀q (hq:q<(css.take hi++css.drop lo).length),T.rd Γ (css.take hi++css.drop lo)[q] (gt (xs.take hi++xs.drop lo) q):=by
  intro q hq
  have key:∀q,q<xs.length→T.rd Γ (gt css q) (gt xs q):=λq hq=>by rw [gt_eq (by omega)]; exact h8 q (by omega)
  have hq2:=hq
  rw [List.length_append,List.length_take,List.length_drop] at hq2
  rw [← gt_eq hq]
  have e1:(css.take hi).length=hi:=by rw [List.length_take]; omega
  have e2:(xs.take hi).length=hi:=by rw [List.length_take]; omega
  by_cases hlt:q<hi
  · rw [gt_append_left (by rw [e1]; exact hlt),gt_append_left (by rw [e2]; exact hlt),gt_take_ hlt,gt_take_ hlt]
    exact key q (by omega)
  · rw [gt_append_right (by rw [e1]; omega),gt_append_right (by rw [e2]; omega),e1,e2,gt_drop_,gt_drop_]
    exact key _ (by omega)
/-- append(x[:hi], x[lo:]...) in place, hi ≤ lo -/
theorem e_append_in{t:TypeId}{x y:Operand}{d i hi lo c2:Nat}(hE:ElemOf P t e T)(hg:o.guard=none)(hdst:o.dst=some d)(hd:okDst N (some d)=true)
    (ho:o.op = .call { callee:=.builtin .append,args:=#[x,y],argTypes:=#[t,t] })
    (hx:ev σ x = .slice A (xs.take hi).length c) (hy:ev σ y = .slice (if c=lo then A else A.map (·.add (lo*T.n))) (xs.drop lo).length c2) (hL:L[i]? = some row) (hown:Own T Γ e row A c xs) (h1:hi≤lo) (h2:lo≤xs.length)
    (k:∀row',Own T Γ e row' A c (xs.take hi++xs.drop lo)→WR P N ops (CC F Γ (L.set i row')) Q rest (upd σ d (.slice A (xs.take hi++xs.drop lo).length c))):WR P N ops (CC F Γ L) Q (o::rest) σ:=by
  obtain⟨ht,ti,hti,hzz,hsize,hby⟩:=hE
  refine WR.eff hg (by rw [hdst]; exact hd) λw hw=>?_
  have hmem:row∈L:=List.mem_of_getElem? hL
  rcases hown.is with ⟨rfl,rfl,rfl,rfl⟩ | ⟨g,cur,css,rfl,rfl,h3,h4,h5,h6,h7,h8⟩
  · have hx':ev σ x = .slice none 0 0:=by simpa using hx
    have hy':ev σ y = .slice none 0 c2:=by simpa using hy
    refine⟨.slice none 0 0,w,.inl ?_,?_⟩
    · have hrun:(Builtin.append_ #[t,t] o.type #[.slice none 0 0,.slice none 0 c2]).run P w = .ok (.slice none 0 0) w:=by
        simp [Builtin.append_,run_underlying ht,sizeOf,typeInfo,hti,Builtin.lenOf,Builtin.firstCells]
      simp only [execOp,ho,resolve,invoke,builtin,Sem.run_pure,Sem.run_bind,Result.andThen_ok,List.map_toArray,List.map_cons,List.map_nil,hx',hy',hrun]
    · rw [hdst]
      have:=k [] (by simpa using hown)
      rw [set_self hL] at this
      have h9:=this w hw
      simpa [updo] using h9
  · have hrow:=hw.loc _ hmem (g,.cells cur e (0,0)) (by simp)
    simp only at hrow
    have hall:∀cs∈css,cs.length=T.n:=by
      intro cs hcs
      obtain⟨q,hq,rfl⟩:=List.getElem_of_mem hcs
      exact T.len (h8 q hq)
    have hfl:css.flatten.length=xs.length*T.n:=by rw [flatten_len T.n css hall,h6]
    have hnews:(css.drop lo).flatten.length=(xs.length - lo)*ti.size:=by
      rw [flatten_len T.n _ (λq hq=>hall q (List.mem_of_mem_drop hq)),List.length_drop,h6,hsize]
    have hone:∀u∈(css.drop lo).flatten,u.oneCell'=true:=by
      intro u hu
      obtain⟨cs,hcs,hu⟩:=List.mem_flatten.1 hu
      obtain⟨q,hq,rfl⟩:=List.getElem_of_mem (List.mem_of_mem_drop hcs)
      exact T.one (h8 q hq) u hu
    have hcl:∀j,w.cell? ⟨g,j,none⟩=cur[j]?:=λj=>cell_of_row w g j cur e (0,0) hrow
    have hcur:∀j,j<xs.length*T.n→cur[j]? = css.flatten[j]?:=λj hj=>by
      rw [← h7,List.getElem?_take,if_pos hj,Array.getElem?_toList]
    have hlen1:(xs.take hi).length=hi:=by rw [List.length_take]; omega
    have hlen2:(xs.drop lo).length=xs.length - lo:=List.length_drop
    have hmul:hi*T.n+(xs.length - lo)*T.n≤cur.size:=by
      rw [h5, ← Nat.add_mul]; exact Nat.mul_le_mul_right _ (by omega)
    have hrun:∃a2,(if c=lo then (some ⟨g,0,none⟩:Option Addr) else Option.map (λa:Addr=>a.add (lo*T.n)) (some ⟨g,0,none⟩))=some a2 ∧
        (Builtin.append_ #[t,t] o.type #[.slice (some ⟨g,0,none⟩) hi c,.slice (some a2) (xs.length - lo) c2]).run P w =
        .ok (.slice (some ⟨g,0,none⟩) (hi+(xs.length - lo)) c) (w.setRow g (cur.toList.take (hi*T.n)++(css.drop lo).flatten++cur.toList.drop (hi*T.n+(css.drop lo).flatten.length)).toArray):=by
      by_cases hcl2:c=lo
      · refine⟨⟨g,0,none⟩,if_pos hcl2,?_⟩
        have h9:css.drop lo = []:=List.drop_eq_nil_of_le (by omega)
        have:=run_append_room (P:=P) w t o.type e ti ht hti g hi c cur hrow ⟨g,0,none⟩ (xs.length - lo) c2 (css.drop lo).flatten hnews (by rw [h9]; simp) hone (by omega) (by rw [hnews,hsize]; exact hmul)
        rw [hsize] at this; exact this
      · refine⟨⟨g,lo*T.n,none⟩,by rw [if_neg hcl2,Option.map_some,addr_add]; simp,?_⟩
        have:=run_append_room (P:=P) w t o.type e ti ht hti g hi c cur hrow ⟨g,lo*T.n,none⟩ (xs.length - lo) c2 (css.drop lo).flatten hnews (λj u hu=>by
          have hj:=(List.getElem?_eq_some_iff.1 hu).1
          rw [hnews,hsize] at hj
          have hlo:lo*T.n+j<xs.length*T.n:=by
            have:lo*T.n+(xs.length - lo)*T.n=xs.length*T.n:=by rw [← Nat.add_mul]; congr 1; omega
            omega
          rw [addr_add,hcl,hcur _ hlo, ← hu, ← flatten_drop T.n css lo hall,List.getElem?_drop]) hone (by omega) (by rw [hnews,hsize]; exact hmul)
        rw [hsize] at this; exact this
    obtain⟨a2,ha2,hrun⟩:=hrun
    rw [ha2,hlen2] at hy
    rw [hlen1] at hx
    refine⟨.slice (some ⟨g,0,none⟩) (hi+(xs.length - lo)) c,_,.inl (by simp only [execOp,ho,resolve,invoke,builtin,Sem.run_pure,Sem.run_bind,Result.andThen_ok,List.map_toArray,List.map_cons,List.map_nil,hx,hy,hrun]; rfl),?_⟩
    rw [hdst]
    have hnl:(xs.take hi++xs.drop lo).length=hi+(xs.length - lo):=by rw [List.length_append,hlen1,hlen2]
    have hle:=hown.le
    have hsz:(cur.toList.take (hi*T.n)++(css.drop lo).flatten++cur.toList.drop (hi*T.n+(css.drop lo).flatten.length)).length=cur.size:=by
      rw [hsize] at hnews
      simp only [List.length_append,List.length_take,List.length_drop,Array.length_toList,hnews]
      omega
    have hpre:cur.toList.take (hi*T.n)=(css.take hi).flatten:=by
      have h10:hi*T.n≤xs.length*T.n:=Nat.mul_le_mul_right _ (by omega)
      rw [← flatten_take T.n css hi hall, ← h7,List.take_take,Nat.min_eq_left h10]
    have ho2:=k [(g,.cells (cur.toList.take (hi*T.n)++(css.drop lo).flatten++cur.toList.drop (hi*T.n+(css.drop lo).flatten.length)).toArray e (0,0))] ⟨by rw [hnl]; omega,.inr ⟨g,_,css.take hi++css.drop lo,rfl,rfl,by rw [hnl]; omega,h4,by rw [List.size_toArray,hsz,h5],by rw [hnl,List.length_append,List.length_take,List.length_drop,h6]; omega,by
        rw [hnl,hpre,List.append_assoc, ← List.append_assoc, ← List.flatten_append]
        have:(hi+(xs.length - lo))*T.n=(css.take hi++css.drop lo).flatten.length:=by
          rw [flatten_len T.n _ (λq hq=>by
            rcases List.mem_append.1 hq with h | h
            · exact hall q (List.mem_of_mem_take h)
            · exact hall q (List.mem_of_mem_drop h)),List.length_append,List.length_take,List.length_drop,h6]
          congr 1; omega
        rw [this,List.take_left'] <;> rfl,rd_join h6 h8 h1 h2⟩⟩
    rw [hnl] at ho2
    exact ho2 _ (hw.setRow hL)
/-- clear(x[len:m]) behind the list's end -/
theorem e_clear_tail{t:TypeId}{x:Operand}{i m:Nat}{z:Value}(ht:P.underlying t=some (.slice e))(hz:∀w,(zeroValue e).run P w = .ok z w)(hzs:z.cells.size=T.n)(hz1:∀u∈z.cells.toList,u.oneCell'=true)(hg:o.guard=none)(hd:okDst N o.dst=true)
    (ho:o.op = .call { callee:=.builtin .clear,args:=#[x],argTypes:=#[t] }) (hx:ev σ x = .slice (if c=xs.length then A else A.map (·.add (xs.length*T.n))) (m - xs.length) (c - xs.length)) (h1:xs.length≤m) (h2:m≤c) (hL:L[i]? = some row) (hown:Own T Γ e row A c xs)
    (k:∀row',Own T Γ e row' A c xs→WR P N ops (CC F Γ (L.set i row')) Q rest (updo σ o.dst (.tuple #[]))):WR P N ops (CC F Γ L) Q (o::rest) σ:=by
  refine WR.eff hg hd λw hw=>?_
  have hmem:row∈L:=List.mem_of_getElem? hL
  have hsame:m - xs.length=0→WRp P N ops Q rest (updo σ o.dst (.tuple #[])) w:=λ_=>by
    have:=k row hown
    rw [set_self hL] at this
    exact this w hw
  by_cases h0:m - xs.length=0
  · refine⟨.tuple #[],w,.inl ?_,hsame h0⟩
    rw [h0] at hx
    have hrun:∀a,(Builtin.clear_ #[t] o.type #[.slice a 0 (c - xs.length)]).run P w = .ok (.tuple #[]) w:=λa=>by
      cases a <;> simp [Builtin.clear_,run_underlying ht,Sem.run_pure,Sem.run_bind]
    simp only [execOp,ho,resolve,invoke,builtin,Sem.run_pure,Sem.run_bind,Result.andThen_ok,List.map_toArray,List.map_cons,List.map_nil,hx,hrun]
  rcases hown.is with ⟨rfl,rfl,rfl,rfl⟩ | ⟨g,cur,css,rfl,rfl,h3,h4,h5,h6,h7,h8⟩
  · simp at h2; omega
  have hrow:=hw.loc _ hmem (g,.cells cur e (0,0)) (by simp)
  simp only at hrow
  rw [if_neg (by omega),Option.map_some,addr_add,Nat.zero_add] at hx
  have hnl:(Builtin.zeroCells z.cells (m - xs.length)).toList.length=(m - xs.length)*T.n:=by rw [Array.length_toList,size_zeroCells,hzs]
  have hfit:xs.length*T.n+0+(Builtin.zeroCells z.cells (m - xs.length)).toList.length≤cur.size:=by
    rw [hnl,h5,Nat.add_zero, ← Nat.add_mul]; exact Nat.mul_le_mul_right _ (by omega)
  have hone:∀v∈(Builtin.zeroCells z.cells (m - xs.length)).toList,v.oneCell'=true:=by
    intro v hv
    obtain⟨q,hq,rfl⟩:=List.getElem_of_mem hv
    rw [Array.length_toList,size_zeroCells] at hq
    have hpos:0<z.cells.size:=by rw [hzs]; exact T.pos
    simp only [Builtin.zeroCells,Array.getElem_toList,Array.getElem_ofFn]
    have hlt:=Nat.mod_lt q hpos
    have:z.cells.getD (q % z.cells.size) undef=z.cells[q % z.cells.size]:=by simp [Array.getD_eq_getD_getElem?,hlt]
    first
      | exact hz1 _ (Array.getElem_mem_toList _)
      | (rw [this]; exact hz1 _ (by simp))
      | (simp [hlt]; exact hz1 _ (by simp))
  have hst:=run_storeCells_at P g (xs.length*T.n) e (Builtin.zeroCells z.cells (m - xs.length)).toList 0 cur w hrow hfit hone
  simp only [Nat.add_zero] at hst
  have hrun:(Builtin.clear_ #[t] o.type #[.slice (some ⟨g,xs.length*T.n,none⟩) (m - xs.length) (c - xs.length)]).run P w = .ok (.tuple #[]) (w.setRow g (cur.toList.take (xs.length*T.n)++(Builtin.zeroCells z.cells (m - xs.length)).toList++cur.toList.drop (xs.length*T.n+(Builtin.zeroCells z.cells (m - xs.length)).toList.length)).toArray):=by
    obtain⟨q,hq⟩:∃q,m - xs.length=q+1:=⟨m - xs.length - 1,by omega⟩
    rw [hq] at hst ⊢
    simp [Builtin.clear_,run_underlying ht,hz,hst,Sem.run_pure,Sem.run_bind]
  refine⟨.tuple #[],_,.inl (by simp only [execOp,ho,resolve,invoke,builtin,Sem.run_pure,Sem.run_bind,Result.andThen_ok,List.map_toArray,List.map_cons,List.map_nil,hx,hrun]; rfl),?_⟩
  refine k _ ?_ _ (hw.setRow hL)
  refine⟨hown.le,.inr ⟨g,_,css,rfl,rfl,h3,h4,?_,h6,?_,h8⟩⟩
  · have hf2:=hfit
    rw [hnl,Nat.add_zero] at hf2
    rw [List.size_toArray, ← h5]
    simp only [List.length_append,List.length_take,List.length_drop,hnl,Array.length_toList]
    generalize xs.length*T.n=u at hf2 ⊢
    generalize (m - xs.length)*T.n=v at hf2 ⊢
    omega
  · have h9:xs.length*T.n≤cur.size:=by rw [h5]; exact Nat.mul_le_mul_right _ h3
    have h10:(cur.toList.take (xs.length*T.n)).length=xs.length*T.n:=by
      have h11:cur.toList.length=cur.size:=Array.length_toList
      rw [List.length_take,h11]; exact Nat.min_eq_left h9
    rw [List.append_assoc,List.take_append_of_le_length (Nat.le_of_eq h10.symm),List.take_take,Nat.min_self,h7]
end
/-- an array of two numbers, told by its cells -/
theorem Own.cells2{k:IntKind}{T:Ty Int}(hT:∀{Γ cs x},T.rd Γ cs x→cs = [.int k x])(h1:T.n=1){Γ:Gh}{e:TypeId}{row:Rowb}{g:Nat}{xs:List Int}(h:Own T Γ e row (some ⟨g,0,none⟩) 2 xs)(hn:xs.length=2):row = [(g,.cells #[.int k (gt xs 0),.int k (gt xs 1)] e (0,0))]:=by
  rcases h.is with ⟨h2,_⟩ | ⟨g2,cur,css,hg2,rfl,h3,h4,h5,h6,h7,h8⟩
  · cases h2
  simp only [Option.some.injEq,Addr.mk.injEq,and_true] at hg2
  subst hg2
  rw [hn] at h6 h7
  have e0:=hT (h8 0 (by omega))
  have e1:=hT (h8 1 (by omega))
  obtain⟨a,b,rfl⟩:∃a b,css = [a,b]:=by
    match css,h6 with
    | [a,b],_=>exact⟨a,b,rfl⟩
  have e0':a = [.int k (gt xs 0)]:=e0
  have e1':b = [.int k (gt xs 1)]:=e1
  subst e0' e1'
  rw [h1] at h5 h7
  have hsz:cur.toList.length=2:=by rw [show cur.toList.length=cur.size from Array.length_toList,h5]
  rw [List.take_of_length_le (by omega)] at h7
  have h9:cur = #[.int k (gt xs 0),.int k (gt xs 1)]:=Array.toList_inj.1 h7
  rw [h9]
end Fw
end Go.Proofs.YtiakfgdgafljnaaGreat
