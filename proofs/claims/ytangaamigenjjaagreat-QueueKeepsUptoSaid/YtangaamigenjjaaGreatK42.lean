/- Slices that begin anywhere in their block: stores, clearing, as data. No condition. -/
import Derived.Test.YtangaamigenjjaaGreatK40
import Derived.Test.YtangaamigenjjaaGreatK21
namespace Go.Proofs.YtangaamigenjjaaGreat
namespace Fw
set_option linter.unusedVariables false
set_option linter.unusedSimpArgs false
set_option linter.unusedSectionVars false
open Go.RowKit
section
variable {α:Type} [Inhabited α] {T:Ty α} {Γ Δ:Gh} {w w':World} {e:TypeId} {row:Rowb} {A:Option Addr} {c:Nat} {xs:List α}
theorem OwnV.sl(h:OwnV T Γ e row A c xs)(hs:Γ.le Δ)(hr:∀p∈row,Δ p.1=some p.2):Sl T Δ A xs:=by
 refine⟨h.le,λi hi=>?_⟩
 obtain⟨cs,h1,g,b,arr,e',rfl,rfl,h2⟩:=h.get hi
 refine⟨cs,T.mono h1 hs,λj v hj=>⟨g,b,arr,e',(0,0),rfl,hr (g,.cells arr e' (0,0)) (by simp),?_,nfz0 _⟩⟩
 exact h2 j v hj
end
section
variable {P:Program} {N:FN} {Q:Exit→Env→World→Prop} {σ:Env} {o:Oper} {F:Fm} {Γ Δ:Gh} {L:List Rowb} {ops:Array Oper} {rest:List Oper} {α:Type} [Inhabited α] {T:Ty α} {w:World} {e:TypeId} {row:Rowb} {A:Option Addr} {c:Nat} {xs:List α}
theorem xh{t:TypeId}{ad x:Operand}{i q:Nat}{v:Value}{y:α}(hg:o.guard=none)(hdst:o.dst=none)(ho:o.op = .store t ad x)(ha:ev σ ad=dG A (q*T.n))(hx:ev σ x=v)
  (hz:∀w,(sizeOf t).run P w = .ok T.n w) (hrd:T.rd Γ v.cells.toList y) (hi:L[i]? = some row) (hown:OwnV T Γ e row A c xs) (hq:q<xs.length)
  (k:∀row',OwnV T Γ e row' A c (xs.set q y)→WR P N ops (CC F Γ (L.set i row')) Q rest σ):WR P N ops (CC F Γ L) Q (o::rest) σ:=by
 refine WR.eff hg (by rw [hdst]; rfl) λw hw=>?_
 rcases hown.is with ⟨_,rfl,_⟩ | ⟨g,b,cur,css,rfl,rfl,h3,h4,h5,h6,h7,h8⟩
 ·simp at hq
 have hall:=jh h8
 have hvl:=T.len hrd
 have hcl:cur.toList.length=cur.size:=by simp
 have hfit:q*T.n+T.n≤xs.length*T.n:=by
  have:(q+1)*T.n≤xs.length*T.n:=Nat.mul_le_mul_right _ hq
  rw [Nat.add_mul] at this; omega
 have hfit2:xs.length*T.n≤c*T.n:=Nat.mul_le_mul_right _ h3
 have hb:=hw.at_ hi (p:=(g,.cells cur e (0,0))) (by simp)
 have hs:=run_storeCells_at P g (b+q*T.n) e v.cells.toList 0 cur w hb (by rw [hvl]; omega) (λu hu=>T.one hrd u hu)
 simp only [Nat.add_zero] at hs
 refine⟨undef,w.setRow g (cur.toList.take (b+q*T.n)++v.cells.toList++cur.toList.drop (b+q*T.n+v.cells.toList.length)).toArray,.inr ⟨?_,rfl⟩,?_⟩
 rotate_left 1
 ·rw [hdst]
  refine k [(g,.cells (cur.toList.take (b+q*T.n)++v.cells.toList++cur.toList.drop (b+q*T.n+v.cells.toList.length)).toArray e (0,0))] ?_ _ (hw.setRow hi)
  have hfl:css.flatten.length=xs.length*T.n:=by rw [bM T.n css hall,h6]
  have hcur:cur.toList.drop b=css.flatten++(cur.toList.drop b).drop (xs.length*T.n):=by rw [← h7,List.take_append_drop]
  refine⟨by simpa using hown.le,.inr ⟨g,b,_,css.set q v.cells.toList,rfl,rfl,by simpa using h3,h4,?_,by simp [h6],?_,?_⟩⟩
  ·simp only [List.size_toArray,Co,CS,CT,hvl,hcl]
   omega
  ·rw [mj hall (by omega),hvl]
   simp only [List.length_set]
   have h9:=qR (tl:=(cur.toList.drop b).drop (xs.length*T.n)) (cs:=v.cells.toList) hfl hfit hvl
   rw [← hcur] at h9
   rw [← h9]
   congr 1
   have hb1:b≤(cur.toList.take (b+q*T.n)).length:=by rw [CS]; omega
   rw [Cr,List.drop_append_of_le_length hb1,List.drop_take,Nat.add_sub_cancel_left, ← Cr,List.drop_drop,Nat.add_assoc]
  ·intro p hp
   have hp':p<css.length:=by simpa using hp
   by_cases he:q=p
   ·subst he
    have:gt (xs.set q y) q=y:=by rw [bT (by simpa using hq)]; simp
    rw [this]; simpa using hrd
   ·have:gt (xs.set q y) p=gt xs p:=by
     rw [bT (by simp; omega),bT (by omega),List.getElem_set_ne he]
    rw [this]
    simpa [List.getElem_set_ne he] using h8 p hp'
 ·have hsz:v.cells.size=T.n:=by simpa using hvl
  simp [execOp,ho,ha,hx,dG,bS,Instr.storeAt,Instr.sureAddr,storeVar,hz,hsz,hs,CA,Cz]
theorem x8{t:TypeId}{x:Operand}{i m:Nat}{z:Value}(ht:P.underlying t=some (.slice e))(hz:∀w,(zeroValue e).run P w = .ok z w)(hzs:z.cells.size=T.n)(hz1:∀u∈z.cells.toList,u.oneCell'=true)(hg:o.guard=none)(hd:ci N o.dst=true)
  (ho:o.op = .call { callee:=.builtin .clear,args:=#[x],argTypes:=#[t] }) (hx:ev σ x = .slice (if c=xs.length then A else A.map (·.add (xs.length*T.n))) (m - xs.length) (c - xs.length)) (h1:xs.length≤m) (h2:m≤c) (hL:L[i]? = some row) (hown:OwnV T Γ e row A c xs)
  (k:∀row',OwnV T Γ e row' A c xs→WR P N ops (CC F Γ (L.set i row')) Q rest (updo σ o.dst (.tuple #[]))):WR P N ops (CC F Γ L) Q (o::rest) σ:=by
 refine WR.eff hg hd λw hw=>?_
 have hmem:row∈L:=List.mem_of_getElem? hL
 have hsame:m - xs.length=0→WRp P N ops Q rest (updo σ o.dst (.tuple #[])) w:=λ_=>by
  have:=k row hown
  rw [xy hL] at this
  exact this w hw
 by_cases h0:m - xs.length=0
 ·refine⟨.tuple #[],w,.inl ?_,hsame h0⟩
  rw [h0] at hx
  have hrun:∀a,(Builtin.clear_ #[t] o.type #[.slice a 0 (c - xs.length)]).run P w = .ok (.tuple #[]) w:=λa=>by
   cases a <;> simp [Builtin.clear_,run_underlying ht,CA,Cz]
  simp only [execOp,ho,resolve,invoke,builtin,CA,Cz,Result.andThen_ok,List.map_toArray,Cw,List.map_nil,hx,hrun]
 rcases hown.is with ⟨rfl,rfl,rfl,rfl⟩ | ⟨g,b,cur,css,rfl,rfl,h3,h4,h5,h6,h7,h8⟩
 ·simp at h2; omega
 have hrow:=hw.loc _ hmem (g,.cells cur e (0,0)) (by simp)
 simp only at hrow
 rw [if_neg (by omega),CP,bS] at hx
 have hnl:(Builtin.zeroCells z.cells (m - xs.length)).toList.length=(m - xs.length)*T.n:=by rw [Array.length_toList,size_zeroCells,hzs]
 have hmc:xs.length*T.n+(m - xs.length)*T.n≤c*T.n:=by rw [← Nat.add_mul]; exact Nat.mul_le_mul_right _ (by omega)
 have hfit:b+xs.length*T.n+0+(Builtin.zeroCells z.cells (m - xs.length)).toList.length≤cur.size:=by rw [hnl]; omega
 have hone:∀v∈(Builtin.zeroCells z.cells (m - xs.length)).toList,v.oneCell'=true:=by
  intro v hv
  obtain⟨q,hq,rfl⟩:=List.getElem_of_mem hv
  rw [Array.length_toList,size_zeroCells] at hq
  have hpos:0<z.cells.size:=by rw [hzs]; exact T.pos
  simp only [Builtin.zeroCells,Array.getElem_toList,Array.getElem_ofFn]
  have hlt:=Nat.mod_lt q hpos
  have:z.cells.getD (q % z.cells.size) undef=z.cells[q % z.cells.size]:=by simp [Array.getD_eq_getD_getElem?,hlt]
  first
   | exact hz1 _ (Array.getElem_mem_toList _)
   | (rw [this]; exact hz1 _ (by simp))
   | (simp [hlt]; exact hz1 _ (by simp))
 have hst:=run_storeCells_at P g (b+xs.length*T.n) e (Builtin.zeroCells z.cells (m - xs.length)).toList 0 cur w hrow hfit hone
 simp only [Nat.add_zero] at hst
 have hrun:(Builtin.clear_ #[t] o.type #[.slice (some ⟨g,b+xs.length*T.n,none⟩) (m - xs.length) (c - xs.length)]).run P w = .ok (.tuple #[]) (w.setRow g (cur.toList.take (b+xs.length*T.n)++(Builtin.zeroCells z.cells (m - xs.length)).toList++cur.toList.drop (b+xs.length*T.n+(Builtin.zeroCells z.cells (m - xs.length)).toList.length)).toArray):=by
  obtain⟨q,hq⟩:∃q,m - xs.length=q+1:=⟨m - xs.length - 1,by omega⟩
  rw [hq] at hst ⊢
  simp [Builtin.clear_,run_underlying ht,hz,hst,CA,Cz]
 refine⟨.tuple #[],_,.inl (by simp only [execOp,ho,resolve,invoke,builtin,CA,Cz,Result.andThen_ok,List.map_toArray,Cw,List.map_nil,hx,hrun]; rfl),?_⟩
 refine k _ ?_ _ (hw.setRow hL)
 refine⟨hown.le,.inr ⟨g,b,_,css,rfl,rfl,h3,h4,?_,h6,?_,h8⟩⟩
 ·rw [List.size_toArray]
  simp only [Co,CS,CT,hnl,Array.length_toList]
  omega
 ·have hcl:cur.toList.length=cur.size:=by simp
  have hb1:b≤(cur.toList.take (b+xs.length*T.n)).length:=by rw [CS]; omega
  show (List.drop b (cur.toList.take (b+xs.length*T.n)++_++_)).take _=_
  rw [Cr,List.drop_append_of_le_length hb1,List.drop_take,Nat.add_sub_cancel_left]
  have h10:((cur.toList.drop b).take (xs.length*T.n)).length=xs.length*T.n:=by rw [CS,CT]; omega
  rw [List.take_append_of_le_length (Nat.le_of_eq h10.symm),List.take_take,Nat.min_self,h7]
end
end Fw
end Go.Proofs.YtangaamigenjjaaGreat
