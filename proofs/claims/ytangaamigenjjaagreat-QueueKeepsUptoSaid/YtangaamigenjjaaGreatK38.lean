/- Slices of the call's own that begin anywhere in their block. No condition. -/
import Derived.Test.YtangaamigenjjaaGreatK36
import Derived.Laws.AppendOwn
import Derived.Deep.AppendSrc
namespace Go.Proofs.YtangaamigenjjaaGreat
namespace Fw
set_option linter.unusedVariables false
set_option linter.unusedSimpArgs false
set_option linter.unusedSectionVars false
open Go.RowKit
structure OwnV {α:Type} [Inhabited α] (T:Ty α) (Γ:Gh) (e:TypeId) (row:Rowb) (A:Option Addr) (c:Nat) (xs:List α):Prop where
 le:xs.length≤lim
 is:(A=none∧xs = []∧c=0∧row = []) ∨
  ∃(g b:Nat) (cur:Array Value) (css:List (List Value)),A=some ⟨g,b,none⟩∧row = [(g,.cells cur e (0,0))]∧xs.length≤c∧c≤maxLen∧b+c*T.n≤cur.size∧css.length=xs.length ∧
   (cur.toList.drop b).take (xs.length*T.n)=css.flatten∧∀i (h1:i<css.length),T.rd Γ css[i] (gt xs i)
def tc(row:Rowb)(A:Option Addr)(j:Nat)(vs:List Value):Prop := ∃g b arr e,A=some ⟨g,b,none⟩∧row = [(g,.cells arr e (0,0))]∧∀k v,vs[k]? = some v→arr[b+(j+k)]? = some v
theorem kS{β:Type}(n:Nat):∀{css:List (List β)} (h:∀c∈css,c.length=n) (k:Nat),(css.drop k).flatten=css.flatten.drop (k*n)
 | [],_,k=>by simp
 | c::css,h,0=>by simp
 | c::css,h,k+1=>by
  have hc:c.length=n:=h c (by simp)
  rw [List.drop_succ_cons,CL,kS n (λc hc=>h c (by simp [hc])) k,List.drop_append,hc,Cx (l:=c) (by rw [hc,Nat.add_mul]; omega),CK]
  congr 1
  rw [Nat.add_mul]; omega
section
variable {α:Type} [Inhabited α] {T:Ty α} {Γ Δ:Gh} {w w':World} {e:TypeId} {row:Rowb} {A:Option Addr} {c:Nat} {xs:List α}
theorem OwnV.mono(h:OwnV T Γ e row A c xs)(hs:Γ.le Δ):OwnV T Δ e row A c xs:=by
 refine⟨h.le,?_⟩
 rcases h.is with h1 | ⟨g,b,cur,css,h1,h2,h3,h4,h5,h6,h7,h8⟩
 ·exact .inl h1
 ·exact .inr ⟨g,b,cur,css,h1,h2,h3,h4,h5,h6,h7,λi a=>T.mono (h8 i a) hs⟩
theorem OwnV.of(h:Own T Γ e row A c xs):OwnV T Γ e row A c xs:=by
 refine⟨h.le,?_⟩
 rcases h.is with h1 | ⟨g,cur,css,h1,h2,h3,h4,h5,h6,h7,h8⟩
 ·exact .inl h1
 ·exact .inr ⟨g,0,cur,css,h1,h2,h3,h4,by omega,h6,by simpa using h7,h8⟩
theorem OwnV.nil(T:Ty α)(Γ:Gh)(e:TypeId):OwnV T Γ e [] none 0 []:=⟨by simp,.inl ⟨rfl,rfl,rfl,rfl⟩⟩
theorem OwnV.capz(h:OwnV T Γ e row A c xs):xs.length≤c:=by
 rcases h.is with ⟨_,rfl,rfl,_⟩ | ⟨g,b,cur,css,_,_,h,_⟩
 ·exact CD _
 ·exact h
theorem OwnV.some_(h:OwnV T Γ e row A c xs){k:Nat}(hk:k<xs.length):A.isSome=true:=by
 rcases h.is with ⟨_,rfl,_⟩ | ⟨g,b,cur,css,rfl,_⟩
 ·simp at hk
 ·rfl
theorem jh{css:List (List Value)}(h8:∀i (h1:i<css.length),T.rd Γ css[i] (gt xs i)):∀cs∈css,cs.length=T.n:=by
 intro cs hcs
 obtain⟨k,hk,rfl⟩:=List.getElem_of_mem hcs
 exact T.len (h8 k hk)
theorem OwnV.get(h:OwnV T Γ e row A c xs){i:Nat}(hi:i<xs.length):∃cs,T.rd Γ cs (gt xs i)∧tc row A (i*T.n) cs:=by
 rcases h.is with ⟨_,rfl,_⟩ | ⟨g,b,cur,css,rfl,rfl,h3,h4,h5,h6,h7,h8⟩
 ·simp at hi
 ·have hic:i<css.length:=by omega
  have hall:=jh h8
  refine⟨css[i],h8 i hic,g,b,cur,e,rfl,rfl,λj v hj=>?_⟩
  have hjl:j<css[i].length:=(List.getElem?_eq_some_iff.1 hj).1
  have hjn:j<T.n:=by rw [hall _ (List.getElem_mem hic)] at hjl; exact hjl
  have h9:=jn T.n css i j hic hall hjn
  rw [← h7,List.getElem?_take,if_pos (uN hi hjn),List.getElem?_drop] at h9
  rw [← Array.getElem?_toList,h9,hj]
theorem OwnV.cut_from(h:OwnV T Γ e row A c xs){lo:Nat}(h1:lo≤xs.length):OwnV T Γ e row (if c=lo then A else A.map (·.add (lo*T.n))) (c - lo) (xs.drop lo):=by
 refine⟨by have:=h.le; simp; omega,?_⟩
 rcases h.is with ⟨rfl,rfl,rfl,rfl⟩ | ⟨g,b,cur,css,rfl,rfl,h3,h4,h5,h6,h7,h8⟩
 ·refine .inl ⟨?_,by simp,by simp,rfl⟩
  have:lo=0:=by simpa using h1
  subst this; rfl
 ·have hall:=jh h8
  have hdl:(css.drop lo).length=(xs.drop lo).length:=by simp [h6]
  have hrd:∀i (h1:i<(css.drop lo).length),T.rd Γ (css.drop lo)[i] (gt (xs.drop lo) i):=by
   intro i hi
   have hi2:lo+i<css.length:=by simp at hi; omega
   have h9:=h8 (lo+i) hi2
   have:gt (xs.drop lo) i=gt xs (lo+i):=by rw [bT (by rw [← hdl]; exact hi),bT (by omega)]; simp
   rw [this]
   simpa using h9
  by_cases hc:c=lo
  ·subst hc
   have hx:xs.length=c:=by omega
   refine .inr ⟨g,b,cur,css.drop c,by simp,rfl,by simp; omega,by omega,by rw [Nat.sub_self]; omega,hdl,?_,hrd⟩
   rw [Cx (l:=xs) (by omega),Cx (l:=css) (by omega)]; simp
  ·rw [if_neg hc]
   refine .inr ⟨g,b+lo*T.n,cur,css.drop lo,?_,rfl,by simp; omega,by omega,?_,hdl,?_,hrd⟩
   ·simp [Addr.add]
   ·have:lo*T.n+(c - lo)*T.n=c*T.n:=by rw [← Nat.add_mul]; congr 1; omega
    omega
   ·rw [kS T.n hall lo, ← h7,List.drop_take,List.drop_drop,CT]
    congr 1
    rw [Nat.sub_mul]
theorem OwnV.cut_to(h:OwnV T Γ e row A c xs){hi:Nat}(h1:hi≤xs.length):OwnV T Γ e row A c (xs.take hi):=by
 refine⟨by have:=h.le; simp; omega,?_⟩
 rcases h.is with ⟨rfl,rfl,rfl,rfl⟩ | ⟨g,b,cur,css,rfl,rfl,h3,h4,h5,h6,h7,h8⟩
 ·exact .inl ⟨rfl,by simp,rfl,rfl⟩
 ·have hall:=jh h8
  have hl:(xs.take hi).length=hi:=by simp; omega
  refine .inr ⟨g,b,cur,css.take hi,rfl,rfl,by omega,h4,h5,by rw [hl]; simp; omega,?_,?_⟩
  ·rw [hl]
   have h9:(css.take hi).flatten=css.flatten.take (hi*T.n):=by
    have h10:=kS T.n hall hi
    have h11:css.flatten=(css.take hi).flatten++(css.drop hi).flatten:=by rw [← List.flatten_append,List.take_append_drop]
    have h12:(css.take hi).flatten.length=hi*T.n:=by
     rw [bM T.n _ (λc hc=>hall c (List.mem_of_mem_take hc))]; congr 1; simp; omega
    rw [h11,List.take_left' h12]
   rw [h9, ← h7,List.take_take]
   congr 1
   have:hi*T.n≤xs.length*T.n:=Nat.mul_le_mul_right _ h1
   omega
  ·intro i hi2
   have hi3:i<css.length:=by simp at hi2; omega
   have h9:=h8 i hi3
   have:gt (xs.take hi) i=gt xs i:=by rw [bT (by rw [hl]; simp at hi2; omega),bT (by omega)]; simp
   rw [this]
   simpa using h9
end
section
variable {P:Program} {N:FN} {Q:Exit→Env→World→Prop} {σ:Env} {o:Oper} {F:Fm} {Γ Δ:Gh} {L U U' R:List Rowb} {ops:Array Oper} {rest:List Oper} {α:Type} [Inhabited α] {T:Ty α} {w w':World}
theorem xH{x:Operand}{t:TypeId}{row rowL:Rowb}{A:Option Addr}{i j c:Nat}{cs:List Value}{v:Value}(hi:L[i]? = some row)(hsub:∀p∈rowL,p∈row)(hC:tc rowL A j cs)(ho:o.op = .load t x)(ht:∀w,(isAgg t).run P w = .ok false w)(hx:ev σ x=dG A (j+c))(hv:cs[c]? = some v):QV P (CC F Γ L) σ o v:=
 λw hw=>by
  obtain⟨g,b,arr,e,rfl,rfl,h⟩:=hC
  have hb:=hw.at_ hi (p:=(g,.cells arr e (0,0))) (hsub _ (by simp))
  have hcell:∀j,w.cell? ⟨g,j,none⟩=arr[j]?:=λj=>cell_of_row w g j arr e (0,0) hb
  simp only [execOp,ho,hx,dG,CP,bS,Cz]
  rw [dm ht ((hcell _).trans (h c v hv))]; rfl
theorem uJ{x:Operand}{t:TypeId}{row rowL:Rowb}{A:Option Addr}{i j c:Nat}{cs vs:List Value}(hi:L[i]? = some row)(hsub:∀p∈rowL,p∈row)(hC:tc rowL A j cs)(ho:o.op = .load t x)(ht:∀w,(isAgg t).run P w = .ok true w)(hz:∀w,(sizeOf t).run P w = .ok vs.length w)(hx:ev σ x=dG A (j+c))
  (hv:(cs.drop c).take vs.length=vs):QV P (CC F Γ L) σ o (.agg vs.toArray):=
 λw hw=>by
  obtain⟨g,b,arr,e,rfl,rfl,h⟩:=hC
  have hb:=hw.at_ hi (p:=(g,.cells arr e (0,0))) (hsub _ (by simp))
  have hcell:∀j,w.cell? ⟨g,j,none⟩=arr[j]?:=λj=>cell_of_row w g j arr e (0,0) hb
  simp only [execOp,ho,hx,dG,CP,bS,Cz]
  rw [eY ht hz]
  ·rfl
  ·intro k v hk
   rw [bS,hcell,Nat.add_assoc,Nat.add_assoc]
   exact h _ v (j9 hv hk)
theorem rL(w:World)(t tx ty e:TypeId)(i:TypeInfo)(ht:P.underlying t=some (.slice e))(hi:P.info? e=some i)(base:Option Addr)(sLen sCap:Nat)(hle:sLen≤sCap)(x:Value)(hs:Src P i.size tx x 0 [] w):
  (Builtin.append_ #[t,tx] ty #[.slice base sLen sCap,x]).run P w = .ok (.slice base sLen sCap) w:=by
 rcases hs.kind with ⟨e',hk⟩ | hk <;> cases base <;> simp [Builtin.append_,run_underlying ht,run_underlying hk,sizeOf,typeInfo,hi,hs.len,hle,hs.cells,storeCells]
theorem vb{t e:TypeId}{x y:Operand}{d i:Nat}{A:Option Addr}{c:Nat}{xs ys:List α}{row:Rowb}{A2:Option Addr}{c2:Nat}(hE:fS P t e T)(hg:o.guard=none)(hdst:o.dst=some d)(hd:ci N (some d)=true)
  (ho:o.op = .call { callee:=.builtin .append,args:=#[x,y],argTypes:=#[t,t] })
  (hx:ev σ x = .slice A xs.length c) (hy:ev σ y = .slice A2 ys.length c2) (hL:L[i]? = some row) (hown:OwnV T Γ e row A c xs) (hlen:xs.length+ys.length≤lim)
  (hsrc:∀w,Cur F Γ L w→(A2=none∧ys = [])∨∃a2,A2=some a2∧∃css:List (List Value),css.length=ys.length∧(∀k (h1:k<css.length),T.rd Γ css[k] (gt ys k))∧∀j u,css.flatten[j]? = some u→w.cell? (a2.add j)=some u)
  (k:∀row' A' c',OwnV T Γ e row' A' c' (xs++ys)→WR P N ops (CC F Γ (L.set i row')) Q rest (upd σ d (.slice A' (xs++ys).length c'))):WR P N ops (CC F Γ L) Q (o::rest) σ:=by
 obtain⟨ht,ti,hi,hzz,hsize,hby⟩:=hE
 obtain⟨z,hz,hzs⟩:=Option.map_eq_some_iff.1 hzz
 refine WR.eff hg (by rw [hdst]; exact hd) λw hw=>?_
 have hset:L.set i row=L:=by
  apply List.ext_getElem?
  intro q
  rw [List.getElem?_set]
  split
  ·rename_i hq; subst hq; split
   ·exact hL.symm
   ·rename_i hlt; rw [List.getElem?_eq_none (by omega)]
  ·rfl
 have hS:∃news:List Value,Src P ti.size t (.slice A2 ys.length c2) ys.length news w∧(ys = []→news = [])∧∃css2:List (List Value),news=css2.flatten∧css2.length=ys.length∧∀k (h1:k<css2.length),T.rd Γ css2[k] (gt ys k):=by
  rcases hsrc w hw with ⟨rfl,rfl⟩ | ⟨a2,rfl,css2,hc2,hrd2,hcell⟩
  ·exact⟨[],Src.ofNil w ht c2,λ_=>rfl,[],rfl,rfl,λk h=>by simp at h⟩
  ·have hall2:=jh (xs:=ys) hrd2
   have hl2:css2.flatten.length=ys.length*ti.size:=by rw [bM T.n css2 hall2,hc2,hsize]
   have hone:∀u∈css2.flatten,u.oneCell'=true:=by
    intro u hu
    obtain⟨cs,hcs,hu⟩:=List.mem_flatten.1 hu
    obtain⟨q,hq,rfl⟩:=List.getElem_of_mem hcs
    exact T.one (hrd2 q hq) u hu
   refine⟨css2.flatten,Src.ofSlice w ht a2 ys.length c2 css2.flatten hl2 hcell hone,λh0=>?_,css2,rfl,hc2,hrd2⟩
   subst h0
   exact List.eq_nil_of_length_eq_zero (by simpa using hl2)
 obtain⟨news,hs,hn0,css2,hnc,hc2,hrd2⟩:=hS
 have hall2:=jh (xs:=ys) hrd2
 have hl2:news.length=ys.length*T.n:=by rw [hnc,bM T.n css2 hall2,hc2]
 have exec:∀{v':Value} {w':World},(Builtin.append_ #[t,t] o.type #[.slice A xs.length c,.slice A2 ys.length c2]).run P w = .ok v' w'→(execOp (ev σ) o).run P w = .ok (.value v') w':=by
  intro v' w' hrun
  simp only [execOp,ho,resolve,invoke,builtin,CA,Cz,Result.andThen_ok,List.map_toArray,Cw,List.map_nil,hx,hy,hrun]
 by_cases hy0:ys = []
 ·have hnn:=hn0 hy0
  subst hy0 hnn
  refine⟨.slice A xs.length c,w,.inl (exec (rL w t t o.type e ti ht hi A xs.length c hown.capz _ hs)),?_⟩
  rw [hdst]
  have:=k row A c (by rw [CI]; exact hown)
  rw [CI] at this
  exact this w (by rw [hset]; exact hw)
 have hypos:0<ys.length:=List.length_pos_iff.2 hy0
 have hbytes:(xs.length+ys.length)*ti.bytes≤140737488355328:=by
  have h1:(xs.length+ys.length)*ti.bytes≤2147483648*65536:=Nat.mul_le_mul hlen hby
  omega
 have hmax:xs.length+ys.length≤maxLen:=by have h1:=hlen; unfold lim at h1; unfold maxLen; omega
 have h63:xs.length+ys.length≤9223372036854775807:=by unfold maxLen at hmax; omega
 have hall:∀{css:List (List Value)},css.length=xs.length→(∀i (h1:i<css.length),T.rd Γ css[i] (gt xs i))→∀q (h1:q<(css++css2).length),T.rd Γ (css++css2)[q] (gt (xs++ys) q):=by
  intro css hcl hrd q h1
  by_cases hq:q<css.length
  ·rw [List.getElem_append_left hq,gr (by omega)]
   exact hrd q hq
  ·rw [List.getElem_append_right (by omega),fE (by omega)]
   simp only [hcl]
   exact hrd2 _ _
 have grown:∀(css:List (List Value)),css.length=xs.length→(∀i (h1:i<css.length),T.rd Γ css[i] (gt xs i))→∀old,old<xs.length+ys.length →
   (Builtin.append_ #[t,t] o.type #[.slice A xs.length c,.slice A2 ys.length c2]).run P w =
    .ok (.slice (some ⟨w.heap.size,0,none⟩) (xs.length+ys.length) (grownCap w (xs.length+ys.length) old e)) (w.drew.alloc (.cells ((css.flatten++news).toArray++Builtin.zeroCells z.cells (grownCap w (xs.length+ys.length) old e - (xs.length+ys.length))) e)) →
   ∃v' w',(((execOp (ev σ) o).run P w = .ok (.value v') w'∧True)∨False)∧WRp P N ops Q rest (upd σ d v') w':=by
  intro css hcl hrd old ho' hrun
  refine⟨_,_,.inl ⟨exec hrun,trivial⟩,?_⟩
  have hge:=grownCap_ge w (xs.length+ys.length) old e
  have hcm:grownCap w (xs.length+ys.length) old e≤maxLen:=grownCap_le_maxLen w (xs.length+ys.length) old e hmax
  have hfl:css.flatten.length=xs.length*T.n:=by rw [bM T.n css (jh hrd),hcl]
  have hk':=k [(w.heap.size,.cells ((css.flatten++news).toArray++Builtin.zeroCells z.cells (grownCap w (xs.length+ys.length) old e - (xs.length+ys.length))) e (0,0))] (some ⟨w.heap.size,0,none⟩) (grownCap w (xs.length+ys.length) old e) ?_
  rw [Co] at hk'
  refine hk' _ (hw.set hL ?_ ?_ ?_ ?_)
  rotate_left 4
  ·refine⟨by rw [Co]; exact hlen,.inr ⟨w.heap.size,0,_,css++css2,rfl,rfl,by rw [Co]; exact hge,hcm,?_,by simp [hcl,hc2],?_,hall hcl hrd⟩⟩
   ·simp only [Array.size_append,List.size_toArray,Co,size_zeroCells,hzs,hfl,hl2, ← Nat.add_mul]
    rw [Nat.zero_add]
    exact Nat.mul_le_mul_right _ (by omega)
   ·simp only [Array.toList_append,List.drop_zero]
    rw [List.flatten_append, ← hnc]
    exact List.take_left' (by rw [Co,hfl,hl2,Co,Nat.add_mul])
  ·exact Fr.trans (b:=w.drew) ⟨rfl,rfl,rfl,λ_=>Nat.le_succ _,CD _,λ_ _ _=>rfl⟩ (rG w.drew _ _)
  ·intro p hp; rw [List.mem_singleton.1 hp]; exact heap_alloc_new w.drew _
  ·intro p hp; rw [List.mem_singleton.1 hp]; exact .inr (CD _)
  ·simp
 rcases hown.is with ⟨rfl,rfl,rfl,rfl⟩ | ⟨g,b,cur,css,rfl,rfl,h3,h4,h5,h6,h7,h8⟩
 ·have h630:0+ys.length≤9223372036854775807:=h63
  have hr:=run_append_grow_src (P:=P) w t t o.type e ti z ht hi hz none 0 0 [] (run_firstCells_none w.drew ti.size 0 0 0) _ ys.length news hs (by omega) (by omega) (growslice_fits (by omega) hbytes)
  obtain⟨v',w',h9,h10⟩:=grown [] rfl (λi h=>by simp at h) 0 (by show 0<0+ys.length; omega) hr
  refine⟨v',w',?_,?_⟩
  ·rcases h9 with ⟨h9,_⟩ | h9
   ·exact .inl h9
   ·exact h9.elim
  ·rw [hdst]; exact h10
 ·have hb:=hw.at_ hL (p:=(g,.cells cur e (0,0))) (by simp)
  have hfl:css.flatten.length=xs.length*T.n:=by rw [bM T.n css (jh h8),h6]
  have hcell:∀j u,css.flatten[j]? = some u→w.cell? ((⟨g,b,none⟩:Addr).add j)=some u:=by
   intro j u hj
   have hjl:j<xs.length*T.n:=by rw [← hfl]; exact(List.getElem?_eq_some_iff.1 hj).1
   rw [← h7,List.getElem?_take,if_pos hjl,List.getElem?_drop] at hj
   rw [bS,cell_of_row w g (b+j) cur e (0,0) hb, ← Array.getElem?_toList]; exact hj
  by_cases hroom:xs.length+ys.length≤c
  ·have hsz:(b+xs.length*T.n)+news.length≤cur.size:=by
    have:(xs.length+ys.length)*T.n≤c*T.n:=Nat.mul_le_mul_right _ hroom
    rw [Nat.add_mul] at this
    rw [hl2]; omega
   have hst:=run_storeCells_at P g (b+xs.length*T.n) e news 0 cur w hb hsz hs.one
   simp only [Nat.add_zero] at hst
   have hrun:(Builtin.append_ #[t,t] o.type #[.slice (some ⟨g,b,none⟩) xs.length c,.slice A2 ys.length c2]).run P w = .ok (.slice (some ⟨g,b,none⟩) (xs.length+ys.length) c) (w.setRow g (cur.toList.take (b+xs.length*T.n)++news++cur.toList.drop (b+xs.length*T.n+news.length)).toArray):=by
    rcases hs.kind with ⟨e',hk⟩ | hk
    ·have hsc:=hs.cells
     rw [hsize] at hsc
     simp [Builtin.append_,run_underlying ht,sizeOf,typeInfo,hi,hs.len,hroom,hsc,Addr.add_lit,hst,hsize]
    ·rw [ht] at hk; cases hk
   refine⟨_,_,.inl (exec hrun),?_⟩
   rw [hdst, ← Co]
   refine k _ _ _ ?_ _ (hw.setRow hL)
   refine⟨by rw [Co]; exact hlen,.inr ⟨g,b,_,css++css2,rfl,rfl,by rw [Co]; exact hroom,h4,?_,by simp [h6,hc2],?_,hall h6 h8⟩⟩
   ·simp only [List.size_toArray,Co,CS,CT,Array.length_toList]
    omega
   ·have hcl:cur.toList.length=cur.size:=by simp
    have hb1:b≤(cur.toList.take (b+xs.length*T.n)).length:=by rw [CS]; omega
    simp only []
    rw [Cr,List.drop_append_of_le_length hb1,List.drop_take,Nat.add_sub_cancel_left,h7, ← Cr,List.flatten_append, ← hnc]
    exact List.take_left' (by rw [Co,hfl,hl2,Co,Nat.add_mul])
  ·have hold:(Builtin.firstCells ti.size xs.length (.slice (some ⟨g,b,none⟩) xs.length c)).run P w.drew = .ok css.flatten.toArray w.drew:=run_firstCells_some w.drew ti.size xs.length ⟨g,b,none⟩ xs.length c css.flatten (by rw [hsize]; exact hfl) (by simpa using hcell)
   have hr:=run_append_grow_src (P:=P) w t t o.type e ti z ht hi hz (some ⟨g,b,none⟩) xs.length c css.flatten hold _ ys.length news hs (by omega) (by omega) (growslice_fits (by omega) hbytes)
   obtain⟨v',w',h9,h10⟩:=grown css h6 h8 c (by omega) hr
   refine⟨v',w',?_,?_⟩
   ·rcases h9 with ⟨h9,_⟩ | h9
    ·exact .inl h9
    ·exact h9.elim
   ·rw [hdst]; exact h10
end
end Fw
end Go.Proofs.YtangaamigenjjaaGreat
