/- Blocks of maps that may be nil; maps to blocks that hold a number which is made once. No condition. -/
import Derived.Test.YtgaplodcdhhefaaGreatK17
import Derived.Test.YtgaplodcdhhefaaGreatK19
import Derived.Laws.Cover3
namespace Go.Proofs.YtgaplodcdhhefaaGreat
namespace Fw
set_option linter.unusedVariables false
set_option linter.unusedSimpArgs false
set_option linter.unusedSectionVars false
open Go.RowKit Go.MapKept
def cgt(cs:List Value)(i:Nat):Value:=cs.getD i undef
section
variable {P:Program} {k:TypeId} {κ α:Type} [DecidableEq κ]
def OMap(K:KeyT P k κ)(V:Tv α)(Γ:Gh)(c:Value)(r:Rowb):Option (List (κ×α))→Prop
 | none=>c = .map none∧r = []
 | some es => ∃m,c = .map (some m)∧MapO K V Γ r m es
theorem OMap.mono{K:KeyT P k κ}{V:Tv α}{Γ Δ:Gh}{c:Value}{r:Rowb}:∀{o:Option (List (κ×α))},OMap K V Γ c r o→Γ.le Δ→OMap K V Δ c r o
 | none,h,_=>h
 | some _,⟨m,h1,h2⟩,hs=>⟨m,h1,h2.mono hs⟩
structure qJ (K:KeyT P k κ) (V:Tv α) (Γ:Gh) (cs:List Value) (row:Rowb) (xs:List (Option (List (κ×α)))):Prop where
 is:∃rs:List Rowb,row=rs.flatten∧cs.length=xs.length∧rs.length=xs.length∧∀i (h:i<xs.length),OMap K V Γ (cgt cs i) (rs.getD i []) (gt xs i)
variable {K:KeyT P k κ} {V:Tv α} {Γ Δ:Gh} {cs:List Value} {row:Rowb} {xs:List (Option (List (κ×α)))}
theorem qJ.mono(h:qJ K V Γ cs row xs)(hs:Γ.le Δ):qJ K V Δ cs row xs:=by
 obtain⟨rs,h1,h2,h3,h4⟩:=h.is
 exact⟨⟨rs,h1,h2,h3,λi hi=>(h4 i hi).mono hs⟩⟩
theorem qJ.len(h:qJ K V Γ cs row xs):cs.length=xs.length:=by obtain⟨rs,h1,h2,h3,h4⟩:=h.is; exact h2
theorem qJ.at_(h:qJ K V Γ cs row xs){i:Nat}(hi:i<xs.length):∃rA r rB,row=rA++(r++rB)∧OMap K V Γ (cgt cs i) r (gt xs i) ∧
  ∀Δ c' r' x',Γ.le Δ→OMap K V Δ c' r' x'→qJ K V Δ (cs.set i c') (rA++(r'++rB)) (xs.set i x'):=by
 obtain⟨rs,h1,h2,h3,h4⟩:=h.is
 have hir:i<rs.length:=by omega
 have hsplit:rs=rs.take i++rs.getD i []::rs.drop (i+1):=by
  have:rs.getD i []=rs[i]:=by simp [List.getD,List.getElem?_eq_getElem hir]
  rw [this, ← List.drop_eq_getElem_cons hir,List.take_append_drop]
 refine⟨(rs.take i).flatten,rs.getD i [],(rs.drop (i+1)).flatten,?_,h4 i hi,λΔ c' r' x' hs ho=>⟨⟨rs.set i r',?_,by simpa using h2,by simpa using h3,λj hj=>?_⟩⟩⟩
 ·rw [h1]
  conv=>lhs; rw [hsplit]
  simp
 ·rw [show rs.set i r'=rs.take i++r'::rs.drop (i+1) from List.set_eq_take_append_cons_drop.trans (by rw [if_pos hir])]
  simp
 ·have hj':j<xs.length:=by simpa using hj
  by_cases e:i=j
  ·subst e
   have e1:gt (xs.set i x') i=x':=by rw [bA hj]; simp
   have e2:cgt (cs.set i c') i=c':=by simp [cgt,List.getD,show i<cs.length by omega]
   have e3:(rs.set i r').getD i []=r':=by simp [List.getD,hir]
   rw [e1,e2,e3]; exact ho
  ·have e1:gt (xs.set i x') j=gt xs j:=by rw [bA hj,bA hj',List.getElem_set_ne e]
   have e2:cgt (cs.set i c') j=cgt cs j:=by simp [cgt,List.getD,List.getElem?_set_ne e]
   have e3:(rs.set i r').getD j []=rs.getD j []:=by simp [List.getD,List.getElem?_set_ne e]
   rw [e1,e2,e3]; exact(h4 j hj').mono hs
def refV:Tv Nat:=⟨λ_ v g=>v = .pointer (some ⟨g,0,none⟩),λh _=>h⟩
def sumO(t:TypeId)(g:Nat)(h:Int):Nat×Obj:=(g,.cells #[.int .u32 1,.int .i32 0,.int .u32 0,.int .u64 h] t (0,0))
structure Sums (KS:KeyT P k κ) (ty:TypeId) (lent:List (κ×Nat)) (Γ:Gh) (row:Rowb) (sm:Nat) (es:List (κ×Int)):Prop where
 is:∃(own:List (κ×Nat)) (rowM:Rowb),own.map (·.1)=es.map (·.1)∧MapO KS refV Γ rowM sm (lent++own)∧row=rowM++List.zipWith (λa b=>sumO ty a.2 b.2) own es
 ok:∀p∈es,U64 p.2
variable {KS:KeyT P k κ} {ty:TypeId} {lent:List (κ×Nat)} {sm:Nat} {es:List (κ×Int)}
theorem Sums.mono(h:Sums KS ty lent Γ row sm es)(hs:Γ.le Δ):Sums KS ty lent Δ row sm es:=by
 obtain⟨own,rowM,h1,h2,h3⟩:=h.is
 exact⟨⟨own,rowM,h1,h2.mono hs,h3⟩,h.ok⟩
theorem Sums.new(h:MapO KS refV Γ row sm []):Sums KS ty [] Γ row sm []:=⟨⟨[],row,rfl,h,by simp⟩,by simp⟩
end
section
variable {P:Program} {N:FN} {Q:Exit→Env→World→Prop} {σ:Env} {o:Oper} {F:Fm} {Γ Δ:Gh} {L:List Rowb} {ops:Array Oper} {rest:List Oper} {C C':World→Prop} {row row':Rowb} {w:World}
end
section
variable {P:Program} {N:FN} {Q:Exit→Env→World→Prop} {σ:Env} {o:Oper} {F:Fm} {Γ Δ:Gh} {L:List Rowb} {ops:Array Oper} {rest:List Oper} {row row':Rowb} {w:World} {k e ty:TypeId} {κ α:Type} [DecidableEq κ] {K:KeyT P k κ} {V:Tv α} {KS:KeyT P k κ} {g sm:Nat}
theorem MapO.look2{es:List (κ×α)}(h:MapO K V Γ row g es)(x:κ)(z:Value):(∃v a,mget x es=some a∧V.rv Γ v a∧MAt K row g x z v true)∨(mget x es=none∧MAt K row g x z z false):=by
 obtain⟨es',hp,hm⟩:=h
 rw [← tP hp hm.nodup x]
 obtain⟨arr,clock,ps,h1,h2,h3⟩:=hm.is
 rcases pk (x:=x) 0 h3 with ⟨g1,g2⟩ | ⟨j,v,a,g1,g2,g3,q,g4,g5⟩
 ·exact .inr ⟨g2,arr,clock,ps,h1,h2,.inl ⟨g1,rfl,rfl⟩⟩
 ·exact .inl ⟨v,a,g2,g3,arr,clock,ps,h1,h2,.inr ⟨_,g1,rfl⟩⟩
theorem kn{t:TypeId}{mo xo:Operand}{x:κ}{z v:Value}{b:Bool}(hb:∀w,Cur F Γ L w→∀p∈row,w.heap[p.1]? = some p.2)(hat:MAt K row g x z v b)(ho:o.op = .lookup t mo xo false)(ht:P.underlying t=some (.map k e))(hz:∀w,(zeroValue e).run P w = .ok z w)
  (hm:ev σ mo = .map (some g)) (hx:ev σ xo=K.val x):QV P (CC F Γ L) σ o v:=
 λw hw=>by
  have:=k6 (ok:=false) ht hz hat (hb w hw)
  simp only [execOp,ho,hm,hx,E3,this,Ed,if_false,Result.andThen_ok,E4]
theorem vm{x:κ}:∀{l l':List (κ×α)},(∀p∈l,p.1≠x)→mget x (l++l')=mget x l'
 | [],_,_=>rfl
 | p::l,l',h=>by
  show (if x=p.1 then some p.2 else mget x (l++l'))=_
  rw [if_neg (λe=>h p DT e.symm)]
  exact vm (λq hq=>h q (DU _ hq))
theorem wI{f:Nat→Int→Nat×Obj}{x:κ}:∀{own:List (κ×Nat)} {es:List (κ×Int)},own.map (·.1)=es.map (·.1) →
  (∃gs hv,mget x own=some gs∧mget x es=some hv∧(x,hv)∈es∧f gs hv∈List.zipWith (λa b=>f a.2 b.2) own es)∨(mget x own=none∧mget x es=none)
 | [],[],_=>.inr ⟨rfl,rfl⟩
 | [],_::_,h=>by simp at h
 | _::_,[],h=>by simp at h
 | a::own,b::es,h=>by
  simp only [E0,List.cons.injEq] at h
  by_cases he:x=a.1
  ·have he2:x=b.1:=he.trans h.1
   refine .inl ⟨a.2,b.2,by simp [mget,he],by simp [mget,he2],?_,by simp⟩
   subst he2; exact DT
  ·have he2:x≠b.1:=λe=>he (e.trans h.1.symm)
   rcases wI (f:=f) (x:=x) h.2 with ⟨gs,hv,h1,h2,h3,h4⟩ | ⟨h1,h2⟩
   ·exact .inl ⟨gs,hv,by simp [mget,he,h1],by simp [mget,he2,h2],DU _ h3,by simp [h4]⟩
   ·exact .inr ⟨by simp [mget,he,h1],by simp [mget,he2,h2]⟩
theorem Sums.look{lent:List (κ×Nat)}{es:List (κ×Int)}(hs:Sums KS ty lent Γ row sm es){x:κ}(hx:∀p∈lent,p.1≠x)(z:Value):
  (∃hv gs rowM B,mget x es=some hv∧U64 hv∧row=rowM++B∧sumO ty gs hv∈row∧MAt KS rowM sm x z (.pointer (some ⟨gs,0,none⟩)) true) ∨
  (mget x es=none∧∃own rowM,own.map (·.1)=es.map (·.1)∧MapO KS refV Γ rowM sm (lent++own)∧mget x (lent++own)=none∧row=rowM++List.zipWith (λa b=>sumO ty a.2 b.2) own es∧MAt KS rowM sm x z z false):=by
 obtain⟨own,rowM,h1,h2,h3⟩:=hs.is
 have hm:=vm (l':=own) hx
 rcases wI (f:=sumO ty) (x:=x) h1 with ⟨gs,hv,h4,h5,h6,h7⟩ | ⟨h4,h5⟩
 ·rcases h2.look2 x z with ⟨v,a,h8,h9,h10⟩ | ⟨h8,h9⟩
  ·rw [hm,h4] at h8
   injection h8 with h8
   subst h8
   have h9':v = .pointer (some ⟨gs,0,none⟩):=h9
   subst h9'
   exact .inl ⟨hv,gs,rowM,_,h5,hs.ok _ h6,h3,by rw [h3]; exact List.mem_append_right _ h7,h10⟩
  ·rw [hm,h4] at h8; cases h8
 ·rcases h2.look2 x z with ⟨v,a,h8,h9,h10⟩ | ⟨h8,h9⟩
  ·rw [hm,h4] at h8; cases h8
  ·exact .inr ⟨h5,own,rowM,h1,h2,h8,h3,h9⟩
theorem Sums.back{lent:List (κ×Nat)}{es:List (κ×Int)}{x:κ}{gs:Nat}{hv:Int}(hs:Sums KS ty ((x,gs)::lent) Γ row sm es)(hv64:U64 hv):Sums KS ty lent Γ (row++[sumO ty gs hv]) sm (es++[(x,hv)]):=by
 obtain⟨own,rowM,h1,h2,h3⟩:=hs.is
 have hl:own.length=es.length:=by have:=congrArg List.length h1; simpa using this
 refine⟨⟨own++[(x,gs)],rowM,by simp [h1],h2.perm ?_,?_⟩,λp hp=>?_⟩
 ·show ((x,gs)::(lent++own)).Perm (lent++(own++[(x,gs)]))
  rw [← DV]
  exact(List.perm_append_comm (l₁:=[(x,gs)]) (l₂:=lent++own))
 ·rw [h3,List.zipWith_append hl]; simp
 ·rcases List.mem_append.1 hp with h | h
  ·exact hs.ok p h
  ·rw [List.mem_singleton.1 h]; exact hv64
theorem vD{cs:Array Value}{t:TypeId}{fz:Nat×Nat}{j:Nat}{v:Value}(hb:w.heap[g]? = some (.cells cs t fz)):w.setCell ⟨g,j,none⟩ v=w.setRow g (cs.setIfInBounds j v):=by
 unfold World.setCell World.setRow
 have hlt:g<w.heap.size:=dC hb
 have hv:w.heap[g] = .cells cs t fz:=(Array.getElem?_eq_some_iff.1 hb).2
 congr 1
 apply Array.ext
 ·simp
 ·intro q h1 h2
  simp only [Array.getElem_modify]
  split
  ·rename_i hq; subst hq; rw [hv]; rfl
  ·rfl
theorem Cur.setCell(h:Cur F Γ L w){i j:Nat}{cs new:Array Value}{t:TypeId}{v:Value}(hi:L[i]? = some [(g,.cells cs t (0,0))])(hn:cs.setIfInBounds j v=new):Cur F Γ (L.set i [(g,.cells new t (0,0))]) (w.setCell ⟨g,j,none⟩ v):=by
 subst hn
 rw [vD (h.at_ hi (p:=(g,.cells cs t (0,0))) (by simp))]
 exact h.setRow hi
theorem Cur.drew(h:Cur F Γ L w):Cur F Γ L w.drew:=h.drawn 1
end
end Fw
end Go.Proofs.YtgaplodcdhhefaaGreat
