/- Lists of structs of which each has a map of its own. No condition. -/
import Derived.Test.YtangaamigenjjaaGreatK39
namespace Go.Proofs.YtangaamigenjjaaGreat
namespace Fw
set_option linter.unusedVariables false
set_option linter.unusedSimpArgs false
set_option linter.unusedSectionVars false
open Go.RowKit Go.MapKept
structure EM (M D κ α:Type) where
 mkd:M→Nat→D
 mp:M→List (κ×α)
 up:M→List (κ×α)→M
 mk_up:∀x l g,mkd (up x l) g=mkd x g
 mp_up:∀x l,mp (up x l)=l
abbrev MGR(M:Type):=M×Nat×Rowb
section
variable {P:Program} {k:TypeId} {M D κ α:Type} [DecidableEq κ] [Inhabited M] [Inhabited D]
abbrev dsof(E:EM M D κ α)(ts:List (MGR M)):List D:=ts.map λt=>E.mkd t.1 t.2.1
abbrev rsof(ts:List (MGR M)):Rowb:=(ts.map λt=>t.2.2).flatten
structure LM (E:EM M D κ α) (T:Ty D) (K:KeyT P k κ) (V:Tv α) (Γ:Gh) (e:TypeId) (row:Rowb) (A:Option Addr) (c:Nat) (xs:List M):Prop where
 is:∃(ts:List (MGR M)) (rowL jk:Rowb),OwnV T Γ e rowL A c (dsof E ts)∧row=rowL++(rsof ts++jk)∧(∀t∈ts,MapO K V Γ t.2.2 t.2.1 (E.mp t.1))∧xs=ts.map (·.1)
variable {E:EM M D κ α} {T:Ty D} {K:KeyT P k κ} {V:Tv α} {Γ Δ:Gh} {e:TypeId} {row:Rowb} {A:Option Addr} {c:Nat} {xs:List M}
theorem LM.mono(h:LM E T K V Γ e row A c xs)(hs:Γ.le Δ):LM E T K V Δ e row A c xs:=by
 obtain⟨ts,rowL,jk,h1,h2,h3,h4⟩:=h.is
 exact⟨⟨ts,rowL,jk,h1.mono hs,h2,λt ht=>(h3 t ht).mono hs,h4⟩⟩
theorem LM.nil(E:EM M D κ α)(T:Ty D)(K:KeyT P k κ)(V:Tv α)(Γ:Gh)(e:TypeId):LM E T K V Γ e [] none 0 []:=⟨⟨[],[],[],OwnV.nil T Γ e,rfl,(λt ht=>by simp at ht),rfl⟩⟩
theorem LM.le(h:LM E T K V Γ e row A c xs):xs.length≤lim:=by
 obtain⟨ts,rowL,jk,h1,h2,h3,rfl⟩:=h.is
 simpa using h1.le
theorem LM.capz(h:LM E T K V Γ e row A c xs):xs.length≤c:=by
 obtain⟨ts,rowL,jk,h1,h2,h3,rfl⟩:=h.is
 simpa using h1.capz
theorem LM.some_(h:LM E T K V Γ e row A c xs){i:Nat}(hi:i<xs.length):A.isSome=true:=by
 obtain⟨ts,rowL,jk,h1,h2,h3,rfl⟩:=h.is
 exact h1.some_ (k:=i) (by simpa using hi)
theorem LM.part(h:LM E T K V Γ e row A c xs){i:Nat}(hi:i<xs.length):∃g rowL rA r rB cs,row=rA++(r++rB)∧T.rd Γ cs (E.mkd (gt xs i) g)∧tc rowL A (i*T.n) cs∧(∀p∈rowL,p∈rA)∧MapO K V Γ r g (E.mp (gt xs i)) ∧
  ∀Δ r' l,Γ.le Δ→MapO K V Δ r' g l→LM E T K V Δ e (rA++(r'++rB)) A c (xs.set i (E.up (gt xs i) l)):=by
 obtain⟨ts,rowL,jk,h1,h2,h3,rfl⟩:=h.is
 have hi2:i<ts.length:=by simpa using hi
 haveI:Inhabited (MGR M):=⟨(default,0,[])⟩
 have hx:gt (ts.map (·.1)) i=ts[i].1:=by rw [bT hi]; simp
 obtain⟨cs,h5,h6⟩:=h1.get (i:=i) (by simpa using hi2)
 have hd:gt (dsof E ts) i=E.mkd ts[i].1 ts[i].2.1:=by rw [bT (by simpa using hi2)]; simp [dsof]
 have hsp:ts=ts.take i++ts[i]::ts.drop (i+1):=by rw [List.getElem_cons_drop,List.take_append_drop]
 have hrs:rsof ts=rsof (ts.take i)++(ts[i].2.2++rsof (ts.drop (i+1))):=by
  have h9:=congrArg rsof hsp
  rw [h9]
  unfold rsof
  rw [CG,List.flatten_append,Cw,CL]
 rw [hx]
 rw [hd] at h5
 refine⟨ts[i].2.1,rowL,rowL++rsof (ts.take i),ts[i].2.2,rsof (ts.drop (i+1))++jk,cs,by rw [h2,hrs]; simp,h5,h6,λp hp=>List.mem_append.2 (.inl hp),h3 _ (List.getElem_mem hi2),λΔ r' l hs hm=>?_⟩
 have hset:ts.set i (E.up ts[i].1 l,ts[i].2.1,r')=ts.take i++(E.up ts[i].1 l,ts[i].2.1,r')::ts.drop (i+1):=List.set_eq_take_append_cons_drop.trans (by rw [if_pos hi2])
 refine⟨⟨ts.set i (E.up ts[i].1 l,ts[i].2.1,r'),rowL,jk,?_,?_,?_,?_⟩⟩
 ·have:dsof E (ts.set i (E.up ts[i].1 l,ts[i].2.1,r'))=dsof E ts:=by
   apply List.ext_getElem
   ·simp [dsof]
   ·intro j hj1 hj2
    simp only [dsof,CO,List.getElem_set]
    split
    ·rename_i hij; subst hij; exact E.mk_up _ _ _
    ·rfl
  rw [this]; exact h1.mono hs
 ·rw [hset]; unfold rsof; rw [CG,List.flatten_append,Cw,CL]; simp
 ·intro t ht
  rcases List.mem_or_eq_of_mem_set ht with ht | rfl
  ·exact(h3 t ht).mono hs
  ·show MapO K V Δ r' _ (E.mp (E.up _ l)); rw [E.mp_up]; exact hm
 ·apply List.ext_getElem
  ·simp
  ·intro j hj1 hj2
   simp only [CO,List.getElem_set]
   split <;> rfl
theorem wJ{a b:List (MGR M)}(h:a.Perm b):(rsof a).Perm (rsof b):=(h.map _).flatten
theorem LM.keep{ts us vs:List (MGR M)}{rowL jk:Rowb}(h2:OwnV T Γ e rowL A c (dsof E us))(hp:(us++vs).Perm ts)(h3:∀t∈ts,MapO K V Γ t.2.2 t.2.1 (E.mp t.1)):
  ∃row':Rowb,row'.Perm (rowL++(rsof ts++jk))∧LM E T K V Γ e row' A c (us.map (·.1)):=by
 refine⟨rowL++(rsof us++(rsof vs++jk)),?_,⟨us,rowL,rsof vs++jk,h2,rfl,λt ht=>h3 t (hp.mem_iff.1 (List.mem_append.2 (.inl ht))),rfl⟩⟩
 refine List.Perm.append_left _ ?_
 rw [← Cr]
 refine List.Perm.append_right _ ?_
 have:rsof us++rsof vs=rsof (us++vs):=by simp [rsof]
 rw [this]
 exact wJ hp
theorem LM.cut_from(h:LM E T K V Γ e row A c xs){lo:Nat}(h1:lo≤xs.length):∃row':Rowb,row'.Perm row∧LM E T K V Γ e row' (if c=lo then A else A.map (·.add (lo*T.n))) (c - lo) (xs.drop lo):=by
 obtain⟨ts,rowL,jk,h2,h3,h4,rfl⟩:=h.is
 have h7:=h2.cut_from (lo:=lo) (by simpa using h1)
 have h8:(dsof E ts).drop lo=dsof E (ts.drop lo):=by simp [dsof,List.map_drop]
 rw [h8] at h7
 obtain⟨row',h9,h10⟩:=LM.keep (jk:=jk) h7 (vs:=ts.take lo) (ts:=ts) (by
  have:=List.perm_append_comm (l₁:=ts.drop lo) (l₂:=ts.take lo)
  rwa [List.take_append_drop] at this) h4
 rw [h3]
 exact⟨row',h9,by rw [← List.map_drop]; exact h10⟩
end
section
variable {P:Program} {N:FN} {Q:Exit→Env→World→Prop} {σ:Env} {o:Oper} {F:Fm} {Γ:Gh} {L:List Rowb} {ops:Array Oper} {rest:List Oper} {k t e:TypeId} {M D κ α:Type} [DecidableEq κ] [Inhabited M] [Inhabited D]
 {E:EM M D κ α} {T:Ty D} {K:KeyT P k κ} {V:Tv α} {row r2:Rowb} {A:Option Addr} {c g:Nat} {xs:List M}
theorem Cur.reorder{w:World}{i:Nat}{row row':Rowb}(hw:Cur F Γ L w)(hi:L[i]? = some row)(hp:row'.Perm row):Cur F Γ (L.set i row') w:=by
 refine hw.set hi (Fr.refl _ w) (λp hp'=>hw.at_ hi (hp.mem_iff.1 hp')) (λp hp'=>.inl ⟨p,hp.mem_iff.1 hp',rfl⟩) ?_
 have h1:(row.map (·.1)).Nodup:=by
  have h2:=hw.nodup
  have h3:row.Sublist L.flatten:=List.sublist_flatten_of_mem (List.mem_of_getElem? hi)
  exact h2.sublist (h3.map _)
 exact(hp.map _).nodup_iff.2 h1
theorem WR.reorder{i:Nat}{row row':Rowb}(hi:L[i]? = some row)(hp:row'.Perm row)(k:WR P N ops (CC F Γ (L.set i row')) Q rest σ):WR P N ops (CC F Γ L) Q rest σ:=
 λw hw=>k w (Cur.reorder hw hi hp)
theorem yt{i j:Nat}(hL:L[i]? = some row)(hne:i≠j)(hj:L[j]? = some r2):L.Perm (row::r2::(L.eraseIdx (if i<j then j else i)).eraseIdx (if i<j then i else j)):=by
 have hil:i<L.length:=(List.getElem?_eq_some_iff.1 hL).1
 have hjl:j<L.length:=(List.getElem?_eq_some_iff.1 hj).1
 by_cases hlt:i<j
 ·simp only [hlt,if_true]
  have h5:=iY (d:=([]:Rowb)) hjl
  have hil2:i<(L.eraseIdx j).length:=by rw [List.length_eraseIdx]; simp [hjl]; omega
  have h6:=iY (d:=([]:Rowb)) hil2
  have e1:L.getD j []=r2:=by simp [List.getD,hj]
  have e2:(L.eraseIdx j).getD i []=row:=by simp [List.getD,List.getElem?_eraseIdx,hlt,hL]
  rw [e1] at h5; rw [e2] at h6
  exact(h5.symm.trans (h6.symm.cons _)).trans (List.Perm.swap _ _ _)
 ·have hlt2:j<i:=by omega
  simp only [hlt,if_false]
  have h5:=iY (d:=([]:Rowb)) hil
  have hjl2:j<(L.eraseIdx i).length:=by rw [List.length_eraseIdx]; simp [hil]; omega
  have h6:=iY (d:=([]:Rowb)) hjl2
  have e1:L.getD i []=row:=by simp [List.getD,hL]
  have e2:(L.eraseIdx i).getD j []=r2:=by simp [List.getD,List.getElem?_eraseIdx,hlt2,hj]
  rw [e1] at h5; rw [e2] at h6
  exact h5.symm.trans (h6.symm.cons _)
theorem rz{x y:Operand}{d i j:Nat}{m:M}{A2:Option Addr}{c2:Nat}(hE:fS P t e T)(hg:o.guard=none)(hdst:o.dst=some d)(hd:ci N (some d)=true)
  (ho:o.op = .call { callee:=.builtin .append,args:=#[x,y],argTypes:=#[t,t] })
  (hx:ev σ x = .slice A xs.length c) (hy:ev σ y = .slice A2 1 c2) (hL:L[i]? = some row) (hne:i≠j) (hj:L[j]? = some r2) (hlm:LM E T K V Γ e row A c xs) (hm:MapO K V Γ r2 g (E.mp m)) (hlen:xs.length+1≤lim)
  (hsrc:∀w,Cur F Γ L w→(A2=none∧[E.mkd m g] = [])∨∃a2,A2=some a2∧∃css:List (List Value),css.length = [E.mkd m g].length∧(∀k (h1:k<css.length),T.rd Γ css[k] (gt [E.mkd m g] k))∧∀j u,css.flatten[j]? = some u→w.cell? (a2.add j)=some u)
  (k':∀row' A' c',LM E T K V Γ e row' A' c' (xs++[m])→WR P N ops (CC F Γ (row'::(L.eraseIdx (if i<j then j else i)).eraseIdx (if i<j then i else j))) Q rest (upd σ d (.slice A' (xs++[m]).length c'))):WR P N ops (CC F Γ L) Q (o::rest) σ:=by
 obtain⟨ts,rowL,jk,h1,h2,h3,rfl⟩:=hlm.is
 have hP:=yt hL hne hj
 generalize (L.eraseIdx (if i<j then j else i)).eraseIdx (if i<j then i else j)=R at *
 have hl0:(dsof E ts).length=(ts.map (·.1)).length:=by simp [dsof]
 have h0:WR P N ops (CC F Γ ([rowL,rsof ts++jk,r2]++R)) Q (o::rest) σ:=by
  refine vb (i:=0) (xs:=dsof E ts) (ys:=[E.mkd m g]) (row:=rowL) hE hg hdst hd ho (by rw [hl0]; exact hx) hy rfl h1 (by rw [hl0]; exact hlen) (λw hw=>?_) λrow1 A1 c1 h4=>?_
  ·refine hsrc w ?_
   have h7:Cur F Γ ([rowL,rsof ts++jk]++(r2::R)) w:=hw
   have h8:=Cur.glue h7
   rw [show ([rowL,rsof ts++jk]:List Rowb).flatten=row by rw [h2]; simp] at h8
   exact h8.permL hP
  ·have h5:dsof E ts++[E.mkd m g]=dsof E (ts++[(m,g,r2)]):=by simp [dsof]
   have hl:(dsof E ts++[E.mkd m g]).length=(ts.map (·.1)++[m]).length:=by simp [dsof]
   rw [hl]
   rw [h5] at h4
   have h7:=k' (row1++(rsof (ts++[(m,g,r2)])++jk)) A1 c1 ⟨⟨ts++[(m,g,r2)],row1,jk,h4,rfl,λt ht=>by
    rcases List.mem_append.1 ht with ht | ht
    ·exact h3 t ht
    ·rw [List.mem_singleton.1 ht]; exact hm,by simp⟩⟩
   intro w hw
   refine h7 w ?_
   have h8:Cur F Γ ([row1,rsof ts++jk,r2]++R) w:=hw
   have h9:Cur F Γ ([row1,rsof ts++jk,r2].flatten::R) w:=Cur.glue h8
   have h10:(row1++(rsof (ts++[(m,g,r2)])++jk)).Perm ([row1,rsof ts++jk,r2]:List Rowb).flatten:=by
    simp only [rsof,CG,List.flatten_append,Cw,List.map_nil,CL,List.flatten_nil,CI]
    refine List.Perm.append_left _ ?_
    rw [Cr,Cr]
    exact List.Perm.append_left _ List.perm_append_comm
   exact Cur.reorder h9 (i:=0) rfl h10
 intro w hw
 have h10:Cur F Γ (row::r2::R) w:=hw.permL hP.symm
 have h11:Cur F Γ ([rowL,rsof ts++jk].flatten::r2::R) w:=by
  rw [show ([rowL,rsof ts++jk]:List Rowb).flatten=row by rw [h2]; simp]; exact h10
 exact h0 w (by have:=Cur.unglue (U:=[rowL,rsof ts++jk]) h11; exact this)
end
theorem yY{κ α:Type}[DecidableEq κ]{c:α}{step:List (κ×α)→(κ×α)→Option (List (κ×α))}(hstep:∀m e,step m e=some (mput e.1 c m)):Inv eqm step:=by
 have one:∀(l:List (κ×α)) (s s' f:List (κ×α)),eqm s s'→fldO step s l=some f→∃f',fldO step s' l=some f'∧eqm f f':=by
  intro l
  induction l with
  | nil=>intro s s' f he hf; simp only [fldO,CJ] at hf; subst hf; exact⟨s',rfl,he⟩
  | cons e l ih=>
   intro s s' f he hf
   simp only [fldO,hstep,Cy] at hf ⊢
   exact ih _ _ f ⟨l3 he.1 he.2 _ _,cQ he.2⟩ hf
 intro l l' s s' hp hn he f hf
 induction hp generalizing s s' f with
 | nil=>exact one [] s s' f he hf
 | cons x _ ih=>
  simp only [fldO,hstep,Cy] at hf ⊢
  rw [Cw,List.nodup_cons] at hn
  exact ih _ _ hn.2 ⟨l3 he.1 he.2 _ _,cQ he.2⟩ f hf
 | swap x y l=>
  simp only [fldO,hstep,Cy] at hf ⊢
  have hxy:y.1≠x.1:=by
   simp only [Cw,List.nodup_cons,Ct,not_or] at hn
   exact hn.1.1
  refine one l _ _ f ⟨?_,cQ (cQ he.2)⟩ hf
  exact(wX he.2 hxy _ _).trans (l3 (l3 he.1 he.2 _ _) (cQ he.2) _ _)
 | trans hp1 hp2 ih1 ih2=>
  obtain⟨f',h1,h2⟩:=ih1 s s' hn he f hf
  have he':eqm s' s':=⟨List.Perm.refl _,(he.1.map _).nodup_iff.1 he.2⟩
  obtain⟨f2,h3,h4⟩:=ih2 s' s' ((hp1.map _).nodup_iff.1 hn) he' f' h1
  exact⟨f2,h3,vV.trans h2 h4⟩
end Fw
end Go.Proofs.YtangaamigenjjaaGreat
