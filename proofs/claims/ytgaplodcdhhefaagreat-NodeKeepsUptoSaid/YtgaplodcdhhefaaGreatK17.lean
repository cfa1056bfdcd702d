/- Loops over a map's entries, in whatever order: folds of steps that commute. No condition. -/
import Derived.Test.YtgaplodcdhhefaaGreatK14
import Derived.Maps.RangeRun
import Derived.Laws.IdiomRangeMap
namespace Go.Proofs.YtgaplodcdhhefaaGreat
namespace Fw
set_option linter.unusedVariables false
set_option linter.unusedSimpArgs false
set_option linter.unusedSectionVars false
open Go.RowKit Go.MapKept
def fldO{S β:Type}(step:S→β→Option S):S→List β→Option S
 | s,[]=>some s
 | s,e::l=>(step s e).bind λs'=>fldO step s' l
def Comm{S β:Type}(step:S→β→Option S):Prop := ∀s a b,((step s a).bind λs'=>step s' b)=(step s b).bind λs'=>step s' a
theorem xV{S β:Type}{step:S→β→Option S}(hc:Comm step){l l':List β}(h:l.Perm l'):∀s,fldO step s l=fldO step s l':=by
 induction h with
 | nil=>intro s; rfl
 | cons x _ ih=>intro s; simp only [fldO]; exact congrArg _ (funext ih)
 | swap x y l=>
  intro s
  have:=hc s x y
  simp only [fldO]
  rw [← Option.bind_assoc, ← Option.bind_assoc,this]
 | trans _ _ h1 h2=>intro s; exact(h1 s).trans (h2 s)
theorem Comm.of_tot{S β:Type}{step:S→β→Option S}(f:S→β→S)(hf:∀s e,step s e=some (f s e))(h:∀s a b,f (f s a) b=f (f s b) a):Comm step:=by
 intro s a b; simp only [hf,E2,h]
theorem zT(n a b:Int):w64 (w64 (n+a)+b)=w64 (w64 (n+b)+a):=by unfold w64; omega
section
variable {κ α:Type} [DecidableEq κ] {P:Program} {k:TypeId}
structure ItO (K:KeyT P k κ) (V:Tv α) (Γ:Gh) (row:Rowb) (g mg:Nat) (mrow:Rowb) (es l:List (κ×α)):Prop where
 is:∃arr clock ps seen es',row = [(g,.mapIter (some mg) clock seen clock)]∧mrow = [(mg,.map arr clock)]∧arr.toList.map (λe=>(e.key,e.val))=ps.map (λp=>(K.val p.1,p.2))∧mrd V Γ ps es'∧es'.Perm es∧Stamped arr clock ∧
  l.Perm (((arr.toList.zip es').filter (λp=>!seen.contains p.1.born)).map (·.2))
theorem ItO.mono{K:KeyT P k κ}{V:Tv α}{Γ Δ:Gh}{row mrow:Rowb}{g mg:Nat}{es l:List (κ×α)}(h:ItO K V Γ row g mg mrow es l)(hs:Γ.le Δ):ItO K V Δ row g mg mrow es l:=by
 obtain⟨arr,clock,ps,seen,es',h1,h2,h3,h4,h7,h5,h6⟩:=h.is
 exact⟨⟨arr,clock,ps,seen,es',h1,h2,h3,rU hs h4,h7,h5,h6⟩⟩
def ItE(row:Rowb)(g mg:Nat)(mrow:Rowb)(kv v:Value):Prop:=
 ∃arr clock seen en,row = [(g,.mapIter (some mg) clock (Array.push seen en.born) clock)]∧mrow = [(mg,.map arr clock)]∧en∈arr.toList∧(arr.toList.map (·.born)).Nodup∧en.key=kv∧en.val=v
end
theorem sZ{β:Type}{seen:Array Nat}{x:MapEntry×β}:∀{Z:List (MapEntry×β)},(Z.map (·.1.born)).Nodup→x∈Z→seen.contains x.1.born=false →
  (Z.filter (λp=>!seen.contains p.1.born)).Perm (x::Z.filter (λp=>!(seen.push x.1.born).contains p.1.born))
 | [],_,hx,_=>by cases hx
 | y::Z,hn,hx,hp=>by
  rw [E0,List.nodup_cons] at hn
  rcases List.mem_cons.1 hx with e | hx
  ·subst e
   have h1:(seen.push x.1.born).contains x.1.born=true:=by rw [contains_push,beq_self_eq_true,Bool.or_true]
   rw [List.filter_cons_of_pos (by simpa using hp),List.filter_cons_of_neg (by rw [h1]; decide)]
   refine List.Perm.cons _ (List.Perm.of_eq (List.filter_congr λz hz=>?_))
   have:(z.1.born==x.1.born)=false:=by
    rw [beq_eq_false_iff_ne]
    intro e; exact hn.1 (by rw [← e]; exact List.mem_map.2 ⟨z,hz,rfl⟩)
   rw [contains_push,this,Bool.or_false]
  ·have hne:(y.1.born==x.1.born)=false:=by
    rw [beq_eq_false_iff_ne]
    intro e; exact hn.1 (by rw [e]; exact List.mem_map.2 ⟨x,hx,rfl⟩)
   have ih:=sZ hn.2 hx hp
   by_cases hy:seen.contains y.1.born=true
   ·rw [List.filter_cons_of_neg (by simp only [hy]; decide),List.filter_cons_of_neg (by rw [contains_push,hy,Bool.true_or]; decide)]
    exact ih
   ·rw [Bool.not_eq_true] at hy
    rw [List.filter_cons_of_pos (by simp only [hy]; decide),List.filter_cons_of_pos (by rw [contains_push,hy,hne]; decide)]
    exact(ih.cons y).trans (List.Perm.swap _ _ _)
theorem rE{w:World}{g:Nat}(o':Obj){o:Obj}(hb:w.heap[g]? = some o):Fr (λk=>g=k) w (ChangeMaps.setBlock w g o')∧(ChangeMaps.setBlock w g o').heap[g]? = some o':=
 ⟨⟨rfl,rfl,rfl,λ_=>E6 _,by simp [ChangeMaps.setBlock],λk hk hne=>by
  show (w.heap.setIfInBounds g o')[k]? = _
  rw [Array.getElem?_setIfInBounds,if_neg hne]⟩,by
  show (w.heap.setIfInBounds g o')[g]? = _
  rw [Array.getElem?_setIfInBounds,if_pos rfl,if_pos (dC hb)]⟩
theorem xg{κ α:Type}{V:Tv α}{Γ:Gh}:∀{ps:List (κ×Value)} {es:List (κ×α)} (j:Nat) {p:κ×Value},mrd V Γ ps es→ps[j]? = some p→∃e,es[j]? = some e∧p.1=e.1∧V.rv Γ p.2 e.2
 | [],[],_,_,_,h=>by simp at h
 | [],_::_,_,_,h,_=>h.elim
 | _::_,[],_,_,h,_=>h.elim
 | p::ps,e::es,0,q,h,hq=>⟨e,rfl,by simp only [List.getElem?_cons_zero,Ec] at hq; rw [← hq]; exact h.1,by simp only [List.getElem?_cons_zero,Ec] at hq; rw [← hq]; exact h.2.1⟩
 | p::ps,e::es,j+1,q,h,hq=>xg j h.2.2 (by simpa using hq)
section
variable {P:Program} {N:FN} {F:Fm} {Γ:Gh} {L:List Rowb} {σ:Env} {o:Oper} {Q:Exit→Env→World→Prop} {rest:List Oper} {ops:Array Oper} {κ α:Type} [DecidableEq κ] {k t e:TypeId} {K:KeyT P k κ} {V:Tv α} {row mrow:Rowb} {g mg:Nat} {es l:List (κ×α)}
theorem AX{x:Operand}(hm:MapO K V Γ mrow mg es)(hb:∀w,Cur F Γ L w→∀p∈mrow,w.heap[p.1]? = some p.2)(hg:o.guard=none)(hd:bR N o.dst=true)(ho:o.op = .range t x)(ht:P.underlying t=some (.map k e))(hx:ev σ x = .map (some mg))
  (k':∀g row,ItO K V Γ row g mg mrow es es→WR P N ops (CC F Γ (row::L)) Q rest (updo σ o.dst (.pointer (some ⟨g,0,none⟩)))):WR P N ops (CC F Γ L) Q (o::rest) σ:=by
 refine WR.eff hg hd λw hw=>?_
 obtain⟨es',hpm,hm⟩:=hm
 obtain⟨arr,clock,ps,hr,h2,h3⟩:=hm.is
 have hst:Stamped arr clock:=by
  obtain⟨arr',clock',h4,h5⟩:=hm.st
  rw [hr] at h4
  simp only [List.cons.injEq,Prod.mk.injEq,Obj.map.injEq,and_true,true_and] at h4
  rw [h4.1,h4.2]; exact h5
 have hbm:=hb w hw (mg,.map arr clock) (by rw [hr]; exact DT)
 refine⟨.pointer (some ⟨w.heap.size,0,none⟩),w.alloc (.mapIter (some mg) clock #[] clock),.inl ?_,k' w.heap.size _ ⟨⟨arr,clock,ps, #[],es',rfl,hr,h2,h3,hpm,hst,?_⟩⟩ _ (hw.new _)⟩
 ·simp only [execOp,ho,hx,E3,run_range_map w t k e mg arr clock ht hbm,Result.andThen_ok,E4]
 ·have hlen:arr.toList.length=es'.length:=by
   have:=congrArg List.length h2
   simp only [E8] at this
   rw [this,pD h3]
  have:(arr.toList.zip es').filter (λp=>!(#[]:Array Nat).contains p.1.born)=arr.toList.zip es':=List.filter_eq_self.2 λp _=>by simp
  rw [this,List.map_snd_zip (by omega)]; exact hpm.symm
theorem C9{x:Operand}{i:Nat}(hi:L[i]? = some row)(hks:∀p∈es,K.ok p.1)(hit:ItO K V Γ row g mg mrow es l)(hb:∀w,Cur F Γ L w→∀p∈mrow,w.heap[p.1]? = some p.2)(hg:o.guard=none)(hd:bR N o.dst=true)(ho:o.op = .next x false)(hx:ev σ x = .pointer (some ⟨g,0,none⟩))
  (k0:l = []→WR P N ops (CC F Γ L) Q rest (updo σ o.dst (.tuple #[.bool false])))
  (k1:∀en l' v row',l.Perm (en::l')→K.ok en.1→V.rv Γ v en.2→ItO K V Γ row' g mg mrow es l'→ItE row' g mg mrow (K.val en.1) v→WR P N ops (CC F Γ (L.set i row')) Q rest (updo σ o.dst (.tuple #[.bool true,K.val en.1,v]))):WR P N ops (CC F Γ L) Q (o::rest) σ:=by
 refine WR.eff hg hd λw hw=>?_
 obtain⟨arr,clock,ps,seen,es',rfl,hr,h2,h3,hpm,hst,hl⟩:=hit.is
 have hst':=(stamped_iff arr clock).1 hst
 have hbm:=hb w hw (mg,.map arr clock) (by rw [hr]; exact DT)
 have hbr:=hw.at_ hi (p:=(g,.mapIter (some mg) clock seen clock)) (by simp)
 have hlen:arr.toList.length=es'.length:=by
  have:=congrArg List.length h2
  simp only [E8] at this
  rw [this,pD h3]
 rcases run_next_at (P:=P) w o.type g mg clock clock seen arr clock hbr hbm hst'.1 (E6 _) with ⟨h0,hrun⟩ | ⟨en,hen,w1,hw1,hrun⟩
 ·refine⟨.tuple #[.bool false],w,.inl ?_,k0 ?_ w hw⟩
  ·simp only [execOp,ho,hx,E3,hrun,Result.andThen_ok,E4]
  ·have:(arr.toList.zip es').filter (λp=>!seen.contains p.1.born) = []:=by
    rw [List.filter_eq_nil_iff]
    intro p hp hc
    have h4:p.1∈leftOf arr seen:=by
     unfold leftOf
     rw [Array.mem_filter]
     exact⟨Array.mem_toList_iff.1 (List.of_mem_zip hp).1,hc⟩
    rw [Array.size_eq_zero_iff.1 h0] at h4
    simp at h4
   rw [this,List.map_nil] at hl
   exact hl.eq_nil
 ·have hmem:=mem_left hen
  obtain⟨j,hj,hje⟩:=List.getElem_of_mem hmem.1
  have hjs:j<ps.length:=by
   have:=congrArg List.length h2
   simp only [E8] at this
   omega
  have hp2:(en.key,en.val)=(K.val ps[j].1,ps[j].2):=by
   have h4:=congrArg (λl=>l[j]?) h2
   simp only [List.getElem?_map,List.getElem?_eq_getElem hj,List.getElem?_eq_getElem hjs,Eh,Ec] at h4
   rw [hje] at h4; exact h4
  obtain⟨e1,he1,hk1,hv1⟩:=xg j h3 (List.getElem?_eq_getElem hjs)
  obtain⟨hjl,hee⟩:=List.getElem?_eq_some_iff.1 he1
  simp only [Prod.mk.injEq] at hp2
  have hz:(en,e1)∈arr.toList.zip es':=by
   rw [List.mem_iff_getElem]
   exact⟨j,by rw [List.length_zip]; omega,by rw [List.getElem_zip,hje,hee]⟩
  have hnd:((arr.toList.zip es').map (·.1.born)).Nodup:=by
   have h5:(arr.toList.zip es').map (λp=>p.1.born)=arr.toList.map (·.born):=by
    rw [show (λp:MapEntry×(κ×α)=>p.1.born)=((·.born)∘Prod.fst) from rfl, ← Eg,List.map_fst_zip (by omega)]
   rw [h5]; exact hst'.2.1
  have hperm:=sZ hnd hz hmem.2
  refine⟨.tuple #[.bool true,en.key,en.val],ChangeMaps.setBlock w1 g (.mapIter (some mg) clock (seen.push en.born) clock),.inl ?_,?_⟩
  ·simp only [execOp,ho,hx,E3,hrun,Result.andThen_ok,E4]
  ·have hcur:Cur F Γ L w1:=by
    rcases hw1 with rfl | rfl
    ·exact hw
    ·exact hw.drawn 1
   have hbr1:=hcur.at_ hi (p:=(g,.mapIter (some mg) clock seen clock)) (by simp)
   have hcur2:Cur F Γ (L.set i [(g,.mapIter (some mg) clock (seen.push en.born) clock)]) (ChangeMaps.setBlock w1 g (.mapIter (some mg) clock (seen.push en.born) clock)):=
    hcur.set hi ((rE _ hbr1).1.mono λk hk=>⟨(g,.mapIter (some mg) clock seen clock),by simp,hk⟩) (λp hp=>by rw [List.mem_singleton.1 hp]; exact(rE _ hbr1).2)
     (λp hp=>.inl ⟨(g,.mapIter (some mg) clock seen clock),by simp,by rw [List.mem_singleton.1 hp]⟩) (by simp)
   rw [hp2.1,hp2.2,hk1]
   refine k1 e1 ((((arr.toList.zip es').filter (λp=>!(seen.push en.born).contains p.1.born)).map (·.2))) ps[j].2 _ ?_ (hks e1 (hpm.mem_iff.1 (by rw [← hee]; exact List.getElem_mem hjl))) hv1 ⟨⟨arr,clock,ps,_,es',rfl,hr,h2,h3,hpm,hst,List.Perm.refl _⟩⟩ ⟨arr,clock,seen,en,rfl,hr,hmem.1,hst'.2.1,by rw [hp2.1,hk1],hp2.2⟩ _ hcur2
   exact hl.trans (hperm.map (·.2))
theorem Bg{x:Operand}{i:Nat}{kv v:Value}(hi:L[i]? = some row)(hit:ItE row g mg mrow kv v)(hb:∀w,Cur F Γ L w→∀p∈mrow,w.heap[p.1]? = some p.2)(ho:o.op = .entry x)(hx:ev σ x = .pointer (some ⟨g,0,none⟩)):QV P (CC F Γ L) σ o (.tuple #[kv,v]):=by
 intro w hw
 obtain⟨arr,clock,seen,en,rfl,hr,h1,h2,rfl,rfl⟩:=hit
 have hbm:=hb w hw (mg,.map arr clock) (by rw [hr]; exact DT)
 have hbr:=hw.at_ hi (p:=(g,.mapIter (some mg) clock (seen.push en.born) clock)) (by simp)
 simp only [execOp,ho,hx,E3,run_entry_at (P:=P) w g mg clock seen arr clock en hbr hbm h1 h2,Result.andThen_ok,E4]
end
section
variable {P:Program} {N:FN} {F:Fm} {Γ:Gh} {L:List Rowb} {σ:Env} {o:Oper} {Q:Exit→Env→World→Prop} {rest:List Oper} {ops:Array Oper} {k t e:TypeId}
end
section
variable {P:Program} {N:FN} {C:World→Prop} {σ:Env} {Q:Exit→Env→World→Prop} {S R β:Type}
def Go(step:S→β→Option S)(K:S→Option R)(r:R)(l:List β)(s:S):Prop := ∃f,fldO step s l=some f∧K f=some r
def lpE(I:List β→S→Env→World→Prop)(G:List β→S→Prop)(n:Nat)(Q:Exit→Env→World→Prop):Exit→Env→World→Prop
 | .normal,σ,w => ∃l s,l.length<n∧G l s∧I l s σ w
 | e,σ,w=>Q e σ w
theorem WC.forE{body:Code}{step:S→β→Option S}{K:S→Option R}{es:List β}{s0:S}{r:R}(h:Option.bind (fldO step s0 es) K=some r)(hc:Comm step)(I:List β→S→Env→World→Prop)(h0:∀w,C w→I es s0 σ w)
  (round:∀(G:List β→S→Prop) l s σ w,(∀e l',l.Perm (e::l')→l'.length<l.length∧∃s',step s e=some s'∧G l' s')→(l = []→K s=some r)→I l s σ w→Wpt P N body (lpE I G l.length Q) σ w):WC P N C (.loop body) Q σ:=by
 obtain⟨f,hf,hK⟩:=Option.bind_eq_some_iff.1 h
 refine WC.loop (λm σ w => ∃l s,m=l.length∧Go step K r l s∧I l s σ w) (λw hw=>⟨_,es,s0,rfl,⟨f,hf,hK⟩,h0 w hw⟩) ?_
 rintro m σ w ⟨l,s,rfl,⟨f,hf,hK⟩,hI⟩ a ha
 refine wp_mono (round (Go step K r) l s σ w (λe l' hp=>⟨by rw [hp.length_eq]; simp,?_⟩) (λhl=>?_) hI a ha) ?_
 ·rw [xV hc hp] at hf
  simp only [fldO] at hf
  obtain⟨s',h1,h2⟩:=Option.bind_eq_some_iff.1 hf
  exact⟨s',h1,f,h2,hK⟩
 ·subst hl; simp only [fldO,Ec] at hf; rw [hf]; exact hK
 rintro e a' w' ⟨σ',ha',hq⟩
 refine⟨σ',ha',?_⟩
 cases e with
 | normal=>
  obtain⟨l',s',h1,h2,h3⟩:=hq
  exact⟨l'.length,h1,l',s',rfl,h2,h3⟩
 | _=>exact hq
structure Per (eqv:S→S→Prop):Prop where
 sym:∀{a b},eqv a b→eqv b a
 trans:∀{a b c},eqv a b→eqv b c→eqv a c
end
end Fw
end Go.Proofs.YtgaplodcdhhefaaGreat
