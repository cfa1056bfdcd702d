/- The plain side: what the models come to. No condition. -/
import Derived.Test.YtiakfgdgafljnaaGreatPJ1
import Derived.Test.YtiakfgdgafljnaaGreatM
namespace Go.Proofs.YtiakfgdgafljnaaGreat
namespace Fw
set_option linter.unusedVariables false
set_option linter.unusedSimpArgs false
set_option linter.unusedSectionVars false
theorem cmp_go{B:(Unit→Option Bool)→Nat→Int→Unit→Option Bool}{b:List Int}(hB:∀f i x,i<b.length→B f i x ()=bif x != gt b i then some false else f ()):∀(l:List Int) (i:Nat),i+l.length=b.length→forI B (λ_=>some true) i l ()=some (decide (l=b.drop i))
  | [],i,h=>by
    rw [List.drop_of_length_le (by simpa using Nat.le_of_eq h.symm)]; rfl
  | x::l,i,h=>by
    have hi:i<b.length:=by simp at h; omega
    show B (forI B (λ_=>some true) (i+1) l) i x ()=_
    rw [hB _ _ _ hi,cmp_go hB l (i+1) (by simp at h; omega),drop_gt hi]
    by_cases hx:x=gt b i
    · rw [show (x != gt b i)=false by simpa using hx,cond_false]
      congr 1; rw [Bool.eq_iff_iff]; simp [hx]
    · rw [show (x != gt b i)=true by simpa using hx,cond_true]
      congr 1; symm; exact decide_eq_false (by simp [hx])
theorem e_EqualI(a b:List Int):m_slices_Equal_int_int a b=some (decide (a=b)):=by
  unfold m_slices_Equal_int_int
  by_cases hl:a.length=b.length
  · rw [nat_f hl,cond_false,cmp_go (b:=b) (λf i x hi=>by unfold m_slices_Equal_int_int_b1; rw [chk_t (decide_eq_true hi)]) a 0 (by omega),List.drop_zero]
  · rw [nat_t hl,cond_true]
    congr 1; symm; exact decide_eq_false (λe=>hl (by rw [e]))
theorem e_Ints2(a b:List Int):m_firthref06_Ints a b=some (decide (a=b)):=by
  unfold m_firthref06_Ints
  by_cases hl:a.length=b.length
  · rw [nat_f hl,cond_false,cmp_go (b:=b) (λf i x hi=>by unfold m_firthref06_Ints_b1; rw [chk_t (decide_eq_true hi)]) a 0 (by omega),List.drop_zero]
  · rw [nat_t hl,cond_true]
    congr 1; symm; exact decide_eq_false (λe=>hl (by rw [e]))
theorem e_Same4(a b:List Int):m_firthref04_Same a b=some (decide (a=b)):=by
  unfold m_firthref04_Same
  by_cases hl:a.length=b.length
  · rw [nat_f hl,cond_false,cmp_go (b:=b) (λf i x hi=>by unfold m_firthref04_Same_b1; rw [chk_t (decide_eq_true hi)]) a 0 (by omega),List.drop_zero]
  · rw [nat_t hl,cond_true]
    congr 1; symm; exact decide_eq_false (λe=>hl (by rw [e]))
/-- is a record beneath a way? -/
def ben(x:Wy)(r:Rec):Bool:=rr r&&decide ([((pa r.key:Nat):Int),((pb r.key:Nat):Int)]=x.path)
def odd(x:Wy)(l:List Rec):Bool:=match x with
  | .one _=>false
  | .two _ _=>l.any (λr=>!ben x r)
theorem e_beneath(x:Wy){r:Rec}(h:RecOk r):m_pull_way_beneath x.way r=some (ben x r):=by
  unfold m_pull_way_beneath ben
  rw [e_cRec h,Option.bind_some]
  cases rr r with
  | false=>rfl
  | true=>rw [cond_true,e_Place,Option.bind_some,e_wpath,Option.bind_some,e_EqualI,gcall_s,Option.bind_some,cond_true,Bool.true_and]
theorem e_strange(d e:Nat){l:List Rec}(h:∀r∈l,RecOk r):m_slices_ContainsFunc_api_Rec_api_Rec l ((d:Nat):Int) ((e:Nat):Int)=some (l.any (λr=>!ben (.two d e) r)):=by
  unfold m_slices_ContainsFunc_api_Rec_api_Rec m_slices_IndexFunc_api_Rec_api_Rec
  obtain⟨r,h1,h2⟩:=forI_find (B:=m_slices_IndexFunc_api_Rec_api_Rec_b1 ((d:Nat):Int) ((e:Nat):Int)) (p:=λr=>!ben (.two d e) r) l 0 (λf i x hx=>by
    unfold m_slices_IndexFunc_api_Rec_api_Rec_b1 m_pull_Pull_Tell_2
    have:m_pull_way_beneath (⟨((d:Nat):Int),((e:Nat):Int)⟩:Dpull_way) x=some (ben (.two d e) x):=e_beneath (.two d e) (h x hx)
    rw [this,Option.bind_some,Option.bind_some])
  rw [h1,Option.bind_some,h2]
/-- a pull that has these records, wants these ways, holds these -/
structure PS (p:Opull_Pull) (own S:List Rec) (W:List Wy):Prop where
  ol:own.length≤4194304
  wants:p.wants=W.map Wy.way
  own:Good p.own own
  st:Good p.staged S
def laidS(x:Wy)(l S:List Rec):List Rec:=match x with
  | .one _=>S
  | .two _ _=>l.foldl withr S
theorem tell_eq(p:Opull_Pull)(path hashes:List Int)(list:List Rec):m_pull_Pull_Tell p path hashes list =
    (Option.bind (gcall (!(decide (2<((path.length:Nat):Int)))) (m_slices_ContainsFunc_int_int_s1 path)) λz4=>(bif ((decide (2<((path.length:Nat):Int)))||z4) then
      (some (p,false))
      else
      (Option.bind (m_slices_Index_pull_way_pull_way p.wants (wayOf path)) λz12=>(bif (decide (z12<0)) then
      (some (p,false))
      else
      (bif (decide ((wayOf path).a1<0)) then
      (chk (i64b z12) (Option.bind (m_slices_Delete_pull_way_pull_way p.wants z12 (w64 (z12+1))) λz18=>(Option.bind (m_tree_Tree_Kids m_tree_Tree_Hash p.own [(wayOf path).a0]) λz36=>(Option.bind (m_tree_Differ z36.2 hashes) λz54=>(forI (m_pull_Pull_Tell_b1 path) (λo65=>
      (some (o65,true))) 0 z54 (⟨p.id,z36.1,p.begun,p.vec,z18,p.staged⟩:Opull_Pull))))))
      else
      (Option.bind (m_slices_ContainsFunc_api_Rec_api_Rec list (wayOf path).a0 (wayOf path).a1) λz87=>(bif z87 then
      (some (p,false))
      else
      (chk (i64b z12) (Option.bind (m_slices_Delete_pull_way_pull_way p.wants z12 (w64 (z12+1))) λz96=>(forI (m_pull_Pull_Tell_b2) (λo109=>
      (some (o109,true))) 0 list (⟨p.id,p.own,p.begun,p.vec,z96,p.staged⟩:Opull_Pull))))))))))):=rfl
theorem tell_no{p:Opull_Pull}{own S:List Rec}{W:List Wy}(h:PS p own S W)(path hashes:List Int)(list:List Rec)(hno:∀x∈W,x.path≠path):m_pull_Pull_Tell p path hashes list=some (p,false):=by
  rw [tell_eq]
  by_cases hl:path.length≤2
  · rw [decide_eq_false (show ¬ (2:Int)<((path.length:Nat):Int) by omega),Bool.not_false,e_neg,gcall_s,Option.bind_some,cond_true,Bool.false_or]
    cases hc:path.any (λd=>decide (d<0)) with
    | true=>rfl
    | false=>
      have hn:∀d∈path,0≤d:=λd hd=>by
        have:=List.any_eq_false.1 hc d hd
        simpa using this
      rw [cond_false,h.wants,e_Index_no (λx hx e=>hno x hx (wayOf_eq hn hl e.symm).symm)]
      rfl
  · rw [decide_eq_true (show (2:Int)<((path.length:Nat):Int) by omega)]
    rfl
theorem i64_nat{n:Nat}(h:n≤1000):i64b ((n:Nat):Int)=true:=by unfold i64b; simp; omega
theorem tell_begin{p:Opull_Pull}{own S:List Rec}{W:List Wy}(h:PS p own S W)(hW:WI W){x:Wy}(hx:x∈W)(hashes:List Int)(list:List Rec):
    ∃j,j<W.length∧gt W j=x∧m_pull_Pull_Tell p x.path hashes list=(bif (decide (x.way.a1<0)) then
      (chk (i64b ((j:Nat):Int)) (Option.bind (m_slices_Delete_pull_way_pull_way (W.map Wy.way) ((j:Nat):Int) (w64 (((j:Nat):Int)+1))) λz18=>(Option.bind (m_tree_Tree_Kids m_tree_Tree_Hash p.own [x.way.a0]) λz36=>(Option.bind (m_tree_Differ z36.2 hashes) λz54=>(forI (m_pull_Pull_Tell_b1 x.path) (λo65=>
      (some (o65,true))) 0 z54 (⟨p.id,z36.1,p.begun,p.vec,z18,p.staged⟩:Opull_Pull))))))
      else
      (Option.bind (m_slices_ContainsFunc_api_Rec_api_Rec list x.way.a0 x.way.a1) λz87=>(bif z87 then
      (some (p,false))
      else
      (chk (i64b ((j:Nat):Int)) (Option.bind (m_slices_Delete_pull_way_pull_way (W.map Wy.way) ((j:Nat):Int) (w64 (((j:Nat):Int)+1))) λz96=>(forI (m_pull_Pull_Tell_b2) (λo109=>
      (some (o109,true))) 0 list (⟨p.id,p.own,p.begun,p.vec,z96,p.staged⟩:Opull_Pull))))))):=by
  obtain⟨j,h1,h2,h3⟩:=e_Index_yes hx
  refine⟨j,h1,h2,?_⟩
  have hl:x.path.length≤2:=by rcases path_len x with e | e <;> omega
  rw [tell_eq,decide_eq_false (show ¬ (2:Int)<((x.path.length:Nat):Int) by omega),Bool.not_false,e_neg,gcall_s,Option.bind_some,cond_true,Bool.false_or,
    show x.path.any (λd=>decide (d<0))=false from List.any_eq_false.2 (λd hd=>by have:=path_nn x d hd; simpa using this),cond_false,way_of,h.wants,h3,Option.bind_some,
    decide_eq_false (show ¬ ((j:Nat):Int)<0 by omega),cond_false]
theorem tell_odd{p:Opull_Pull}{own S:List Rec}{W:List Wy}(h:PS p own S W)(hW:WI W){x:Wy}(hx:x∈W)(hashes:List Int){list:List Rec}(hok:∀r∈list,RecOk r)(ho:odd x list=true):m_pull_Pull_Tell p x.path hashes list=some (p,false):=by
  obtain⟨j,h1,h2,h3⟩:=tell_begin h hW hx hashes list
  rw [h3]
  cases x with
  | one d=>cases ho
  | two d e=>
    rw [decide_eq_false (show ¬ (Wy.two d e).way.a1<0 by show ¬ ((e:Nat):Int)<0; omega),cond_false]
    have:m_slices_ContainsFunc_api_Rec_api_Rec list (Wy.two d e).way.a0 (Wy.two d e).way.a1=some true:=by
      rw [← ho]; exact e_strange d e hok
    rw [this]; rfl
theorem map_rest(l:List Wy)(d:Nat)(D:List Nat):(l++D.map (Wy.two d)).map Wy.way=l.map Wy.way++D.map (λe=>(⟨((d:Nat):Int),((e:Nat):Int)⟩:Dpull_way)):=by
  rw [List.map_append,List.map_map]; rfl
theorem tell_yes{p:Opull_Pull}{own S:List Rec}{W:List Wy}(h:PS p own S W)(hW:WI W){x:Wy}(hx:x∈W)(hashes:List Int){list:List Rec}(hok:∀r∈list,RecOk r)(ho:odd x list=false):
    ∃p',m_pull_Pull_Tell p x.path hashes list=some (p',true)∧PS p' own (laidS x list S) (W.erase x++rest own hashes x)∧p'.id=p.id∧p'.begun=p.begun∧p'.vec=p.vec:=by
  obtain⟨j,h1,h2,h3⟩:=tell_begin h hW hx hashes list
  have hWl:=hW.len
  rw [h3,e_Delete hW.nd h1 (by omega),chk_t (i64_nat (by omega)),Option.bind_some,h2]
  cases x with
  | one d=>
    rw [show decide ((Wy.one d).way.a1<0)=true from rfl,cond_true]
    obtain⟨r,e1,v1,g1⟩:=e_TKids h.ol h.own [(Wy.one d).way.a0]
    rw [e1,Option.bind_some,v1,e_Differ,Option.bind_some]
    have hdl:(difN (kidsV own [((d:Nat):Int)]) hashes).length≤16:=by have:=dif_len16 (kidsV own [((d:Nat):Int)]) hashes; unfold dif at this; rwa [List.length_map] at this
    show ∃p',forI (m_pull_Pull_Tell_b1 (Wy.one d).path) _ 0 ((difN (kidsV own [((d:Nat):Int)]) hashes).map (λi:Nat=>((i:Nat):Int))) _=_∧_
    have hrest:rest own hashes (.one d)=(difN (kidsV own [((d:Nat):Int)]) hashes).map (Wy.two d):=rfl
    rw [hrest]
    generalize difN (kidsV own [((d:Nat):Int)]) hashes=D at hdl ⊢
    have hel:(W.erase (.one d)).length≤272:=Nat.le_trans (List.length_erase_le) hWl
    generalize W.erase (.one d)=W2 at hel ⊢
    refine⟨⟨p.id,r.1,p.begun,p.vec,(W2++D.map (Wy.two d)).map Wy.way,p.staged⟩,?_,⟨h.ol,rfl,g1,h.st⟩,rfl,rfl,rfl⟩
    refine forI_run (λi (o:Opull_Pull)=>o=⟨p.id,r.1,p.begun,p.vec,(W2++(D.take i).map (Wy.two d)).map Wy.way,p.staged⟩) (λo hI=>?_) (λf i o hi hI hf=>?_) (by rw [List.take_zero,List.map_nil,List.append_nil])
    · rw [List.length_map,List.take_length] at hI
      rw [hI]
    · rw [List.length_map] at hi
      unfold m_pull_Pull_Tell_b1
      rw [hI]
      simp only
      rw [chk_t (decide_eq_true (by rw [lim_v]; simp only [List.length_map,List.length_append,List.length_take]; omega))]
      refine hf _ ?_
      congr 1
      rw [map_rest,map_rest,take_gt hi,List.map_append,List.append_assoc,gt_map (λi:Nat=>((i:Nat):Int)) hi]
      rfl
  | two d e=>
    rw [decide_eq_false (show ¬ (Wy.two d e).way.a1<0 by show ¬ ((e:Nat):Int)<0; omega),cond_false]
    have hs:m_slices_ContainsFunc_api_Rec_api_Rec list (Wy.two d e).way.a0 (Wy.two d e).way.a1=some false:=by
      rw [← ho]; exact e_strange d e hok
    rw [hs,Option.bind_some,cond_false,chk_t (i64_nat (by omega)),Option.bind_some]
    have hr:∀r∈list,rr r=true:=λr hr=>by
      have h9:=List.any_eq_false.1 (show list.any (λr=>!ben (.two d e) r)=false from ho) r hr
      have h8:ben (.two d e) r=true:=by simpa using h9
      unfold ben at h8
      exact(Bool.and_eq_true_iff.1 h8).1
    show ∃p',_∧PS p' own (list.foldl withr S) (W.erase (.two d e)++[])∧_
    rw [List.append_nil]
    obtain⟨q,e1,e2,e3,e4⟩:=forI_ex (body:=m_pull_Pull_Tell_b2) (k:=λo109=>some (o109,true)) (l:=list) (s:=(⟨p.id,p.own,p.begun,p.vec,(W.erase (.two d e)).map Wy.way,p.staged⟩:Opull_Pull))
      (λi o=>Good o.staged ((list.take i).foldl withr S)∧o.id=p.id∧o.own=p.own∧o.begun=p.begun∧o.vec=p.vec∧o.wants=(W.erase (.two d e)).map Wy.way)
      (λ(q:Opull_Pull×Bool)=>q.2=true∧PS q.1 own (list.foldl withr S) (W.erase (.two d e))∧q.1.id=p.id∧q.1.begun=p.begun∧q.1.vec=p.vec)
      (λo hI=>⟨_,rfl,rfl,⟨h.ol,hI.2.2.2.2.2,hI.2.2.1▸h.own,by have:=hI.1; rwa [List.take_length] at this⟩,hI.2.1,hI.2.2.2.1,hI.2.2.2.2.1⟩)
      (λf i o hi hI hf=>by
        have hm:=gt_mem hi
        unfold m_pull_Pull_Tell_b2
        rw [e_Set hI.1.len (hok _ hm),hr _ hm,cond_true,Option.bind_some]
        refine hf _ ⟨?_,hI.2.1,hI.2.2.1,hI.2.2.2.1,hI.2.2.2.2.1,hI.2.2.2.2.2⟩
        rw [take_gt hi,List.foldl_append]
        exact hI.1.set (hok _ hm) (hr _ hm)) ⟨h.st,rfl,rfl,rfl,rfl,rfl⟩
    obtain⟨q1,q2⟩:=q
    simp only at e2 e3 e4
    subst e2
    exact⟨q1,e1,e3,e4⟩
/-! ### the others -/
theorem e_Wants{p:Opull_Pull}{W:List Wy}(h:p.wants=W.map Wy.way)(hl:W.length≤272):m_pull_Pull_Wants p=some (W.map Wy.path):=by
  unfold m_pull_Pull_Wants
  rw [h]
  refine forI_run (λi s=>s=(W.take i).map Wy.path) (λs hI=>?_) (λf i s hi hI hf=>?_) rfl
  · rw [List.length_map,List.take_length] at hI; rw [hI]
  · rw [List.length_map] at hi
    unfold m_pull_Pull_Wants_b1
    rw [gt_map Wy.way hi,e_wpath,Option.bind_some,e_cloneI (by rcases path_len (gt W i) with e | e <;> rw [lim_v] <;> omega),Option.bind_some,
      chk_t (decide_eq_true (by rw [hI,lim_v]; simp only [List.length_map,List.length_take]; omega))]
    exact hf _ (by rw [take_gt hi,List.map_append,hI]; rfl)
theorem e_clone64{l:List Int}(h:l.length≤lim):m_slices_Clone_int64_int64 l=some l:=by
  first
    | exact e_cloneI h
    | (unfold m_slices_Clone_int64_int64; simp only [List.nil_append]; split <;> first | rfl | skip)
def vRight(v:List Int):Bool:=decide (1≤v.length)&&decide (v.length≤16)&&v.all (λx=>!(decide (x<0)||decide (4611686018427387904<x)))
theorem vR_go{B:(Unit→Option Bool)→Nat→Int→Unit→Option Bool}{e:Bool}(hB:∀f i x,B f i x ()=bif (decide (x<0)||decide (4611686018427387904<x)) then some false else f ()):∀(l:List Int) (i:Nat),forI B (λ_=>some e) i l ()=some (e&&l.all (λx=>!(decide (x<0)||decide (4611686018427387904<x))))
  | [],i=>by simp [forI]
  | x::l,i=>by
    show B (forI B (λ_=>some e) (i+1) l) i x ()=_
    rw [hB,vR_go hB l (i+1),List.all_cons]
    cases (decide (x<0)||decide (4611686018427387904<x)) <;> cases e <;> simp
theorem nle1(n:Nat):decide ((1:Int)≤((n:Nat):Int))=decide (1≤n):=by rw [Bool.eq_iff_iff]; simp; omega
theorem nle16(n:Nat):decide (((n:Nat):Int)≤16)=decide (n≤16):=by rw [Bool.eq_iff_iff]; simp; omega
theorem e_vRight(v:List Int):m_vect_Right v=some (vRight v):=by
  unfold m_vect_Right vRight
  rw [vR_go (e:=decide ((1:Int)≤((v.length:Nat):Int))&&decide (((v.length:Nat):Int)≤16)) (λf i x=>by unfold m_vect_Right_b1; rfl),nle1,nle16]
theorem e_rvRight(v:List Int):m_firthref04_Right v=some (vRight v):=by
  unfold m_firthref04_Right vRight
  have h1:((((v.length:Nat):Int))==0)=!(decide (1≤v.length)):=by rw [Bool.eq_iff_iff]; simp
  have h2:decide ((16:Int)<((v.length:Nat):Int))=!(decide (v.length≤16)):=by rw [Bool.eq_iff_iff]; simp; omega
  rw [h1,h2]
  cases decide (1≤v.length) with
  | false=>rfl
  | true=>
    cases decide (v.length≤16) with
    | false=>rfl
    | true=>
      rw [Bool.not_true,Bool.or_self,cond_false,vR_go (e:=true) (λf i x=>by unfold m_firthref04_Right_b1; rfl)]
      rfl
theorem vR_len{v:List Int}(h:vRight v=true):v.length≤16:=by
  unfold vRight at h
  rw [Bool.and_eq_true_iff,Bool.and_eq_true_iff] at h
  exact of_decide_eq_true h.1.2
/-- what is wanted at first -/
def firstW(own:List Rec)(hashes:List Int):List Wy:=(difN (kidsV own []) hashes).map Wy.one
theorem WI.first(own:List Rec)(hashes:List Int):WI (firstW own hashes):=by
  refine⟨nodup_map (λa b (hab:Wy.one a=Wy.one b)=>by injection hab) (difN_nodup _ _),λx hx=>?_,λd e h=>?_⟩
  · obtain⟨d,hd,rfl⟩:=List.mem_map.1 hx
    exact(difN_mem hd).1
  · obtain⟨d2,hd,h2⟩:=List.mem_map.1 h
    cases h2
theorem e_Begin_no{p:Opull_Pull}(vec hashes:List Int)(h:(p.begun||!vRight vec)=true):m_pull_Pull_Begin p vec hashes=some (p,false):=by
  unfold m_pull_Pull_Begin
  rw [e_vRight,gcall_s,Option.bind_some]
  cases hb:p.begun with
  | true=>rfl
  | false=>
    rw [hb,Bool.false_or] at h
    rw [Bool.not_false,cond_true,Bool.false_or,h]; rfl
theorem e_Begin{p:Opull_Pull}{own S:List Rec}(h:PS p own S []){vec:List Int}(hashes:List Int)(hb:p.begun=false)(hv:vRight vec=true):
    ∃p',m_pull_Pull_Begin p vec hashes=some (p',true)∧PS p' own S (firstW own hashes)∧p'.id=p.id∧p'.begun=true∧p'.vec=vec:=by
  unfold m_pull_Pull_Begin
  rw [e_vRight,gcall_s,Option.bind_some,hb,Bool.not_false,cond_true,hv,Bool.not_true,Bool.or_self,cond_false,e_clone64 (by have:=vR_len hv; rw [lim_v]; omega),Option.bind_some]
  obtain⟨r,e1,v1,g1⟩:=e_TKids h.ol h.own []
  rw [e1,Option.bind_some,v1,e_Differ,Option.bind_some,h.wants,List.map_nil]
  have hdl:(difN (kidsV own []) hashes).length≤16:=by have:=dif_len16 (kidsV own []) hashes; unfold dif at this; rwa [List.length_map] at this
  unfold firstW
  show ∃p',forI _ _ 0 ((difN (kidsV own []) hashes).map (λi:Nat=>((i:Nat):Int))) _=_∧_
  generalize difN (kidsV own []) hashes=D at hdl ⊢
  refine⟨⟨p.id,r.1,true,vec,(D.map Wy.one).map Wy.way,p.staged⟩,?_,⟨h.ol,rfl,g1,h.st⟩,rfl,rfl,rfl⟩
  refine forI_run (λi (o:Opull_Pull)=>o=⟨p.id,r.1,true,vec,((D.take i).map Wy.one).map Wy.way,p.staged⟩) (λo hI=>?_) (λf i o hi hI hf=>?_) rfl
  · rw [List.length_map,List.take_length] at hI
    rw [hI]
  · rw [List.length_map] at hi
    unfold m_pull_Pull_Begin_b1
    rw [hI]
    simp only
    rw [chk_t (decide_eq_true (by rw [lim_v]; simp only [List.length_map,List.length_take]; omega))]
    refine hf _ ?_
    congr 1
    rw [take_gt hi,List.map_append,List.map_append,gt_map (λi:Nat=>((i:Nat):Int)) hi]
    rfl
theorem e_NewPull_w(id:Int){own:List Rec}(hok:∀r∈own,RecOk r)(hl:own.length≤4194304)(hr:∀r∈own,rr r=true):∃p,m_pull_NewPull id own=some (some p,0)∧PS p (addL own) [] []∧p.id=id∧p.begun=false∧p.vec = []:=by
  unfold m_pull_NewPull
  obtain⟨o,h1,h2⟩:=e_New_t hok hr
  have:=addL_len own
  rw [h1,Option.bind_some,show (((0:Int)) != 0)=false from rfl,cond_false,e_New0,Option.bind_some,Option.bind_some,Option.bind_some]
  exact⟨_,rfl,⟨by omega,rfl,h2,good0⟩,rfl,rfl,rfl⟩
theorem e_NewPull_t(id:Int){own:List Rec}(hok:∀r∈own,RecOk r)(hl:own.length≤1048576)(hr:∀r∈own,rr r=true):∃p,m_pull_NewPull id own=some (some p,0)∧PS p (addL own) [] []∧p.id=id∧p.begun=false∧p.vec = []:=e_NewPull_w id hok (by omega) hr
theorem e_NewPull_f(id:Int){own:List Rec}(hok:∀r∈own,RecOk r)(hr:∃r∈own,rr r=false):m_pull_NewPull id own=some (none,1):=by
  unfold m_pull_NewPull
  rw [e_New_f hok hr,Option.bind_some]; rfl
/-- a cut of these records -/
structure CS (c:Opull_Cut) (id:Int) (vec:List Int) (all:List Rec):Prop where
  vl:vec.length≤16
  al:all.length≤4194304
  id:c.id=id
  vec:c.vec=vec
  tree:Good c.tree all
/-- what a cut answers -/
def wantV(all:List Rec)(path:List Int):List Int×List Rec×Bool:=bif okP path&&decide (1≤path.length) then (bif decide (path.length=1) then (kidsV all path,[],true) else ([],rcV all path,true)) else ([],[],false)
theorem e_Staged{p:Opull_Pull}{own S:List Rec}{W:List Wy}(h:PS p own S W)(hl:S.length≤4194304):m_pull_Pull_Staged p=some S:=by
  unfold m_pull_Pull_Staged
  rw [e_RecsV h.st hl,Option.bind_some]
  unfold rcV
  rw [show okP []=true from rfl,cond_true,all_i]
theorem e_PVec{p:Opull_Pull}(h:p.vec.length≤16):m_pull_Pull_Vec p=some p.vec:=by
  unfold m_pull_Pull_Vec
  rw [e_clone64 (by rw [lim_v]; omega),Option.bind_some]
theorem e_Done(p:Opull_Pull):m_pull_Pull_Done p=some (p.begun&&p.wants.isEmpty):=by
  unfold m_pull_Pull_Done
  congr 2
  cases p.wants with
  | nil=>rfl
  | cons x l=>rw [List.isEmpty_cons,beq_eq_false_iff_ne]; simp only [List.length_cons]; omega
end Fw
end Go.Proofs.YtiakfgdgafljnaaGreat
namespace Go.Proofs.YtiakfgdgafljnaaGreat
namespace Fw
set_option linter.unusedVariables false
set_option linter.unusedSimpArgs false
set_option linter.unusedSectionVars false
theorem loopN_up{S R:Type}{B:(S→Option R)→S→Option R}{r:Option R}(st:Nat→S){n:Nat}(hstep:∀f i,i<n→f (st (i+1))=r→B f (st i)=r)(hend:∀f,B f (st n)=r)(hn:n<FU):loopN B FU (st 0)=r:=by
  have key:∀k i,i+k=n→∀m,k<m→loopN B m (st i)=r:=by
    intro k
    induction k with
    | zero=>
      intro i hi m hm
      obtain⟨m,rfl⟩:∃q,m=q+1:=⟨m - 1,by omega⟩
      rw [show i=n by omega]
      exact hend _
    | succ k ih=>
      intro i hi m hm
      obtain⟨m,rfl⟩:∃q,m=q+1:=⟨m - 1,by omega⟩
      exact hstep _ i (by omega) (ih (i+1) (by omega) m (by omega))
  exact key n 0 (by omega) FU hn
theorem fu_lt{n:Nat}(h:n≤4294967296):n<FU:=by unfold FU; omega
theorem first_bad{p:Nat→Bool}:∀n,(∃j,j<n∧p j=false)→∃i,i<n∧p i=false∧∀j,j<i→p j=true
  | 0,h=>by obtain⟨j,hj,_⟩:=h; omega
  | n+1,h=>by
    by_cases h2:∃j,j<n∧p j=false
    · obtain⟨i,h3,h4,h5⟩:=first_bad n h2
      exact⟨i,by omega,h4,h5⟩
    · obtain⟨j,hj,hp⟩:=h
      have hjn:j=n:=by
        by_cases e:j=n
        · exact e
        · exact absurd ⟨j,by omega,hp⟩ h2
      subst hjn
      refine⟨j,by omega,hp,λk hk=>?_⟩
      cases hc:p k with
      | true=>rfl
      | false=>exact absurd ⟨k,hk,hc⟩ h2
theorem e_rOwn{r:Rec}(h:RecOk r):m_firthref10_Own r=some r:=by
  unfold m_firthref10_Own
  have hl:=h.vers.1
  refine forI_run (λi s=>s=r.vers.take i) (λs hI=>?_) (λf i s hi hI hf=>?_) rfl
  · rw [List.take_length] at hI; rw [hI]
  · have hv:=(h.vers.2 _ (gt_mem hi)).len
    unfold m_firthref10_Own_b1
    rw [chk_t (decide_eq_true (by omega)),chk_t (decide_eq_true (by rw [hI,List.length_take]; omega))]
    exact hf _ (by rw [take_gt hi,hI])
theorem e_recs{l:List Rec}(h:∀r∈l,RecOk r)(hl:l.length+4≤lim):m_firthref19_recs l=some l:=by
  unfold m_firthref19_recs
  refine forI_run (λi s=>s=l.take i) (λs hI=>?_) (λf i s hi hI hf=>?_) rfl
  · rw [List.take_length] at hI; rw [hI]
  · unfold m_firthref19_recs_b1
    rw [e_rOwn (h _ (gt_mem hi)),Option.bind_some,chk_t (decide_eq_true (by rw [hI,List.length_take]; omega))]
    exact hf _ (by rw [take_gt hi,hI])
structure QS (q:Ofirthref19_Pull) (own S:List Rec) (W:List Wy):Prop where
  rcs:Rcs own
  paths:q.paths=W.map Wy.path
  st:q.in_=S
  own:q.own=own
theorem fndW{R:Type}{W:List Wy}{path:List Int}{K:Int→Option R}{r:Option R}{B:(Int→Option R)→Nat→List Int→Int→Option R}(hB:∀f i e a,B f i e a=Option.bind (m_firthref06_Ints e path) λz=>bif z then f ((i:Nat):Int) else f a)
    (h0:(∀x∈W,x.path≠path)→K (-1)=r) (h1:∀j,j<W.length→(gt W j).path=path→K ((j:Nat):Int)=r):forI B K 0 (W.map Wy.path) (-1)=r:=by
  refine forI_run (λi (a:Int)=>(a = -1∧∀j,j<i→(gt W j).path≠path)∨∃j,j<i∧a=((j:Nat):Int)∧(gt W j).path=path) (λa hI=>?_) (λf i a hi hI hf=>?_) (.inl ⟨rfl,λj hj=>absurd hj (Nat.not_lt_zero _)⟩)
  · rw [List.length_map] at hI
    rcases hI with ⟨rfl,h2⟩ | ⟨j,hj,rfl,h2⟩
    · refine h0 λx hx=>?_
      obtain⟨j,hj,rfl⟩:=mem_gt hx
      exact h2 j hj
    · exact h1 j hj h2
  · rw [List.length_map] at hi
    rw [hB,gt_map Wy.path hi,e_Ints2,Option.bind_some]
    by_cases hc:(gt W i).path=path
    · rw [decide_eq_true hc,cond_true]
      exact hf _ (.inr ⟨i,by omega,rfl,hc⟩)
    · rw [decide_eq_false hc,cond_false]
      refine hf _ ?_
      rcases hI with ⟨h2,h3⟩ | ⟨j,hj,h2,h3⟩
      · refine .inl ⟨h2,λj hj=>?_⟩
        by_cases e:j=i
        · subst e; exact hc
        · exact h3 j (by omega)
      · exact .inr ⟨j,by omega,h2,h3⟩
theorem rtell_no{q:Ofirthref19_Pull}{own S:List Rec}{W:List Wy}(h:QS q own S W)(path hashes:List Int)(list:List Rec)(hno:∀x∈W,x.path≠path):m_firthref19_Pull_Tell q path hashes list=some (q,false):=by
  unfold m_firthref19_Pull_Tell
  rw [h.paths]
  refine fndW (λf i e a=>rfl) (λ_=>rfl) (λj hj e=>absurd e (hno _ (gt_mem hj)))
theorem nat_lt{a b:Nat}:decide (((a:Nat):Int)<((b:Nat):Int))=decide (a<b):=by rw [Bool.eq_iff_iff]; simp
theorem rtell_odd{q:Ofirthref19_Pull}{own S:List Rec}{W:List Wy}(h:QS q own S W){x:Wy}(hx:x∈W)(hashes:List Int){list:List Rec}(hok:∀r∈list,RecOk r)(hl:list.length+4≤lim)(ho:odd x list=true):m_firthref19_Pull_Tell q x.path hashes list=some (q,false):=by
  unfold m_firthref19_Pull_Tell
  rw [h.paths]
  rw [lim_v] at hl
  refine fndW (λf i e a=>rfl) (λhn=>absurd rfl (hn x hx)) (λj hj e=>?_)
  rw [decide_eq_false (show ¬ ((j:Nat):Int)<0 by omega),cond_false]
  cases x with
  | one d=>cases ho
  | two d e2=>
    obtain⟨r,hr1,hr2⟩:=List.any_eq_true.1 (show list.any (λr=>!ben (.two d e2) r)=true from ho)
    obtain⟨i1,hi1,rfl⟩:=mem_gt hr1
    obtain⟨i0,h1,h2,h3⟩:=first_bad (p:=λi=>ben (.two d e2) (gt list i)) list.length ⟨i1,hi1,by simpa using hr2⟩
    have hcond:∀i,i<list.length→(decide (((i:Nat):Int)<((list.length:Nat):Int))&&(((((Wy.two d e2).path.length:Nat)):Int)==2))=true:=λi hi=>by
      rw [nat_lt,decide_eq_true hi]; rfl
    refine loopN_up (λi=>((i:Nat):Int)) (n:=i0) (λf i hi hf=>?_) (λf=>?_) (fu_lt (by omega))
    · have hi2:i<list.length:=by omega
      have hb:ben (.two d e2) (gt list i)=true:=h3 i hi
      unfold ben at hb
      rw [Bool.and_eq_true_iff] at hb
      unfold m_firthref19_Pull_Tell_b6
      rw [hcond i hi2,cond_true,chk_t (inb_nat hi2),Int.toNat_natCast,e_rRec (hok _ (gt_mem hi2)),Option.bind_some,hb.1,Bool.not_true,Bool.not_false,cond_true,e_rPlace,Option.bind_some,e_Ints2,Option.bind_some,hb.2,Bool.not_true,cond_false,w64_i (by unfold I64; omega)]
      exact hf
    · have h2:ben (.two d e2) (gt list i0)=false:=h2
      unfold ben at h2
      unfold m_firthref19_Pull_Tell_b6
      rw [hcond i0 h1,cond_true,chk_t (inb_nat h1),Int.toNat_natCast,e_rRec (hok _ (gt_mem h1)),Option.bind_some]
      cases hrr:rr (gt list i0) with
      | false=>rfl
      | true=>
        rw [hrr,Bool.true_and] at h2
        rw [Bool.not_true,Bool.not_false,cond_true,e_rPlace,Option.bind_some,e_Ints2,Option.bind_some,h2]; rfl
theorem rtell_yes{q:Ofirthref19_Pull}{own S:List Rec}{W:List Wy}(h:QS q own S W)(hW:WI W){x:Wy}(hx:x∈W)(hashes:List Int){list:List Rec}(hok:∀r∈list,RecOk r)(hl:S.length+list.length+8≤lim)(ho:odd x list=false):
    ∃q',m_firthref19_Pull_Tell q x.path hashes list=some (q',true)∧QS q' own (laidS x list S) (W.erase x++rest own hashes x)∧q'.id=q.id∧q'.begun=q.begun∧q'.vec=q.vec:=by
  refine⟨⟨q.id,own,q.begun,q.vec,(W.erase x++rest own hashes x).map Wy.path,laidS x list S⟩,?_,⟨h.rcs,rfl,rfl,rfl⟩,rfl,rfl,rfl⟩
  have hWl:=hW.len
  unfold m_firthref19_Pull_Tell
  rw [h.paths]
  rw [lim_v] at hl
  refine fndW (λf i e a=>rfl) (λhn=>absurd rfl (hn x hx)) (λj hj e=>?_)
  have hxj:=path_inj e
  rw [decide_eq_false (show ¬ ((j:Nat):Int)<0 by omega),cond_false]
  have ew:w64 (((j:Nat):Int)+1)=((j+1:Nat):Int):=by rw [w64_i (by unfold I64; omega)]; omega
  have hin:∀n:Nat,n≤W.length→inle ((n:Nat):Int) q.paths.length=true:=λn h2=>by
    unfold inle; rw [h.paths,List.length_map]; simp; omega
  have hleft:List.take j q.paths++List.drop (j+1) q.paths=(W.erase x).map Wy.path:=by
    rw [h.paths, ← List.map_take, ← List.map_drop, ← List.map_append,erase_at hW.nd hj,hxj]
  have hlt:(List.take j q.paths).length+(List.drop (j+1) q.paths).length≤272:=by
    rw [List.length_take,List.length_drop,h.paths,List.length_map]; omega
  have hel:(W.erase x).length≤272:=Nat.le_trans (List.length_erase_le) hWl
  cases x with
  | one d=>
    refine loopN_up (λ_=>(0:Int)) (n:=0) (λf i hi _=>absurd hi (Nat.not_lt_zero _)) (λf=>?_) (fu_lt (by omega))
    unfold m_firthref19_Pull_Tell_b6
    rw [show (((((Wy.one d).path.length:Nat)):Int)==2)=false from rfl,Bool.and_false,cond_false,chk_t (hin _ (by omega)),ew,Int.toNat_natCast,Int.toNat_natCast,
      chk_t (decide_eq_true (by rw [lim_v]; omega)),chk_t (hin _ hj),chk_t (decide_eq_true (by rw [lim_v]; omega)),show (((((Wy.one d).path.length:Nat)):Int)==1)=true from rfl,cond_true,h.own,e_rKids h.rcs,Option.bind_some,e_rDiffer,Option.bind_some,hleft]
    have hdl:(difN (kidsV own [((d:Nat):Int)]) hashes).length≤16:=by have:=dif_len16 (kidsV own [((d:Nat):Int)]) hashes; unfold dif at this; rwa [List.length_map] at this
    have hrest:rest own hashes (.one d)=(difN (kidsV own [((d:Nat):Int)]) hashes).map (Wy.two d):=rfl
    rw [hrest]
    show forI _ _ 0 ((difN (kidsV own [((d:Nat):Int)]) hashes).map (λi:Nat=>((i:Nat):Int))) _=_
    generalize difN (kidsV own [((d:Nat):Int)]) hashes=D at hdl ⊢
    generalize W.erase (.one d)=W2 at hel ⊢
    refine forI_run (λi s=>s=(W2++(D.take i).map (Wy.two d)).map Wy.path) (λs hI=>?_) (λf i s hi hI hf=>?_) (by rw [List.take_zero,List.map_nil,List.append_nil])
    · rw [List.length_map,List.take_length] at hI
      subst hI
      unfold m_firthref19_Pull_Tell_j7
      rw [h.own]
      refine loopN_up (λ_=>((0:Int),(⟨q.id,own,q.begun,q.vec,_,q.in_⟩:Ofirthref19_Pull))) (n:=0) (λf i hi _=>absurd hi (Nat.not_lt_zero _)) (λf=>?_) (fu_lt (by omega))
      unfold m_firthref19_Pull_Tell_b10
      simp only
      rw [show (((((Wy.one d).path.length:Nat)):Int)==2)=false from rfl,Bool.and_false,cond_false,h.st]
      rfl
    · rw [List.length_map] at hi
      unfold m_firthref19_Pull_Tell_b9
      rw [chk_t (decide_eq_true (by show 0<1; omega)),chk_t (decide_eq_true (by rw [hI,lim_v]; simp only [List.length_map,List.length_append,List.length_take]; omega))]
      refine hf _ ?_
      rw [hI,gt_map (λi:Nat=>((i:Nat):Int)) hi,take_gt hi]
      simp only [List.map_append,List.append_assoc]
      rfl
  | two d e2=>
    have hben:∀i,i<list.length→ben (.two d e2) (gt list i)=true:=λi hi=>by
      have h9:=List.any_eq_false.1 (show list.any (λr=>!ben (.two d e2) r)=false from ho) _ (gt_mem hi)
      simpa using h9
    refine loopN_up (λi=>((i:Nat):Int)) (n:=list.length) (λf i hi hf=>?_) (λf=>?_) (fu_lt (by omega))
    · have hb:=hben i hi
      unfold ben at hb
      rw [Bool.and_eq_true_iff] at hb
      unfold m_firthref19_Pull_Tell_b6
      rw [nat_lt,decide_eq_true hi,show (((((Wy.two d e2).path.length:Nat)):Int)==2)=true from rfl,Bool.and_self,cond_true,chk_t (inb_nat hi),Int.toNat_natCast,e_rRec (hok _ (gt_mem hi)),Option.bind_some,hb.1,Bool.not_true,Bool.not_false,cond_true,e_rPlace,Option.bind_some,e_Ints2,Option.bind_some,hb.2,Bool.not_true,cond_false,w64_i (by unfold I64; omega)]
      exact hf
    · unfold m_firthref19_Pull_Tell_b6
      rw [nat_lt,decide_eq_false (Nat.lt_irrefl _),Bool.false_and,cond_false,chk_t (hin _ (by omega)),ew,Int.toNat_natCast,Int.toNat_natCast,
        chk_t (decide_eq_true (by rw [lim_v]; omega)),chk_t (hin _ hj),chk_t (decide_eq_true (by rw [lim_v]; omega)),show (((((Wy.two d e2).path.length:Nat)):Int)==1)=false from rfl,cond_false,hleft]
      unfold m_firthref19_Pull_Tell_j7
      have hre:rest own hashes (.two d e2) = []:=rfl
      rw [hre,List.append_nil,h.st,h.own]
      refine loopN_up (λi=>(((i:Nat):Int),(⟨q.id,own,q.begun,q.vec,(W.erase (.two d e2)).map Wy.path,(list.take i).foldl withr S⟩:Ofirthref19_Pull))) (n:=list.length) (λf i hi hf=>?_) (λf=>?_) (fu_lt (by omega))
      · unfold m_firthref19_Pull_Tell_b10
        have hfl:=foldl_len (list.take i) S
        rw [List.length_take] at hfl
        simp only
        rw [nat_lt,decide_eq_true hi,show (((((Wy.two d e2).path.length:Nat)):Int)==2)=true from rfl,Bool.and_self,cond_true,chk_t (inb_nat hi),Int.toNat_natCast,e_rOwn (hok _ (gt_mem hi)),Option.bind_some,e_With (by rw [lim_v]; omega),Option.bind_some,w64_i (by unfold I64; omega)]
        have hf2:=hf
        rw [take_gt hi,List.foldl_append] at hf2
        exact hf2
      · unfold m_firthref19_Pull_Tell_b10
        simp only
        rw [nat_lt,decide_eq_false (Nat.lt_irrefl _),Bool.false_and,cond_false,List.take_length]
        rfl
theorem e_rBegin_no{q:Ofirthref19_Pull}(vec hashes:List Int)(h:(q.begun||!vRight vec)=true):m_firthref19_Pull_Begin q vec hashes=some (q,false):=by
  unfold m_firthref19_Pull_Begin
  rw [e_rvRight,gcall_s,Option.bind_some]
  cases hb:q.begun with
  | true=>rfl
  | false=>
    rw [hb,Bool.false_or] at h
    rw [Bool.not_false,cond_true,Bool.false_or,h]; rfl
theorem e_rBegin{q:Ofirthref19_Pull}{own S:List Rec}(h:QS q own S []){vec:List Int}(hashes:List Int)(hb:q.begun=false)(hv:vRight vec=true)(hq:q.vec = []):
    ∃q',m_firthref19_Pull_Begin q vec hashes=some (q',true)∧QS q' own S (firstW own hashes)∧q'.id=q.id∧q'.begun=true∧q'.vec=vec:=by
  unfold m_firthref19_Pull_Begin
  have hvl:=vR_len hv
  rw [e_rvRight,gcall_s,Option.bind_some,hb,Bool.not_false,cond_true,hv,Bool.not_true,Bool.or_self,cond_false,hq,chk_t (decide_eq_true (by rw [lim_v,List.length_nil]; omega)),h.own,e_rKids h.rcs,Option.bind_some,e_rDiffer,Option.bind_some,h.paths,List.map_nil,List.nil_append]
  have hdl:(difN (kidsV own []) hashes).length≤16:=by have:=dif_len16 (kidsV own []) hashes; unfold dif at this; rwa [List.length_map] at this
  unfold firstW
  show ∃q',forI _ _ 0 ((difN (kidsV own []) hashes).map (λi:Nat=>((i:Nat):Int))) _=_∧_
  generalize difN (kidsV own []) hashes=D at hdl ⊢
  refine⟨⟨q.id,own,true,vec,(D.map Wy.one).map Wy.path,q.in_⟩,?_,⟨h.rcs,rfl,h.st,rfl⟩,rfl,rfl,rfl⟩
  refine forI_run (λi (o:Ofirthref19_Pull)=>o=⟨q.id,own,true,vec,((D.take i).map Wy.one).map Wy.path,q.in_⟩) (λo hI=>?_) (λf i o hi hI hf=>?_) rfl
  · rw [List.length_map,List.take_length] at hI
    rw [hI]
  · rw [List.length_map] at hi
    unfold m_firthref19_Pull_Begin_b1
    rw [hI]
    simp only
    rw [chk_t (decide_eq_true (by rw [lim_v]; simp only [List.length_map,List.length_take]; omega))]
    refine hf _ ?_
    congr 1
    rw [take_gt hi,List.map_append,List.map_append,gt_map (λi:Nat=>((i:Nat):Int)) hi]
    rfl
theorem addL_rcs2{l:List Rec}(hok:∀r∈l,RecOk r)(hr:∀r∈l,rr r=true)(hl:l.length≤1048576):Rcs (addL l):=by
  obtain⟨o,_,h2⟩:=e_New_t hok hr
  exact addL_rcs hl h2
theorem e_rNewPull_t(id:Int){own:List Rec}(hok:∀r∈own,RecOk r)(hl:own.length≤1048576)(hr:∀r∈own,rr r=true):∃q,m_firthref19_NewPull id own=some (some q,0)∧QS q (addL own) [] []∧q.id=id∧q.begun=false∧q.vec = []:=by
  unfold m_firthref19_NewPull
  have:=addL_len own
  rw [e_Held_t hok (by rw [lim_v]; omega) hr,Option.bind_some]
  simp only
  rw [Bool.not_true,cond_false,e_recs (λr h=>(addL_rcs2 hok hr hl).ok r h |>.1) (by rw [lim_v]; omega),Option.bind_some]
  exact⟨_,rfl,⟨addL_rcs2 hok hr hl,rfl,rfl,rfl⟩,rfl,rfl,rfl⟩
theorem e_rNewPull_f(id:Int){own:List Rec}(hok:∀r∈own,RecOk r)(hl:own.length≤1048576)(hr:∃r∈own,rr r=false):m_firthref19_NewPull id own=some (none,1):=by
  unfold m_firthref19_NewPull
  rw [e_Held_f hok (by rw [lim_v]; omega) hr,Option.bind_some]; rfl
theorem e_rNewCut_t(id:Int){vec:List Int}{list:List Rec}(hok:∀r∈list,RecOk r)(hl:list.length≤1048576)(hr:∀r∈list,rr r=true)(hv:vRight vec=true):m_firthref19_NewCut id vec list=some (some ⟨id,vec,addL list⟩,0):=by
  unfold m_firthref19_NewCut
  have:=addL_len list
  have hvl:=vR_len hv
  rw [e_Held_t hok (by rw [lim_v]; omega) hr,Option.bind_some,e_rvRight,gcall_s,Option.bind_some]
  simp only
  rw [Bool.not_true,Bool.not_false,cond_true,hv,Bool.not_true,Bool.or_self,cond_false,chk_t (decide_eq_true (by rw [lim_v]; omega)),e_recs (λr h=>(addL_rcs2 hok hr hl).ok r h |>.1) (by rw [lim_v]; omega),Option.bind_some,List.nil_append]
theorem e_rNewCut_f(id:Int){vec:List Int}{list:List Rec}(hok:∀r∈list,RecOk r)(hl:list.length≤1048576)(h:(∃r∈list,rr r=false)∨vRight vec=false):m_firthref19_NewCut id vec list=some (none,1):=by
  unfold m_firthref19_NewCut
  rcases all_or list with hr | hr
  · have hv:vRight vec=false:=by
      rcases h with ⟨r,h1,h2⟩ | h
      · rw [hr r h1] at h2; cases h2
      · exact h
    rw [e_Held_t hok (by rw [lim_v]; omega) hr,Option.bind_some,e_rvRight,gcall_s,Option.bind_some,hv]; rfl
  · rw [e_Held_f hok (by rw [lim_v]; omega) hr,Option.bind_some,e_rvRight,gcall_s,Option.bind_some]; rfl
theorem e_rWant{id:Int}{vec:List Int}{all:List Rec}(h:Rcs all)(path:List Int):m_firthref19_Cut_Want ⟨id,vec,all⟩ path=some (wantV all path):=by
  unfold m_firthref19_Cut_Want wantV
  rw [e_rPath,Option.bind_some]
  cases ho:okP path with
  | false=>rfl
  | true=>
    rw [Bool.not_true,Bool.false_or,Bool.true_and]
    have e0:((((path.length:Nat):Int))==0)=!(decide (1≤path.length)):=by rw [Bool.eq_iff_iff]; simp
    have e1:((((path.length:Nat):Int))==1)=decide (path.length=1):=by rw [Bool.eq_iff_iff]; simp; omega
    rw [e0,e1]
    cases decide (1≤path.length) with
    | false=>rfl
    | true=>
      rw [Bool.not_true,cond_false,cond_true]
      cases decide (path.length=1) with
      | true=>rw [cond_true,cond_true]; simp only; rw [e_rKids h,Option.bind_some]
      | false=>
        rw [cond_false,cond_false]
        simp only
        rw [e_rRecs h.len,Option.bind_some]
        rfl
theorem e_rDone(q:Ofirthref19_Pull):m_firthref19_Pull_Done q=some (q.begun&&q.paths.isEmpty):=by
  unfold m_firthref19_Pull_Done
  congr 2
  cases q.paths with
  | nil=>rfl
  | cons x l=>rw [List.isEmpty_cons,beq_eq_false_iff_ne]; simp only [List.length_cons]; omega
theorem e_paths(a:List (List Int)):m_firthlaw19_paths a a=some true:=by
  unfold m_firthlaw19_paths
  rw [int_nf,cond_false]
  refine forI_run (λ_ _=>True) (λ_ _=>rfl) (λf i s hi _ hf=>?_) trivial
  unfold m_firthlaw19_paths_b1
  rw [chk_t (decide_eq_true hi),e_Ints,Option.bind_some]
  exact hf () trivial
end Fw
end Go.Proofs.YtiakfgdgafljnaaGreat
namespace Go.Proofs.YtiakfgdgafljnaaGreat
namespace Fw
theorem awake19:m_firthlaw19_awake=some true:=by decide +kernel
end Fw
end Go.Proofs.YtiakfgdgafljnaaGreat
namespace Go.Proofs.YtiakfgdgafljnaaGreat
namespace Fw
set_option linter.unusedVariables false
set_option linter.unusedSimpArgs false
set_option linter.unusedSectionVars false
theorem sum_ge:∀{l:List Nat} {x:Nat},x∈l→x≤l.sum
  | y::l,x,h=>by
    rw [List.sum_cons]
    rcases List.mem_cons.1 h with rfl | h
    · omega
    · have:=sum_ge h; omega
/-! ### both alike -/
def St(K0:List ByteArray)(own:List Rec)(p:Opull_Pull)(q:Ofirthref19_Pull):Prop := ∃W S,PS p own S W∧QS q own S W∧WI W∧p.begun=q.begun∧p.vec=q.vec∧p.vec.length≤16∧(q.begun=false→W = []∧q.vec = [])∧p.id=5∧(∀x∈S,x.key∈K0)∧K0.length≤2097152
theorem keys_len{p:Opull_Pull}{own S:List Rec}{W:List Wy}(h:PS p own S W){K0:List ByteArray}(hk:∀x∈S,x.key∈K0)(hl:K0.length≤2097152):S.length≤2097152:=by
  have:=nodup_len (sr_keys h.st.srt) (l:=K0) (λk hk2=>by
    obtain⟨x,hx,rfl⟩:=List.mem_map.1 hk2
    exact hk x hx)
  rw [List.length_map] at this
  omega
theorem isE{α β:Type}(f:α→β)(l:List α):(l.map f).isEmpty=l.isEmpty:=by cases l <;> rfl
theorem step_begin{K0:List ByteArray}{own:List Rec}{p:Opull_Pull}{q:Ofirthref19_Pull}(h:St K0 own p q)(vec hashes:List Int):∃p' q' b,m_pull_Pull_Begin p vec hashes=some (p',b)∧m_firthref19_Pull_Begin q vec hashes=some (q',b)∧St K0 own p' q':=by
  have h0:=h
  obtain⟨W,S,h1,h2,h3,h4,h5,h6,h7,h8,h9,h10⟩:=h
  cases hc:(q.begun||!vRight vec) with
  | true=>exact⟨p,q,false,e_Begin_no vec hashes (by rw [h4]; exact hc),e_rBegin_no vec hashes hc,h0⟩
  | false=>
    rw [Bool.or_eq_false_iff] at hc
    obtain⟨hb,hv⟩:=hc
    have hv:vRight vec=true:=by simpa using hv
    obtain⟨rfl,hq⟩:=h7 hb
    obtain⟨p',e1,g1,g2,g3,g4⟩:=e_Begin h1 hashes (by rw [h4]; exact hb) hv
    obtain⟨q',e2,f1,f2,f3,f4⟩:=e_rBegin h2 hashes hb hv hq
    exact⟨p',q',true,e1,e2,_,S,g1,f1,WI.first _ _,by rw [g3,f3],by rw [g4,f4],by rw [g4]; exact vR_len hv,λe=>(by rw [f3] at e; cases e),by rw [g2]; exact h8,h9,h10⟩
theorem laid_keys{x:Wy}{l S:List Rec}{K0:List ByteArray}(h:∀r∈S,r.key∈K0)(hl:∀r∈l,r.key∈K0):∀r∈laidS x l S,r.key∈K0:=by
  cases x with
  | one d=>exact h
  | two d e=>
    intro r hr
    rcases foldl_mem (show r∈l.foldl withr S from hr) with h2 | h2
    · exact hl r h2
    · exact h r h2
theorem step_tell{K0:List ByteArray}{own:List Rec}{p:Opull_Pull}{q:Ofirthref19_Pull}(h:St K0 own p q)(path hashes:List Int){list:List Rec}(hok:∀r∈list,RecOk r)(hk:∀r∈list,r.key∈K0)(hl:list.length≤4194304):∃p' q' b,m_pull_Pull_Tell p path hashes list=some (p',b)∧m_firthref19_Pull_Tell q path hashes list=some (q',b)∧St K0 own p' q':=by
  have h0:=h
  obtain⟨W,S,h1,h2,h3,h4,h5,h6,h7,h8,h9,h10⟩:=h
  have hSl:=keys_len h1 h9 h10
  by_cases hw:∃x∈W,x.path=path
  · obtain⟨x,hx,rfl⟩:=hw
    cases ho:odd x list with
    | true=>exact⟨p,q,false,tell_odd h1 h3 hx hashes hok ho,rtell_odd h2 hx hashes hok (by rw [lim_v]; omega) ho,h0⟩
    | false=>
      obtain⟨p',e1,g1,g2,g3,g4⟩:=tell_yes h1 h3 hx hashes hok ho
      obtain⟨q',e2,f1,f2,f3,f4⟩:=rtell_yes h2 h3 hx hashes hok (by rw [lim_v]; omega) ho
      refine⟨p',q',true,e1,e2,_,_,g1,f1,h3.told hx own hashes,by rw [g3,f3]; exact h4,by rw [g4,f4]; exact h5,by rw [g4]; exact h6,λe=>?_,by rw [g2]; exact h8,laid_keys h9 hk,h10⟩
      rw [f3] at e
      rw [(h7 e).1] at hx
      cases hx
  · exact⟨p,q,false,tell_no h1 path hashes list (λx hx e=>hw ⟨x,hx,e⟩),rtell_no h2 path hashes list (λx hx e=>hw ⟨x,hx,e⟩),h0⟩
theorem st_path{K0:List ByteArray}{own:List Rec}{p:Opull_Pull}{q:Ofirthref19_Pull}(h:St K0 own p q){n:Nat}(hn:n<q.paths.length):(gt q.paths n).length≤2∧True:=by
  obtain⟨W,S,h1,h2,h3,h4,h5,h6,h7,h8,h9,h10⟩:=h
  rw [h2.paths,List.length_map] at hn
  rw [h2.paths,gt_map Wy.path hn]
  rcases path_len (gt W n) with e | e <;> exact⟨by omega,trivial⟩
theorem want_ok{K0:List ByteArray}{cut:List Rec}(hc:Rcs cut)(hck:∀r∈cut,r.key∈K0)(path:List Int):(∀r∈(wantV cut path).2.1,RecOk r)∧(∀r∈(wantV cut path).2.1,r.key∈K0)∧(wantV cut path).2.1.length≤4194304:=by
  unfold wantV
  cases okP path&&decide (1≤path.length) with
  | false=>exact⟨λr hr=>absurd hr List.not_mem_nil,λr hr=>absurd hr List.not_mem_nil,Nat.zero_le _⟩
  | true=>
    rw [cond_true]
    cases decide (path.length=1) with
    | true=>exact⟨λr hr=>absurd hr List.not_mem_nil,λr hr=>absurd hr List.not_mem_nil,Nat.zero_le _⟩
    | false=>exact⟨λr hr=>(hc.ok r (rcV_sub hr)).1,λr hr=>hck r (rcV_sub hr),Nat.le_trans (rcV_len cut path) hc.len⟩
theorem tail_j22{K0:List ByteArray}{own:List Rec}{p:Opull_Pull}{q:Ofirthref19_Pull}(h:St K0 own p q)(f:Ofirthref19_Pull×Opull_Pull→Option Bool):m_firthlaw19_PullPlays_j22 f q p=f (q,p):=by
  obtain⟨W,S,h1,h2,h3,h4,h5,h6,h7,h8,h9,h10⟩:=h
  have hSl:=keys_len h1 h9 h10
  unfold m_firthlaw19_PullPlays_j22 m_firthlaw19_PullPlays_j25
  rw [e_Done,Option.bind_some,e_rDone,Option.bind_some,h1.wants,h2.paths,h4,isE,isE,bne_self_eq_false,Bool.not_false,cond_true,e_Wants h1.wants h3.len,Option.bind_some,e_paths,gcall_s,Option.bind_some]
  simp only [cond_true,Bool.not_true,Bool.not_false]
  rw [e_Staged h1 (by omega),Option.bind_some,h2.st,e_SameRecs,gcall_s,Option.bind_some]
  simp only [cond_true,Bool.not_true,Bool.not_false]
  rw [e_PVec h6,Option.bind_some,h5,e_Same4,gcall_s,Option.bind_some,decide_eq_true rfl]
  rfl
theorem at_j24{K0:List ByteArray}{own cut:List Rec}{p:Opull_Pull}{q:Ofirthref19_Pull}(h:St K0 own p q)(hc:Rcs cut)(hck:∀r∈cut,r.key∈K0){id:Int}{vec:List Int}{n:Nat}(hn:n<q.paths.length){f:Ofirthref19_Pull×Opull_Pull→Option Bool}{r:Option Bool}(hf:∀p' q',St K0 own p' q'→f (q',p')=r):m_firthlaw19_PullPlays_j24 ⟨id,vec,cut⟩ f q p ((n:Nat):Int)=r:=by
  unfold m_firthlaw19_PullPlays_j24
  obtain⟨hp,hw⟩:=st_path h hn
  rw [chk_t (inb_nat hn),Int.toNat_natCast,e_rWant hc,Option.bind_some,chk_t (decide_eq_true (by rw [lim_v]; omega))]
  obtain⟨w1,w2,w3⟩:=want_ok hc hck (gt q.paths n)
  obtain⟨p',q',b,e1,e2,h'⟩:=step_tell h (gt q.paths n) (wantV cut (gt q.paths n)).1 w1 w2 (by omega)
  rw [e1,Option.bind_some,e2,Option.bind_some]
  simp only
  rw [bne_self_eq_false,cond_false,tail_j22 h']
  exact hf _ _ h'
theorem last_at{n:Nat}(h:0<n)(hl:n≤1000):w64 (((n:Nat):Int) - 1)=((n - 1:Nat):Int):=by rw [w64_i (by unfold I64; omega)]; omega
theorem st_len{K0:List ByteArray}{own:List Rec}{p:Opull_Pull}{q:Ofirthref19_Pull}(h:St K0 own p q):q.paths.length≤1000:=by
  obtain⟨W,S,h1,h2,h3,h4⟩:=h
  have:=h3.len
  rw [h2.paths,List.length_map]; omega
theorem ok_j21{K0:List ByteArray}{own cut:List Rec}{p:Opull_Pull}{q:Ofirthref19_Pull}(h:St K0 own p q)(hc:Rcs cut)(hck:∀r∈cut,r.key∈K0){id:Int}{vec:List Int}(script:List Dfirthlaw19_Op)(i:Nat){f:Ofirthref19_Pull×Opull_Pull→Option Bool}{r:Option Bool}(hf:∀p' q',St K0 own p' q'→f (q',p')=r):m_firthlaw19_PullPlays_j21 script ⟨id,vec,cut⟩ f i false q p=r:=by
  unfold m_firthlaw19_PullPlays_j21
  have hl:=st_len h
  rw [cond_false]
  cases hc1:(((gt script i).kind==3)||((gt script i).kind==4))&&(decide (0<((q.paths.length:Nat):Int))) with
  | false=>rw [cond_false,tail_j22 h]; exact hf _ _ h
  | true=>
    rw [Bool.and_eq_true_iff] at hc1
    have hpos:=of_decide_eq_true hc1.2
    have hpos:0<q.paths.length:=by omega
    rw [cond_true,last_at hpos hl]
    cases (gt script i).kind==4 with
    | true=>exact at_j24 h hc hck (show q.paths.length - 1<q.paths.length by omega) hf
    | false=>exact at_j24 h hc hck (n:=0) hpos hf
theorem ok_j20{K0:List ByteArray}{own cut:List Rec}{p:Opull_Pull}{q:Ofirthref19_Pull}(h:St K0 own p q)(hc:Rcs cut)(hck:∀r∈cut,r.key∈K0){id:Int}{vec:List Int}(script:List Dfirthlaw19_Op)(i:Nat)(hok:∀r∈(gt script i).list,RecOk r)(hk:∀r∈(gt script i).list,r.key∈K0)(hl:(gt script i).list.length≤4194304){f:Ofirthref19_Pull×Opull_Pull→Option Bool}{r:Option Bool}(hf:∀p' q',St K0 own p' q'→f (q',p')=r):m_firthlaw19_PullPlays_j20 script ⟨id,vec,cut⟩ f i false q p=r:=by
  unfold m_firthlaw19_PullPlays_j20
  rw [cond_false]
  cases (gt script i).kind==2 with
  | true=>
    rw [cond_true]
    obtain⟨p',q',b,e1,e2,h'⟩:=step_tell h (gt script i).path (gt script i).hashes hok hk hl
    rw [e1,Option.bind_some,e2,Option.bind_some]
    simp only
    rw [bne_self_eq_false]
    exact ok_j21 h' hc hck script i hf
  | false=>rw [cond_false]; exact ok_j21 h hc hck script i hf
theorem plays_law{own cut:List Rec}{script:List Dfirthlaw19_Op}(hok:∀r∈own,RecOk r)(hl:own.length≤1048576)(hokc:∀r∈cut,RecOk r)(hlc:cut.length≤1048576)(hoks:∀o∈script, ∀r∈o.list,RecOk r)(hls:(script.flatMap (λo=>o.list)).length≤1048576):m_firthlaw19_PullPlays own cut script=some true:=by
  unfold m_firthlaw19_PullPlays
  rcases all_or own with hr | hr
  · obtain⟨p,e1,p1,p2,p3,p4⟩:=e_NewPull_t 5 hok hl hr
    obtain⟨q,e2,q1,q2,q3,q4⟩:=e_rNewPull_t 5 hok hl hr
    rw [e1,Option.bind_some,e2,Option.bind_some,awake19,Option.bind_some]
    simp only [Bool.not_true,Bool.false_or,Option.isNone_some,bne_self_eq_false,Bool.or_self,cond_false]
    rcases all_or cut with hrc | hrc
    · have hC:=addL_rcs2 hokc hrc hlc
      have hcl:=addL_len cut
      rw [e_rNewCut_t 5 hokc hlc hrc rfl,Option.bind_some]
      simp only [Option.isNone_some,cond_false,Option.bind_some]
      generalize hK:(script.flatMap (λo=>o.list)).map (·.key)++(addL cut).map (·.key)=K0
      have hKl:K0.length≤2097152:=by rw [← hK]; simp only [List.length_append,List.length_map]; omega
      have hck:∀r∈addL cut,r.key∈K0:=λr h=>by rw [← hK]; exact List.mem_append_right _ (List.mem_map.2 ⟨r,h,rfl⟩)
      refine forI_run (λi (s:Ofirthref19_Pull×Opull_Pull)=>St K0 (addL own) s.2 s.1) (λs hI=>?_) (λf i s hi hI hf=>?_) ⟨[],[],p1,q1,WI.nil,by rw [p3,q3],by rw [p4,q4],by rw [p4]; exact Nat.zero_le _,λ_=>⟨rfl,q4⟩,p2,λx hx=>absurd hx List.not_mem_nil,hKl⟩
      · obtain⟨s1,s2⟩:=s
        obtain⟨W,S,h1,h2,h3,h4,h5,h6,h7,h8,h9,h10⟩:=hI
        simp only
        unfold m_pull_Pull_Id
        simp only at h8
        rw [Option.bind_some,h8]; rfl
      · obtain⟨s1,s2⟩:=s
        simp only at hI
        have hm:=gt_mem hi
        have hf2:∀p' q',St K0 (addL own) p' q'→f (q',p')=some true:=λp' q' h=>hf (q',p') h
        have hk1:∀r∈(gt script i).list,r.key∈K0:=λr h=>by rw [← hK]; exact List.mem_append_left _ (List.mem_map.2 ⟨r,List.mem_flatMap.2 ⟨_,hm,h⟩,rfl⟩)
        have hl1:(gt script i).list.length≤4194304:=by
          have h9:=hls
          have:(gt script i).list.length≤(script.flatMap (λo=>o.list)).length:=by
            rw [List.length_flatMap]
            exact sum_ge (List.mem_map.2 ⟨_,hm,rfl⟩)
          omega
        unfold m_firthlaw19_PullPlays_b19
        simp only
        cases (gt script i).kind==1 with
        | true=>
          rw [cond_true]
          obtain⟨p',q',b,e3,e4,h'⟩:=step_begin hI (gt script i).vec (gt script i).hashes
          rw [e3,Option.bind_some,e4,Option.bind_some]
          simp only
          rw [bne_self_eq_false]
          exact ok_j20 h' hC hck script i (hoks _ hm) hk1 hl1 hf2
        | false=>
          rw [cond_false]
          exact ok_j20 hI hC hck script i (hoks _ hm) hk1 hl1 hf2
    · rw [e_rNewCut_f 5 hokc hlc (.inl hrc),Option.bind_some]; rfl
  · rw [e_NewPull_f 5 hok hr,Option.bind_some,e_rNewPull_f 5 hok hl hr,Option.bind_some,awake19,Option.bind_some]
    simp only [Bool.not_true,Bool.false_or,Option.isNone_none,bne_self_eq_false,Bool.or_self,cond_false]
    rcases all_or cut with hrc | hrc
    · rw [e_rNewCut_t 5 hokc hlc hrc rfl,Option.bind_some]; rfl
    · rw [e_rNewCut_f 5 hokc hlc (.inl hrc),Option.bind_some]; rfl
theorem op_recOk{Γ:Gh}{A:Option Addr}{l:List Dfirthlaw19_Op}(h:Sl dfirthlaw19_OpT Γ A l):∀o∈l, ∀r∈o.list,RecOk r:=λo ho=>by
  obtain⟨i,hi,rfl⟩:=mem_gt ho
  obtain⟨A1,c1,A2,c2,A3,c3,A4,c4,hh⟩:=h.dfirthlaw19_OpT_at i
  have h2:=(hh hi).1
  exact sl_recOk h2.2.2.2.2.2
theorem ops_len{l:List Dfirthlaw19_Op}(h:bkL Dfirthlaw19_Op.bk l≤1048576):(l.flatMap (λo=>o.list)).length≤1048576:=by
  refine Nat.le_trans ?_ h
  induction l with
  | nil=>exact Nat.zero_le _
  | cons o l ih=>
    have h1:bkL Dfirthlaw19_Op.bk (o::l)=Dfirthlaw19_Op.bk o+bkL Dfirthlaw19_Op.bk l:=by unfold bkL; simp
    rw [h1] at h
    have h2:=ih (by omega)
    have h3:o.list.length≤bkL Rec.bk o.list:=bkL_len rec_bk _
    have h4:bkL Rec.bk o.list≤Dfirthlaw19_Op.bk o:=by unfold Dfirthlaw19_Op.bk; omega
    rw [h1,List.flatMap_cons,List.length_append]; omega
theorem p_firthlaw19_PullPlays{Γ:Gh}{A:Option Addr}{c:Nat}{own:List Rec}(hs:Sl recT Γ A own)(hc:own.length≤c){A2:Option Addr}{c2:Nat}{cut:List Rec}(hs2:Sl recT Γ A2 cut)(hc2:cut.length≤c2){A3:Option Addr}{c3:Nat}{script:List Dfirthlaw19_Op}(hs3:Sl dfirthlaw19_OpT Γ A3 script)(hc3:script.length≤c3)(m1:bkL Rec.bk own≤1048576)(m2:bkL Rec.bk cut≤1048576)(m3:bkL Dfirthlaw19_Op.bk script≤1048576):
    m_firthlaw19_PullPlays own cut script=some true:=plays_law (sl_recOk hs) (recs_len m1) (sl_recOk hs2) (recs_len m2) (op_recOk hs3) (ops_len m3)
end Fw
end Go.Proofs.YtiakfgdgafljnaaGreat
namespace Go.Proofs.YtiakfgdgafljnaaGreat
namespace Fw
set_option linter.unusedVariables false
set_option linter.unusedSimpArgs false
set_option linter.unusedSectionVars false
/-- is this leaf to be told? -/
def lf(own all:List Rec)(d e:Nat):Bool:=decide (d∈difN (kidsV own []) (kidsV all []))&&decide (e∈difN (kidsV own [((d:Nat):Int)]) (kidsV all [((d:Nat):Int)]))
def pend(W:List Wy)(d e:Nat):Prop:=Wy.one d∈W∨Wy.two d e∈W
structure TI (own all:List Rec) (W:List Wy) (S:List Rec):Prop where
  wi:WI W
  one:∀d,Wy.one d∈W→d∈difN (kidsV own []) (kidsV all [])
  two:∀d e,Wy.two d e∈W→lf own all d e=true
  st:∀r,r∈S↔(r∈all∧lf own all (pa r.key) (pb r.key)=true∧¬ pend W (pa r.key) (pb r.key))
theorem lf_1{own all:List Rec}{d e:Nat}(h:lf own all d e=true):d∈difN (kidsV own []) (kidsV all []):=of_decide_eq_true (Bool.and_eq_true_iff.1 h).1
theorem TI.first(own all:List Rec):TI own all (firstW own (kidsV all [])) []:=by
  refine⟨WI.first _ _,λd h=>?_,λd e h=>?_,λr=>⟨λh=>absurd h List.not_mem_nil,λh=>?_⟩⟩
  · obtain⟨d2,hd,h2⟩:=List.mem_map.1 h
    injection h2 with h2; subst h2; exact hd
  · obtain⟨d2,hd,h2⟩:=List.mem_map.1 h
    cases h2
  · exact absurd (.inl (List.mem_map.2 ⟨_,lf_1 h.2.1,rfl⟩)) h.2.2
/-- what is staged in the end -/
def FS(own all:List Rec):List Rec:=all.filter (λr=>lf own all (pa r.key) (pb r.key))
theorem TI.done{own all S:List Rec}(h:TI own all [] S)(hS:SR S)(hs:SR all):S=FS own all:=
  sr_ext hS (sr_filter _ hs) λr=>by
    rw [h.st r]
    unfold FS
    rw [List.mem_filter]
    constructor
    · rintro⟨h1,h2,_⟩; exact⟨h1,h2⟩
    · rintro⟨h1,h2⟩
      refine⟨h1,h2,λh3=>?_⟩
      rcases h3 with h3 | h3 <;> cases h3
end Fw
end Go.Proofs.YtiakfgdgafljnaaGreat
namespace Go.Proofs.YtiakfgdgafljnaaGreat
namespace Fw
set_option linter.unusedVariables false
set_option linter.unusedSimpArgs false
set_option linter.unusedSectionVars false
/-- how many leaves are to be told yet -/
def lw(own all:List Rec):Wy→Nat
  | .one d=>(difN (kidsV own [((d:Nat):Int)]) (kidsV all [((d:Nat):Int)])).length
  | .two _ _=>1
def pl(own all:List Rec)(W:List Wy):Nat:=(W.map (lw own all)).sum
end Fw
end Go.Proofs.YtiakfgdgafljnaaGreat
