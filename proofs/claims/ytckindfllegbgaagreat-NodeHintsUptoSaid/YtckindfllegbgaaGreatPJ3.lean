/- The plain side: what the models come to. No condition. -/
import Derived.Test.YtckindfllegbgaaGreatH1
namespace Go.Proofs.YtckindfllegbgaaGreat
namespace Fw
set_option linter.unusedVariables false
set_option linter.unusedSimpArgs false
set_option linter.unusedSectionVars false
theorem e_partK(key:ByteArray):∃v,m_ring_Part key=some v∧m_firthref12_Part key=some v:=⟨_,e_Part key,e_rPart key⟩
def partOf(key:ByteArray):Int:=(m_ring_Part key).getD 0
theorem e_pt(key:ByteArray):m_ring_Part key=some (partOf key)∧m_firthref12_Part key=some (partOf key):=by
 obtain⟨v,h1,h2⟩:=e_partK key
 unfold partOf
 rw [h1,h2]; exact⟨rfl,rfl⟩
theorem e_under(a b:List Span):∃r,m_firthlaw15_under a b=some r:=by
 unfold m_firthlaw15_under
 obtain⟨r,h,_⟩:=forI_ex (body:=m_firthlaw15_under_b4 a b) (K:=λ_=>some true) (P:=λ_=>True) (l:=a) (λ_ _=>True) (λs _=>⟨_,rfl,trivial⟩) (λf i t hi _ hf=>by
  unfold m_firthlaw15_under_b4
  exact forI_ex (body:=m_firthlaw15_under_b5 a i) (P:=λ_=>True) (l:=b) (λ_ _=>True) (λs _=>by
   cases s with
   | true=>exact hf () trivial
   | false=>exact⟨_,rfl,trivial⟩) (λg j s hj _ hg=>by
   unfold m_firthlaw15_under_b5
   exact hg _ trivial) trivial) (s:=()) trivial
 exact⟨r,h⟩
theorem e_written(a b:List Ver):∃r,m_firthlaw15_written a b=some r:=by
 unfold m_firthlaw15_written
 obtain⟨r,h,_⟩:=forI_ex (body:=m_firthlaw15_written_b4 a b) (K:=λ_=>some true) (P:=λ_=>True) (l:=a) (λ_ _=>True) (λs _=>⟨_,rfl,trivial⟩) (λf i t hi _ hf=>by
  unfold m_firthlaw15_written_b4
  exact forI_ex (body:=m_firthlaw15_written_b5 a b i) (P:=λ_=>True) (l:=b) (λ_ _=>True) (λs _=>hf () trivial) (λg j s hj _ hg=>by
   unfold m_firthlaw15_written_b5
   obtain⟨b1,e1,_⟩:=gcall_ex (p:=λ_=>True) ((gt a i).dot==(gt b j).dot) (x:=m_firthref05_SameOne (gt a i) (gt b j)) ⟨_,Mg.e_SameOne _ _,trivial⟩
   rw [e1,Option.bind_some]
   cases ((gt a i).dot==(gt b j).dot)&&(!b1) with
   | true=>exact⟨_,rfl,trivial⟩
   | false=>
    rw [bif_f rfl,chk_t (decide_eq_true (by omega)),Mg.e_r5Behind,Option.bind_some]
    generalize Mg.r5Behind (List.drop i (List.take (i+1) a)) (gt b j).dot=z
    have hc:imp z (decide (j+1≤b.length))=true:=by rw [decide_eq_true (show j+1≤b.length by omega)]; cases z <;> rfl
    obtain⟨b2,e2,_⟩:=gcall_ex (p:=λ_=>True) z (x:=m_firthref05_Behind (List.drop j (List.take (j+1) b)) (gt a i).dot) ⟨_,Mg.e_r5Behind _ _,trivial⟩
    rw [chk_t hc,e2,Option.bind_some]
    obtain⟨r0,er⟩:=e_under (gt b j).past (gt a i).past
    obtain⟨b3,e3,_⟩:=gcall_ex (p:=λ_=>True) (z&&(!b2)) (x:=m_firthlaw15_under (gt b j).past (gt a i).past) ⟨_,er,trivial⟩
    rw [e3,Option.bind_some]
    cases z&&(b2||(!b3)) with
    | true=>exact⟨_,rfl,trivial⟩
    | false=>exact hg () trivial) trivial) (s:=()) trivial
 exact⟨r,h⟩
theorem e_heavy(l:List Rec):∃r,m_firthlaw15_heavy l=some r:=by
 unfold m_firthlaw15_heavy
 obtain⟨r,h,_⟩:=forI_ex (body:=m_firthlaw15_heavy_b5) (K:=λn=>some n) (P:=λ_=>True) (l:=l) (λ_ _=>True) (λs _=>⟨_,rfl,trivial⟩) (λf i t hi _ hf=>by
  unfold m_firthlaw15_heavy_b5
  exact forI_ex (body:=m_firthlaw15_heavy_b6) (P:=λ_=>True) (l:=(gt l i).vers) (λ_ _=>True) (λs _=>hf s trivial) (λg j s hj _ hg=>by
   unfold m_firthlaw15_heavy_b6
   exact hg _ trivial) trivial) (s:=(0:Int)) trivial
 exact⟨r,h⟩
theorem e_rRec{r:Rec}(h:Mg.VersOk r.vers):∃b,m_firthref06_RightRec r=some b:=by
 unfold m_firthref06_RightRec
 obtain⟨b,e1,_⟩:=gcall_ex (p:=λ_=>True) ((r.key != ByteArray.empty)&&(decide (((r.key.size:Nat):Int)≤32))) (x:=m_firthref05_Right r.vers) ⟨_,Mg.e_r5Right h,trivial⟩
 rw [e1,Option.bind_some]; exact⟨_,rfl⟩
theorem e_plain{l:List Rec}(hl:∀r∈l,Mg.VersOk r.vers):∃b,m_firthlaw15_plain l=some b:=by
 unfold m_firthlaw15_plain
 obtain⟨z,hz⟩:=e_heavy l
 rw [hz,Option.bind_some]
 cases decide (65536<z) with
 | true=>exact⟨_,rfl⟩
 | false=>
  rw [bif_f rfl]
  obtain⟨r,h,_⟩:=forI_ex (body:=m_firthlaw15_plain_b5 l) (K:=λ_=>some true) (P:=λ_=>True) (l:=l) (λ_ _=>True) (λs _=>⟨_,rfl,trivial⟩) (λf i t hi _ hf=>by
   unfold m_firthlaw15_plain_b5
   obtain⟨b,hb⟩:=e_rRec (hl (gt l i) (by rw [gt_eq hi]; exact List.getElem_mem hi))
   rw [hb,Option.bind_some]
   cases (!b)||(decide (512<(w64 (t+(((gt l i).vers.length:Nat):Int))))) with
   | true=>exact⟨_,rfl,trivial⟩
   | false=>
    rw [bif_f rfl]
    exact forI_ex (body:=m_firthlaw15_plain_b6 l i) (P:=λ_=>True) (l:=l) (λ_ _=>True) (λs _=>hf _ trivial) (λg j s hj _ hg=>by
     unfold m_firthlaw15_plain_b6
     obtain⟨w,hw⟩:=e_written (gt l i).vers (gt l j).vers
     obtain⟨b2,e2,_⟩:=gcall_ex (p:=λ_=>True) ((gt l i).key==(gt l j).key) (x:=m_firthlaw15_written (gt l i).vers (gt l j).vers) ⟨_,hw,trivial⟩
     rw [e2,Option.bind_some]
     cases ((gt l i).key==(gt l j).key)&&(!b2) with
     | true=>exact⟨_,rfl,trivial⟩
     | false=>exact hg () trivial) trivial) (s:=(0:Int)) trivial
  exact⟨r,h⟩
theorem e_at(n:Int):m_firthlaw15_at n=some ⟨1,n⟩:=rfl
theorem e_putM{t:Int}(ht:0≤t∧t≤8)(l:List Rec):m_firthlaw15_put t l=some ⟨1,⟨1,0⟩,⟨1,t⟩,5,0,0,0,ByteArray.empty,l,[],[],[],[]⟩:=by
 unfold m_firthlaw15_put
 have h1:i64b t=true:=by unfold i64b; rw [decide_eq_true (show -9223372036854775808≤t by omega),decide_eq_true (show t≤9223372036854775807 by omega)]; rfl
 have h2:i64b 1=true:=by decide
 have h3:i64b 0=true:=by decide
 rw [e_at,Option.bind_some,e_at,Option.bind_some]
 simp only
 rw [h1,h2,h3]; rfl
section
variable {L:List Rec} (hrt:∀r∈L,Rt r)
include hrt
end
section
variable {size life:Int} {R N self:Nat} {e:Dk} {Lo:List Rec} {Lh:Nat→List Rec}
def recsP(l:List Rec)(p:Int):List Rec:=l.filter λr=>decide (p<0)||(partOf r.key==p)
theorem recsP_neg(l:List Rec){p:Int}(h:p<0):recsP l p=l:=by
 unfold recsP
 rw [decide_eq_true h]
 exact List.filter_eq_self.2 λ_ _=>rfl
theorem recs_loopP(p:Int):∀(l:List Rec) (i:Nat) (out:List Rec),out.length+l.length≤lim→forI (m_node_Node_Recs_b4 p) (λout_13=>some out_13) i l out=some (out++recsP l p)
 | [],i,out,_=>by show some out=_; unfold recsP; rw [List.filter_nil,List.append_nil]
 | r::l,i,out,hl=>by
  rw [List.length_cons] at hl
  have ih:=λo (h:o.length+l.length≤lim)=>recs_loopP p l (i+1) o h
  show m_node_Node_Recs_b4 p (forI (m_node_Node_Recs_b4 p) (λout_13=>some out_13) (i+1) l) i r out=_
  generalize forI (m_node_Node_Recs_b4 p) (λout_13=>some out_13) (i+1) l=f at ih ⊢
  unfold m_node_Node_Recs_b4 m_node_Node_Recs_j5
  rw [(e_pt r.key).1]
  unfold recsP
  rw [List.filter_cons]
  cases hp:decide (p<0) with
  | true=>
   show chk (decide (out.length+1≤lim)) (f (out++[r]))=_
   rw [chk_t (decide_eq_true (by omega)),ih _ (by rw [List.length_append,List.length_singleton]; omega)]
   unfold recsP
   rw [hp]
   simp
  | false=>
   show (bif (false||(partOf r.key==p)) then chk (decide (out.length+1≤lim)) (f (out++[r])) else f out)=_
   cases hq:partOf r.key==p with
   | true=>
    rw [bif_t (show (false||true)=true from rfl),chk_t (decide_eq_true (by omega)),ih _ (by rw [List.length_append,List.length_singleton]; omega)]
    unfold recsP
    rw [hp]
    simp
   | false=>
    rw [bif_f (show (false||false)=false from rfl),ih _ (by omega)]
    unfold recsP
    rw [hp]
    simp
theorem e_NRecs(hrt:∀r∈Lo,Rt r)(hn:Lo.length≤lim)(p:Int):m_node_Node_Recs (nd life self size Lo Lh) p=some (recsP (recsOf (keysOf Lo)) p):=by
 unfold m_node_Node_Recs
 rw [show (nd life self size Lo Lh).own=st dN size Lo from rfl,e_RecsS hrt dN size hn,Option.bind_some,recs_loopP p _ 0 [] (by have:=keysOf_len Lo; rw [List.length_nil,recs_len]; omega)]; rfl
theorem H_bad{m:Dapi_Msg}{b:Bool}(hb:m_code_RightMsg m=some b)(hbad:b=false∨m.to_≠⟨1,(self:Int)⟩∨m.from_.site≠1):m_node_Node_Handle (nd life self size Lo Lh) m e=some (nd life self size Lo Lh,e,[]):=by
 unfold m_node_Node_Handle
 rw [hb,Option.bind_some]
 have:(((!b)||(m.to_ != (⟨(nd life self size Lo Lh).self_site,(nd life self size Lo Lh).self_node⟩:Adr)))||(m.from_.site != (nd life self size Lo Lh).self_site))=true:=by
  show (((!b)||(m.to_ != (⟨1,(self:Int)⟩:Adr)))||(m.from_.site != 1))=true
  rcases hbad with h | h | h
  ·rw [h]; rfl
  ·rw [show (m.to_ != (⟨1,(self:Int)⟩:Adr))=true by simp [h]]; cases b <;> rfl
  ·rw [show (m.from_.site != 1)=true by simp [h]]; cases b <;> cases (m.to_ != (⟨1,(self:Int)⟩:Adr)) <;> rfl
 rw [bif_t this]
theorem H_good{m:Dapi_Msg}(hb:m_code_RightMsg m=some true)(ht:m.to_=⟨1,(self:Int)⟩)(hf:m.from_.site=1):(((!true)||(m.to_ != (⟨(nd life self size Lo Lh).self_site,(nd life self size Lo Lh).self_node⟩:Adr)))||(m.from_.site != (nd life self size Lo Lh).self_site))=false:=by
 show (((!true)||(m.to_ != (⟨1,(self:Int)⟩:Adr)))||(m.from_.site != 1))=false
 rw [ht,hf]; simp
theorem H_1(a:Dapi_Msg)(n:Onode_Node)(m:Dapi_Msg):m_node_Node_Handle_1 a n m []=some [⟨a.kind,⟨n.self_site,n.self_node⟩,⟨m.from_.site,m.from_.node⟩,m.id,a.n,a.for_,a.code,a.key,a.recs,a.vec,a.path,a.hashes,a.route⟩]:=by
 unfold m_node_Node_Handle_1
 rw [chk_t (by rw [lim_eq]; decide)]; rfl
variable {f id n:Int} {key:ByteArray}
end
theorem sl_versOk5{Γ:Gh}{A:Option Addr}{l:List Ver}(h:Sl verT Γ A l):Mg.VersOk l:=by
 refine⟨h.le,λv hv=>?_⟩
 obtain⟨j,hj,rfl⟩:=List.getElem_of_mem hv
 rw [← gt_eq hj]
 obtain⟨A2,c2,h2⟩:=h.verT_at j
 obtain⟨a1,a2,a3,a4⟩:=(h2 hj).1
 refine⟨⟨a1,a2⟩,a3.2.le,λx hx=>?_,a4⟩
 obtain⟨k,hk,rfl⟩:=List.getElem_of_mem hx
 rw [← gt_eq hk]
 exact(a3.2.spanT_at hk).1.2.1
theorem sl_recOk5{Γ:Gh}{A:Option Addr}{l:List Rec}(h:Sl recT Γ A l):∀r∈l,Mg.VersOk r.vers:=λr hr=>by
 obtain⟨j,hj,rfl⟩:=List.getElem_of_mem hr
 rw [← gt_eq hj]
 obtain⟨A2,c2,h2⟩:=h.recT_at j
 exact sl_versOk5 (h2 hj).1.2.2
theorem rec_len5{l:List Rec}(hb:bkL Rec.bk l≤1048576):l.length≤1048576:=Nat.le_trans (bkL_len (λr=>by unfold Rec.bk; omega) l) hb
theorem forI_any{α:Type}{body:(Unit→Option Bool)→Nat→α→Unit→Option Bool}{bad:α→Bool}{K:Unit→Option Bool}:∀{l:List α} (i:Nat),(∀f i x,x∈l→body f i x ()=bif bad x then some false else f ())→forI body K i l ()=bif l.any bad then some false else K ()
 | [],i,_=>rfl
 | x::l,i,h=>by
  have ih:=forI_any (K:=K) (l:=l) (i+1) λf j y hy=>h f j y (List.mem_cons_of_mem _ hy)
  show body (forI body K (i+1) l) i x ()=_
  rw [h _ _ _ List.mem_cons_self,List.any_cons,ih]
  cases bad x <;> rfl
def rrB(r:Rec):Bool:=((decide (1≤((r.key.size:Nat):Int)))&&(decide (((r.key.size:Nat):Int)≤32)))&&Mg.r5Right r.vers
theorem rr_c{r:Rec}(hv:Mg.VersOk r.vers):m_code_RightRec r=some (rrB r):=by
 unfold m_code_RightRec rrB
 rw [Mg.e_Right5 hv.1,gcall_s,Option.bind_some,Mg.right_eq]
 cases ((decide (1≤((r.key.size:Nat):Int)))&&(decide (((r.key.size:Nat):Int)≤32))) <;> rfl
def badR(r:Rec):Bool:=!rrB r
theorem all_r{l:List Rec}(hv:∀r∈l,Mg.VersOk r.vers):m_code_all_api_Rec l ((l.length:Nat):Int)=some (!l.any badR):=by
 unfold m_code_all_api_Rec
 refine(forI_any (bad:=badR) 0 λf i x hx=>?_).trans ?_
 ·unfold m_code_all_api_Rec_b1 badR
  rw [rr_c (hv x hx)]; rfl
 ·rw [decide_eq_true (Int.le_refl _)]
  cases l.any badR <;> rfl
section
variable {size life:Int} {self:Nat} {Lo:List Rec}
end
namespace Mg
theorem fold_mem6{a b:List Ver}(ha:r5Right a=true)(hb:r5Right b=true)(ht:¬ Twin a b){y:Ver}:y∈r5Fold b a (r5Fold a b [])↔(y∈a∨y∈b)∧r5Behind a y.dot=false∧r5Behind b y.dot=false:=by
 rw [← merge_lists ha hb ht]
 obtain⟨_,ha1,ha2⟩:=right_iff ha
 obtain⟨_,hb1,hb2⟩:=right_iff hb
 have hk:kept a b y=true↔r5Behind a y.dot=false∧r5Behind b y.dot=false:=by unfold kept; simp
 rw [← hk]
 constructor
 ·intro h
  rcases go_sub h with h | h
  ·cases h
  ·exact h
 ·intro h; exact go_has ha2 hb2 (Nat.le_refl _) ht (.inr h)
theorem merge_ext{a b v:List Ver}(ha:r5Right a=true)(hb:r5Right b=true)(ht:¬ Twin a b)(hv:r5Right v=true)(h:∀y,((y∈a∨y∈b)∧r5Behind a y.dot=false∧r5Behind b y.dot=false)↔y∈v):r5Merge a b=(v,0):=by
 obtain⟨h1,_,h3⟩:=right_iff hv
 have hf:r5Fold b a (r5Fold a b [])=v:=srt_ext (fold_srt (fold_srt (by simp [Srt]))) h3 λy=>(fold_mem6 ha hb ht).trans (h y)
 have htb:r5Twin a b=false:=by
  cases h:r5Twin a b
  ·rfl
  ·exact absurd (r5Twin_iff.1 h) ht
 unfold r5Merge
 rw [ha,hb,htb,hf]
 simp only [Bool.not_true,Bool.or_self,cond_false]
 rw [show decide ((512:Int)<(v.length:Int))=false by rw [decide_eq_false_iff_not]; omega]
 rfl
theorem no_behind{v:List Ver}(hv:r5Right v=true){y:Ver}(hy:y∈v):r5Behind v y.dot=false:=((right_iff hv).2.1 y hy).2
theorem merge_self{v:List Ver}(hv:r5Right v=true):vsMerge v v=(v,0):=by
 rw [merge_eq]
 refine merge_ext hv hv (λ⟨x,hx,z,hz,hd,hne⟩=>hne (srt_inj (right_iff hv).2.2 hx hz hd)) hv λy=>⟨λh=>h.1.elim id id,λh=>⟨.inl h,no_behind hv h,no_behind hv h⟩⟩
theorem merge_new{v:List Ver}(hv:r5Right v=true):vsMerge [] v=(v,0):=by
 rw [merge_eq]
 exact merge_ext (by decide) hv (λ⟨x,hx,_⟩=>by cases hx) hv λy=>⟨λh=>h.1.elim (λh=>by cases h) id,λh=>⟨.inr h,rfl,no_behind hv h⟩⟩
theorem merge_old{v:List Ver}:vsMerge v []=(v,0)∨(vsMerge v []).2≠0:=by
 cases hv:r5Right v with
 | true=>
  rw [merge_eq]
  exact .inl (merge_ext hv (by decide) (λ⟨x,hx,z,hz,_⟩=>by cases hz) hv λy=>⟨λh=>h.1.elim id (λh=>by cases h),λh=>⟨.inl h,no_behind hv h,rfl⟩⟩)
 | false=>
  rw [merge_eq]
  unfold r5Merge
  rw [hv]
  exact .inr (by show (1:Int)≠0; decide)
theorem same_self(v:List Ver):vsSameL v v=true:=by rw [sameL_eq]; exact r5Same_iff.2 rfl
theorem lacks_self{v:List Ver}(hv:r5Right v=true):vsLacks v v=false:=by
 unfold vsLacks
 rw [merge_self hv,same_self]; rfl
end Mg
def wv(v:Ver):Nat:=128+v.val.size+32*v.past.length
def wl(l:List Ver):Nat:=(l.map wv).sum
def hv(r:Rec):Nat:=64+r.key.size+wl r.vers
theorem wl_cons(v:Ver)(l:List Ver):wl (v::l)=wv v+wl l:=rfl
theorem wl_append(a b:List Ver):wl (a++b)=wl a+wl b:=by unfold wl; rw [List.map_append,List.sum_append]
theorem wl_erase{v:Ver}{l:List Ver}(h:v∈l):wl l=wv v+wl (l.erase v):=by
 have:=(List.perm_cons_erase h).map wv
 unfold wl
 rw [this.sum_nat]; rfl
theorem wl_sub:∀{l m:List Ver},l.Nodup→(∀x∈l,x∈m)→wl l≤wl m
 | [],m,_,_=>Nat.zero_le _
 | x::l,m,hn,h=>by
  obtain⟨h1,h2⟩:=List.nodup_cons.1 hn
  have hx:=h x List.mem_cons_self
  have ih:=wl_sub (l:=l) (m:=m.erase x) h2 λy hy=>(List.mem_erase_of_ne (λe:y=x=>h1 (e▸hy))).2 (h y (List.mem_cons_of_mem _ hy))
  rw [wl_cons,wl_erase hx]; omega
theorem srt_nd{l:List Ver}(h:Mg.Srt l):l.Nodup:=List.Pairwise.imp (λ{a b} hab e=>by rw [e,Mg.less_irr] at hab; cases hab) h
theorem wl_merge(a b:List Ver):wl (Mg.vsMerge a b).1≤wl a+wl b:=by
 rw [Mg.merge_eq, ← wl_append]
 refine wl_sub ?_ λx hx=>List.mem_append.2 (Mg.merge_mem hx)
 unfold Mg.r5Merge
 cases ((!(Mg.r5Right a))||(!(Mg.r5Right b))) with
 | true=>exact List.nodup_nil
 | false=>
  rw [cond_false]
  cases Mg.r5Twin a b with
  | true=>exact List.nodup_nil
  | false=>
   rw [cond_false]
   cases decide ((512:Int)<((Mg.r5Fold b a (Mg.r5Fold a b [])).length:Int)) with
   | true=>exact List.nodup_nil
   | false=>exact srt_nd (Mg.fold_srt (Mg.fold_srt (by simp [Mg.Srt])))
theorem sp_flat:∀{l:List Span},(∀x∈l,SpOk x)→((l.map spB).flatten).length≤27*l.length:=λh=>flat_le λx hx=>spB_len (h x hx)
theorem veB_w{v:Ver}(h:VeOk v):(veB v).length≤wv v:=by
 have a:=pz_len (n:=v.dot.s) (by have:=h.s; omega)
 have b:=pz_len (n:=v.dot.n) h.n.2
 have hp:=h.pl
 have c:=pz_len (n:=(v.past.length:Int)) (by omega)
 have d:=sp_flat h.past
 have e1:=pz_len (n:=1) (by omega)
 have e0:=pz_len (n:=0) (by omega)
 have hvv:=h.val
 have f:(txB v.val).length≤9+v.val.size:=by
  have a:=pz_len (n:=(v.val.size:Int)) (by omega)
  have b:v.val.data.toList.length=v.val.size:=rfl
  unfold txB; simp only [List.length_append]; omega
 have g:(bif v.gone then pz 1 else pz 0++txB v.val).length≤18+v.val.size:=by cases v.gone <;> simp only [cond_true,cond_false,List.length_append] <;> omega
 unfold veB spsB wv; simp only [List.length_append]; omega
theorem ves_flat:∀{l:List Ver},(∀x∈l,VeOk x)→((l.map veB).flatten).length≤wl l
 | [],_=>Nat.le_refl _
 | v::l,h=>by
  have h1:=veB_w (h v List.mem_cons_self)
  have h2:=ves_flat (l:=l) λx hx=>h x (List.mem_cons_of_mem _ hx)
  rw [List.map_cons,List.flatten_cons,List.length_append,wl_cons]; omega
theorem reB_w{r:Rec}(h:ReOk r):(reB r).length≤27+r.key.size+wl r.vers:=by
 have hk:=h.key
 have hvl:=h.vl
 have a:(txB r.key).length≤9+r.key.size:=by
  have a:=pz_len (n:=(r.key.size:Int)) (by omega)
  have b:r.key.data.toList.length=r.key.size:=rfl
  unfold txB; simp only [List.length_append]; omega
 have c:=pz_len (n:=(r.vers.length:Int)) (by omega)
 have d:=ves_flat h.vers
 unfold reB vesB; simp only [List.length_append]; omega
theorem fr_w{r:Rec}(h:ReOk r):(fr (reB r)).length≤hv r:=by
 have h1:=reB_w h
 have h2:=reB_len h
 have h3:=pn_len 8 (reB r).length (by omega)
 rw [fr_len]; unfold hv; omega
theorem gvs_snoc{L:List Rec}{r:Rec}(hr:Rt r)(hrt:∀x∈L,Rt x)(k:ByteArray):gvs (L++[r]) k=if k=r.key then r.vers else gvs L k:=by
 have hki:=KI.of hrt
 have hd:decV (reB r)=r.vers:=by unfold decV; rw [e_Rec hr.2 hr.1]
 have h0:decV [] = []:=by unfold decV; rw [e_Rec_nil]
 unfold gvs
 rw [keysOf_snoc]
 unfold layM
 by_cases hvv:r.vers = []
 ·rw [if_pos hvv,mget_mdel hki.nk]
  by_cases hk:k=r.key
  ·rw [if_pos hk,if_pos hk,Option.getD_none,h0,hvv]
  ·rw [if_neg hk,if_neg hk]
 ·rw [if_neg hvv,mget_mput,mget_mdel hki.nk]
  by_cases hk:k=r.key
  ·rw [if_pos hk,if_pos hk,Option.getD_some,hd]
  ·rw [if_neg hk,if_neg hk,if_neg hk]
theorem gvs_nil(k:ByteArray):gvs [] k = []:=by
 show decV [] = []
 unfold decV; rw [e_Rec_nil]
theorem gvs_in{L:List Rec}(hrt:∀x∈L,Rt x){k:ByteArray}(h:gvs L k≠[]):(⟨k,gvs L k⟩:Rec)∈L:=by
 have key:∀n (L:List Rec),L.length=n→(∀x∈L,Rt x)→gvs L k≠[]→(⟨k,gvs L k⟩:Rec)∈L:=by
  intro n
  induction n with
  | zero=>intro L hL _ h; rw [List.length_eq_zero_iff.1 hL] at h; exact absurd (gvs_nil k) h
  | succ n ih=>
   intro L hL hrt h
   have hne:L≠[]:=λe=>by rw [e] at hL; cases hL
   have hs:=List.dropLast_concat_getLast hne
   generalize hx:L.getLast hne=x at hs
   generalize hM:L.dropLast=M at hs
   subst hs
   rw [List.length_append,List.length_singleton] at hL
   have hrx:=hrt x (by simp)
   have hrM:∀y∈M,Rt y:=λy hy=>hrt y (by simp [hy])
   rw [gvs_snoc hrx hrM] at h ⊢
   by_cases hk:k=x.key
   ·rw [if_pos hk] at h ⊢
    subst hk
    exact List.mem_append_right _ (List.mem_singleton.2 rfl)
   ·rw [if_neg hk] at h ⊢
    exact List.mem_append_left _ (ih M (by omega) hrM h)
 exact key L.length L rfl hrt h
def ssum(L:List Rec):Nat:=(L.map λr=>(fr (reB r)).length).sum
theorem ssum_snoc(L:List Rec)(r:Rec):ssum (L++[r])=ssum L+(fr (reB r)).length:=by
 unfold ssum; rw [List.map_append,List.sum_append]; rfl
theorem ssum_sub:∀{l m:List Rec},l.Nodup→(∀x∈l,x∈m)→ssum l≤ssum m
 | [],m,_,_=>Nat.zero_le _
 | x::l,m,hn,h=>by
  obtain⟨h1,h2⟩:=List.nodup_cons.1 hn
  have hx:=h x List.mem_cons_self
  have ih:=ssum_sub (l:=l) (m:=m.erase x) h2 λy hy=>(List.mem_erase_of_ne (λe:y=x=>h1 (e▸hy))).2 (h y (List.mem_cons_of_mem _ hy))
  have hp:=((List.perm_cons_erase hx).map λr=>(fr (reB r)).length).sum_nat
  unfold ssum at ih ⊢
  rw [hp]
  simp only [List.map_cons,List.sum_cons]
  omega
def totW:Nat→List Rec→Nat
 | _,[]=>0
 | h,r::l=>if r.vers = [] then totW h l else (h+hv r)+totW (h+hv r) l
def cntW(l:List Rec):Nat:=(l.filter λr=>decide (r.vers≠[])).length
def sumW:List Rec→Nat
 | []=>0
 | r::l=>if r.vers = [] then sumW l else hv r+sumW l
theorem wl_pos{l:List Ver}(h:l≠[]):128≤wl l:=by
 cases l with
 | nil=>exact absurd rfl h
 | cons v l=>rw [wl_cons]; unfold wv; omega
theorem cnt_sum:∀l:List Rec,192*cntW l≤sumW l
 | []=>Nat.le_refl _
 | r::l=>by
  have ih:=cnt_sum l
  unfold cntW at *
  rw [List.filter_cons]
  by_cases h:r.vers = []
  ·have e2:sumW (r::l)=sumW l:=by rw [sumW,if_pos h]
   rw [e2,if_neg (by simp [h])]; exact ih
  ·have e2:sumW (r::l)=hv r+sumW l:=by rw [sumW,if_neg h]
   rw [e2,if_pos (by simp [h]),List.length_cons]
   have:=wl_pos h
   unfold hv; omega
def tri:Nat→Nat
 | 0=>0
 | n+1=>tri n+192*n
theorem totW_le:∀(l:List Rec) (h:Nat),totW h l+tri (cntW l)≤cntW l*(h+sumW l)
 | [],h=>Nat.zero_le _
 | r::l,h=>by
  by_cases hr:r.vers = []
  ·have ih:=totW_le l h
   have e1:cntW (r::l)=cntW l:=by unfold cntW; rw [List.filter_cons,if_neg (by simp [hr])]
   have e2:sumW (r::l)=sumW l:=by rw [sumW,if_pos hr]
   have e3:totW h (r::l)=totW h l:=by rw [totW,if_pos hr]
   rw [e1,e2,e3]; exact ih
  ·have ih:=totW_le l (h+hv r)
   have hc:=cnt_sum l
   have e1:cntW (r::l)=cntW l+1:=by unfold cntW; rw [List.filter_cons,if_pos (by simp [hr]),List.length_cons]
   have e2:sumW (r::l)=hv r+sumW l:=by rw [sumW,if_neg hr]
   have e3:totW h (r::l)=(h+hv r)+totW (h+hv r) l:=by rw [totW,if_neg hr]
   rw [e1,e2,e3,Nat.add_mul,Nat.one_mul,show h+(hv r+sumW l)=h+hv r+sumW l by omega]
   show _+(tri (cntW l)+192*cntW l)≤_
   generalize cntW l*(h+hv r+sumW l)=A at ih ⊢
   omega
theorem tri_ok:∀n,n<342→n*65536≤11300000+tri n:=by decide +kernel
theorem totW_ok{l:List Rec}(h:sumW l≤65536):totW 0 l≤11300000∧cntW l≤341:=by
 have h1:=totW_le l 0
 have h2:=cnt_sum l
 have h3:=tri_ok (cntW l) (by omega)
 have h4:cntW l*(0+sumW l)≤cntW l*65536:=Nat.mul_le_mul_left _ (by omega)
 omega
section
variable {size:Int} {R:Nat} {nm:ByteArray}
set_option maxRecDepth 20000 in
theorem e_nlayS(hR:R≤MX)(hs0:0≤size)(hs1:size≤9223372036854775807):∀(l:List Rec) (i N:Nat) (e:Dk) (S:Tab) (L:List Rec) (h:Nat),NdI size R N e S→S nm=some L→(∀r∈l,Mg.VersOk r.vers)→N+l.length≤lim→(∀k,wl (gvs L k)≤h) →
  ∃L' e' c,forI (m_node_lay_b4) (λ(o3,o6)=>(some (o3,o6,(0:Int)))) i l (st nm size L,e)=some (st nm size L',e',c)∧NdI size R (N+l.length) e' (upd1 S nm L')∧Fw.sz e'.seen+ssum L=Fw.sz e.seen+ssum L'∧ssum L'≤ssum L+totW h l∧L'.length≤L.length+cntW l
 | [],i,N,e,S,L,h,hd,hS,_,_,_=>⟨L,e,0,rfl,hd.tab (upd1_same hS),rfl,Nat.le_refl _,Nat.le_refl _⟩
 | r::l,i,N,e,S,L,h,hd,hS,hvv,hN,hw=>by
  rw [List.length_cons] at hN ⊢
  have hg:=hd.g nm L hS
  have ha:=gvs_ok hg.rt r.key
  have hb:=hvv r List.mem_cons_self
  show ∃L' e' c,m_node_lay_b4 (forI m_node_lay_b4 (λ(o3,o6)=>(some (o3,o6,(0:Int)))) (i+1) l) i r (st nm size L,e)=_∧_
  have rest:∀M e1 L1 h1,N≤M→M≤N+1→NdI size R M e1 (upd1 S nm L1)→(∀k,wl (gvs L1 k)≤h1)→Fw.sz e1.seen+ssum L=Fw.sz e.seen+ssum L1→ssum L1+totW h1 l≤ssum L+totW h (r::l)→L1.length+cntW l≤L.length+cntW (r::l)→∃L' e' c,forI m_node_lay_b4 (λ(o3,o6)=>(some (o3,o6,(0:Int)))) (i+1) l (st nm size L1,e1)=some (st nm size L',e',c)∧NdI size R (N+(l.length+1)) e' (upd1 S nm L')∧Fw.sz e'.seen+ssum L=Fw.sz e.seen+ssum L'∧ssum L'≤ssum L+totW h (r::l)∧L'.length≤L.length+cntW (r::l):=by
   intro M e1 L1 h1 hM hM2 q0 q1 q2 q3 q4
   obtain⟨L',e',c,p1,p2,p3,p4,p5⟩:=e_nlayS hR hs0 hs1 l (i+1) M e1 (upd1 S nm L1) L1 h1 q0 (by unfold upd1; rw [if_pos rfl]) (λx hx=>hvv x (List.mem_cons_of_mem _ hx)) (by omega) q1
   rw [upd1_upd1] at p2
   exact⟨L',e',c,p1,p2.mono (by omega),by omega,by omega,by omega⟩
  generalize forI m_node_lay_b4 (λ(o3,o6)=>(some (o3,o6,(0:Int)))) (i+1) l=f at rest ⊢
  unfold m_node_lay_b4 m_node_lay_j5
  simp only
  rw [e_GetS hg.rt,Option.bind_some,Mg.e_Merge ha hb,Option.bind_some,Mg.e_vsSameL,gcall_s,Option.bind_some]
  have h0:=hd.tab (upd1_same hS)
  have hwm:=wl_merge (gvs L r.key) r.vers
  have hold:=Mg.merge_old (v:=gvs L r.key)
  generalize hz:Mg.vsMerge (gvs L r.key) r.vers=z at hwm
  have hzl:z.1.length≤lim:=by
   have:=Mg.merge_len (gvs L r.key) r.vers
   rw [← Mg.merge_eq,hz] at this
   rw [lim_eq]; omega
  have tot0:totW h l≤totW h (r::l)→True:=λ_=>trivial
  cases hc:((z.2==0)&&!(bif z.2==0 then Mg.vsSameL z.1 (gvs L r.key) else default)) with
  | true=>
   rw [bif_t rfl]
   have hrv:r.vers≠[]:=λe=>by
    rw [e] at hz
    rcases hold with ho | ho
    ·rw [hz] at ho
     rw [ho,show ((gvs L r.key,(0:Int)).2==0)=true from rfl,cond_true,Mg.same_self] at hc
     cases hc
    ·rw [hz] at ho
     rw [show (z.2==0)=false from beq_eq_false_iff_ne.2 ho] at hc
     cases hc
   have et:totW h (r::l)=(h+hv r)+totW (h+hv r) l:=by rw [totW,if_neg hrv]
   have ec:cntW (r::l)=cntW l+1:=by unfold cntW; rw [List.filter_cons,if_pos (by simp [hrv]),List.length_cons]
   obtain⟨L1,e1,c1,p1,p2,p3,p4,p5,_⟩:=hd.put hS hR hs0 hs1 (by omega) (r:=⟨r.key,z.1⟩) hzl
   rw [p1,Option.bind_some]
   simp only
   cases hc1:(c1 != 0) with
   | true=>
    rw [bif_t rfl]
    obtain⟨rfl,rfl⟩:=p5 (by simpa using hc1)
    exact⟨L1,e1,c1,rfl,p2.mono (by omega),rfl,by omega,by omega⟩
   | false=>
    rw [bif_f rfl]
    obtain⟨rfl,hr2,hsz⟩:=p4 (by simpa using hc1)
    have hfw:=fr_w hr2.2
    have hk:=hw r.key
    have hvr:hv ⟨r.key,z.1⟩≤h+hv r:=by unfold hv; simp only; omega
    refine rest (N+1) e1 _ (h+hv r) (by omega) (Nat.le_refl _) p2 (λk=>?_) (by rw [hsz,ssum_snoc]; omega) (by rw [ssum_snoc,et]; omega) (by rw [List.length_append,List.length_singleton,ec]; omega)
    rw [gvs_snoc hr2 hg.rt]
    split
    ·show wl z.1≤_
     unfold hv; omega
    ·have:=hw k; omega
  | false=>
   have tle:totW h l≤totW h (r::l):=by
    rw [totW]
    split
    ·exact Nat.le_refl _
    ·have mono:∀(l:List Rec) (a b:Nat),a≤b→totW a l≤totW b l:=by
      intro l
      induction l with
      | nil=>intro a b _; exact Nat.le_refl _
      | cons x l ih=>
       intro a b hab
       rw [totW,totW]
       split
       ·exact ih a b hab
       ·have:=ih (a+hv x) (b+hv x) (by omega); omega
     have:=mono l h (h+hv r) (by omega); omega
   have cle:cntW l≤cntW (r::l):=by
    unfold cntW
    rw [List.filter_cons]
    split
    ·rw [List.length_cons]; omega
    ·exact Nat.le_refl _
   rw [bif_f rfl]
   cases hc1:(z.2 != 0) with
   | true=>rw [bif_t rfl]; exact⟨L,e,z.2,rfl,h0.mono (by omega),rfl,by omega,by omega⟩
   | false=>rw [bif_f rfl]; exact rest N e L h (Nat.le_refl _) (by omega) h0 hw rfl (by omega) (by omega)
end
theorem srt_ext7{α:Type}{R:α→α→Prop}(irr:∀a,¬ R a a)(tr:∀a b c,R a b→R b c→R a c):∀{l m:List α},l.Pairwise R→m.Pairwise R→(∀x,x∈l↔x∈m)→l=m
 | [],[],_,_,_=>rfl
 | [],y::m,_,_,h=>absurd ((h y).2 (by simp)) (by simp)
 | x::l,[],_,_,h=>absurd ((h x).1 (by simp)) (by simp)
 | x::l,y::m,hl,hm,h=>by
  obtain⟨hx,hl2⟩:=List.pairwise_cons.1 hl
  obtain⟨hy,hm2⟩:=List.pairwise_cons.1 hm
  have hxy:x=y:=by
   rcases List.mem_cons.1 ((h x).1 (by simp)) with e | e
   ·exact e
   ·rcases List.mem_cons.1 ((h y).2 (by simp)) with e2 | e2
    ·exact e2.symm
    ·exact absurd (tr _ _ _ (hy x e) (hx y e2)) (irr _)
  subst hxy
  congr 1
  refine srt_ext7 irr tr hl2 hm2 λz=>?_
  constructor
  ·intro hz
   rcases List.mem_cons.1 ((h z).1 (List.mem_cons_of_mem _ hz)) with e | e
   ·subst e; exact absurd (hx z hz) (irr _)
   ·exact e
  ·intro hz
   rcases List.mem_cons.1 ((h z).2 (List.mem_cons_of_mem _ hz)) with e | e
   ·subst e; exact absurd (hy z hz) (irr _)
   ·exact e
def kle(a b:ByteArray):Prop:=a.data.toList≤b.data.toList∧a≠b
theorem skeys_srt7{β:Type}{es:List (ByteArray×β)}(hn:NK es):(skeys es).Pairwise kle:=by
 have hnd:=skeys_nd hn
 have hs:(skeys es).Pairwise λa b=>a.data.toList≤b.data.toList:=by
  unfold skeys
  rw [List.pairwise_map]
  have hs:=List.pairwise_mergeSort (le:=λx y:List UInt8=>decide (x≤y)) (λa b c h1 h2=>by
   simp only [decide_eq_true_eq] at *; exact List.le_trans h1 h2) (λa b=>by
   simp only [Bool.or_eq_true,decide_eq_true_eq]; exact List.le_total a b) (es.map (λp=>p.1.data.toList))
  exact hs.imp λ{a b} h=>of_decide_eq_true h
 exact hs.and hnd
theorem skeys_ext{β:Type}{a b:List (ByteArray×β)}(ha:NK a)(hb:NK b)(h:∀k,(mget k a).isSome=(mget k b).isSome):skeys a=skeys b:=
 srt_ext7 (λa h=>h.2 rfl) (λa b c h1 h2=>⟨List.le_trans h1.1 h2.1,λe=>by
  subst e; exact h1.2 (ba_inj (List.le_antisymm h1.1 h2.1))⟩) (skeys_srt7 ha) (skeys_srt7 hb) λk=>by rw [mem_skeys,mem_skeys, ← mget_isSome, ← mget_isSome,h]
section
variable {A B:List Rec} (ha:∀r∈A,Rt r) (hb:∀r∈B,Rt r)
include ha in
theorem some_iff(k:ByteArray):(mget k (keysOf A)).isSome=decide (gvs A k≠[]):=by
 rcases gvs_cases ha k with ⟨h,h2⟩ | ⟨r,_,_,hv,h,h2⟩
 ·rw [h,h2]; rfl
 ·rw [h,h2,decide_eq_true hv]; rfl
include ha hb in
theorem recs_ext(h:∀k,gvs A k=gvs B k):recsOf (keysOf A)=recsOf (keysOf B):=by
 have hk:skeys (keysOf A)=skeys (keysOf B):=skeys_ext (KI.of ha).nk (KI.of hb).nk λk=>by rw [some_iff ha,some_iff hb,h]
 show (skeys (keysOf A)).map (λk=>(⟨k,gvs A k⟩:Rec))=(skeys (keysOf B)).map λk=>(⟨k,gvs B k⟩:Rec)
 rw [hk]
 exact List.map_congr_left λk _=>by rw [h]
include ha in
theorem recs_in{r:Rec}:r∈recsOf (keysOf A)↔gvs A r.key≠[]∧r.vers=gvs A r.key:=by
 show r∈(skeys (keysOf A)).map (λk=>(⟨k,gvs A k⟩:Rec))↔_
 rw [List.mem_map]
 constructor
 ·rintro⟨k,hk,rfl⟩
  rw [mem_skeys, ← mget_isSome,some_iff ha,decide_eq_true_eq] at hk
  exact⟨hk,rfl⟩
 ·rintro⟨h1,h2⟩
  refine⟨r.key,?_,?_⟩
  ·rw [mem_skeys, ← mget_isSome,some_iff ha,decide_eq_true_eq]; exact h1
  ·rw [← h2]
include ha in
theorem recs_none(h:∀k,gvs A k = []):recsOf (keysOf A) = []:=List.eq_nil_iff_forall_not_mem.2 λr hr=>((recs_in ha).1 hr).1 (h _)
include ha in
theorem recs_kd:(recsOf (keysOf A)).Pairwise λa b=>a.key≠b.key:=recs_nd (KI.of ha)
end
def LhA(Ln:List Rec):Nat→List Rec:=updH (λ_=>[]) 4 Ln
theorem LhA_4(Ln:List Rec):LhA Ln 4=Ln:=by unfold LhA updH; exact if_pos rfl
theorem LhA_ne(Ln:List Rec){f:Nat}(h:f≠4):LhA Ln f = []:=if_neg h
theorem LhA_nil:LhA []=λ_=>[]:=by
 funext g
 by_cases h:g=4
 ·rw [h]; rfl
 ·exact LhA_ne [] h
theorem LhA_up(Ln L:List Rec):updH (LhA Ln) 4 L=LhA L:=by
 funext g
 by_cases h:g=4
 ·rw [h,LhA_4]; exact if_pos rfl
 ·rw [LhA_ne L h]
  show (if g=4 then L else LhA Ln g) = []
  rw [if_neg h,LhA_ne Ln h]
abbrev nA(Ln:List Rec):Onode_Node:=nd 3 1 500 [] (LhA Ln)
abbrev nO(Lo:List Rec):Onode_Node:=nd 3 4 500 Lo λ_=>[]
def msgT(r:Rec):Dapi_Msg:=⟨1,⟨1,1⟩,⟨1,4⟩,0,0,0,0,ByteArray.empty,[r],[],[],[],[]⟩
def ansT(r:Rec):Dapi_Msg:=⟨2,⟨1,4⟩,⟨1,1⟩,0,3,0,0,ByteArray.empty,[r],[],[],[],[]⟩
theorem mem4:4∈hl 1:=mem_hl.2 ⟨by decide,by decide,by decide⟩
theorem get4(Ln:List Rec):mget 4 (nA Ln).hints=some (st (hn 4) 500 Ln):=by
 have h:=mget_hin (size:=500) (Lh:=LhA Ln) 4 (hl 1)
 rw [if_pos mem4,LhA_4] at h
 exact h
theorem put4(Ln L:List Rec):mput 4 (st (hn 4) 500 L) (nA Ln).hints=hin 500 (LhA L) (hl 1):=by
 have h:=mput_hin (size:=500) (Lh:=LhA Ln) (f:=4) L mem4 (hl_nd 1)
 rw [LhA_up] at h
 exact h
theorem tab4(Ln:List Rec):tab [] (LhA Ln) (hn 4)=some Ln:=by
 rw [tab_h (by decide) (by decide),LhA_4]
theorem up4(Ln L:List Rec):upd1 (tab [] (LhA Ln)) (hn 4) L=tab [] (LhA L):=by rw [upd_h (by decide) (by decide),LhA_up]
theorem e_nown{l:List Rec}(hl:∀r∈l,Mg.VersOk r.vers)(hll:l.length≤lim):m_node_own l=some l:=by
 unfold m_node_own
 have:=forI_inv (body:=m_node_own_b4) (k:=λout_3=>some out_3) (l:=l) (λi s=>some (s++l.drop i)) (λi s=>s=l.take i) (λs hs=>by rw [List.drop_of_length_le (Nat.le_refl _),List.append_nil]) (λf i s hi hs hf=>by
  unfold m_node_own_b4
  have hv:=hl (gt l i) (by rw [gt_eq hi]; exact List.getElem_mem hi)
  refine(forI_inv (body:=m_node_own_b5) (l:=(gt l i).vers) (λj t=>f (s++[⟨(gt l i).key,t++(gt l i).vers.drop j⟩])) (λj t=>t=(gt l i).vers.take j) (λt ht=>?_) (λg j t hj ht hg=>?_) (s:=[]) rfl).trans ?_
  ·rw [chk_t (decide_eq_true (by rw [hs,List.length_take]; omega)),List.drop_of_length_le (Nat.le_refl _),List.append_nil]
  ·unfold m_node_own_b5
   have hvj:=hv.2 (gt (gt l i).vers j) (by rw [gt_eq hj]; exact List.getElem_mem hj)
   have hl1:=hv.1
   rw [chk_t (decide_eq_true (by have:=hvj.len; omega)),chk_t (decide_eq_true (by rw [ht,List.length_take]; omega)),hg _ (by rw [ht,take_gt hj]),List.append_assoc,drop_gt hj]; rfl
  ·rw [List.nil_append,List.drop_zero,hf _ (by rw [hs,take_gt hi]),List.append_assoc,drop_gt hi]; rfl) (s:=[]) rfl
 rw [this]; rfl
theorem Rt.rb{r:Rec}(h:Rt r):rrB r=true:=by
 have h1:=h.1
 rw [rr_c (vers_ok h.2)] at h1
 exact Option.some.inj h1
theorem Rt.rr{r:Rec}(h:Rt r):Mg.r5Right r.vers=true:=(Bool.and_eq_true_iff.1 h.rb).2
theorem e_RM1{k n f t:Int}{r:Rec}(hr:Rt r)(h1:1≤k∧k≤17)(hn:0≤n)(hf:0≤f∧f≤8)(ht:0≤t∧t≤8):m_code_RightMsg ⟨k,⟨1,f⟩,⟨1,t⟩,0,n,0,0,ByteArray.empty,[r],[],[],[],[]⟩=some true:=by
 have ha:m_code_all_api_Rec [r] (([r].length:Nat):Int)=some true:=by
  rw [all_r λx hx=>by rw [List.mem_singleton.1 hx]; exact vers_ok hr.2]
  show some (!(badR r||false))=_
  unfold badR
  rw [hr.rb]; rfl
 unfold m_code_RightMsg
 simp only
 rw [ha]
 unfold m_code_place m_code_between_int64 m_code_between_int m_code_all_int64 m_code_all_int
 have a1:decide (1≤k)=true:=decide_eq_true h1.1
 have a2:decide (k≤17)=true:=decide_eq_true h1.2
 have a4:decide (0≤n)=true:=decide_eq_true hn
 have a5:decide (0≤f)=true:=decide_eq_true hf.1
 have a6:decide (f≤8)=true:=decide_eq_true hf.2
 have a7:decide (0≤t)=true:=decide_eq_true ht.1
 have a8:decide (t≤8)=true:=decide_eq_true ht.2
 simp only [a1,a2,a4,a5,a6,a7,a8]
 rfl
section
variable {R N:Nat} {e:Dk} {Ln Lo:List Rec} (hR:R≤MX)
include hR
theorem H_hint(h:NdI 500 R N e (tab [] (LhA [])))(hz:Fw.sz e.seen=0){l:List Rec}(hl:∀r∈l,Mg.VersOk r.vers)(hN:N+l.length≤lim):
  ∃Ln' e',m_node_Node_Handle (nA []) ⟨1,⟨1,0⟩,⟨1,1⟩,5,0,4,0,ByteArray.empty,l,[],[],[],[]⟩ e=some (nA Ln',e',[])∧NdI 500 R (N+l.length) e' (tab [] (LhA Ln'))∧Fw.sz e'.seen=ssum Ln'∧ssum Ln'≤totW 0 l∧Ln'.length≤cntW l:=by
 obtain⟨b,hb,_⟩:=e_RM (m:=⟨1,⟨1,0⟩,⟨1,1⟩,5,0,4,0,ByteArray.empty,l,[],[],[],[]⟩) (λr hr=>(hl r hr).1)
 cases b with
 | false=>exact⟨[],e,H_bad (self:=1) hb (.inl rfl),h.mono (by omega),hz,Nat.zero_le _,Nat.zero_le _⟩
 | true=>
  obtain⟨L',e',c,q1,q2,q3,q4,q5⟩:=e_nlayS (size:=500) hR (by decide) (by decide) l 0 N e (tab [] (LhA [])) [] 0 h (tab4 []) hl hN (λk=>by rw [gvs_nil]; exact Nat.le_refl _)
  rw [up4] at q2
  have hlay:m_node_lay (st (hn 4) 500 []) l e=some (st (hn 4) 500 L',e',c):=q1
  have s0:ssum []=0:=rfl
  refine⟨L',e',?_,q2,by omega,by omega,by rw [List.length_nil] at q5; omega⟩
  unfold m_node_Node_Handle
  rw [hb,Option.bind_some,bif_f (H_good (self:=1) hb rfl rfl)]
  show (Option.bind (m_node_Node_put (nA []) _ ⟨1,⟨1,0⟩,⟨1,1⟩,5,0,4,0,ByteArray.empty,l,[],[],[],[]⟩ [] e) λz80=>m_node_Node_Handle_j1 z80.2.1 z80.1 z80.2.2)=_
  unfold m_node_Node_put
  simp only
  rw [bif_t (show (((4:Int) != 0)&&((4:Int) != (nA []).self_node))=true from rfl),get4,Option.bind_some,hlay,Option.bind_some]
  simp only
  rw [put4]; rfl
omit hR
theorem tick_in(n:Onode_Node)(f:Int):∀(l:List Rec) (i:Nat) (out:List Dapi_Msg) {K:List Dapi_Msg→Option (List Dapi_Msg)},out.length+l.length≤lim→forI (m_node_Node_Tick_b4 n f) K i l out=K (out++l.map λr=>(⟨1,⟨n.self_site,n.self_node⟩,⟨n.self_site,f⟩,0,0,0,0,ByteArray.empty,[r],[],[],[],[]⟩:Dapi_Msg))
 | [],i,out,K,_=>by show K out=_; rw [List.map_nil,List.append_nil]
 | r::l,i,out,K,hl=>by
  rw [List.length_cons] at hl
  have ih:=λo (h:o.length+l.length≤lim)=>tick_in n f l (i+1) o (K:=K) h
  show m_node_Node_Tick_b4 n f (forI (m_node_Node_Tick_b4 n f) K (i+1) l) i r out=_
  generalize forI (m_node_Node_Tick_b4 n f) K (i+1) l=g at ih ⊢
  unfold m_node_Node_Tick_b4
  rw [chk_t (decide_eq_true (by omega)),ih _ (by rw [List.length_append,List.length_singleton]; omega),List.append_assoc]; rfl
theorem tickH_loop(hrt:∀r∈Ln,Rt r)(hln:Ln.length≤4294967):∀(k f F:Nat) (out:List Dapi_Msg),f+k=9→1≤f→out.length+(if f≤4 then Ln.length else 0)≤4294967→loopN (m_node_Node_Tick_b3 (nA Ln)) (F+k+1) (out,(f:Int))=some (out++if f≤4 then (recsOf (keysOf Ln)).map msgT else [])
 | 0,f,F,out,hf,h,_=>by
  rw [loopN_s]
  generalize loopN (m_node_Node_Tick_b3 (nA Ln)) (F+0)=g
  unfold m_node_Node_Tick_b3
  simp only
  rw [bif_f (decide_eq_false (by omega)),if_neg (by omega),List.append_nil]
 | k+1,f,F,out,hf,h,ho=>by
  have ih:=λo=>tickH_loop hrt hln k (f+1) F o (by omega) (by omega)
  rw [show F+(k+1)+1=(F+k+1)+1 by omega,loopN_s]
  generalize loopN (m_node_Node_Tick_b3 (nA Ln)) (F+k+1)=g at ih ⊢
  have hw:w64 ((f:Int)+1)=((f+1:Nat):Int):=by rw [w64_i (by unfold I64; omega)]; omega
  have hle:=keysOf_len Ln
  have hh:m_node_Node_Hints (nA Ln) (f:Int)=some (if f=4 then recsOf (keysOf Ln) else []):=by
   unfold m_node_Node_Hints
   rw [show (nA Ln).hints=hin 500 (LhA Ln) (hl 1) from rfl,mget_hin]
   by_cases hm:f∈hl 1
   ·rw [if_pos hm]
    by_cases h4:f=4
    ·subst h4
     rw [LhA_4,if_pos rfl]
     show Option.bind (m_store_Store_Recs (st (hn 4) 500 Ln)) (λz18=>some z18)=_
     rw [e_RecsS hrt (hn 4) 500 (by rw [lim_eq]; omega)]; rfl
    ·rw [LhA_ne Ln h4,if_neg h4]
     show Option.bind (m_store_Store_Recs (st (hn f) 500 [])) (λz18=>some z18)=some []
     rw [e_RecsS (L:=[]) (λr hr=>by cases hr) (hn f) 500 (Nat.zero_le _),show recsOf (keysOf []) = [] from List.length_eq_zero_iff.1 (by rw [recs_len]; rfl)]; rfl
   ·rw [if_neg hm]
    by_cases h4:f=4
    ·exact absurd (h4▸mem4) hm
    ·rw [if_neg h4]; rfl
  unfold m_node_Node_Tick_b3
  simp only
  rw [bif_t (decide_eq_true (by omega)),hh,Option.bind_some,tick_in _ _ _ 0 _ (by
   rw [lim_eq]
   split
   ·rename_i h4; rw [if_pos (by omega)] at ho; rw [recs_len]; omega
   ·split at ho <;> simp <;> omega)]
  show g (_,w64 ((f:Int)+1))=_
  rw [hw]
  by_cases h4:f=4
  ·subst h4
   rw [if_pos rfl,ih _ (by rw [if_neg (by decide),List.length_append,List.length_map,recs_len]; rw [if_pos (by decide)] at ho; omega),if_neg (by decide),if_pos (by decide),List.append_nil]; rfl
  ·rw [if_neg h4,List.map_nil,List.append_nil]
   by_cases h5:f≤4
   ·rw [if_pos h5] at ho ⊢
    rw [ih _ (by rw [if_pos (by omega)]; omega),if_pos (by omega)]
   ·rw [if_neg h5] at ho ⊢
    rw [ih _ (by rw [if_neg (by omega)]; omega),if_neg (by omega)]
theorem e_TickH(hrt:∀r∈Ln,Rt r)(hln:Ln.length≤4294967):m_node_Node_Tick (nA Ln)=some ((recsOf (keysOf Ln)).map msgT):=by
 unfold m_node_Node_Tick
 obtain⟨F,hF⟩:∃F,FU=F+8+1:=⟨FU - 9,by unfold FU; omega⟩
 rw [hF]
 have:=tickH_loop hrt hln 8 1 F [] rfl (Nat.le_refl _) (by rw [if_pos (by decide),List.length_nil]; omega)
 rw [if_pos (by decide),List.nil_append] at this
 exact this
theorem e_HintsH(hrt:∀r∈Ln,Rt r)(hln:Ln.length≤lim):m_node_Node_Hints (nA Ln) 4=some (recsOf (keysOf Ln)):=by
 unfold m_node_Node_Hints
 rw [get4]
 show Option.bind (m_store_Store_Recs (st (hn 4) 500 Ln)) (λz18=>some z18)=_
 rw [e_RecsS hrt (hn 4) 500 hln]; rfl
include hR
theorem H_o(h:NdI 500 R N e (tab Lo λ_=>[]))(hN:N+1≤lim){r:Rec}(hr:Rt r)(hv0:r.vers≠[])(hold:gvs Lo r.key = []∨gvs Lo r.key=r.vers)(hlo:Lo.length<999999)(hb1:(reB r).length≤1048576)(room:gvs Lo r.key = []→Fw.sz e.seen+(fr (reB r)).length≤R):
  ∃e' Lo',m_node_Node_Handle (nO Lo) (msgT r) e=some (nO Lo',e',[ansT r])∧NdI 500 R (N+1) e' (tab Lo' λ_=>[])∧((gvs Lo r.key = []∧Lo'=Lo++[r]∧Fw.sz e'.seen=Fw.sz e.seen+(fr (reB r)).length)∨(gvs Lo r.key=r.vers∧Lo'=Lo∧e'=e)):=by
 have hb:m_code_RightMsg (msgT r)=some true:=e_RM1 hr (by decide) (by decide) (by decide) (by decide)
 have hg:=h.g dN Lo tab_d
 have hrv:=vers_ok hr.2
 have key:∃e' Lo',m_node_lay (st dN 500 Lo) [r] e=some (st dN 500 Lo',e',0)∧NdI 500 R (N+1) e' (tab Lo' λ_=>[])∧((gvs Lo r.key = []∧Lo'=Lo++[r]∧Fw.sz e'.seen=Fw.sz e.seen+(fr (reB r)).length)∨(gvs Lo r.key=r.vers∧Lo'=Lo∧e'=e)):=by
  unfold m_node_lay
  show ∃e' Lo',m_node_lay_b4 (λ(o3,o6)=>some (o3,o6,(0:Int))) 0 r (st dN 500 Lo,e)=_∧_
  unfold m_node_lay_b4 m_node_lay_j5
  simp only
  rw [e_GetS hg.rt,Option.bind_some,Mg.e_Merge (gvs_ok hg.rt r.key) hrv,Option.bind_some,Mg.e_vsSameL,gcall_s,Option.bind_some]
  rcases hold with ho | ho
  ·rw [ho,Mg.merge_new hr.rr]
   have hns:Mg.vsSameL r.vers []=false:=by
    cases hs:Mg.vsSameL r.vers [] with
    | false=>rfl
    | true=>rw [Mg.sameL_eq] at hs; exact absurd (Mg.r5Same_iff.1 hs) hv0
   simp only
   rw [show (((0:Int)==0)&&!(bif (0:Int)==0 then Mg.vsSameL r.vers [] else default))=true by rw [hns]; rfl,bif_t rfl]
   obtain⟨L1,e1,c1,p1,p2,p3,p4,p5,p6⟩:=h.put tab_d hR (by decide) (by decide) (by omega) (r:=⟨r.key,r.vers⟩) hrv.1
   have hc:=p6 hr hb1 hlo (room ho)
   obtain⟨q1,q2,q3⟩:=p4 hc
   rw [upd_d] at p2
   subst hc; subst q1
   rw [p1,Option.bind_some]
   exact⟨e1,_,rfl,p2,.inl ⟨trivial,rfl,q3⟩⟩
  ·rw [ho,Mg.merge_self hr.rr]
   simp only
   rw [show (((0:Int)==0)&&!(bif (0:Int)==0 then Mg.vsSameL r.vers r.vers else default))=false by rw [Mg.same_self]; rfl,bif_f rfl]
   exact⟨e,Lo,rfl,h.mono (Nat.le_succ _),.inr ⟨trivial,rfl,rfl⟩⟩
 obtain⟨e',Lo',k1,k2,k3⟩:=key
 refine⟨e',Lo',?_,k2,k3⟩
 unfold m_node_Node_Handle
 rw [hb,Option.bind_some,bif_f (H_good (self:=4) hb rfl rfl)]
 show (Option.bind (m_node_Node_put (nO Lo) _ (msgT r) [] e) λz80=>m_node_Node_Handle_j1 z80.2.1 z80.1 z80.2.2)=_
 unfold m_node_Node_put
 rw [bif_f (show (((msgT r).for_ != 0)&&((msgT r).for_ != (nO Lo).self_node))=false from rfl),show (nO Lo).own=st dN 500 Lo from rfl,show (msgT r).recs = [r] from rfl,k1,Option.bind_some]
 simp only
 rw [bif_f (by decide),e_nown (λx hx=>by rw [List.mem_singleton.1 hx]; exact hrv) (by rw [lim_eq]; show 1≤_; omega),Option.bind_some,H_1,Option.bind_some]; rfl
theorem H_done(h:NdI 500 R N e (tab [] (LhA Ln)))(hN:N+1≤lim){r:Rec}(hr:Rt r)(hv0:r.vers≠[])(hk:gvs Ln r.key=r.vers)(hln:Ln.length<999999)(room:Fw.sz e.seen+96≤R):
  ∃e',m_node_Node_Handle (nA Ln) (ansT r) e=some (nA (Ln++[⟨r.key,[]⟩]),e',[])∧NdI 500 R (N+1) e' (tab [] (LhA (Ln++[⟨r.key,[]⟩])))∧Fw.sz e'.seen≤Fw.sz e.seen+96∧Rt ⟨r.key,[]⟩:=by
 have hb:m_code_RightMsg (ansT r)=some true:=e_RM1 hr (by decide) (by decide) (by decide) (by decide)
 have hg:=h.g (hn 4) Ln (tab4 Ln)
 have hro:ReOk ⟨r.key,[]⟩:=⟨hr.2.key,Nat.zero_le _,λv hv=>by cases hv⟩
 have hrt:Rt ⟨r.key,[]⟩:=by
  refine⟨?_,hro⟩
  rw [rr_c (vers_ok hro)]
  have:=hr.rb
  unfold rrB at this ⊢
  rw [(Bool.and_eq_true_iff.1 this).1]; rfl
 have hw:=fr_w hro
 have hvk:hv ⟨r.key,[]⟩≤96:=by
  have:=hr.2.key
  unfold hv
  simp only
  rw [show wl []=0 from rfl]; omega
 have hb1:(reB ⟨r.key,[]⟩).length≤1048576:=by
  have:=reB_w hro
  have:=hr.2.key
  rw [show wl []=0 from rfl] at *
  simp only at *; omega
 obtain⟨L1,e1,c1,p1,p2,p3,p4,p5,p6⟩:=h.put (tab4 Ln) hR (by decide) (by decide) (by omega) (r:=⟨r.key,[]⟩) (Nat.zero_le _)
 have hc:=p6 hrt hb1 hln (by omega)
 obtain⟨q1,q2,q3⟩:=p4 hc
 rw [up4] at p2
 subst hc; subst q1
 refine⟨e1,?_,p2,by omega,hrt⟩
 unfold m_node_Node_Handle
 rw [hb,Option.bind_some,bif_f (H_good (self:=1) hb rfl rfl)]
 show (Option.bind (m_node_Node_done (nA Ln) _ (ansT r) [] e) λz67=>m_node_Node_Handle_j1 [] z67.1 z67.2)=_
 unfold m_node_Node_done
 rw [show (ansT r).from_.node=4 from rfl,get4]
 show Option.bind (forI m_node_Node_done_b4 _ 0 [r] (st (hn 4) 500 Ln,e)) _=_
 show Option.bind (m_node_Node_done_b4 _ 0 r (st (hn 4) 500 Ln,e)) _=_
 unfold m_node_Node_done_b4 m_node_Node_done_j5
 simp only
 have hlen:decide (0<((r.vers.length:Nat):Int))=true:=decide_eq_true (by have:=List.length_pos_iff.2 hv0; omega)
 rw [e_GetS hg.rt,hk,Option.bind_some,hlen,Mg.e_Lacks (vers_ok hr.2) (vers_ok hr.2),Mg.lacks_self hr.rr,gcall_s,Option.bind_some,bif_t (by rfl),p1,Option.bind_some]
 show Option.bind (some (_,_)) _=_
 rw [Option.bind_some]
 simp only
 rw [put4]; rfl
end
structure Ex (R:Nat) (L0 Ln Lo:List Rec) (e e2:Dk) (N s c:Nat):Prop where
 n:NdI 500 R N e (tab [] (LhA Ln))
 o:NdI 500 R N e2 (tab Lo λ_=>[])
 gn:∀k,gvs Ln k=gvs L0 k∨gvs Ln k = []
 go:∀k,gvs Lo k=gvs L0 k∨gvs Lo k = []
 no:∀k,gvs Ln k = []→gvs Lo k=gvs L0 k
 oi:∀r∈Lo,gvs Lo r.key=r.vers∧r.vers≠[]
 od:Lo.Nodup
 os:Fw.sz e2.seen=ssum Lo
 ns:Fw.sz e.seen≤s
 nl:Ln.length≤c
section
variable {R N:Nat} {L0 Ln Lo:List Rec} {e e2:Dk} {s c:Nat}
theorem Ex.rn(h:Ex R L0 Ln Lo e e2 N s c):∀r∈Ln,Rt r:=(h.n.g (hn 4) Ln (tab4 Ln)).rt
theorem Ex.ro(h:Ex R L0 Ln Lo e e2 N s c):∀r∈Lo,Rt r:=(h.o.g dN Lo tab_d).rt
theorem Ex.mono(h:Ex R L0 Ln Lo e e2 N s c){M s' c':Nat}(hM:N≤M)(hs:s≤s')(hc:c≤c'):Ex R L0 Ln Lo e e2 M s' c':=
 ⟨h.n.mono hM,h.o.mono hM,h.gn,h.go,h.no,h.oi,h.od,h.os,Nat.le_trans h.ns hs,Nat.le_trans h.nl hc⟩
theorem Ex.osub(h:Ex R L0 Ln Lo e e2 N s c)(h0:∀r∈L0,Rt r):∀r∈Lo,r∈L0:=λr hr=>by
 obtain⟨h1,h2⟩:=h.oi r hr
 rcases h.go r.key with h3 | h3
 ·have h4:=gvs_in h0 (k:=r.key) (by rw [← h3,h1]; exact h2)
  rw [← h3,h1] at h4; exact h4
 ·rw [h3] at h1; exact absurd h1.symm h2
theorem Ex.step(h:Ex R L0 Ln Lo e e2 N s c)(hR:R≤MX)(h0:∀r∈L0,Rt r)(hRv:R=16777216)(hs0:ssum L0≤11300000)(hl0:L0.length≤341)(hs:s≤12000000)(hc:c≤900000)(hN:N+1≤lim){r:Rec}(hr:Rt r)(hv0:r.vers≠[])(hk:gvs Ln r.key=r.vers):
  ∃Lo' e2',m_node_Node_Handle (nO Lo) (msgT r) e2=some (nO Lo',e2',[ansT r])∧Ex R L0 Ln Lo' e e2' (N+1) s c ∧
   ∃e',m_node_Node_Handle (nA Ln) (ansT r) e=some (nA (Ln++[⟨r.key,[]⟩]),e',[])∧Ex R L0 (Ln++[⟨r.key,[]⟩]) Lo' e' e2' (N+1) (s+96) (c+1)∧gvs (Ln++[⟨r.key,[]⟩]) r.key = []∧(∀k,k≠r.key→gvs (Ln++[⟨r.key,[]⟩]) k=gvs Ln k):=by
 have hLr:gvs L0 r.key=r.vers:=by
  rcases h.gn r.key with h1 | h1
  ·rw [← h1,hk]
  ·rw [h1] at hk; exact absurd hk.symm hv0
 have hold:gvs Lo r.key = []∨gvs Lo r.key=r.vers:=by
  rcases h.go r.key with h1 | h1
  ·exact .inr (by rw [h1,hLr])
  ·exact .inl h1
 have hsub:=h.osub h0
 have hr0:r∈L0:=by
  have:=gvs_in h0 (k:=r.key) (by rw [hLr]; exact hv0)
  rw [hLr] at this; exact this
 have hfr:(fr (reB r)).length≤ssum L0:=by
  have:=ssum_sub (l:=[r]) (m:=L0) (by simp) λx hx=>by rw [List.mem_singleton.1 hx]; exact hr0
  unfold ssum at this ⊢
  simpa using this
 have hb1:(reB r).length≤1048576∨1048576<(reB r).length:=by omega
 have hre:=(h.o.g dN Lo tab_d).rk
 have hloL:Lo.length≤L0.length:=by
  have key:∀(a b:List Rec),a.Nodup→(∀x∈a,x∈b)→a.length≤b.length:=by
   intro a
   induction a with
   | nil=>intro b _ _; exact Nat.zero_le _
   | cons x a ih=>
    intro b hn hm
    obtain⟨n1,n2⟩:=List.nodup_cons.1 hn
    have hx:=hm x List.mem_cons_self
    have:=ih (b.erase x) n2 λy hy=>(List.mem_erase_of_ne (λe:y=x=>n1 (e▸hy))).2 (hm y (List.mem_cons_of_mem _ hy))
    rw [List.length_erase_of_mem hx] at this
    have:=List.length_pos_of_mem hx
    rw [List.length_cons]; omega
  exact key Lo L0 h.od hsub
 have hrk:(reB r).length≤1048576:=(h.n.g (hn 4) Ln (tab4 Ln)).rk _ (List.mem_map.2 ⟨r,by
  have:=gvs_in h.rn (k:=r.key) (by rw [hk]; exact hv0)
  rw [hk] at this; exact this,rfl⟩)
 have nin:gvs Lo r.key = []→r ∉ Lo:=λhg hm=>by
  have:=(h.oi r hm).1
  rw [hg] at this; exact hv0 this.symm
 have room:gvs Lo r.key = []→Fw.sz e2.seen+(fr (reB r)).length≤R:=λhg=>by
  have h1:=ssum_sub (l:=r::Lo) (m:=L0) (List.nodup_cons.2 ⟨nin hg,h.od⟩) λx hx=>by
   rcases List.mem_cons.1 hx with rfl | hx
   ·exact hr0
   ·exact hsub x hx
  have h2:ssum (r::Lo)=(fr (reB r)).length+ssum Lo:=rfl
  rw [h.os]; omega
 obtain⟨e2',Lo',p1,p2,p3⟩:=H_o hR h.o hN hr hv0 hold (by omega) hrk room
 have hE:Ex R L0 Ln Lo' e e2' (N+1) s c∧gvs Lo' r.key=r.vers:=by
  rcases p3 with ⟨q1,rfl,q3⟩ | ⟨q1,rfl,rfl⟩
  ·have hsn:=λk=>gvs_snoc (k:=k) hr h.ro
   refine⟨⟨h.n.mono (Nat.le_succ _),p2,h.gn,λk=>?_,λk hk2=>?_,λx hx=>?_,?_,by rw [q3,h.os,ssum_snoc],h.ns,h.nl⟩,by rw [hsn,if_pos rfl]⟩
   ·rw [hsn]
    split
    ·rename_i e1; rw [e1,hLr]; exact .inl rfl
    ·exact h.go k
   ·rw [hsn]
    split
    ·rename_i e1; rw [e1,hk] at hk2; exact absurd hk2 hv0
    ·exact h.no k hk2
   ·rw [hsn]
    rcases List.mem_append.1 hx with hx | hx
    ·have hxx:=h.oi x hx
     rw [if_neg λe1=>by rw [e1,q1] at hxx; exact hxx.2 hxx.1.symm]; exact hxx
    ·rw [List.mem_singleton.1 hx,if_pos rfl]; exact⟨rfl,hv0⟩
   ·rw [List.nodup_append]
    exact⟨h.od,by simp,λa ha b hb hab=>by rw [List.mem_singleton.1 hb] at hab; exact nin q1 (hab▸ha)⟩
  ·exact⟨h.mono (Nat.le_succ _) (Nat.le_refl _) (Nat.le_refl _),q1⟩
 obtain⟨hE,hgo⟩:=hE
 refine⟨Lo',e2',p1,hE,?_⟩
 have hns:=h.ns
 have hnl:=h.nl
 obtain⟨e',w1,w2,w3,w4⟩:=H_done hR h.n hN hr hv0 hk (by omega) (by omega)
 have hsn:=λk=>gvs_snoc (k:=k) w4 h.rn
 have hne:∀k,k≠r.key→gvs (Ln++[⟨r.key,[]⟩]) k=gvs Ln k:=λk hk2=>by rw [hsn,if_neg hk2]
 have heq:gvs (Ln++[⟨r.key,[]⟩]) r.key = []:=by rw [hsn,if_pos rfl]
 refine⟨e',w1,⟨w2,hE.o,λk=>?_,hE.go,λk hk2=>?_,hE.oi,hE.od,hE.os,by omega,by rw [List.length_append,List.length_singleton]; omega⟩,heq,hne⟩
 ·by_cases e1:k=r.key
  ·rw [e1,heq]; exact .inr rfl
  ·rw [hne k e1]; exact h.gn k
 ·by_cases e1:k=r.key
  ·rw [e1,hgo,hLr]
  ·rw [hne k e1] at hk2; exact hE.no k hk2
end
theorem tmod_nn(x:Int):decide (0≤(wu64 x).tmod 8)=true:=decide_eq_true (Int.tmod_nonneg 8 (wu64_r x).1)
theorem round_loop{R:Nat}{L0:List Rec}(hR:R≤MX)(h0:∀r∈L0,Rt r)(hRv:R=16777216)(hs0:ssum L0≤11300000)(hl0:L0.length≤341)(lost:Int)(t:Nat){K:Onode_Node×Odisk_Disk×Odisk_Disk×Onode_Node→Option Bool}:∀(l:List Rec) (i N:Nat) (Ln Lo:List Rec) (e e2:Dk) (s c:Nat),Ex R L0 Ln Lo e e2 N s c→s+96*l.length≤12000000→c+l.length≤900000→N+l.length≤lim→(∀r∈l,Rt r∧r.vers≠[]∧gvs Ln r.key=r.vers)→l.Pairwise (λa b=>a.key≠b.key) →
  ∃Ln' Lo' e' e2',forI (m_firthlaw15_NodeHints_b215 lost t) K i (l.map msgT) (nA Ln,e,e2,nO Lo)=K (nA Ln',e',e2',nO Lo')∧Ex R L0 Ln' Lo' e' e2' (N+l.length) (s+96*l.length) (c+l.length)∧(t=2→∀r∈l,gvs Ln' r.key = [])∧(∀k,gvs Ln k = []→gvs Ln' k = [])
 | [],i,N,Ln,Lo,e,e2,s,c,h,_,_,_,_,_=>⟨Ln,Lo,e,e2,rfl,h,(λ_ r hr=>absurd hr List.not_mem_nil),λ_ h=>h⟩
 | r::l,i,N,Ln,Lo,e,e2,s,c,h,hs,hc,hN,hl,hp=>by
  rw [List.length_cons] at hs hc hN ⊢
  obtain⟨hr,hv0,hk⟩:=hl r List.mem_cons_self
  obtain⟨hp1,hp2⟩:=List.pairwise_cons.1 hp
  show ∃Ln' Lo' e' e2',m_firthlaw15_NodeHints_b215 lost t (forI (m_firthlaw15_NodeHints_b215 lost t) K (i+1) (l.map msgT)) i (msgT r) (nA Ln,e,e2,nO Lo)=_∧_
  have rest:∀Ln1 Lo1 e1 e21,Ex R L0 Ln1 Lo1 e1 e21 (N+1) (s+96) (c+1)→(∀k,k≠r.key→gvs Ln1 k=gvs Ln k)→(t=2→gvs Ln1 r.key = [])→(gvs Ln r.key = []→gvs Ln1 r.key = [])→∃Ln' Lo' e' e2',forI (m_firthlaw15_NodeHints_b215 lost t) K (i+1) (l.map msgT) (nA Ln1,e1,e21,nO Lo1)=K (nA Ln',e',e2',nO Lo')∧Ex R L0 Ln' Lo' e' e2' (N+(l.length+1)) (s+96*(l.length+1)) (c+(l.length+1))∧(t=2→∀x∈r::l,gvs Ln' x.key = [])∧(∀k,gvs Ln k = []→gvs Ln' k = []):=by
   intro Ln1 Lo1 e1 e21 hE hne ht hz
   obtain⟨Ln',Lo',e',e2',q1,q2,q3,q4⟩:=round_loop hR h0 hRv hs0 hl0 lost t (K:=K) l (i+1) (N+1) Ln1 Lo1 e1 e21 (s+96) (c+1) hE (by omega) (by omega) (by omega) (λx hx=>by
    obtain⟨a1,a2,a3⟩:=hl x (List.mem_cons_of_mem _ hx)
    exact⟨a1,a2,by rw [hne _ (λe1=>hp1 x hx e1.symm)]; exact a3⟩) hp2
   refine⟨Ln',Lo',e',e2',q1,q2.mono (by omega) (by omega) (by omega),λh2 x hx=>?_,λk hk2=>?_⟩
   ·rcases List.mem_cons.1 hx with rfl | hx
    ·exact q4 _ (ht h2)
    ·exact q3 h2 x hx
   ·by_cases e1:k=r.key
    ·rw [e1] at hk2 ⊢; exact q4 _ (hz hk2)
    ·exact q4 k (by rw [hne k e1]; exact hk2)
  generalize forI (m_firthlaw15_NodeHints_b215 lost t) K (i+1) (l.map msgT)=f at rest ⊢
  obtain⟨Lo1,e21,w1,w2,e1,w3,w4,w5,w6⟩:=h.step hR h0 hRv hs0 hl0 (by omega) (by omega) (by omega) hr hv0 hk
  have hzk:gvs Ln r.key = []→False:=λhz=>by rw [hz] at hk; exact hv0 hk.symm
  unfold m_firthlaw15_NodeHints_b215 m_firthlaw15_NodeHints_j216
  simp only
  rw [e_at,Option.bind_some,tmod_nn,show imp ((!((msgT r).to_ != (⟨1,4⟩:Adr)))&&(((t:Nat):Int)==0)) true=true by cases ((!((msgT r).to_ != (⟨1,4⟩:Adr)))&&(((t:Nat):Int)==0)) <;> rfl,chk_t rfl]
  cases hlo:(((msgT r).to_ != (⟨1,4⟩:Adr))||((((t:Nat):Int)==0)&&((iand .u8 (ishr .u8 lost ((wu64 ((i:Nat):Int)).tmod 8)) 1)==1))) with
  | true=>
   rw [bif_t rfl]
   refine rest Ln Lo e e2 (h.mono (Nat.le_succ _) (by omega) (by omega)) (λ_ _=>rfl) (λh2=>?_) id
   subst h2
   exact absurd hlo (by
    rw [show ((msgT r).to_ != (⟨1,4⟩:Adr))=false from by show ((⟨1,4⟩:Adr) != ⟨1,4⟩)=false; simp]
    rw [show ((((2:Nat):Int))==0)=false from rfl]
    simp)
  | false=>
   rw [bif_f rfl,w1,Option.bind_some]
   show ∃Ln' Lo' e' e2',m_firthlaw15_NodeHints_b225 lost t i (λ(o271,o274)=>f (o271,o274,e21,nO Lo1)) 0 (ansT r) (nA Ln,e)=_∧_
   unfold m_firthlaw15_NodeHints_b225 m_firthlaw15_NodeHints_j226
   simp only
   rw [tmod_nn,show imp (!(decide (1<((t:Nat):Int)))) true=true by cases (!(decide (1<((t:Nat):Int)))) <;> rfl,chk_t rfl]
   cases hla:((decide (1<((t:Nat):Int)))||((iand .u8 (ishr .u8 lost ((wu64 ((i+1:Nat):Int)).tmod 8)) 1)==0)) with
   | true=>
    rw [bif_t rfl,w3,Option.bind_some]
    exact rest _ Lo1 e1 e21 w4 w6 (λ_=>w5) (λ_=>w5)
   | false=>
    rw [bif_f rfl]
    refine rest Ln Lo1 e e21 (w2.mono (Nat.le_refl _) (by omega) (by omega)) (λ_ _=>rfl) (λh2=>?_) id
    subst h2
    exact absurd hla (by rw [show decide (1<((2:Nat):Int))=true from rfl]; simp)
theorem round_step{R:Nat}{L0:List Rec}(hR:R≤MX)(h0:∀r∈L0,Rt r)(hRv:R=16777216)(hs0:ssum L0≤11300000)(hl0:L0.length≤341)(lost f0 f1:Int)(t:Nat){f:(Option Onode_Node)×Odisk_Disk×Odisk_Disk×Onode_Node→Option Bool}{N:Nat}{Ln Lo:List Rec}{e e2:Dk}{s c:Nat}(h:Ex R L0 Ln Lo e e2 N s c)(hs:s+96*c≤12000000)(hc:c+c≤900000)(hN:4*(N+c)+10≤lim):
  ∃Ln' Lo' e' e2',m_firthlaw15_NodeHints_b181 lost f0 f1 f t (some (nA Ln),e,e2,nO Lo)=f (some (nA Ln'),e',e2',nO Lo')∧Ex R L0 Ln' Lo' e' e2' (N+c) (s+96*c) (c+c)∧(t=2→∀k,gvs Ln' k = []):=by
 have l:=lim_eq
 have hrn:=h.rn
 have hnl:=h.nl
 have hop:=e_NOpen (sz:=500) (self:=1) (life:=3) h.n hR (by omega) rfl (by decide) (by decide) (by decide)
 rw [show (((1:Nat):Int))=1 from rfl] at hop
 have i1:i64b 1=true:=by decide
 have hlen:(recsOf (keysOf Ln)).length≤c:=by rw [recs_len]; exact Nat.le_trans (keysOf_len Ln) hnl
 obtain⟨Ln',Lo',e',e2',q1,q2,q3,q4⟩:=round_loop hR h0 hRv hs0 hl0 lost t (K:=λ(o196,o199,o202,o205)=>f ((some o196),o199,o202,o205)) (recsOf (keysOf Ln)) 0 N Ln Lo e e2 s c h (by omega) (by omega) (by omega) (λr hr=>by
  obtain⟨a1,a2⟩:=(recs_in hrn).1 hr
  have hm:=rec_mem (KI.of hrn) hr
  exact⟨hm.1,hm.2.1,a2.symm⟩) (recs_kd hrn)
 refine⟨Ln',Lo',e',e2',?_,q2.mono (by omega) (by omega) (by omega),λh2 k=>?_⟩
 ·unfold m_firthlaw15_NodeHints_b181
  simp only
  rw [e_Crash h.n.di hR,dcrash_clean h.n.di h.n.lo,Option.bind_some,e_at,Option.bind_some]
  simp only
  rw [i1,chk_t rfl,chk_t rfl,hop,Option.bind_some]
  simp only
  rw [bif_f (show (Option.isNone (some (nd 3 1 500 [] (LhA Ln)))||((0:Int) != 0))=false from rfl),Option.bind_some,e_TickH hrn (by omega),Option.bind_some]
  exact q1
 ·by_cases hk:gvs Ln k = []
  ·exact q4 k hk
  ·exact q3 h2 ⟨k,gvs Ln k⟩ ((recs_in hrn).2 ⟨hk,rfl⟩)
def hvy(l:List Rec):Nat:=(l.map hv).sum
theorem sum_hvy:∀l:List Rec,sumW l≤hvy l
 | []=>Nat.le_refl _
 | r::l=>by
  have ih:=sum_hvy l
  have e:hvy (r::l)=hv r+hvy l:=rfl
  rw [e,sumW]
  split <;> omega
theorem wv_bk(v:Ver):wv v≤128*Ver.bk v:=by
 have h:=bkL_len (m:=Span.bk) (λx=>by unfold Span.bk; omega) v.past
 unfold wv Ver.bk bkStr bkOne; omega
theorem wl_bk:∀l:List Ver,wl l≤128*bkL Ver.bk l
 | []=>Nat.le_refl _
 | v::l=>by
  have ih:=wl_bk l
  have h:=wv_bk v
  have e:bkL Ver.bk (v::l)=Ver.bk v+bkL Ver.bk l:=rfl
  rw [wl_cons,e]; omega
theorem hv_bk(r:Rec):hv r≤128*Rec.bk r:=by
 have h:=wl_bk r.vers
 unfold hv Rec.bk bkStr; omega
theorem hvy_bk:∀l:List Rec,hvy l≤128*bkL Rec.bk l
 | []=>Nat.le_refl _
 | r::l=>by
  have ih:=hvy_bk l
  have h:=hv_bk r
  have e:bkL Rec.bk (r::l)=Rec.bk r+bkL Rec.bk l:=rfl
  have e2:hvy (r::l)=hv r+hvy l:=rfl
  rw [e,e2]; omega
theorem w64_n(n:Nat)(h:n≤4294967296):w64 (n:Int)=(n:Int):=w64_i (by unfold I64; omega)
section
variable {B:Nat} (hB:∀m:Nat,m≤B→w64 (m:Int)=(m:Int))
include hB
theorem w64_a{a b:Nat}(h:a+b≤B):w64 ((a:Int)+(b:Int))=((a+b:Nat):Int):=by rw [← Int.natCast_add]; exact hB _ h
theorem w64_m{a b:Nat}(h:a*b≤B):w64 ((a:Int)*(b:Int))=((a*b:Nat):Int):=by rw [← Int.natCast_mul]; exact hB _ h
theorem heavy_one{f:Int→Option Int}{v:Ver}{i n:Nat}(h:n+wv v≤B):m_firthlaw15_heavy_b6 f i v (n:Int)=f ((n+wv v:Nat):Int):=by
 have hw:wv v=128+v.val.size+32*v.past.length:=rfl
 unfold m_firthlaw15_heavy_b6
 rw [show (128:Int)=((128:Nat):Int) from rfl,show (32:Int)=((32:Nat):Int) from rfl,w64_a hB (by omega),w64_a hB (by omega),w64_m hB (by omega),w64_a hB (by omega),show n+128+v.val.size+32*v.past.length=n+wv v by omega]
theorem heavy_in{K:Int→Option Int}(l:List Ver):∀(i n:Nat),n+wl l≤B→forI (m_firthlaw15_heavy_b6) K i l (n:Int)=K ((n+wl l:Nat):Int):=by
 induction l with
 | nil=>
  intro i n _
  show K (n:Int)=K ((n+0:Nat):Int)
  rw [Nat.add_zero]
 | cons v l ih0=>
  intro i n h
  rw [wl_cons] at h ⊢
  have ih:=ih0 (i+1) (n+wv v) (by omega)
  have e:forI (m_firthlaw15_heavy_b6) K i (v::l) (n:Int)=m_firthlaw15_heavy_b6 (forI (m_firthlaw15_heavy_b6) K (i+1) l) i v (n:Int):=by unfold forI; rfl
  rw [e,heavy_one hB (by omega),ih,Nat.add_assoc]
theorem heavy_out(l:List Rec):∀(i n:Nat),n+hvy l≤B→forI (m_firthlaw15_heavy_b5) (λn_1=>(some n_1)) i l (n:Int)=some ((n+hvy l:Nat):Int):=by
 induction l with
 | nil=>
  intro i n _
  show some (n:Int)=some ((n+0:Nat):Int)
  rw [Nat.add_zero]
 | cons r l ih0=>
  intro i n h
  have e:hvy (r::l)=hv r+hvy l:=rfl
  rw [e] at h ⊢
  have hw:hv r=64+r.key.size+wl r.vers:=rfl
  have ih:=ih0 (i+1) (n+hv r) (by omega)
  have e3:forI (m_firthlaw15_heavy_b5) (λn_1=>(some n_1)) i (r::l) (n:Int)=m_firthlaw15_heavy_b5 (forI (m_firthlaw15_heavy_b5) (λn_1=>(some n_1)) (i+1) l) i r (n:Int):=by unfold forI; rfl
  rw [e3]
  generalize forI (m_firthlaw15_heavy_b5) (λn_1=>(some n_1)) (i+1) l=f at ih ⊢
  unfold m_firthlaw15_heavy_b5
  rw [show (64:Int)=((64:Nat):Int) from rfl,w64_a hB (by omega),w64_a hB (by omega),heavy_in hB r.vers 0 (n+64+r.key.size) (by omega)]
  show f _=_
  rw [show n+64+r.key.size+wl r.vers=n+hv r by omega,ih,Nat.add_assoc]
theorem e_heavyN{l:List Rec}(h:hvy l≤B):m_firthlaw15_heavy l=some ((hvy l:Nat):Int):=by
 have:=heavy_out hB l 0 0 (by omega)
 rw [Nat.zero_add] at this
 exact this
end
theorem plain_hvy{l:List Rec}(h:hvy l≤4294967296)(hp:m_firthlaw15_plain l=some true):hvy l≤65536:=by
 unfold m_firthlaw15_plain at hp
 rw [e_heavyN w64_n h,Option.bind_some] at hp
 cases hc:decide ((65536:Int)<((hvy l:Nat):Int)) with
 | true=>rw [hc,bif_t rfl] at hp; cases hp
 | false=>have:=of_decide_eq_false hc; omega
theorem p_firthlaw15_NodeHints{Γ:Gh}{Alist:Option Addr}{clist:Nat}{list:List Rec}(hlist:Sl recT Γ Alist list)(hlistc:list.length≤clist)(lost:Int)(hlost:U8 lost)(fate0:Int)(hfate0:I64 fate0)(fate1:Int)(hfate1:I64 fate1)(hb:bkL Rec.bk list≤1048576):m_firthlaw15_NodeHints list lost fate0 fate1=some true:=by
 have l:=lim_eq
 have hll:=rec_len5 hb
 have hvv:=sl_recOk5 hlist
 have hbk:=hvy_bk list
 unfold m_firthlaw15_NodeHints
 obtain⟨pb,hpb⟩:=e_plain hvv
 rw [e_awake,Option.bind_some,hpb,show gcall (!(!true)) (some pb)=some pb from rfl,Option.bind_some]
 cases pb with
 | false=>rfl
 | true=>
  have h65:=plain_hvy (by omega) hpb
  have hsw:=sum_hvy list
  obtain⟨ht,hcn⟩:=totW_ok (l:=list) (by omega)
  rw [bif_f (show ((!true)||(!true))=false from rfl),e_New,Option.bind_some]
  simp only [e_at,Option.bind_some]
  have i1:i64b 1=true:=by decide
  have i4:i64b 4=true:=by decide
  have hR:=rm_le 16777216
  have hRv:rm 16777216=16777216:=by decide
  have hop1:=e_NOpen (sz:=500) (self:=1) (life:=3) (nd0 (size:=max 500 16) (room:=16777216)) hR (by omega) rfl (by decide) (by decide) (by decide)
  have hop4:=e_NOpen (sz:=500) (self:=4) (life:=3) (nd0 (size:=max 500 16) (room:=16777216)) hR (by omega) rfl (by decide) (by decide) (by decide)
  rw [show (((1:Nat):Int))=1 from rfl] at hop1
  rw [show (((4:Nat):Int))=4 from rfl] at hop4
  have hsz:max (500:Int) 16=500:=by decide
  rw [hsz] at hop1 hop4
  rw [i1,chk_t rfl,chk_t rfl,hop1,Option.bind_some,i4,chk_t rfl,chk_t rfl,hop4,Option.bind_some]
  have hn0:=nd0 (size:=500) (room:=16777216)
  have z0:Fw.sz (d0 16777216).seen=0:=rfl
  generalize d0 16777216=d at hn0 z0 ⊢
  generalize rm 16777216=R at hn0 hR hRv
  simp only
  rw [bif_f (show ((((Option.isNone (some (nd 3 1 500 [] λ_=>[])))||(Option.isNone (some (nd 3 4 500 [] λ_=>[]))))||((0:Int) != 0))||((0:Int) != 0))=false from rfl),Option.bind_some,Option.bind_some,e_putM (by decide),Option.bind_some]
  simp only
  have hnA:NdI 500 R 0 d (tab [] (LhA [])):=by rw [LhA_nil]; exact hn0
  obtain⟨L0,e,q1,q2,q3,q4,q5⟩:=H_hint hR hnA z0 hvv (by omega)
  have eA:(nd 3 1 500 [] λ_=>[])=nA []:=by unfold nA; rw [LhA_nil]
  rw [eA,q1,Option.bind_some]
  simp only
  have hE:Ex R L0 L0 [] e d (0+list.length) 11300000 341:=by
   refine⟨q2,hn0.mono (Nat.zero_le _),λk=>.inl rfl,λk=>.inr (gvs_nil k),(λk hk=>by rw [gvs_nil,hk]),(λr hr=>absurd hr List.not_mem_nil),List.nodup_nil,z0,by omega,by omega⟩
  have h0:=hE.rn
  have hl0:L0.length≤341:=by omega
  have hs0:ssum L0≤11300000:=by omega
  rw [bif_t (by rfl),show m_node_Node_Recs (nA L0) (-1)=some [] from by
   rw [e_NRecs (λr hr=>by cases hr) (Nat.zero_le _) (-1),recsP_neg _ (by decide),show recsOf (keysOf []) = [] from List.length_eq_zero_iff.1 (by rw [recs_len]; rfl)],Option.bind_some,bif_f (by rfl),e_HintsH h0 (by omega),Option.bind_some]
  have eO:(nd 3 4 500 [] λ_=>[])=nO []:=rfl
  rw [eO]
  generalize hK:(λ(x:(Option Onode_Node)×Odisk_Disk×Odisk_Disk×Onode_Node)=>(match x with | (o132,o136,o139,o142)=>(Option.bind o132 λz329=>(Option.bind (m_node_Node_Hints z329 4) λz332=>(bif (((z332.length:Nat):Int)==0) then (Option.bind (m_node_Node_Tick z329) λz344=>(bif (((z344.length:Nat):Int)==0) then (Option.bind (m_node_Node_Recs o142 (-1)) λz356=>(Option.bind (m_firthref06_SameRecs z356 (recsOf (keysOf L0))) λz366=>(some z366))) else (some false))) else (some false)))):Option Bool))=K
  show m_firthlaw15_NodeHints_b181 lost fate0 fate1 (forU (m_firthlaw15_NodeHints_b181 lost fate0 fate1) K 2 1) 0 (some (nA L0),e,d,nO [])=some true
  obtain⟨L1,o1,e1,d1,a1,a2,_⟩:=round_step hR h0 hRv hs0 hl0 lost fate0 fate1 0 (f:=forU (m_firthlaw15_NodeHints_b181 lost fate0 fate1) K 2 1) hE (by omega) (by omega) (by omega)
  rw [a1]
  show m_firthlaw15_NodeHints_b181 lost fate0 fate1 (forU (m_firthlaw15_NodeHints_b181 lost fate0 fate1) K 1 2) 1 (some (nA L1),e1,d1,nO o1)=some true
  obtain⟨L2,o2,e2,d2,b1,b2,_⟩:=round_step hR h0 hRv hs0 hl0 lost fate0 fate1 1 (f:=forU (m_firthlaw15_NodeHints_b181 lost fate0 fate1) K 1 2) a2 (by omega) (by omega) (by omega)
  rw [b1]
  show m_firthlaw15_NodeHints_b181 lost fate0 fate1 (forU (m_firthlaw15_NodeHints_b181 lost fate0 fate1) K 0 3) 2 (some (nA L2),e2,d2,nO o2)=some true
  obtain⟨L3,o3,e3,d3,c1,c2,c3⟩:=round_step hR h0 hRv hs0 hl0 lost fate0 fate1 2 (f:=forU (m_firthlaw15_NodeHints_b181 lost fate0 fate1) K 0 3) b2 (by omega) (by omega) (by omega)
  rw [c1]
  show K (some (nA L3),e3,d3,nO o3)=some true
  have hz:=c3 rfl
  have hnl:=c2.nl
  have hol:o3.length≤lim:=by have:=(c2.o.g dN o3 tab_d).ln; omega
  have hext:recsOf (keysOf o3)=recsOf (keysOf L0):=recs_ext c2.ro h0 λk=>c2.no k (hz k)
  rw [← hK]
  simp only [Option.bind_some]
  rw [e_HintsH c2.rn (by omega),recs_none c2.rn hz,Option.bind_some,bif_t (by rfl),e_TickH c2.rn (by omega),recs_none c2.rn hz,Option.bind_some,bif_t (by rfl),e_NRecs c2.ro hol (-1),recsP_neg _ (by decide),Option.bind_some,hext,e_same]; rfl
end Fw
end Go.Proofs.YtckindfllegbgaaGreat
