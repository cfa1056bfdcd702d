/- The plain side: what the models come to. No condition. -/
import Derived.Test.YtckindfllegbgaaGreatH1
namespace Go.Proofs.YtckindfllegbgaaGreat
namespace Fw
set_option linter.unusedVariables false
set_option linter.unusedSimpArgs false
set_option linter.unusedSectionVars false
theorem e_partK(key:ByteArray):∃v,m_ring_Part key=some v∧m_firthref12_Part key=some v:=⟨_,e_Part key,e_rPart key⟩
def partOf(key:ByteArray):Int:=(m_ring_Part key).getD 0
theorem e_pt(key:ByteArray):m_ring_Part key=some (partOf key)∧m_firthref12_Part key=some (partOf key):=by
 obtain⟨v,h1,h2⟩:=e_partK key
 unfold partOf
 rw [h1,h2]; exact⟨rfl,rfl⟩
theorem e_under(a b:List Span):∃r,m_firthlaw15_under a b=some r:=by
 unfold m_firthlaw15_under
 obtain⟨r,h,_⟩:=forI_ex (body:=m_firthlaw15_under_b4 a b) (K:=λ_=>some true) (P:=λ_=>True) (l:=a) (λ_ _=>True) (λs _=>⟨_,rfl,trivial⟩) (λf i t hi _ hf=>by
  unfold m_firthlaw15_under_b4
  exact forI_ex (body:=m_firthlaw15_under_b5 a i) (P:=λ_=>True) (l:=b) (λ_ _=>True) (λs _=>by
   cases s with
   | true=>exact hf () trivial
   | false=>exact⟨_,rfl,trivial⟩) (λg j s hj _ hg=>by
   unfold m_firthlaw15_under_b5
   exact hg _ trivial) trivial) (s:=()) trivial
 exact⟨r,h⟩
theorem e_written(a b:List Ver):∃r,m_firthlaw15_written a b=some r:=by
 unfold m_firthlaw15_written
 obtain⟨r,h,_⟩:=forI_ex (body:=m_firthlaw15_written_b4 a b) (K:=λ_=>some true) (P:=λ_=>True) (l:=a) (λ_ _=>True) (λs _=>⟨_,rfl,trivial⟩) (λf i t hi _ hf=>by
  unfold m_firthlaw15_written_b4
  exact forI_ex (body:=m_firthlaw15_written_b5 a b i) (P:=λ_=>True) (l:=b) (λ_ _=>True) (λs _=>hf () trivial) (λg j s hj _ hg=>by
   unfold m_firthlaw15_written_b5
   obtain⟨b1,e1,_⟩:=gcall_ex (p:=λ_=>True) ((gt a i).dot==(gt b j).dot) (x:=m_firthref05_SameOne (gt a i) (gt b j)) ⟨_,Mg.e_SameOne _ _,trivial⟩
   rw [e1,Option.bind_some]
   cases ((gt a i).dot==(gt b j).dot)&&(!b1) with
   | true=>exact⟨_,rfl,trivial⟩
   | false=>
    rw [bif_f rfl,chk_t (decide_eq_true (by omega)),Mg.e_r5Behind,Option.bind_some]
    generalize Mg.r5Behind (List.drop i (List.take (i+1) a)) (gt b j).dot=z
    have hc:imp z (decide (j+1≤b.length))=true:=by rw [decide_eq_true (show j+1≤b.length by omega)]; cases z <;> rfl
    obtain⟨b2,e2,_⟩:=gcall_ex (p:=λ_=>True) z (x:=m_firthref05_Behind (List.drop j (List.take (j+1) b)) (gt a i).dot) ⟨_,Mg.e_r5Behind _ _,trivial⟩
    rw [chk_t hc,e2,Option.bind_some]
    obtain⟨r0,er⟩:=e_under (gt b j).past (gt a i).past
    obtain⟨b3,e3,_⟩:=gcall_ex (p:=λ_=>True) (z&&(!b2)) (x:=m_firthlaw15_under (gt b j).past (gt a i).past) ⟨_,er,trivial⟩
    rw [e3,Option.bind_some]
    cases z&&(b2||(!b3)) with
    | true=>exact⟨_,rfl,trivial⟩
    | false=>exact hg () trivial) trivial) (s:=()) trivial
 exact⟨r,h⟩
theorem e_heavy(l:List Rec):∃r,m_firthlaw15_heavy l=some r:=by
 unfold m_firthlaw15_heavy
 obtain⟨r,h,_⟩:=forI_ex (body:=m_firthlaw15_heavy_b5) (K:=λn=>some n) (P:=λ_=>True) (l:=l) (λ_ _=>True) (λs _=>⟨_,rfl,trivial⟩) (λf i t hi _ hf=>by
  unfold m_firthlaw15_heavy_b5
  exact forI_ex (body:=m_firthlaw15_heavy_b6) (P:=λ_=>True) (l:=(gt l i).vers) (λ_ _=>True) (λs _=>hf s trivial) (λg j s hj _ hg=>by
   unfold m_firthlaw15_heavy_b6
   exact hg _ trivial) trivial) (s:=(0:Int)) trivial
 exact⟨r,h⟩
theorem e_rRec{r:Rec}(h:Mg.VersOk r.vers):∃b,m_firthref06_RightRec r=some b:=by
 unfold m_firthref06_RightRec
 obtain⟨b,e1,_⟩:=gcall_ex (p:=λ_=>True) ((r.key != ByteArray.empty)&&(decide (((r.key.size:Nat):Int)≤32))) (x:=m_firthref05_Right r.vers) ⟨_,Mg.e_r5Right h,trivial⟩
 rw [e1,Option.bind_some]; exact⟨_,rfl⟩
theorem e_plain{l:List Rec}(hl:∀r∈l,Mg.VersOk r.vers):∃b,m_firthlaw15_plain l=some b:=by
 unfold m_firthlaw15_plain
 obtain⟨z,hz⟩:=e_heavy l
 rw [hz,Option.bind_some]
 cases decide (65536<z) with
 | true=>exact⟨_,rfl⟩
 | false=>
  rw [bif_f rfl]
  obtain⟨r,h,_⟩:=forI_ex (body:=m_firthlaw15_plain_b5 l) (K:=λ_=>some true) (P:=λ_=>True) (l:=l) (λ_ _=>True) (λs _=>⟨_,rfl,trivial⟩) (λf i t hi _ hf=>by
   unfold m_firthlaw15_plain_b5
   obtain⟨b,hb⟩:=e_rRec (hl (gt l i) (by rw [gt_eq hi]; exact List.getElem_mem hi))
   rw [hb,Option.bind_some]
   cases (!b)||(decide (512<(w64 (t+(((gt l i).vers.length:Nat):Int))))) with
   | true=>exact⟨_,rfl,trivial⟩
   | false=>
    rw [bif_f rfl]
    exact forI_ex (body:=m_firthlaw15_plain_b6 l i) (P:=λ_=>True) (l:=l) (λ_ _=>True) (λs _=>hf _ trivial) (λg j s hj _ hg=>by
     unfold m_firthlaw15_plain_b6
     obtain⟨w,hw⟩:=e_written (gt l i).vers (gt l j).vers
     obtain⟨b2,e2,_⟩:=gcall_ex (p:=λ_=>True) ((gt l i).key==(gt l j).key) (x:=m_firthlaw15_written (gt l i).vers (gt l j).vers) ⟨_,hw,trivial⟩
     rw [e2,Option.bind_some]
     cases ((gt l i).key==(gt l j).key)&&(!b2) with
     | true=>exact⟨_,rfl,trivial⟩
     | false=>exact hg () trivial) trivial) (s:=(0:Int)) trivial
  exact⟨r,h⟩
theorem e_at(n:Int):m_firthlaw15_at n=some ⟨1,n⟩:=rfl
theorem e_putM{t:Int}(ht:0≤t∧t≤8)(l:List Rec):m_firthlaw15_put t l=some ⟨1,⟨1,0⟩,⟨1,t⟩,5,0,0,0,ByteArray.empty,l,[],[],[],[]⟩:=by
 unfold m_firthlaw15_put
 have h1:i64b t=true:=by unfold i64b; rw [decide_eq_true (show -9223372036854775808≤t by omega),decide_eq_true (show t≤9223372036854775807 by omega)]; rfl
 have h2:i64b 1=true:=by decide
 have h3:i64b 0=true:=by decide
 rw [e_at,Option.bind_some,e_at,Option.bind_some]
 simp only
 rw [h1,h2,h3]; rfl
theorem get_find(k:ByteArray):∀(l:List Rec) (i:Nat),forI (m_firthref14_Get_b1 k) (λ_=>some []) i l ()=some (((l.find? λr=>r.key==k).map (·.vers)).getD [])
 | [],i=>rfl
 | r::l,i=>by
  have ih:=get_find k l (i+1)
  show m_firthref14_Get_b1 k (forI (m_firthref14_Get_b1 k) (λ_=>some []) (i+1) l) i r ()=_
  generalize forI (m_firthref14_Get_b1 k) (λ_=>some []) (i+1) l=f at ih ⊢
  unfold m_firthref14_Get_b1
  rw [List.find?_cons]
  cases hc:r.key==k with
  | true=>rw [bif_t rfl]; rfl
  | false=>rw [bif_f rfl]; exact ih
section
variable {L:List Rec} (hrt:∀r∈L,Rt r)
include hrt
theorem e_getR(k:ByteArray):m_firthref14_Get (recsOf (keysOf L)) k=some (gvs L k):=by
 unfold m_firthref14_Get
 rw [get_find]
 congr 1
 have key:∀ks:List ByteArray,((((ks.map λk=>(⟨k,gvs L k⟩:Rec)).find? λr=>r.key==k).map (·.vers)).getD [])=if k∈ks then gvs L k else []:=by
  intro ks
  induction ks with
  | nil=>rfl
  | cons q ks ih=>
   rw [List.map_cons,List.find?_cons]
   by_cases hq:q=k
   ·subst hq
    rw [show ((⟨q,gvs L q⟩:Rec).key==q)=true from beq_self_eq_true q,if_pos List.mem_cons_self]; rfl
   ·rw [show ((⟨q,gvs L q⟩:Rec).key==k)=false from beq_eq_false_iff_ne.2 hq,ih]
    by_cases hm:k∈ks
    ·rw [if_pos hm,if_pos (List.mem_cons_of_mem _ hm)]
    ·rw [if_neg hm,if_neg λh=>by rcases List.mem_cons.1 h with h | h; exact hq h.symm; exact hm h]
 have h2:recsOf (keysOf L)=(skeys (keysOf L)).map λk=>(⟨k,gvs L k⟩:Rec):=rfl
 rw [h2,key]
 by_cases hm:k∈skeys (keysOf L)
 ·rw [if_pos hm]
 ·rw [if_neg hm]
  rcases gvs_cases hrt k with ⟨h,_⟩ | ⟨r,_,_,_,_,h⟩
  ·exact h.symm
  ·exact absurd (by rw [mem_skeys, ← mget_isSome,h]; rfl) hm
end
section
variable {size life:Int} {R N self:Nat} {e:Dk} {Lo:List Rec} {Lh:Nat→List Rec}
def recsP(l:List Rec)(p:Int):List Rec:=l.filter λr=>decide (p<0)||(partOf r.key==p)
theorem recsP_neg(l:List Rec){p:Int}(h:p<0):recsP l p=l:=by
 unfold recsP
 rw [decide_eq_true h]
 exact List.filter_eq_self.2 λ_ _=>rfl
theorem recs_loopP(p:Int):∀(l:List Rec) (i:Nat) (out:List Rec),out.length+l.length≤lim→forI (m_node_Node_Recs_b4 p) (λout_13=>some out_13) i l out=some (out++recsP l p)
 | [],i,out,_=>by show some out=_; unfold recsP; rw [List.filter_nil,List.append_nil]
 | r::l,i,out,hl=>by
  rw [List.length_cons] at hl
  have ih:=λo (h:o.length+l.length≤lim)=>recs_loopP p l (i+1) o h
  show m_node_Node_Recs_b4 p (forI (m_node_Node_Recs_b4 p) (λout_13=>some out_13) (i+1) l) i r out=_
  generalize forI (m_node_Node_Recs_b4 p) (λout_13=>some out_13) (i+1) l=f at ih ⊢
  unfold m_node_Node_Recs_b4 m_node_Node_Recs_j5
  rw [(e_pt r.key).1]
  unfold recsP
  rw [List.filter_cons]
  cases hp:decide (p<0) with
  | true=>
   show chk (decide (out.length+1≤lim)) (f (out++[r]))=_
   rw [chk_t (decide_eq_true (by omega)),ih _ (by rw [List.length_append,List.length_singleton]; omega)]
   unfold recsP
   rw [hp]
   simp
  | false=>
   show (bif (false||(partOf r.key==p)) then chk (decide (out.length+1≤lim)) (f (out++[r])) else f out)=_
   cases hq:partOf r.key==p with
   | true=>
    rw [bif_t (show (false||true)=true from rfl),chk_t (decide_eq_true (by omega)),ih _ (by rw [List.length_append,List.length_singleton]; omega)]
    unfold recsP
    rw [hp]
    simp
   | false=>
    rw [bif_f (show (false||false)=false from rfl),ih _ (by omega)]
    unfold recsP
    rw [hp]
    simp
theorem e_NRecs(hrt:∀r∈Lo,Rt r)(hn:Lo.length≤lim)(p:Int):m_node_Node_Recs (nd life self size Lo Lh) p=some (recsP (recsOf (keysOf Lo)) p):=by
 unfold m_node_Node_Recs
 rw [show (nd life self size Lo Lh).own=st dN size Lo from rfl,e_RecsS hrt dN size hn,Option.bind_some,recs_loopP p _ 0 [] (by have:=keysOf_len Lo; rw [List.length_nil,recs_len]; omega)]; rfl
theorem e_Intact(h:NdI size R N e (tab Lo Lh))(hR:R≤MX):m_node_Node_Intact (nd life self size Lo Lh) e=some (mget okF e.seen).isSome:=by
 unfold m_node_Node_Intact
 have:=h.mark hR
 unfold okF at this
 rw [this]; rfl
theorem H_bad{m:Dapi_Msg}{b:Bool}(hb:m_code_RightMsg m=some b)(hbad:b=false∨m.to_≠⟨1,(self:Int)⟩∨m.from_.site≠1):m_node_Node_Handle (nd life self size Lo Lh) m e=some (nd life self size Lo Lh,e,[]):=by
 unfold m_node_Node_Handle
 rw [hb,Option.bind_some]
 have:(((!b)||(m.to_ != (⟨(nd life self size Lo Lh).self_site,(nd life self size Lo Lh).self_node⟩:Adr)))||(m.from_.site != (nd life self size Lo Lh).self_site))=true:=by
  show (((!b)||(m.to_ != (⟨1,(self:Int)⟩:Adr)))||(m.from_.site != 1))=true
  rcases hbad with h | h | h
  ·rw [h]; rfl
  ·rw [show (m.to_ != (⟨1,(self:Int)⟩:Adr))=true by simp [h]]; cases b <;> rfl
  ·rw [show (m.from_.site != 1)=true by simp [h]]; cases b <;> cases (m.to_ != (⟨1,(self:Int)⟩:Adr)) <;> rfl
 rw [bif_t this]
theorem H_good{m:Dapi_Msg}(hb:m_code_RightMsg m=some true)(ht:m.to_=⟨1,(self:Int)⟩)(hf:m.from_.site=1):(((!true)||(m.to_ != (⟨(nd life self size Lo Lh).self_site,(nd life self size Lo Lh).self_node⟩:Adr)))||(m.from_.site != (nd life self size Lo Lh).self_site))=false:=by
 show (((!true)||(m.to_ != (⟨1,(self:Int)⟩:Adr)))||(m.from_.site != 1))=false
 rw [ht,hf]; simp
theorem H_1(a:Dapi_Msg)(n:Onode_Node)(m:Dapi_Msg):m_node_Node_Handle_1 a n m []=some [⟨a.kind,⟨n.self_site,n.self_node⟩,⟨m.from_.site,m.from_.node⟩,m.id,a.n,a.for_,a.code,a.key,a.recs,a.vec,a.path,a.hashes,a.route⟩]:=by
 unfold m_node_Node_Handle_1
 rw [chk_t (by rw [lim_eq]; decide)]; rfl
variable {f id n:Int} {key:ByteArray}
theorem H_get(h:NdI size R N e (tab Lo Lh))(hR:R≤MX)(hid:0≤id)(hf:0≤f∧f≤8)(hs:self≤8)(hk:key.size≤32):m_node_Node_Handle (nd life self size Lo Lh) ⟨4,⟨1,f⟩,⟨1,(self:Int)⟩,id,0,0,0,key,[],[],[],[],[]⟩ e =
  some (nd life self size Lo Lh,e,if (mget okF e.seen).isSome=true then [⟨5,⟨1,(self:Int)⟩,⟨1,f⟩,id,0,0,0,key,if gvs Lo key = [] then [] else [⟨key,gvs Lo key⟩],[],[],[],[]⟩] else []):=by
 have hrt:=(h.g dN Lo tab_d).rt
 have hb:m_code_RightMsg ⟨4,⟨1,f⟩,⟨1,(self:Int)⟩,id,0,0,0,key,[],[],[],[],[]⟩=some true:=e_RM0 (by decide) hid (by decide) hf (by omega) hk
 unfold m_node_Node_Handle
 rw [hb,Option.bind_some,bif_f (H_good hb rfl rfl)]
 have hI:=e_Intact (life:=life) (self:=self) h hR
 show (Option.bind (m_node_Node_get (nd life self size Lo Lh) _ ⟨4,⟨1,f⟩,⟨1,(self:Int)⟩,id,0,0,0,key,[],[],[],[],[]⟩ [] e) λz80=>m_node_Node_Handle_j1 z80 (nd life self size Lo Lh) e)=_
 unfold m_node_Node_get m_node_Node_get_j1
 rw [hI,Option.bind_some]
 cases (mget okF e.seen).isSome with
 | false=>rfl
 | true=>
  rw [show (!true)=false from rfl,bif_f rfl]
  simp only [if_true]
  rw [show (nd life self size Lo Lh).own=st dN size Lo from rfl,e_GetS hrt,Option.bind_some]
  by_cases hg:gvs Lo key = []
  ·rw [bif_f (by rw [hg]; decide),H_1,if_pos hg]; rfl
  ·have:0<(gvs Lo key).length:=List.length_pos_iff.2 hg
   rw [bif_t (by rw [decide_eq_true_eq]; omega),H_1,if_neg hg]; rfl
theorem H_scan(h:NdI size R N e (tab Lo Lh))(hR:R≤MX)(hN:N≤lim)(hid:0≤id)(hn:0≤n)(hf:0≤f∧f≤8)(hs:self≤8)(hm:(mget okF e.seen).isSome=true):m_node_Node_Handle (nd life self size Lo Lh) ⟨6,⟨1,f⟩,⟨1,(self:Int)⟩,id,n,0,0,ByteArray.empty,[],[],[],[],[]⟩ e =
  some (nd life self size Lo Lh,e,[⟨7,⟨1,(self:Int)⟩,⟨1,f⟩,id,n,0,0,ByteArray.empty,if n<8 then recsP (recsOf (keysOf Lo)) n else [],[],[],[],[]⟩]):=by
 have hg:=h.g dN Lo tab_d
 have hb:m_code_RightMsg ⟨6,⟨1,f⟩,⟨1,(self:Int)⟩,id,n,0,0,ByteArray.empty,[],[],[],[],[]⟩=some true:=e_RM0 (by decide) hid hn hf (by omega) (by decide)
 unfold m_node_Node_Handle
 rw [hb,Option.bind_some,bif_f (H_good hb rfl rfl)]
 have hI:=e_Intact (life:=life) (self:=self) h hR
 show (Option.bind (m_node_Node_scan (nd life self size Lo Lh) _ ⟨6,⟨1,f⟩,⟨1,(self:Int)⟩,id,n,0,0,ByteArray.empty,[],[],[],[],[]⟩ [] e) λz80=>m_node_Node_Handle_j1 z80 (nd life self size Lo Lh) e)=_
 unfold m_node_Node_scan m_node_Node_scan_j1 m_node_part
 rw [hI,Option.bind_some,hm,show (!true)=false from rfl,bif_f rfl,Option.bind_some]
 simp only
 by_cases h8:n<8
 ·rw [bif_t (by rw [decide_eq_true hn,decide_eq_true h8]; rfl),e_NRecs hg.rt (Nat.le_trans hg.ln hN),Option.bind_some,H_1,if_pos h8]; rfl
 ·rw [bif_f (by rw [decide_eq_false h8]; cases decide (0≤n) <;> rfl),H_1,if_neg h8]; rfl
theorem H_bless0(hid:0≤id)(hn:0≤n)(hf:0≤f∧f≤8)(hs:self≤8)(hne:n≠life):m_node_Node_Handle (nd life self size Lo Lh) ⟨17,⟨1,f⟩,⟨1,(self:Int)⟩,id,n,0,0,ByteArray.empty,[],[],[],[],[]⟩ e=some (nd life self size Lo Lh,e,[]):=by
 have hb:m_code_RightMsg ⟨17,⟨1,f⟩,⟨1,(self:Int)⟩,id,n,0,0,ByteArray.empty,[],[],[],[],[]⟩=some true:=e_RM0 (by decide) hid hn hf (by omega) (by decide)
 unfold m_node_Node_Handle
 rw [hb,Option.bind_some,bif_f (H_good hb rfl rfl)]
 show (Option.bind (m_node_Node_bless (nd life self size Lo Lh) _ ⟨17,⟨1,f⟩,⟨1,(self:Int)⟩,id,n,0,0,ByteArray.empty,[],[],[],[],[]⟩ [] e) λz80=>m_node_Node_Handle_j1 z80.1 (nd life self size Lo Lh) z80.2)=_
 unfold m_node_Node_bless
 have hc:(n != (nd life self size Lo Lh).life)=true:=by show (n != life)=true; simp [hne]
 simp only
 rw [bif_t hc]; rfl
theorem H_bless(h:NdI size R N e (tab Lo Lh))(hR:R≤MX)(hN:N+1≤lim)(hr:Fw.sz e.seen+1≤R)(hid:0≤id)(hn:0≤life)(hf:0≤f∧f≤8)(hs:self≤8):∃e',m_node_Node_Handle (nd life self size Lo Lh) ⟨17,⟨1,f⟩,⟨1,(self:Int)⟩,id,life,0,0,ByteArray.empty,[],[],[],[],[]⟩ e=some (nd life self size Lo Lh,e',[⟨2,⟨1,(self:Int)⟩,⟨1,f⟩,id,life,0,0,ByteArray.empty,[],[],[],[],[]⟩]) ∧
  NdI size R (N+1) e' (tab Lo Lh)∧(mget okF e'.seen).isSome=true:=by
 have hb:m_code_RightMsg ⟨17,⟨1,f⟩,⟨1,(self:Int)⟩,id,life,0,0,ByteArray.empty,[],[],[],[],[]⟩=some true:=e_RM0 (by decide) hid hn hf (by omega) (by decide)
 obtain⟨e',p1,p2,p3,_⟩:=h.format hR hN hr
 refine⟨e',?_,p2,p3⟩
 unfold m_node_Node_Handle
 rw [hb,Option.bind_some,bif_f (H_good hb rfl rfl)]
 show (Option.bind (m_node_Node_bless (nd life self size Lo Lh) _ ⟨17,⟨1,f⟩,⟨1,(self:Int)⟩,id,life,0,0,ByteArray.empty,[],[],[],[],[]⟩ [] e) λz80=>m_node_Node_Handle_j1 z80.1 (nd life self size Lo Lh) z80.2)=_
 unfold m_node_Node_bless
 have hc:(life != (nd life self size Lo Lh).life)=false:=by show (life != life)=false; simp
 simp only
 rw [bif_f hc,p1,Option.bind_some]
 simp only
 rw [bif_f (by decide),H_1]; rfl
theorem H_put(h:NdI size R N e (tab Lo Lh))(hR:R≤MX)(hs0:0≤size)(hs1:size≤9223372036854775807)(hs:self≤8){l:List Rec}(hl:∀r∈l,Mg.VersOk r.vers)(hN:N+l.length≤lim)(hll:l.length≤lim):
  ∃Lo' e' a,m_node_Node_Handle (nd life self size Lo Lh) ⟨1,⟨1,0⟩,⟨1,(self:Int)⟩,5,0,0,0,ByteArray.empty,l,[],[],[],[]⟩ e=some (nd life self size Lo' Lh,e',a)∧NdI size R (N+l.length) e' (tab Lo' Lh)∧mget okF e'.seen=mget okF e.seen:=by
 obtain⟨b,hb,_⟩:=e_RM (m:=⟨1,⟨1,0⟩,⟨1,(self:Int)⟩,5,0,0,0,ByteArray.empty,l,[],[],[],[]⟩) (λr hr=>(hl r hr).1)
 cases b with
 | false=>exact⟨Lo,e,[],H_bad hb (.inl rfl),h.mono (by omega),rfl⟩
 | true=>
  obtain⟨Lo',e',c,q1,q2,q3⟩:=e_nlay hR hs0 hs1 l 0 N e (tab Lo Lh) Lo h tab_d hl hN
  rw [upd_d] at q2
  have hlay:m_node_lay (st dN size Lo) l e=some (st dN size Lo',e',c):=q1
  refine⟨Lo',e',?_⟩
  unfold m_node_Node_Handle
  rw [hb,Option.bind_some,bif_f (H_good hb rfl rfl)]
  show ∃a,(Option.bind (m_node_Node_put (nd life self size Lo Lh) _ ⟨1,⟨1,0⟩,⟨1,(self:Int)⟩,5,0,0,0,ByteArray.empty,l,[],[],[],[]⟩ [] e) λz80=>m_node_Node_Handle_j1 z80.2.1 z80.1 z80.2.2)=_∧_
  unfold m_node_Node_put
  simp only
  rw [bif_f (show (((0:Int) != 0)&&((0:Int) != (nd life self size Lo Lh).self_node))=false from rfl),show (nd life self size Lo Lh).own=st dN size Lo from rfl,hlay,Option.bind_some]
  simp only
  cases hc:(c != 0) with
  | true=>rw [bif_t rfl,H_1,Option.bind_some]; exact⟨_,rfl,q2,q3⟩
  | false=>
   have hown:m_node_own l=some l:=by
    unfold m_node_own
    have:=forI_inv (body:=m_node_own_b4) (k:=λout_3=>some out_3) (l:=l) (λi s=>some (s++l.drop i)) (λi s=>s=l.take i) (λs hs=>by rw [List.drop_of_length_le (Nat.le_refl _),List.append_nil]) (λf i s hi hs hf=>by
     unfold m_node_own_b4
     have hv:=hl (gt l i) (by rw [gt_eq hi]; exact List.getElem_mem hi)
     refine(forI_inv (body:=m_node_own_b5) (l:=(gt l i).vers) (λj t=>f (s++[⟨(gt l i).key,t++(gt l i).vers.drop j⟩])) (λj t=>t=(gt l i).vers.take j) (λt ht=>?_) (λg j t hj ht hg=>?_) (s:=[]) rfl).trans ?_
     ·rw [chk_t (decide_eq_true (by rw [hs,List.length_take]; omega)),List.drop_of_length_le (Nat.le_refl _),List.append_nil]
     ·unfold m_node_own_b5
      have hvj:=hv.2 (gt (gt l i).vers j) (by rw [gt_eq hj]; exact List.getElem_mem hj)
      have hl1:=hv.1
      rw [chk_t (decide_eq_true (by have:=hvj.len; omega)),chk_t (decide_eq_true (by rw [ht,List.length_take]; omega)),hg _ (by rw [ht,take_gt hj]),List.append_assoc,drop_gt hj]; rfl
     ·rw [List.nil_append,List.drop_zero,hf _ (by rw [hs,take_gt hi]),List.append_assoc,drop_gt hi]; rfl) (s:=[]) rfl
    rw [this]; rfl
   rw [bif_f rfl,hown,Option.bind_some,H_1,Option.bind_some]
   exact⟨_,rfl,q2,q3⟩
end
theorem sl_versOk{Γ:Gh}{A:Option Addr}{l:List Ver}(h:Sl verT Γ A l):Mg.VersOk l:=by
 refine⟨h.le,λv hv=>?_⟩
 obtain⟨j,hj,rfl⟩:=List.getElem_of_mem hv
 rw [← gt_eq hj]
 obtain⟨A2,c2,h2⟩:=h.verT_at j
 obtain⟨a1,a2,a3,a4⟩:=(h2 hj).1
 refine⟨⟨a1,a2⟩,a3.2.le,λx hx=>?_,a4⟩
 obtain⟨k,hk,rfl⟩:=List.getElem_of_mem hx
 rw [← gt_eq hk]
 exact(a3.2.spanT_at hk).1.2.1
theorem sl_recOk{Γ:Gh}{A:Option Addr}{l:List Rec}(h:Sl recT Γ A l):∀r∈l,Mg.VersOk r.vers:=λr hr=>by
 obtain⟨j,hj,rfl⟩:=List.getElem_of_mem hr
 rw [← gt_eq hj]
 obtain⟨A2,c2,h2⟩:=h.recT_at j
 exact sl_versOk (h2 hj).1.2.2
theorem rec_len{l:List Rec}(hb:bkL Rec.bk l≤1048576):l.length≤1048576:=Nat.le_trans (bkL_len (λr=>by unfold Rec.bk; omega) l) hb
theorem ndN(life:Int)(self:Nat){sz:Int}(h1:1≤self)(h8:self≤8)(hl:0≤life)(room:Int):m_node_Open (d0 room) ⟨1,(self:Int)⟩ sz life=some (d0 room,some (nd life self (max sz 16) [] λ_=>[]),0):=
 e_NOpen (nd0 (size:=max sz 16)) (rm_le room) (by rw [lim_eq]; omega) rfl h1 h8 hl
theorem reads_in(p:Int):∀(l:List Rec) (i:Nat) (out:List Rec) {K:List Rec→Option Bool},out.length+l.length≤lim→forI (m_firthlaw15_NodeReads_b5 ByteArray.empty p) K i l out=K (out++l.filter λr=>partOf r.key==p)
 | [],i,out,K,_=>by show K out=_; rw [List.filter_nil,List.append_nil]
 | r::l,i,out,K,hl=>by
  rw [List.length_cons] at hl
  have ih:=λo (h:o.length+l.length≤lim)=>reads_in p l (i+1) o (K:=K) h
  show m_firthlaw15_NodeReads_b5 ByteArray.empty p (forI (m_firthlaw15_NodeReads_b5 ByteArray.empty p) K (i+1) l) i r out=_
  generalize forI (m_firthlaw15_NodeReads_b5 ByteArray.empty p) K (i+1) l=f at ih ⊢
  unfold m_firthlaw15_NodeReads_b5 m_firthlaw15_NodeReads_j6
  rw [(e_pt r.key).2,Option.bind_some,List.filter_cons]
  cases hq:partOf r.key==p with
  | true=>rw [bif_t rfl,chk_t (decide_eq_true (by omega)),ih _ (by rw [List.length_append,List.length_singleton]; omega),if_pos rfl,List.append_assoc]; rfl
  | false=>rw [bif_f rfl,ih _ (by omega)]; rfl
theorem key_b5(key:ByteArray)(p:Int):m_firthlaw15_NodeReads_b5 key p=m_firthlaw15_NodeReads_b5 ByteArray.empty p:=rfl
theorem partOf_rng(k:ByteArray):0≤partOf k∧partOf k<8:=by
 have h:=Option.some.inj ((e_pt k).1.symm.trans (e_Part k))
 rw [h]
 exact mod_rng (hashB_rng _)
theorem reads_y(W:List Rec){part:Int}(hp:0≤part):(if part<8 then recsP W part else [])=W.filter λr=>partOf r.key==part:=by
 by_cases h8:part<8
 ·rw [if_pos h8]
  unfold recsP
  rw [decide_eq_false (by omega)]; rfl
 ·rw [if_neg h8]
  refine(List.filter_eq_nil_iff.2 λr _ hr=>?_).symm
  have h1:partOf r.key=part:=eq_of_beq hr
  have:=partOf_rng r.key
  omega
theorem reads_j1{key:ByteArray}{part life size:Int}{self:Nat}{Lo:List Rec}{Lh:Nat→List Rec}{e1 e2:Dk}{n1:Onode_Node}(hrt:∀r∈Lo,Rt r)(hn:Lo.length≤lim){x y:List Rec}{a b:Dapi_Msg}(ha:a.recs=x)(hb:b.recs=y)(hx:x = []↔gvs Lo key = [])(hy:y=(recsOf (keysOf Lo)).filter λr=>partOf r.key==part):
  m_firthlaw15_NodeReads_j1 key part (recsOf (keysOf Lo)) (n1,e1,[a]) (nd life self size Lo Lh,e2,[b]) (gvs Lo key)=some true:=by
 unfold m_firthlaw15_NodeReads_j1
 rw [key_b5,reads_in part _ 0 [] (by have:=keysOf_len Lo; rw [List.length_nil,recs_len]; omega),e_getR hrt,Option.bind_some,e_ves,Option.bind_some]
 have g0:∀x:Dapi_Msg,gt [x] 0=x:=λ_=>rfl
 simp only [g0,ha,hb]
 have hc:((((x.length:Nat):Int)==0)==((((gvs Lo key).length:Nat):Int)==0))=true:=by
  by_cases h:x = []
  ·rw [h,hx.1 h]; rfl
  ·have h2:gvs Lo key≠[]:=λq=>h (hx.2 q)
   have l1:=List.length_pos_iff.2 h
   have l2:=List.length_pos_iff.2 h2
   rw [show (((x.length:Nat):Int)==0)=false by rw [beq_eq_false_iff_ne]; omega,show ((((gvs Lo key).length:Nat):Int)==0)=false by rw [beq_eq_false_iff_ne]; omega]; rfl
 rw [hc]
 rw [show imp true (decide (0 < [a].length))=true from rfl,chk_t rfl,show imp (true&&true) (decide (0 < [b].length))=true from rfl,chk_t rfl,show (true&&true)=true from rfl,hy,List.nil_append,e_same]
 simp only [gcall,cond_true,Option.bind_some]
 rw [bif_t (by rfl),e_NRecs hrt hn,Option.bind_some,recsP_neg _ (by decide),e_same]; rfl
theorem p_firthlaw15_NodeReads{Γ:Gh}{Alist:Option Addr}{clist:Nat}{list:List Rec}(hlist:Sl recT Γ Alist list)(hlistc:list.length≤clist)(key:ByteArray)(hkey:key.size≤lim)(part:Int)(hpart:I64 part)(hb:bkL Rec.bk list≤1048576):m_firthlaw15_NodeReads list key part=some true:=by
 have l:=lim_eq
 have hll:=rec_len hb
 have hv:=sl_recOk hlist
 unfold m_firthlaw15_NodeReads
 obtain⟨pb,hpb⟩:=e_plain hv
 rw [e_awake,Option.bind_some,hpb,show gcall (!(!true)) (some pb)=some pb from rfl,Option.bind_some]
 cases hc:(((((!true)||(!pb))||(key==ByteArray.empty))||(decide (32<((key.size:Nat):Int))))||(decide (part<0)))||(decide (part<0)) with
 | true=>rw [bif_t rfl]; rfl
 | false=>
  have hp0:0≤part:=by have:=of_decide_eq_false (or_r hc); omega
  have hk32:key.size≤32:=by have:=of_decide_eq_false (or_r (or_l (or_l hc))); omega
  rw [bif_f rfl,e_New,Option.bind_some]
  simp only [e_at,Option.bind_some]
  have i1:i64b 1=true:=by decide
  have i3:i64b 3=true:=by decide
  have i0:i64b 0=true:=by decide
  have i7:i64b 7=true:=by decide
  have hop:=ndN 3 3 (sz:=500) (by decide) (by decide) (by decide) 16777216
  rw [show (((3:Nat):Int))=3 from rfl] at hop
  rw [i1,chk_t rfl,i3,chk_t rfl,hop,Option.bind_some]
  have hsz:max (500:Int) 16=500:=by decide
  rw [hsz]
  have h0:=nd0 (size:=500) (room:=16777216)
  have hR:=rm_le 16777216
  have hRv:rm 16777216=16777216:=by decide
  have z0:Fw.sz (d0 16777216).seen=0:=rfl
  have m0:(mget okF (d0 16777216).seen).isSome=false:=rfl
  generalize d0 16777216=e at h0 z0 m0 ⊢
  generalize rm 16777216=R at h0 hR hRv
  rw [bif_t (show (!(Option.isNone (some (nd 3 3 500 [] λ_=>[]))||((0:Int) != 0)))=true from rfl),Option.bind_some,e_Intact h0 hR,Option.bind_some,m0]
  simp only [Bool.not_false,gcall,cond_true,Option.bind_some]
  have q1:=H_get (self:=3) (life:=3) h0 hR (id:=0) (f:=0) (key:=key) (by decide) (by decide) (by decide) hk32
  rw [m0,show (((3:Nat):Int))=3 from rfl,if_neg (by decide)] at q1
  rw [i1,i0,i3,chk_t rfl,chk_t rfl,chk_t rfl,chk_t rfl,q1,Option.bind_some]
  simp only
  rw [bif_f (by decide),chk_t rfl,chk_t rfl,chk_t rfl,chk_t rfl]
  have q2:=H_bless0 (size:=500) (Lo:=[]) (Lh:=λ_=>[]) (e:=e) (self:=3) (life:=3) (id:=part) (n:=2) (f:=0) hp0 (by decide) (by decide) (by decide) (by decide)
  rw [show (((3:Nat):Int))=3 from rfl] at q2
  rw [q2,Option.bind_some]
  simp only
  rw [bif_t (by decide),e_Intact h0 hR,Option.bind_some,m0,bif_f rfl,chk_t rfl,chk_t rfl,chk_t rfl,chk_t rfl]
  obtain⟨e1,q3,h1,m1⟩:=H_bless (self:=3) (life:=3) h0 hR (by omega) (by omega) (id:=part) (f:=0) hp0 (by decide) (by decide) (by decide)
  rw [show (((3:Nat):Int))=3 from rfl] at q3
  rw [q3,Option.bind_some]
  simp only [List.length_cons,List.length_nil]
  have g0:∀x:Dapi_Msg,gt [x] 0=x:=λ_=>rfl
  simp only [g0]
  have hpp:(part != part)=false:=by simp
  rw [hpp]
  rw [show imp (!((((0+1:Nat):Int)) != 1)) (decide (0<0+1))=true from rfl,chk_t rfl,show imp (!(((((0+1:Nat):Int)) != 1)||((3:Int) != 3))) (decide (0<0+1))=true from rfl,chk_t rfl,show imp (!((((((0+1:Nat):Int)) != 1)||((3:Int) != 3))||((2:Int) != 2))) (decide (0<0+1))=true from rfl,chk_t rfl,bif_t (by decide),e_Intact h1 hR,Option.bind_some,m1,bif_f (by decide)]
  rw [e_putM (by decide),Option.bind_some]
  obtain⟨Lo,e2,a2,q4,h2,m2⟩:=H_put (self:=3) (life:=3) h1 hR (by decide) (by decide) (by decide) hv (by omega) (by omega)
  rw [show (((3:Nat):Int))=3 from rfl] at q4
  have m3:(mget okF e2.seen).isSome=true:=by rw [m2]; exact m1
  have hg:=h2.g dN Lo tab_d
  have hln:=hg.ln
  rw [q4,Option.bind_some]
  simp only
  rw [e_NRecs hg.rt (by omega) (-1),Option.bind_some,recsP_neg _ (by decide),chk_t rfl,chk_t rfl,chk_t rfl,chk_t rfl]
  have q5:=H_get (self:=3) (life:=3) h2 hR (id:=part) (f:=0) (key:=key) hp0 (by decide) (by decide) hk32
  rw [if_pos m3,show (((3:Nat):Int))=3 from rfl] at q5
  rw [q5,Option.bind_some]
  simp only
  have q6:=H_scan (self:=3) (life:=3) h2 hR (by omega) (id:=part) (n:=part) (f:=7) hp0 hp0 (by decide) (by decide) m3
  rw [show (((3:Nat):Int))=3 from rfl] at q6
  rw [i7,chk_t rfl,chk_t rfl,chk_t rfl,chk_t rfl,q6,Option.bind_some]
  simp only [List.length_cons,List.length_nil,g0,gcall,cond_true]
  have hkk:(key != key)=false:=by simp
  rw [hpp,hkk]
  generalize hx:(if gvs Lo key = [] then ([]:List Rec) else [⟨key,gvs Lo key⟩])=x
  have hy:=reads_y (recsOf (keysOf Lo)) hp0
  generalize (if part<8 then recsP (recsOf (keysOf Lo)) part else [])=y at hy
  have key1:=reads_j1 (key:=key) (life:=3) (self:=3) (size:=500) (Lh:=λ_=>[]) (e1:=e2) (e2:=e2) (n1:=nd 3 3 500 Lo λ_=>[]) hg.rt (by omega) (x:=x) (y:=y) (a:=⟨5,⟨1,3⟩,⟨1,0⟩,part,0,0,0,key,x,[],[],[],[]⟩) (b:=⟨7,⟨1,3⟩,⟨1,7⟩,part,part,0,0,ByteArray.empty,y,[],[],[],[]⟩) rfl rfl (by
   rw [← hx]
   by_cases hgv:gvs Lo key = []
   ·rw [if_pos hgv]; exact⟨λ_=>hgv,λ_=>rfl⟩
   ·rw [if_neg hgv]; exact⟨λh=>(List.cons_ne_nil _ _ h).elim,λh=>absurd h hgv⟩) hy
  have hv2:(bif (((x.length:Nat):Int)==1) then (chk (decide (0<x.length)) (m_firthlaw15_NodeReads_j1 key part (recsOf (keysOf Lo)) (nd 3 3 500 Lo λ_=>[],e2,[⟨5,⟨1,3⟩,⟨1,0⟩,part,0,0,0,key,x,[],[],[],[]⟩]) (nd 3 3 500 Lo λ_=>[],e2,[⟨7,⟨1,3⟩,⟨1,7⟩,part,part,0,0,ByteArray.empty,y,[],[],[],[]⟩]) (gt x 0).vers)) else (m_firthlaw15_NodeReads_j1 key part (recsOf (keysOf Lo)) (nd 3 3 500 Lo λ_=>[],e2,[⟨5,⟨1,3⟩,⟨1,0⟩,part,0,0,0,key,x,[],[],[],[]⟩]) (nd 3 3 500 Lo λ_=>[],e2,[⟨7,⟨1,3⟩,⟨1,7⟩,part,part,0,0,ByteArray.empty,y,[],[],[],[]⟩]) []))=some true:=by
   by_cases hgv:gvs Lo key = []
   ·rw [if_pos hgv] at hx
    subst hx
    rw [bif_f (by decide)]
    rw [hgv] at key1; exact key1
   ·rw [if_neg hgv] at hx
    subst hx
    rw [bif_t (by rfl),chk_t (by rfl)]; exact key1
  exact hv2
end Fw
end Go.Proofs.YtckindfllegbgaaGreat
