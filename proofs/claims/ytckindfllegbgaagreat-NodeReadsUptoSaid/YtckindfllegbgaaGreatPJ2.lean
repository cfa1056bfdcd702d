/- The plain side: what the models come to. No condition. -/
import Derived.Test.YtckindfllegbgaaGreatPJ1
namespace Go.Proofs.YtckindfllegbgaaGreat
namespace Fw
set_option linter.unusedVariables false
set_option linter.unusedSimpArgs false
set_option linter.unusedSectionVars false
theorem ve_ok{v:Ver}(h:VeOk v):Mg.VerOk v:=by
 have h1:=h.s; have h2:=h.n; have h3:=h.pl; have h5:=h.val
 refine⟨⟨by unfold I64; omega,by unfold I64; omega⟩,by rw [lim_eq]; omega,λx hx=>?_,by rw [lim_eq]; omega⟩
 have:=h.past x hx
 unfold SpOk at this
 unfold I64; omega
theorem vers_ok{r:Rec}(h:ReOk r):Mg.VersOk r.vers:=⟨by have:=h.vl; rw [lim_eq]; omega,λv hv=>ve_ok (h.vers v hv)⟩
def gvs(L:List Rec)(k:ByteArray):List Ver:=decV ((mget k (keysOf L)).getD [])
section
variable {L:List Rec} (hrt:∀r∈L,Rt r)
include hrt
theorem gvs_cases(k:ByteArray):(gvs L k = []∧mget k (keysOf L)=none)∨∃r,Rt r∧r.key=k∧r.vers≠[]∧gvs L k=r.vers∧mget k (keysOf L)=some (reB r):=by
 unfold gvs
 cases hg:mget k (keysOf L) with
 | none=>
  refine .inl ⟨?_,rfl⟩
  show decV [] = []
  unfold decV; rw [e_Rec_nil]
 | some b=>
  obtain⟨r,h1,h2,h3,rfl⟩:=(KI.of hrt).en k b hg
  refine .inr ⟨r,h1,h2,h3,?_,rfl⟩
  show decV (reB r)=_
  unfold decV; rw [e_Rec h1.2 h1.1]
theorem gvs_ok(k:ByteArray):Mg.VersOk (gvs L k):=by
 rcases gvs_cases hrt k with ⟨h,_⟩ | ⟨r,h1,_,_,h,_⟩
 ·rw [h]; exact⟨Nat.zero_le _,λv hv=>by cases hv⟩
 ·rw [h]; exact vers_ok h1.2
theorem e_GetS(nm:ByteArray)(size:Int)(k:ByteArray):m_store_Store_Get (st nm size L) k=some (gvs L k):=e_Get (KI.of hrt) k
theorem e_RecsS(nm:ByteArray)(size:Int)(hn:L.length≤lim):m_store_Store_Recs (st nm size L)=some (recsOf (keysOf L)):=e_Recs (KI.of hrt) (Nat.le_trans (keysOf_len L) hn)
end
theorem upd1_upd1(S:Tab)(nm:ByteArray)(L L':List Rec):upd1 (upd1 S nm L) nm L'=upd1 S nm L':=by
 funext k
 unfold upd1
 by_cases hk:k=nm
 ·rw [if_pos hk,if_pos hk]
 ·rw [if_neg hk,if_neg hk,if_neg hk]
theorem upd1_same{S:Tab}{nm:ByteArray}{L:List Rec}(h:S nm=some L)(k:ByteArray):upd1 S nm L k=S k:=by
 unfold upd1
 by_cases hk:k=nm
 ·rw [if_pos hk,hk,h]
 ·rw [if_neg hk]
section
variable {size:Int} {R:Nat} {nm:ByteArray}
theorem e_nlay(hR:R≤MX)(hs0:0≤size)(hs1:size≤9223372036854775807):∀(l:List Rec) (i N:Nat) (e:Dk) (S:Tab) (L:List Rec),NdI size R N e S→S nm=some L→(∀r∈l,Mg.VersOk r.vers)→N+l.length≤lim →
  ∃L' e' c,forI (m_node_lay_b4) (λ(o3,o6)=>(some (o3,o6,(0:Int)))) i l (st nm size L,e)=some (st nm size L',e',c)∧NdI size R (N+l.length) e' (upd1 S nm L')∧mget okF e'.seen=mget okF e.seen
 | [],i,N,e,S,L,h,hS,_,_=>⟨L,e,0,rfl,h.tab (upd1_same hS),rfl⟩
 | r::l,i,N,e,S,L,h,hS,hv,hN=>by
  rw [List.length_cons] at hN ⊢
  have hg:=h.g nm L hS
  have ha:=gvs_ok hg.rt r.key
  have hb:=hv r List.mem_cons_self
  show ∃L' e' c,m_node_lay_b4 (forI m_node_lay_b4 (λ(o3,o6)=>(some (o3,o6,(0:Int)))) (i+1) l) i r (st nm size L,e)=_∧_
  have rest:∀M e1 L1,N≤M→M≤N+1→NdI size R M e1 (upd1 S nm L1)→mget okF e1.seen=mget okF e.seen→∃L' e' c,forI m_node_lay_b4 (λ(o3,o6)=>(some (o3,o6,(0:Int)))) (i+1) l (st nm size L1,e1)=some (st nm size L',e',c)∧NdI size R (N+(l.length+1)) e' (upd1 S nm L')∧mget okF e'.seen=mget okF e.seen:=by
   intro M e1 L1 hM hM2 h1 h2
   obtain⟨L',e',c,q1,q2,q3⟩:=e_nlay hR hs0 hs1 l (i+1) M e1 (upd1 S nm L1) L1 h1 (by unfold upd1; rw [if_pos rfl]) (λx hx=>hv x (List.mem_cons_of_mem _ hx)) (by omega)
   rw [upd1_upd1] at q2
   exact⟨L',e',c,q1,q2.mono (by omega),q3.trans h2⟩
  generalize forI m_node_lay_b4 (λ(o3,o6)=>(some (o3,o6,(0:Int)))) (i+1) l=f at rest ⊢
  unfold m_node_lay_b4 m_node_lay_j5
  simp only
  rw [e_GetS hg.rt,Option.bind_some,Mg.e_Merge ha hb,Option.bind_some,Mg.e_vsSameL,gcall_s,Option.bind_some]
  have h0:=h.tab (upd1_same hS)
  generalize hz:Mg.vsMerge (gvs L r.key) r.vers=z
  have hzl:z.1.length≤lim:=by
   have:=Mg.merge_len (gvs L r.key) r.vers
   rw [← Mg.merge_eq,hz] at this
   rw [lim_eq]; omega
  cases hc:((z.2==0)&&!(bif z.2==0 then Mg.vsSameL z.1 (gvs L r.key) else default)) with
  | true=>
   rw [bif_t rfl]
   obtain⟨L1,e1,c1,p1,p2,p3,_⟩:=h.put hS hR hs0 hs1 (by omega) (r:=⟨r.key,z.1⟩) hzl
   rw [p1,Option.bind_some]
   simp only
   cases hc1:(c1 != 0) with
   | true=>rw [bif_t rfl]; exact⟨L1,e1,c1,rfl,p2.mono (by omega),p3⟩
   | false=>rw [bif_f rfl]; exact rest (N+1) e1 L1 (by omega) (Nat.le_refl _) p2 p3
  | false=>
   rw [bif_f rfl]
   cases hc1:(z.2 != 0) with
   | true=>rw [bif_t rfl]; exact⟨L,e,z.2,rfl,h0.mono (by omega),rfl⟩
   | false=>rw [bif_f rfl]; exact rest N e L (Nat.le_refl _) (by omega) h0 rfl
end
theorem e_all_int(lo up:Int)(l:List Int)(most:Int):∃b,m_code_all_int l most lo up=some b:=by
 unfold m_code_all_int
 obtain⟨r,h,_⟩:=forI_ex (body:=m_code_all_int_b1 lo up) (K:=λ_=>some (decide (((l.length:Nat):Int)≤most))) (P:=λ_=>True) (l:=l) (λ_ _=>True) (λs _=>⟨_,rfl,trivial⟩) (λf i t hi _ hf=>by
  unfold m_code_all_int_b1 m_code_between_int_1
  rw [Option.bind_some]
  obtain⟨r,h,_⟩:=hf () trivial
  cases (!(decide (lo≤gt l i)&&decide (gt l i≤up))) with
  | true=>exact⟨_,rfl,trivial⟩
  | false=>exact⟨r,h,trivial⟩) (s:=()) trivial
 exact⟨r,h⟩
theorem e_all_int64(lo up:Int)(l:List Int)(most:Int):∃b,m_code_all_int64 l most lo up=some b:=by
 unfold m_code_all_int64
 obtain⟨r,h,_⟩:=forI_ex (body:=m_code_all_int64_b1 lo up) (K:=λ_=>some (decide (((l.length:Nat):Int)≤most))) (P:=λ_=>True) (l:=l) (λ_ _=>True) (λs _=>⟨_,rfl,trivial⟩) (λf i t hi _ hf=>by
  unfold m_code_all_int64_b1 m_code_between_int64_1
  rw [Option.bind_some]
  obtain⟨r,h,_⟩:=hf () trivial
  cases (!(decide (lo≤gt l i)&&decide (gt l i≤up))) with
  | true=>exact⟨_,rfl,trivial⟩
  | false=>exact⟨r,h,trivial⟩) (s:=()) trivial
 exact⟨r,h⟩
theorem e_all_rec{l:List Rec}(hl:∀r∈l,r.vers.length≤lim)(most:Int):∃b,m_code_all_api_Rec l most=some b∧(b=true→∀r∈l,Rt r):=by
 unfold m_code_all_api_Rec
 obtain⟨r,h,h2⟩:=forI_ex (body:=m_code_all_api_Rec_b1) (K:=λ_=>some (decide (((l.length:Nat):Int)≤most))) (P:=λb=>b=true→∀r∈l,Rt r) (l:=l) (λi _ => ∀j,j<i→Rt (gt l j)) (λs hI=>⟨_,rfl,λ_ r hr=>by
   obtain⟨j,hj,rfl⟩:=List.getElem_of_mem hr
   rw [← gt_eq hj]; exact hI j hj⟩) (λf i t hi hI hf=>by
  unfold m_code_all_api_Rec_b1
  obtain⟨b,b1,b2⟩:=e_RightRec2 (hl (gt l i) (by rw [gt_eq hi]; exact List.getElem_mem hi))
  rw [b1,Option.bind_some]
  cases b with
  | false=>exact⟨false,rfl,λh=>by cases h⟩
  | true=>
   obtain⟨r,h,h2⟩:=hf () (λj hj=>by
    by_cases e:j=i
    ·rw [e]; exact⟨b1,b2 rfl⟩
    ·exact hI j (by omega))
   exact⟨r,h,h2⟩) (s:=()) (λj hj=>absurd hj (Nat.not_lt_zero j))
 exact⟨r,h,h2⟩
theorem gcall_ex{β:Type}[Inhabited β]{p:β→Prop}{x:Option β}(c:Bool)(h:∃b,x=some b∧p b):∃b,gcall c x=some b∧(c=true→p b):=by
 obtain⟨b,h1,h2⟩:=h
 cases c with
 | true=>exact⟨b,h1,λ_=>h2⟩
 | false=>exact⟨default,rfl,λh=>by cases h⟩
theorem e_RM{m:Dapi_Msg}(hl:∀r∈m.recs,r.vers.length≤lim):∃b,m_code_RightMsg m=some b∧(b=true→∀r∈m.recs,Rt r):=by
 unfold m_code_RightMsg
 obtain⟨b1,e1,_⟩:=gcall_ex (p:=λ_=>True) ((decide (1≤m.kind))&&(decide (m.kind≤17))) (x:=m_code_place m.from_) ⟨_,rfl,trivial⟩
 rw [e1,Option.bind_some]
 obtain⟨b2,e2,_⟩:=gcall_ex (p:=λ_=>True) (((decide (1≤m.kind))&&(decide (m.kind≤17)))&&b1) (x:=m_code_place m.to_) ⟨_,rfl,trivial⟩
 rw [e2,Option.bind_some]
 generalize (((((((((((decide (1≤m.kind))&&(decide (m.kind≤17)))&&b1)&&b2)&&(decide (0≤m.id)))&&(decide (0≤m.n)))&&(decide (0≤m.for_)))&&(decide (m.for_≤8)))&&(decide (0≤m.code)))&&(decide (m.code≤999)))&&(decide (((m.key.size:Nat):Int)≤32)))=c
 obtain⟨b3,e3,h3⟩:=gcall_ex c (e_all_rec hl ((m.recs.length:Nat):Int))
 rw [e3,Option.bind_some]
 cases hc:c&&b3 with
 | false=>exact⟨false,rfl,λh=>by cases h⟩
 | true=>
  rw [bif_t rfl]
  have hc':=Bool.and_eq_true_iff.1 hc
  have hrt:=h3 hc'.1 hc'.2
  unfold m_code_between_int64 m_code_between_int
  simp only [Option.bind_some]
  obtain⟨b4,e4⟩:=e_all_int64 0 4611686018427387904 m.vec 16
  rw [e4,Option.bind_some]
  cases b4 with
  | false=>exact⟨false,rfl,λ_=>hrt⟩
  | true=>
   rw [bif_t rfl]
   obtain⟨b5,e5⟩:=e_all_int 0 15 m.path 2
   rw [e5,Option.bind_some]
   cases b5&&decide (((m.hashes.length:Nat):Int)≤16) with
   | false=>exact⟨false,rfl,λ_=>hrt⟩
   | true=>
    rw [bif_t rfl]
    obtain⟨b6,e6⟩:=e_all_int 1 16 m.route 16
    rw [e6,Option.bind_some]
    exact⟨b6,rfl,λ_=>hrt⟩
theorem e_RM0{k id n:Int}{f t:Int}{key:ByteArray}(h1:1≤k∧k≤17)(hid:0≤id)(hn:0≤n)(hf:0≤f∧f≤8)(ht:0≤t∧t≤8)(hk:key.size≤32):m_code_RightMsg ⟨k,⟨1,f⟩,⟨1,t⟩,id,n,0,0,key,[],[],[],[],[]⟩=some true:=by
 unfold m_code_RightMsg m_code_place m_code_between_int64 m_code_between_int m_code_all_api_Rec m_code_all_int64 m_code_all_int
 have a1:decide (1≤k)=true:=decide_eq_true h1.1
 have a2:decide (k≤17)=true:=decide_eq_true h1.2
 have a3:decide (0≤id)=true:=decide_eq_true hid
 have a4:decide (0≤n)=true:=decide_eq_true hn
 have a5:decide (0≤f)=true:=decide_eq_true hf.1
 have a6:decide (f≤8)=true:=decide_eq_true hf.2
 have a7:decide (0≤t)=true:=decide_eq_true ht.1
 have a8:decide (t≤8)=true:=decide_eq_true ht.2
 have a9:decide (((key.size:Nat):Int)≤32)=true:=decide_eq_true (by omega)
 simp only [a1,a2,a3,a4,a5,a6,a7,a8,a9]
 rfl
end Fw
end Go.Proofs.YtckindfllegbgaaGreat
