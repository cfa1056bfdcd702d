/- The plain side: what the models come to. No condition. -/
import Derived.Test.YtckindfllegbgaaGreatPJ1
namespace Go.Proofs.YtckindfllegbgaaGreat
namespace Fw
set_option linter.unusedVariables false
set_option linter.unusedSimpArgs false
set_option linter.unusedSectionVars false
theorem ve_ok{v:Ver}(h:VeOk v):Mg.VerOk v:=by
 have h1:=h.s; have h2:=h.n; have h3:=h.pl; have h5:=h.val
 refine⟨⟨by unfold I64; omega,by unfold I64; omega⟩,by rw [lim_eq]; omega,λx hx=>?_,by rw [lim_eq]; omega⟩
 have:=h.past x hx
 unfold SpOk at this
 unfold I64; omega
theorem vers_ok{r:Rec}(h:ReOk r):Mg.VersOk r.vers:=⟨by have:=h.vl; rw [lim_eq]; omega,λv hv=>ve_ok (h.vers v hv)⟩
def gvs(L:List Rec)(k:ByteArray):List Ver:=decV ((mget k (keysOf L)).getD [])
section
variable {L:List Rec} (hrt:∀r∈L,Rt r)
include hrt
theorem gvs_cases(k:ByteArray):(gvs L k = []∧mget k (keysOf L)=none)∨∃r,Rt r∧r.key=k∧r.vers≠[]∧gvs L k=r.vers∧mget k (keysOf L)=some (reB r):=by
 unfold gvs
 cases hg:mget k (keysOf L) with
 | none=>
  refine .inl ⟨?_,rfl⟩
  show decV [] = []
  unfold decV; rw [e_Rec_nil]
 | some b=>
  obtain⟨r,h1,h2,h3,rfl⟩:=(KI.of hrt).en k b hg
  refine .inr ⟨r,h1,h2,h3,?_,rfl⟩
  show decV (reB r)=_
  unfold decV; rw [e_Rec h1.2 h1.1]
theorem gvs_ok(k:ByteArray):Mg.VersOk (gvs L k):=by
 rcases gvs_cases hrt k with ⟨h,_⟩ | ⟨r,h1,_,_,h,_⟩
 ·rw [h]; exact⟨Nat.zero_le _,λv hv=>by cases hv⟩
 ·rw [h]; exact vers_ok h1.2
theorem e_GetS(nm:ByteArray)(size:Int)(k:ByteArray):m_store_Store_Get (st nm size L) k=some (gvs L k):=e_Get (KI.of hrt) k
theorem e_RecsS(nm:ByteArray)(size:Int)(hn:L.length≤lim):m_store_Store_Recs (st nm size L)=some (recsOf (keysOf L)):=e_Recs (KI.of hrt) (Nat.le_trans (keysOf_len L) hn)
end
theorem upd1_upd1(S:Tab)(nm:ByteArray)(L L':List Rec):upd1 (upd1 S nm L) nm L'=upd1 S nm L':=by
 funext k
 unfold upd1
 by_cases hk:k=nm
 ·rw [if_pos hk,if_pos hk]
 ·rw [if_neg hk,if_neg hk,if_neg hk]
theorem upd1_same{S:Tab}{nm:ByteArray}{L:List Rec}(h:S nm=some L)(k:ByteArray):upd1 S nm L k=S k:=by
 unfold upd1
 by_cases hk:k=nm
 ·rw [if_pos hk,hk,h]
 ·rw [if_neg hk]
section
variable {size:Int} {R:Nat} {nm:ByteArray}
end
theorem e_all_int(lo up:Int)(l:List Int)(most:Int):∃b,m_code_all_int l most lo up=some b:=by
 unfold m_code_all_int
 obtain⟨r,h,_⟩:=forI_ex (body:=m_code_all_int_b1 lo up) (K:=λ_=>some (decide (((l.length:Nat):Int)≤most))) (P:=λ_=>True) (l:=l) (λ_ _=>True) (λs _=>⟨_,rfl,trivial⟩) (λf i t hi _ hf=>by
  unfold m_code_all_int_b1 m_code_between_int_1
  rw [Option.bind_some]
  obtain⟨r,h,_⟩:=hf () trivial
  cases (!(decide (lo≤gt l i)&&decide (gt l i≤up))) with
  | true=>exact⟨_,rfl,trivial⟩
  | false=>exact⟨r,h,trivial⟩) (s:=()) trivial
 exact⟨r,h⟩
theorem e_all_int64(lo up:Int)(l:List Int)(most:Int):∃b,m_code_all_int64 l most lo up=some b:=by
 unfold m_code_all_int64
 obtain⟨r,h,_⟩:=forI_ex (body:=m_code_all_int64_b1 lo up) (K:=λ_=>some (decide (((l.length:Nat):Int)≤most))) (P:=λ_=>True) (l:=l) (λ_ _=>True) (λs _=>⟨_,rfl,trivial⟩) (λf i t hi _ hf=>by
  unfold m_code_all_int64_b1 m_code_between_int64_1
  rw [Option.bind_some]
  obtain⟨r,h,_⟩:=hf () trivial
  cases (!(decide (lo≤gt l i)&&decide (gt l i≤up))) with
  | true=>exact⟨_,rfl,trivial⟩
  | false=>exact⟨r,h,trivial⟩) (s:=()) trivial
 exact⟨r,h⟩
theorem e_all_rec{l:List Rec}(hl:∀r∈l,r.vers.length≤lim)(most:Int):∃b,m_code_all_api_Rec l most=some b∧(b=true→∀r∈l,Rt r):=by
 unfold m_code_all_api_Rec
 obtain⟨r,h,h2⟩:=forI_ex (body:=m_code_all_api_Rec_b1) (K:=λ_=>some (decide (((l.length:Nat):Int)≤most))) (P:=λb=>b=true→∀r∈l,Rt r) (l:=l) (λi _ => ∀j,j<i→Rt (gt l j)) (λs hI=>⟨_,rfl,λ_ r hr=>by
   obtain⟨j,hj,rfl⟩:=List.getElem_of_mem hr
   rw [← gt_eq hj]; exact hI j hj⟩) (λf i t hi hI hf=>by
  unfold m_code_all_api_Rec_b1
  obtain⟨b,b1,b2⟩:=e_RightRec2 (hl (gt l i) (by rw [gt_eq hi]; exact List.getElem_mem hi))
  rw [b1,Option.bind_some]
  cases b with
  | false=>exact⟨false,rfl,λh=>by cases h⟩
  | true=>
   obtain⟨r,h,h2⟩:=hf () (λj hj=>by
    by_cases e:j=i
    ·rw [e]; exact⟨b1,b2 rfl⟩
    ·exact hI j (by omega))
   exact⟨r,h,h2⟩) (s:=()) (λj hj=>absurd hj (Nat.not_lt_zero j))
 exact⟨r,h,h2⟩
theorem gcall_ex{β:Type}[Inhabited β]{p:β→Prop}{x:Option β}(c:Bool)(h:∃b,x=some b∧p b):∃b,gcall c x=some b∧(c=true→p b):=by
 obtain⟨b,h1,h2⟩:=h
 cases c with
 | true=>exact⟨b,h1,λ_=>h2⟩
 | false=>exact⟨default,rfl,λh=>by cases h⟩
theorem e_RM{m:Dapi_Msg}(hl:∀r∈m.recs,r.vers.length≤lim):∃b,m_code_RightMsg m=some b∧(b=true→∀r∈m.recs,Rt r):=by
 unfold m_code_RightMsg
 obtain⟨b1,e1,_⟩:=gcall_ex (p:=λ_=>True) ((decide (1≤m.kind))&&(decide (m.kind≤17))) (x:=m_code_place m.from_) ⟨_,rfl,trivial⟩
 rw [e1,Option.bind_some]
 obtain⟨b2,e2,_⟩:=gcall_ex (p:=λ_=>True) (((decide (1≤m.kind))&&(decide (m.kind≤17)))&&b1) (x:=m_code_place m.to_) ⟨_,rfl,trivial⟩
 rw [e2,Option.bind_some]
 generalize (((((((((((decide (1≤m.kind))&&(decide (m.kind≤17)))&&b1)&&b2)&&(decide (0≤m.id)))&&(decide (0≤m.n)))&&(decide (0≤m.for_)))&&(decide (m.for_≤8)))&&(decide (0≤m.code)))&&(decide (m.code≤999)))&&(decide (((m.key.size:Nat):Int)≤32)))=c
 obtain⟨b3,e3,h3⟩:=gcall_ex c (e_all_rec hl ((m.recs.length:Nat):Int))
 rw [e3,Option.bind_some]
 cases hc:c&&b3 with
 | false=>exact⟨false,rfl,λh=>by cases h⟩
 | true=>
  rw [bif_t rfl]
  have hc':=Bool.and_eq_true_iff.1 hc
  have hrt:=h3 hc'.1 hc'.2
  unfold m_code_between_int64 m_code_between_int
  simp only [Option.bind_some]
  obtain⟨b4,e4⟩:=e_all_int64 0 4611686018427387904 m.vec 16
  rw [e4,Option.bind_some]
  cases b4 with
  | false=>exact⟨false,rfl,λ_=>hrt⟩
  | true=>
   rw [bif_t rfl]
   obtain⟨b5,e5⟩:=e_all_int 0 15 m.path 2
   rw [e5,Option.bind_some]
   cases b5&&decide (((m.hashes.length:Nat):Int)≤16) with
   | false=>exact⟨false,rfl,λ_=>hrt⟩
   | true=>
    rw [bif_t rfl]
    obtain⟨b6,e6⟩:=e_all_int 1 16 m.route 16
    rw [e6,Option.bind_some]
    exact⟨b6,rfl,λ_=>hrt⟩
end Fw
end Go.Proofs.YtckindfllegbgaaGreat
