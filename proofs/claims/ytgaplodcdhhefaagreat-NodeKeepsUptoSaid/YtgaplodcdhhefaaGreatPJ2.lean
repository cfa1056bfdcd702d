/- The plain side: what the models come to. No condition. -/
import Derived.Test.YtgaplodcdhhefaaGreatH1
namespace Go.Proofs.YtgaplodcdhhefaaGreat
namespace Fw
set_option linter.unusedVariables false
set_option linter.unusedSimpArgs false
set_option linter.unusedSectionVars false
def rH(key:ByteArray):Int:=(fS key).getD 0
theorem D6(key:ByteArray):∃v,fS key=some v:=⟨_,C5 key⟩
theorem e_pt(key:ByteArray):fS key=some (rH key)∧True:=by
 obtain⟨v,h⟩:=D6 key
 unfold rH
 rw [h]; exact⟨rfl,trivial⟩
theorem Bk(a b:List Span):∃r,dq a b=some r:=by
 unfold dq
 obtain⟨r,h,_⟩:=ez (body:=fE a b) (K:=λ_=>some true) (P:=λ_=>True) (l:=a) (λ_ _=>True) (λs _=>⟨_,rfl,trivial⟩) (λf i t hi _ hf=>by
  unfold fE
  exact ez (body:=fF a i) (P:=λ_=>True) (l:=b) (λ_ _=>True) (λs _=>by
   cases s with
   | true=>exact hf () trivial
   | false=>exact⟨_,rfl,trivial⟩) (λg j s hj _ hg=>by
   unfold fF
   exact hg _ trivial) trivial) (s:=()) trivial
 exact⟨r,h⟩
theorem xX(a b:List Ver):∃r,cO a b=some r:=by
 unfold cO
 obtain⟨r,h,_⟩:=ez (body:=eN a b) (K:=λ_=>some true) (P:=λ_=>True) (l:=a) (λ_ _=>True) (λs _=>⟨_,rfl,trivial⟩) (λf i t hi _ hf=>by
  unfold eN
  exact ez (body:=eG a b i) (P:=λ_=>True) (l:=b) (λ_ _=>True) (λs _=>hf () trivial) (λg j s hj _ hg=>by
   unfold eG
   obtain⟨b1,e1,_⟩:=mf (p:=λ_=>True) ((gt a i).dot==(gt b j).dot) (x:=b7 (gt a i) (gt b j)) ⟨_,Mg.e_SameOne _ _,trivial⟩
   rw [e1,E2]
   cases ((gt a i).dot==(gt b j).dot)&&(!b1) with
   | true=>exact⟨_,rfl,trivial⟩
   | false=>
    rw [ay rfl,ao (E5 (by omega)),Mg.e_r5Behind,E2]
    generalize Mg.r5Behind (List.drop i (List.take (i+1) a)) (gt b j).dot=z
    have hc:imp z (decide (j+1≤b.length))=true:=by rw [E5 (show j+1≤b.length by omega)]; cases z <;> rfl
    obtain⟨b2,e2,_⟩:=mf (p:=λ_=>True) z (x:=bz (List.drop j (List.take (j+1) b)) (gt a i).dot) ⟨_,Mg.e_r5Behind _ _,trivial⟩
    rw [ao hc,e2,E2]
    obtain⟨r0,er⟩:=Bk (gt b j).past (gt a i).past
    obtain⟨b3,e3,_⟩:=mf (p:=λ_=>True) (z&&(!b2)) (x:=dq (gt b j).past (gt a i).past) ⟨_,er,trivial⟩
    rw [e3,E2]
    cases z&&(b2||(!b3)) with
    | true=>exact⟨_,rfl,trivial⟩
    | false=>exact hg () trivial) trivial) (s:=()) trivial
 exact⟨r,h⟩
theorem B3(l:List Rec):∃r,fi l=some r:=by
 unfold fi
 obtain⟨r,h,_⟩:=ez (body:=fD) (K:=λn=>some n) (P:=λ_=>True) (l:=l) (λ_ _=>True) (λs _=>⟨_,rfl,trivial⟩) (λf i t hi _ hf=>by
  unfold fD
  exact ez (body:=fG) (P:=λ_=>True) (l:=(gt l i).vers) (λ_ _=>True) (λs _=>hf s trivial) (λg j s hj _ hg=>by
   unfold fG
   exact hg _ trivial) trivial) (s:=(0:Int)) trivial
 exact⟨r,h⟩
theorem Cr{r:Rec}(h:Mg.VersOk r.vers):∃b,bE r=some b:=by
 unfold bE
 obtain⟨b,e1,_⟩:=mf (p:=λ_=>True) ((r.key != ByteArray.empty)&&(decide (((r.key.size:Nat):Int)≤32))) (x:=dk r.vers) ⟨_,Mg.e_r5Right h,trivial⟩
 rw [e1,E2]; exact⟨_,rfl⟩
theorem AU{l:List Rec}(hl:∀r∈l,Mg.VersOk r.vers):∃b,cG l=some b:=by
 unfold cG
 obtain⟨z,hz⟩:=B3 l
 rw [hz,E2]
 cases decide (65536<z) with
 | true=>exact⟨_,rfl⟩
 | false=>
  rw [ay rfl]
  obtain⟨r,h,_⟩:=ez (body:=aY l) (K:=λ_=>some true) (P:=λ_=>True) (l:=l) (λ_ _=>True) (λs _=>⟨_,rfl,trivial⟩) (λf i t hi _ hf=>by
   unfold aY
   obtain⟨b,hb⟩:=Cr (hl (gt l i) (by rw [bA hi]; exact List.getElem_mem hi))
   rw [hb,E2]
   cases (!b)||(decide (512<(w64 (t+(((gt l i).vers.length:Nat):Int))))) with
   | true=>exact⟨_,rfl,trivial⟩
   | false=>
    rw [ay rfl]
    exact ez (body:=aZ l i) (P:=λ_=>True) (l:=l) (λ_ _=>True) (λs _=>hf _ trivial) (λg j s hj _ hg=>by
     unfold aZ
     obtain⟨w,hw⟩:=xX (gt l i).vers (gt l j).vers
     obtain⟨b2,e2,_⟩:=mf (p:=λ_=>True) ((gt l i).key==(gt l j).key) (x:=cO (gt l i).vers (gt l j).vers) ⟨_,hw,trivial⟩
     rw [e2,E2]
     cases ((gt l i).key==(gt l j).key)&&(!b2) with
     | true=>exact⟨_,rfl,trivial⟩
     | false=>exact hg () trivial) trivial) (s:=(0:Int)) trivial
  exact⟨r,h⟩
section
variable {L:List Rec} (hrt:∀r∈L,Rt r)
include hrt
end
section
variable {size life:Int} {R N self:Nat} {e:Dk} {Lo:List Rec} {Lh:Nat→List Rec}
def s8(l:List Rec)(p:Int):List Rec:=l.filter λr=>decide (p<0)||(rH r.key==p)
theorem rx(p:Int):∀(l:List Rec) (i:Nat) (out:List Rec),out.length+l.length≤lim→forI (cm p) (λout_13=>some out_13) i l out=some (out++s8 l p)
 | [],i,out,_=>by show some out=_; unfold s8; rw [List.filter_nil,Eb]
 | r::l,i,out,hl=>by
  rw [DY] at hl
  have ih:=λo (h:o.length+l.length≤lim)=>rx p l (i+1) o h
  show cm p (forI (cm p) (λout_13=>some out_13) (i+1) l) i r out=_
  generalize forI (cm p) (λout_13=>some out_13) (i+1) l=f at ih ⊢
  unfold cm d7
  rw [(e_pt r.key).1]
  unfold s8
  rw [List.filter_cons]
  cases hp:decide (p<0) with
  | true=>
   show chk (decide (out.length+1≤lim)) (f (out++[r]))=_
   rw [ao (E5 (by omega)),ih _ (by rw [DS,List.length_singleton]; omega)]
   unfold s8
   rw [hp]
   simp
  | false=>
   show (bif (false||(rH r.key==p)) then chk (decide (out.length+1≤lim)) (f (out++[r])) else f out)=_
   cases hq:rH r.key==p with
   | true=>
    rw [bq (show (false||true)=true from rfl),ao (E5 (by omega)),ih _ (by rw [DS,List.length_singleton]; omega)]
    unfold s8
    rw [hp]
    simp
   | false=>
    rw [ay (show (false||false)=false from rfl),ih _ (by omega)]
    unfold s8
    rw [hp]
    simp
theorem Ba(hrt:∀r∈Lo,Rt r)(hn:Lo.length≤lim)(p:Int):aL (nd life self size Lo Lh) p=some (s8 (sd (fp Lo)) p):=by
 unfold aL
 rw [show (nd life self size Lo Lh).own=st dN size Lo from rfl,AW hrt dN size hn,E2,rx p _ 0 [] (by have:=rK Lo; rw [Ea,zP]; omega)]; rfl
variable {f id n:Int} {key:ByteArray}
end
theorem vQ{Γ:Gh}{A:Option Addr}{l:List Ver}(h:Sl verT Γ A l):Mg.VersOk l:=by
 refine⟨h.le,λv hv=>?_⟩
 obtain⟨j,hj,rfl⟩:=List.getElem_of_mem hv
 rw [← bA hj]
 obtain⟨A2,c2,h2⟩:=h.verT_at j
 obtain⟨a1,a2,a3,a4⟩:=(h2 hj).1
 refine⟨⟨a1,a2⟩,a3.2.le,λx hx=>?_,a4⟩
 obtain⟨k,hk,rfl⟩:=List.getElem_of_mem hx
 rw [← bA hk]
 exact(a3.2.spanT_at hk).1.2.1
theorem yn{Γ:Gh}{A:Option Addr}{l:List Rec}(h:Sl recT Γ A l):∀r∈l,Mg.VersOk r.vers:=λr hr=>by
 obtain⟨j,hj,rfl⟩:=List.getElem_of_mem hr
 rw [← bA hj]
 obtain⟨A2,c2,h2⟩:=h.recT_at j
 exact vQ (h2 hj).1.2.2
theorem zR{l:List Rec}(hb:bkL Rec.bk l≤1048576):l.length≤1048576:=Nat.le_trans (Bj (λr=>by unfold Rec.bk; omega) l) hb
theorem vE{α:Type}{body:(Unit→Option Bool)→Nat→α→Unit→Option Bool}{bad:α→Bool}{K:Unit→Option Bool}:∀{l:List α} (i:Nat),(∀f i x,x∈l→body f i x ()=bif bad x then some false else f ())→forI body K i l ()=bif l.any bad then some false else K ()
 | [],i,_=>rfl
 | x::l,i,h=>by
  have ih:=vE (K:=K) (l:=l) (i+1) λf j y hy=>h f j y (DU _ hy)
  show body (forI body K (i+1) l) i x ()=_
  rw [h _ _ _ DT,List.any_cons,ih]
  cases bad x <;> rfl
def rrB(r:Rec):Bool:=((decide (1≤((r.key.size:Nat):Int)))&&(decide (((r.key.size:Nat):Int)≤32)))&&Mg.r5Right r.vers
theorem rr_c{r:Rec}(hv:Mg.VersOk r.vers):bc r=some (rrB r):=by
 unfold bc rrB
 rw [Mg.e_Right5 hv.1,bX,E2,Mg.right_eq]
 cases ((decide (1≤((r.key.size:Nat):Int)))&&(decide (((r.key.size:Nat):Int)≤32))) <;> rfl
theorem rr_r{r:Rec}(hv:Mg.VersOk r.vers):bE r=some (rrB r):=by
 unfold bE rrB
 have hk:(r.key != ByteArray.empty)=decide (1≤((r.key.size:Nat):Int)):=by
  by_cases h:r.key=ByteArray.empty
  ·rw [h]; decide
  ·have:r.key.size≠0:=λe=>h (by
    have e2:r.key.data.size=0:=e
    have e3:=Array.eq_empty_of_size_eq_zero e2
    cases hr:r.key with | mk d=>rw [hr] at e3; simp only at e3; rw [e3]; rfl)
   rw [E5 (by omega)]
   exact bne_iff_ne.2 h
 rw [Mg.e_r5Right hv,bX,E2,hk]
 cases ((decide (1≤((r.key.size:Nat):Int)))&&(decide (((r.key.size:Nat):Int)≤32))) <;> rfl
def badR(r:Rec):Bool:=!rrB r
theorem Dd{l:List Rec}(hv:∀r∈l,Mg.VersOk r.vers):eY l ((l.length:Nat):Int)=some (!l.any badR):=by
 unfold eY
 refine(vE (bad:=badR) 0 λf i x hx=>?_).trans ?_
 ·unfold iO badR
  rw [rr_c (hv x hx)]; rfl
 ·rw [E5 (Int.le_refl _)]
  cases l.any badR <;> rfl
theorem uG{k:ByteArray}:∀(l:List Ver) (i:Nat) (out:List Ver),(∀v∈l,v.past.length≤lim)→out.length+l.length≤lim→forI cp (λx=>some (⟨k,x⟩:Rec)) i l out=some ⟨k,out++l⟩
 | [],i,out,_,_=>by rw [Eb]; rfl
 | v::l,i,out,hv,hl=>by
  rw [DY] at hl
  show cp (forI cp (λx=>some (⟨k,x⟩:Rec)) (i+1) l) i v out=_
  have ih:=uG (k:=k) l (i+1) (out++[v]) (λx hx=>hv x (DU _ hx)) (by rw [DS,List.length_singleton]; omega)
  have h1:=hv v DT
  generalize forI cp (λx=>some (⟨k,x⟩:Rec)) (i+1) l=f at ih ⊢
  unfold cp
  rw [ao (E5 (by omega)),ao (E5 (by omega)),ih,DV]; rfl
theorem Cs{r:Rec}(h:Mg.VersOk r.vers):gw r=some r:=by
 unfold gw
 have h1:=h.1
 rw [uG r.vers 0 [] (λv hv=>by have:=(h.2 v hv).len; omega) (by simpa using h1)]; rfl
theorem tN{K:List Rec→Option Bool}:∀(l:List Rec) (i:Nat) (out:List Rec),(∀r∈l,Mg.VersOk r.vers)→out.length+l.length≤lim→forI b9 K i l out=K (out++l)
 | [],i,out,_,_=>by rw [Eb]; rfl
 | r::l,i,out,hv,hl=>by
  rw [DY] at hl
  show b9 (forI b9 K (i+1) l) i r out=_
  have ih:=tN (K:=K) l (i+1) (out++[r]) (λx hx=>hv x (DU _ hx)) (by rw [DS,List.length_singleton]; omega)
  generalize forI b9 K (i+1) l=f at ih ⊢
  unfold b9
  rw [Cs (hv r DT),E2,ao (E5 (by omega)),ih,DV]; rfl
theorem zq{l0:List Rec}{j:Nat}{K:Unit→Option Bool}:∀(l:List Rec) (i:Nat),forI (aZ l0 j) K i l ()=some true→K ()=some true
 | [],_,h=>h
 | x::l,i,h=>by
  have h:aZ l0 j (forI (aZ l0 j) K (i+1) l) i x ()=some true:=h
  have ih:=zq (l0:=l0) (j:=j) (K:=K) l (i+1)
  generalize forI (aZ l0 j) K (i+1) l=f at h ih
  unfold aZ at h
  obtain⟨z,_,h⟩:=bnd h
  cases hc:(((gt l0 j).key==x.key)&&(!z)) with
  | true=>rw [hc,bq rfl] at h; cases h
  | false=>rw [hc,ay rfl] at h; exact ih h
theorem uL{l0:List Rec}:∀(l:List Rec) (i:Nat) (n:Int),(∀r∈l,Mg.VersOk r.vers)→forI (aY l0) (λ_=>some true) i l n=some true→∀r∈l,rrB r=true
 | [],_,_,_,_=>λr hr=>by cases hr
 | r::l,i,n,hv,h=>by
  have h:aY l0 (forI (aY l0) (λ_=>some true) (i+1) l) i r n=some true:=h
  have ih:=λm=>uL (l0:=l0) l (i+1) m (λx hx=>hv x (DU _ hx))
  generalize forI (aY l0) (λ_=>some true) (i+1) l=f at h ih
  unfold aY at h
  rw [rr_r (hv r DT),E2] at h
  cases hc:((!rrB r)||(decide (512<(w64 (n+(((r.vers).length:Nat):Int)))))) with
  | true=>rw [hc,bq rfl] at h; cases h
  | false=>
   rw [hc,ay rfl] at h
   have h2:=zq _ _ h
   have hr:rrB r=true:=by have:=(Bool.or_eq_false_iff.1 hc).1; simpa using this
   intro x hx
   rcases List.mem_cons.1 hx with rfl | hx
   ·exact hr
   ·exact ih _ h2 x hx
theorem ut{l:List Rec}(hv:∀r∈l,Mg.VersOk r.vers)(h:cG l=some true):∀r∈l,rrB r=true:=by
 unfold cG at h
 obtain⟨z,_,h⟩:=bnd h
 cases hc:decide (65536<z) with
 | true=>rw [hc,bq rfl] at h; cases h
 | false=>rw [hc,ay rfl] at h; exact uL _ _ _ hv h
theorem BT{l:List Rec}(hv:∀r∈l,Mg.VersOk r.vers)(h:∀r∈l,rrB r=true):fA ⟨1,⟨1,0⟩,⟨1,2⟩,5,0,0,0,ByteArray.empty,l,[],[],[],[]⟩=some true:=by
 have ha:l.any badR=false:=List.any_eq_false.2 λx hx=>by unfold badR; rw [h x hx]; decide
 unfold fA
 simp only
 rw [show ip ⟨1,0⟩=some true from rfl,bX,E2,show ip ⟨1,2⟩=some true from rfl,bX,E2,Dd hv,ha,bX,E2]
 rfl
theorem As{life size:Int}{self:Nat}{Lo:List Rec}{Lh:Nat→List Rec}(hrt:∀r∈Lo,Rt r)(hn:Lo.length≤lim){a:ae}{l:List Rec}:
  (chk (decide (0+1≤lim)) (Option.bind (aL (nd life self size Lo Lh) (-1)) λz152=>(Option.bind (bM (!((([a].length:Nat):Int) != 1)) (aQ l l)) λz168=>(bif (((([a].length:Nat):Int) != 1)||(!z168)) then
 (some false)
 else
 (Option.bind (aP l) λz172=>(chk (decide (0 < [a].length)) (Option.bind (aP ((gt [a] 0).recs)) λz191=>(Option.bind (aL (nd life self size Lo Lh) (-1)) λz198=>(Option.bind (aP z198) λz211=>(Option.bind (aL (nd life self size Lo Lh) (-1)) λz218=>(Option.bind (aQ z218 z152) λz231=>(some z231))))))))))))=some true:=by
 rw [ao (E5 (by rw [aK]; omega)),Ba hrt hn,E2,show (!((([a].length:Nat):Int) != 1))=true from rfl,su]
 simp only [bM,cond_true,E2]
 rw [ay (by rfl)]
 unfold aP
 rw [E2,ao (by rfl)]
 simp only [E2]
 rw [su]; rfl
theorem lH{Γ:Gh}{Alist:Option Addr}{clist:Nat}{list:List Rec}(hlist:Sl recT Γ Alist list)(hlistc:list.length≤clist)(hb:bkL Rec.bk list≤1048576):fo list=some true:=by
 have l:=aK
 have hll:=zR hb
 have hv:=yn hlist
 unfold fo
 obtain⟨pb,hpb⟩:=AU hv
 rw [AD,E2,hpb,show bM (!(!true)) (some pb)=some pb from rfl,E2]
 cases pb with
 | false=>rw [bq (by rfl)]; rfl
 | true=>
  have hrr:=ut hv hpb
  rw [ay (by rfl),CT,E2]
  have hop:=AN (self:=2) (life:=3) (sz:=500) (nd0 (size:=500) (room:=16777216)) (BK 16777216) (by rw [l]; omega) (by decide) (by decide) (by decide) (by decide)
  rw [show (((2:Nat):Int))=2 from rfl] at hop
  rw [hop,E2]
  simp only
  rw [ay (by rfl),E2,tN list 0 [] hv (by rw [l,Ea]; omega),Ee,BT hv hrr,E2,ao rfl,ao (by rfl),ao (by rfl),ao (by rfl)]
  have h0:=nd0 (size:=500) (room:=16777216)
  obtain⟨Lo',e',c,q1,q2,q3⟩:=yy (BK 16777216) (by decide) (by decide) list 0 0 _ _ [] h0 zU hv (by rw [l]; omega)
  rw [Du] at q2
  have hlay:j3 (st dN 500 []) list (d0 16777216)=some (st dN 500 Lo',e',c):=q1
  have hg:=q2.g dN Lo' zU
  rw [show (nd 3 2 500 [] λ_=>[]).own=st dN 500 [] from rfl,hlay,E2]
  simp only
  cases hc:(c != 0) with
  | true=>rw [bq rfl]; exact As (life:=3) (self:=2) (size:=500) (Lo:=Lo') (Lh:=λ_=>[]) hg.rt (by have:=hg.ln; omega)
  | false=>
   have hown:iR list=some list:=by
    unfold iR
    have:=eO (body:=kS) (k:=λout_3=>some out_3) (l:=list) (λi s=>some (s++list.drop i)) (λi s=>s=list.take i) (λs hs=>by rw [E1 (E6 _),Eb]) (λf i s hi hs hf=>by
     unfold kS
     have hv:=hv (gt list i) (by rw [bA hi]; exact List.getElem_mem hi)
     refine(eO (body:=kR) (l:=(gt list i).vers) (λj t=>f (s++[⟨(gt list i).key,t++(gt list i).vers.drop j⟩])) (λj t=>t=(gt list i).vers.take j) (λt ht=>?_) (λg j t hj ht hg=>?_) (s:=[]) rfl).trans ?_
     ·rw [ao (E5 (by rw [hs,Ei]; omega)),E1 (E6 _),Eb]
     ·unfold kR
      have hvj:=hv.2 (gt (gt list i).vers j) (by rw [bA hj]; exact List.getElem_mem hj)
      have hl1:=hv.1
      rw [ao (E5 (by have:=hvj.len; omega)),ao (E5 (by rw [ht,Ei]; omega)),hg _ (by rw [ht,xw hj]),DV,bo hj]; rfl
     ·rw [Ee,List.drop_zero,hf _ (by rw [hs,xw hi]),DV,bo hi]; rfl) (s:=[]) rfl
    rw [this]; rfl
   rw [ay rfl,hown,E2]
   exact As (life:=3) (self:=2) (size:=500) (Lo:=Lo') (Lh:=λ_=>[]) hg.rt (by have:=hg.ln; omega)
end Fw
end Go.Proofs.YtgaplodcdhhefaaGreat
