/- The plain side: what the models come to. No condition. -/
import Derived.Test.YtmafjpdiplfcmaaGreatPJ2
namespace Go.Proofs.YtmafjpdiplfcmaaGreat
namespace Fw
set_option linter.unusedVariables false
set_option linter.unusedSimpArgs false
set_option linter.unusedSectionVars false
section
variable {B:List UInt8} (hB:B.length≤lim)
include hB
theorem vm{p n:Int}{rest:List UInt8}(h0:0≤n)(h1:n≤4611686018427387904)(h:At B p (pz n++rest)):∃q,b9 ⟨B,p,false⟩=some (⟨B,q,false⟩,n)∧At B q rest:=by
 obtain⟨q,e,hA,hq⟩:=F5 hB h0 h1 h
 have hs:=wh hB h
 rw [aB] at hB
 refine⟨(q:Int),?_,hA⟩
 unfold b9
 simp only
 rw [ar rfl,hs,e,IC]
 simp only
 rw [ar (by decide),aw (by unfold i64b; rw [Iw,Iq,Iq]; omega),aw (by unfold i64b; rw [Iw,Iq,Iq]; omega)]
theorem Dx{p:Int}{s:ByteArray}{rest:List UInt8}(hs:s.size≤256)(h:At B p (txB s++rest)):∃q,ce ⟨B,p,false⟩=some (⟨B,q,false⟩,s)∧At B q rest:=by
 obtain⟨q,e,hA⟩:=Ba hB hs h
 have hB2:=hB
 rw [aB] at hB2
 refine⟨q,?_,hA⟩
 unfold ce
 unfold bX db at e
 simp only at e ⊢
 rw [ar rfl,xL hB h]
 rcases Dy hB h with ⟨x,y,e',he,h1⟩ | ⟨n,q',r1,h1,h2,h4,h5,h6⟩
 ·rw [h1,IC] at e
  simp only at e
  rw [az (bne_iff_ne.2 he)] at e
  injection e with e; cases e
 ·rw [h1,IC] at e ⊢
  simp only at e ⊢
  have i1:i64b ((q':Nat):Int)=true:=by unfold i64b; rw [Iw,Iq,Iq]; omega
  have i2:decide (n.size≤lim)=true:=by rw [Iq]; omega
  rw [ar (by decide),aw i1,aw i2] at e ⊢
  injection e with e
  injection e with e
  injection e with e1 e2
  injection e1 with _ e1
  rw [e1,e2]
theorem Cz{p n:Int}{rest:List UInt8}(h0:0≤n)(h1:n≤4611686018427387904)(h2:n≤(rest.length:Int))(h:At B p (pz n++rest)):∃q,bS ⟨B,p,false⟩=some (⟨B,q,false⟩,n)∧At B q rest:=by
 obtain⟨q,e,hA⟩:=vm hB h0 h1 h
 have hl:=hA.len
 have hB2:=hB
 rw [aB] at hB2
 refine⟨q,?_,hA⟩
 unfold bS
 rw [e,IC]
 simp only
 rw [aH (by unfold I64; omega),ar (by rw [Ir]; omega)]
theorem C5{n:Nat}{z:Rr}:∀(l out:List Span) (p:Int) (rest:List UInt8) (Fu:Nat),n=out.length+l.length→n≤lim→(∀x∈l,SpOk x)→At B p ((l.map spB).flatten++rest) →
  ∃q,loopN (aM (z,(n:Int))) (Fu+l.length+1) (out,(out.length:Int),⟨B,p,false⟩)=some (⟨B,q,false⟩,out++l)∧At B q rest
 | [],out,p,rest,Fu,hn,hl,_,h=>by
  rw [br]
  generalize loopN (aM (z,(n:Int))) (Fu+([]:List Span).length)=f
  unfold aM
  simp only
  rw [ar (by rw [decide_eq_false (by simp at hn; omega)]; rfl)]
  exact⟨p,by rw [IL],h⟩
 | x::l,out,p,rest,Fu,hn,hl,hx,h=>by
  have hl2:=hl
  rw [aB] at hl2
  rw [Iy] at hn
  rw [show Fu+(x::l).length+1=(Fu+l.length+1)+1 by rw [Iy]; omega,br]
  have ih:=λp h=>C5 (n:=n) (z:=z) l (out++[x]) p rest Fu (by simp; omega) hl (λy hy=>hx y (Iu _ hy)) h
  generalize loopN (aM (z,(n:Int))) (Fu+l.length+1)=f at ih ⊢
  obtain⟨h1,h2,h3,h4,h5⟩:=hx x It
  rw [IA,IP,Iv] at h
  unfold spB at h
  rw [Iv,Iv] at h
  obtain⟨q1,e1,a1⟩:=vm hB (by omega) (by omega) h
  obtain⟨q2,e2,a2⟩:=vm hB (by omega) (by omega) a1
  obtain⟨q3,e3,a3⟩:=vm hB (by omega) (by omega) a2
  unfold aM
  simp only
  rw [az (by rw [IF (by omega)]; rfl),e1,IC]
  simp only
  rw [e2,IC]
  simp only
  rw [e3,IC]
  simp only
  rw [ar (by rw [Bool.or_eq_false_iff,Ir,Ir]; omega),aw (IF (by omega)),aH (x:=(out.length:Int)+1) (by unfold I64; omega)]
  rw [show w64 (x.f+(x.t - x.f))=x.t by rw [aH (by unfold I64; omega)]; omega]
  have hi:((out.length:Int)+1)=(((out++[x]).length:Nat):Int):=by rw [Is]; rfl
  rw [hi]
  obtain⟨q,e,a⟩:=ih q3 a3
  exact⟨q,by rw [show (⟨x.s,x.f,x.t⟩:Span)=x from rfl,e,Iv]; rfl,a⟩
theorem Fs{p:Int}{l:List Span}{rest:List UInt8}(hx:∀x∈l,SpOk x)(hl:l.length≤1024)(h:At B p (spsB l++rest)):∃q,cD ⟨B,p,false⟩=some (⟨B,q,false⟩,l)∧At B q rest:=by
 unfold spsB at h
 rw [Iv] at h
 have hg:=tg (e:=spB) (l:=l) λx _=>BQ x
 obtain⟨q1,e1,a1⟩:=Cz hB (by omega) (by omega) (by rw [Is]; omega) h
 unfold cD
 rw [e1,IC]
 obtain⟨Fu,hFu⟩:∃Fu,FU=Fu+l.length+1:=⟨FU - l.length - 1,by unfold FU; omega⟩
 rw [hFu]
 exact C5 hB l [] q1 rest Fu (by simp) (by rw [aB]; omega) hx a1
theorem C1{n:Nat}{z:Rr}{y:Rr×ByteArray}:∀(l out:List Ver) (p:Int) (rest:List UInt8) (Fu:Nat),n=out.length+l.length→n≤lim→(∀x∈l,VeOk x)→At B p ((l.map veB).flatten++rest) →
  ∃q,loopN (aT y (z,(n:Int))) (Fu+l.length+1) ((out.length:Int),out,⟨B,p,false⟩)=some (⟨B,q,false⟩,⟨y.2,out++l⟩)∧At B q rest
 | [],out,p,rest,Fu,hn,hl,_,h=>by
  rw [br]
  generalize loopN (aT y (z,(n:Int))) (Fu+([]:List Ver).length)=f
  unfold aT
  simp only
  rw [ar (by rw [decide_eq_false (by simp at hn; omega)]; rfl)]
  exact⟨p,by rw [IL],h⟩
 | v::l,out,p,rest,Fu,hn,hl,hx,h=>by
  have hl2:=hl
  rw [aB] at hl2
  rw [Iy] at hn
  rw [show Fu+(v::l).length+1=(Fu+l.length+1)+1 by rw [Iy]; omega,br]
  have ih:=λp h=>C1 (n:=n) (z:=z) (y:=y) l (out++[v]) p rest Fu (by simp; omega) hl (λy hy=>hx y (Iu _ hy)) h
  generalize loopN (aT y (z,(n:Int))) (Fu+l.length+1)=f at ih ⊢
  have hv:=hx v It
  have hs:=hv.s
  have hnn:=hv.n
  rw [IA,IP,Iv] at h
  unfold veB at h
  simp only [Iv] at h
  obtain⟨q1,e1,a1⟩:=vm hB (by omega) (by omega) h
  obtain⟨q2,e2,a2⟩:=vm hB (by omega) (by omega) a1
  obtain⟨q3,e3,a3⟩:=Fs hB hv.past hv.pl a2
  unfold aT cn cm
  simp only
  rw [az (by rw [IF (by omega)]; rfl),e1,IC]
  simp only
  rw [e2,IC]
  simp only
  rw [e3,IC]
  simp only
  have hgo:=hv.gone
  have hvv:=hv.val
  have hi:w64 ((out.length:Int)+1)=(((out++[v]).length:Nat):Int):=by rw [aH (by unfold I64; omega),Is]; rfl
  obtain⟨⟨dn,ds⟩,past,gone,val⟩:=v
  simp only at a3 hgo hvv ⊢
  cases gone with
  | true=>
   simp only [cond_true] at a3
   obtain⟨q4,e4,a4⟩:=vm hB (by omega) (by omega) a3
   rw [e4,IC]
   simp only
   rw [ar (by decide),ar (by rw [Ir]; omega),aw (IF (by omega)),hi]
   obtain⟨q,e,a⟩:=ih q4 a4
   refine⟨q,?_,a⟩
   rw [hgo rfl] at e ⊢
   rw [show ((1:Int)==1)=true from rfl,e,Iv]; rfl
  | false=>
   simp only [cond_false,Iv] at a3
   obtain⟨q4,e4,a4⟩:=vm hB (by omega) (by omega) a3
   obtain⟨q5,e5,a5⟩:=Dx hB hvv a4
   rw [e4,IC]
   simp only
   rw [az (by decide),e5,IC]
   simp only
   rw [ar (by rw [Ir]; omega),aw (IF (by omega)),hi]
   obtain⟨q,e,a⟩:=ih q5 a5
   refine⟨q,?_,a⟩
   rw [show ((0:Int)==1)=false from rfl,e,Iv]; rfl
theorem HU{p:Int}{r:Rec}{rest:List UInt8}(hr:ReOk r)(h:At B p (reB r++rest)):∃q,df ⟨B,p,false⟩=some (⟨B,q,false⟩,r)∧At B q rest:=by
 have hk:=hr.key
 have hvl:=hr.vl
 unfold reB vesB at h
 simp only [Iv] at h
 have hg:=tg (e:=veB) (l:=r.vers) λx _=>C7 x
 obtain⟨q1,e1,a1⟩:=Dx hB (by omega) h
 obtain⟨q2,e2,a2⟩:=Cz hB (by omega) (by omega) (by rw [Is]; omega) a1
 unfold df
 rw [e1,IC]
 simp only
 rw [e2,IC]
 obtain⟨Fu,hFu⟩:∃Fu,FU=Fu+r.vers.length+1:=⟨FU - r.vers.length - 1,by unfold FU; omega⟩
 rw [hFu]
 exact C1 hB r.vers [] q2 rest Fu (by simp) (by rw [aB]; omega) hr.vers a2
end
theorem GG{r:Rec}(hr:Rt r)(hv:Mg.VersOk r.vers):cU (reB r)=some (r,0):=by
 have hl:=tK hr.2
 obtain⟨q,e,a⟩:=HU (B:=reB r) (by rw [aB]; omega) (p:=0) (rest:=[]) hr.2 ⟨0,rfl,IH _,by rw [IL]; rfl⟩
 have hq:=a.end_
 have h2:=rr_c hv
 rw [hr.1] at h2
 injection h2 with h2
 unfold cU
 rw [e,IC]
 simp only
 rw [rr_r hv,dX,IC,hq,show (((reB r).length:Int) != ((reB r).length:Int))=false by simp, ← h2]
 rfl
theorem EJ{b:List UInt8}(hb:b.length≤lim):(∃r,b=reB r∧Rt r∧Mg.VersOk r.vers∧eN b=some (r,0)∧cU b=some (r,0))∨(eN b=some (⟨ByteArray.empty,[]⟩,2)∧cU b=some (⟨ByteArray.empty,[]⟩,2)):=by
 rcases DE hb with ⟨r,h1,h2,h3,h4⟩ | h
 ·left; exact⟨r,h1,h2,h3,h4,by rw [h1]; exact GG h2 h3⟩
 ·rcases Fp hb with ⟨r,h1,h2,h3,h4⟩ | h'
  ·exfalso
   rw [h1,wH h2.2 h2.1] at h
   injection h with h; injection h with _ h; exact absurd h (by decide)
  ·exact .inr ⟨h,h'⟩
theorem Cs:∀{l:List Int} {b:List UInt8} (i:Nat),(∀n∈l,0≤n∧n≤4611686018427387904)→b.length+((l.map pz).flatten).length≤lim→forI dM (λb_3=>some b_3) i l b=some (b++(l.map pz).flatten)
 | [],b,i,_,_=>by simp [forI]
 | n::l,b,i,hn,hb=>by
  simp only [IA,IP,Is] at hb
  have ih:=Cs (l:=l) (b:=b++pz n) (i+1) (λm hm=>hn m (Iu _ hm)) (by rw [Is]; omega)
  obtain⟨h0,h1⟩:=hn n It
  obtain⟨k,rfl⟩:∃k:Nat,n=(k:Int):=⟨n.toNat,by omega⟩
  show dM (forI dM (λb_3=>some b_3) (i+1) l) i (k:Int) b=_
  generalize forI dM (λb_3=>some b_3) (i+1) l=f at ih ⊢
  unfold dM
  rw [rj (by omega),IC]
  have hp:pz (k:Int)=pn k:=by unfold pz; rw [Iz]
  rw [hp] at ih hb
  rw [aw (IF (by omega)),ih,IA,IP,hp,Iv]
theorem ux{l:List Int}{b:List UInt8}(h:∀n∈l,0≤n∧n≤4611686018427387904)(hb:b.length+((l.map pz).flatten).length≤lim):d5 b l=some (b++(l.map pz).flatten):=Cs 0 h hb
theorem wz{s:ByteArray}(h:s.size≤1048576):fg s=some (txB s):=by
 unfold fg
 rw [rj (by omega),IC]
 have hp:(pn s.size).length≤9:=wT 8 _ (by omega)
 have key:∀(k i:Nat) (acc:List UInt8),i+k=s.size→acc.length=(pn s.size).length+i→forU (cE s) (λb_11=>some b_11) k i acc=some (acc++s.data.toList.drop i):=by
  intro k
  induction k with
  | zero=>
   intro i acc hi _
   rw [IB (by show s.size≤i; omega),IL]; rfl
  | succ k ih=>
   intro i acc hi ha
   have hlt:i<s.data.toList.length:=by show i<s.size; omega
   have h2:=ih (i+1) (acc++[gt s.data.toList i]) (by omega) (by rw [Is,List.length_singleton]; omega)
   show cE s (forU (cE s) (λb_11=>some b_11) k (i+1)) i acc=_
   generalize forU (cE s) (λb_11=>some b_11) k (i+1)=f at h2 ⊢
   unfold cE
   rw [aw (by rw [aB,Iq]; omega),h2,cj hlt,Iv]; rfl
 rw [key s.size 0 (pn s.size) (by omega) (by omega),List.drop_zero]
 unfold txB pz
 rw [Iz]
theorem zR:∀{l:List Span} {b:List UInt8} (i:Nat),(∀x∈l,SpOk x)→b.length+((l.map spB).flatten).length≤lim→forI da (λb_20=>some b_20) i l b=some (b++(l.map spB).flatten)
 | [],b,i,_,_=>by simp [forI]
 | x::l,b,i,hx,hb=>by
  simp only [IA,IP,Is] at hb
  have ih:=zR (l:=l) (b:=b++spB x) (i+1) (λm hm=>hx m (Iu _ hm)) (by rw [Is]; omega)
  obtain⟨h1,h2,h3,h4,h5⟩:=hx x It
  show da (forI da (λb_20=>some b_20) (i+1) l) i x b=_
  generalize forI da (λb_20=>some b_20) (i+1) l=f at ih ⊢
  unfold da
  have hsp:([x.s,x.f,x.t - x.f].map pz).flatten=spB x:=by simp [spB]
  rw [aH (by unfold I64; omega),ux (l:=[x.s,x.f,x.t - x.f]) (λn hn=>by
   simp only [Ix,List.not_mem_nil,or_false] at hn
   omega) (by rw [hsp]; omega),IC,hsp,ih,IA,IP,Iv]
theorem GY{l:List Span}{b:List UInt8}(h:∀x∈l,SpOk x)(hl:l.length≤1024)(hb:b.length+(spsB l).length≤lim):jd b l=some (b++spsB l):=by
 unfold jd
 unfold spsB at hb ⊢
 rw [Is] at hb
 have h1:([((l.length:Nat):Int)].map pz).flatten=pz ((l.length:Nat):Int):=by simp
 rw [ux (l:=[((l.length:Nat):Int)]) (λn hn=>by rw [List.mem_singleton.1 hn]; omega) (by rw [h1]; omega),IC,h1,zR 0 h (by rw [Is]; omega),Iv]
theorem BU:∀{l:List Ver} {b:List UInt8} (i:Nat),(∀x∈l,VeOk x)→b.length+((l.map veB).flatten).length≤lim→forI eD (λb_36=>some b_36) i l b=some (b++(l.map veB).flatten)
 | [],b,i,_,_=>by simp [forI]
 | v::l,b,i,hx,hb=>by
  simp only [IA,IP,Is] at hb
  have ih:=BU (l:=l) (b:=b++veB v) (i+1) (λm hm=>hx m (Iu _ hm)) (by rw [Is]; omega)
  have hv:=hx v It
  have hs:=hv.s
  have hn:=hv.n
  have hvv:=hv.val
  show eD (forI eD (λb_36=>some b_36) (i+1) l) i v b=_
  generalize forI eD (λb_36=>some b_36) (i+1) l=f at ih ⊢
  have hve:(veB v).length=(pz v.dot.s).length+((pz v.dot.n).length+((spsB v.past).length+(bif v.gone then pz 1 else pz 0++txB v.val).length)):=by unfold veB; simp only [Is]
  unfold eD iM
  have h1:([v.dot.s,v.dot.n].map pz).flatten=pz v.dot.s++pz v.dot.n:=by simp
  rw [ux (l:=[v.dot.s,v.dot.n]) (λn hn=>by
   simp only [Ix,List.not_mem_nil,or_false] at hn
   omega) (by rw [h1,Is]; omega),IC,h1,GY hv.past hv.pl (by simp only [Is]; omega),IC]
  cases hg:v.gone with
  | true=>
   rw [hg] at hve
   simp only [cond_true] at hve ⊢
   have h2:([(1:Int)].map pz).flatten=pz 1:=by simp
   rw [ux (l:=[(1:Int)]) (λn hn=>by rw [List.mem_singleton.1 hn]; omega) (by rw [h2]; simp only [Is]; omega),IC,h2]
   rw [show b++(pz v.dot.s++pz v.dot.n)++spsB v.past++pz 1=b++veB v by unfold veB; rw [hg]; simp,ih,IA,IP,Iv]
  | false=>
   rw [hg] at hve
   simp only [cond_false,Is] at hve ⊢
   have h2:([(0:Int)].map pz).flatten=pz 0:=by simp
   rw [ux (l:=[(0:Int)]) (λn hn=>by rw [List.mem_singleton.1 hn]; omega) (by rw [h2]; simp only [Is]; omega),IC,h2,wz (by omega),IC,aw (by rw [Iq]; simp only [Is]; omega)]
   rw [show b++(pz v.dot.s++pz v.dot.n)++spsB v.past++pz 0++txB v.val=b++veB v by unfold veB; rw [hg]; simp,ih,IA,IP,Iv]
theorem xJ{r:Rec}(h:ReOk r):fP r=some (reB r):=by
 have hl:=tK h
 have hk:=h.key
 have hvl:=h.vl
 have he:(reB r).length=(txB r.key).length+((pz ((r.vers.length:Nat):Int)).length+((r.vers.map veB).flatten).length):=by unfold reB vesB; simp only [Is]
 have hlim:14400000≤lim:=by rw [aB]; decide
 unfold fP mf
 have h1:([((r.vers.length:Nat):Int)].map pz).flatten=pz ((r.vers.length:Nat):Int):=by simp
 rw [wz (by omega),IC,IO,aw (by rw [Iq]; simp only [IK]; omega),ux (l:=[((r.vers.length:Nat):Int)]) (λn hn=>by rw [List.mem_singleton.1 hn]; omega) (by rw [h1]; omega),IC,h1,BU 0 h.vers (by rw [Is]; omega),IC]
 unfold reB vesB
 rw [Iv]
def rk(r:Rec):List UInt8:=r.key.data.toList
def SR(l:List Rec):Prop:=l.Pairwise λa b=>rk a<rk b
theorem yw:∀{l l':List Rec},SR l→SR l'→(∀f,f∈l↔f∈l')→l=l'
 | [],[],_,_,_=>rfl
 | [],b::l',_,_,h=>by have:=(h b).2 It; cases this
 | a::l,[],_,_,h=>by have:=(h a).1 It; cases this
 | a::l,b::l',h1,h2,h=>by
  unfold SR at h1 h2
  rw [List.pairwise_cons] at h1 h2
  have e:a=b:=by
   rcases List.mem_cons.1 ((h a).1 It) with e | ha
   ·exact e
   ·rcases List.mem_cons.1 ((h b).2 It) with e | hb
    ·exact e.symm
    ·exact absurd (h2.1 a ha) (Gx (h1.1 b hb))
  subst e
  rw [yw h1.2 h2.2 λf=>?_]
  refine⟨λhf=>?_,λhf=>?_⟩
  ·rcases List.mem_cons.1 ((h f).1 (Iu _ hf)) with e | hf2
   ·subst e; exact absurd (h1.1 f hf) (sm _)
   ·exact hf2
  ·rcases List.mem_cons.1 ((h f).2 (Iu _ hf)) with e | hf2
   ·subst e; exact absurd (h2.1 f hf) (sm _)
   ·exact hf2
theorem vN{m:Mp}(hn:NK m):SR (aO m):=by
 have h:=xX hn
 unfold SF FM at h
 unfold SR aO
 rw [List.pairwise_map] at h ⊢
 exact h
theorem we{m:Mp}(h:KI m){x:Rec}:x∈aO m↔Rt x∧x.vers≠[]∧mget x.key m=some (reB x):=by
 refine⟨pF h,λ⟨h1,h2,h3⟩=>?_⟩
 unfold aO
 refine List.mem_map.2 ⟨x.key,lh.2 (dD.1 (by rw [h3]; rfl)),?_⟩
 rw [h3,Option.getD_some]
 unfold decV
 rw [wH h1.2 h1.1]
theorem Cq{a b:Rec}(ha:Rt a)(hb:Rt b)(h:reB a=reB b):a=b:=by
 have h1:=wH ha.2 ha.1
 rw [h,wH hb.2 hb.1] at h1
 injection h1 with h1; injection h1 with h1 _
 exact h1.symm
theorem Fa{m:Mp}(h:KI m){r:Rec}(hr:Rt r){x:Rec}:x∈aO (layM m r)↔(r.vers≠[]∧x=r)∨(x∈aO m∧x.key≠r.key):=by
 rw [we (h.lay hr),we h]
 have e:mget x.key (layM m r)=if x.key=r.key then (if r.vers = [] then none else some (reB r)) else mget x.key m:=by
  unfold layM
  by_cases hv:r.vers = []
  ·rw [if_pos hv,if_pos hv,fC h.nk]
  ·rw [if_neg hv,if_neg hv,cC]
   by_cases hk:x.key=r.key
   ·rw [if_pos hk,if_pos hk]
   ·rw [if_neg hk,if_neg hk,fC h.nk,if_neg hk]
 rw [e]
 constructor
 ·rintro⟨h1,h2,h3⟩
  by_cases hk:x.key=r.key
  ·rw [if_pos hk] at h3
   by_cases hv:r.vers = []
   ·rw [if_pos hv] at h3; cases h3
   ·rw [if_neg hv] at h3
    injection h3 with h3
    exact .inl ⟨hv,(Cq hr h1 h3).symm⟩
  ·rw [if_neg hk] at h3
   exact .inr ⟨⟨h1,h2,h3⟩,hk⟩
 ·rintro (⟨h1,rfl⟩ | ⟨⟨h1,h2,h3⟩,hk⟩)
  ·exact⟨hr,h1,by rw [if_pos rfl,if_neg h1]⟩
  ·exact⟨h1,h2,by rw [if_neg hk]; exact h3⟩
def ol(r:Rec):List Rec→Bool→List Rec
 | [],laid=>bif laid then [] else [r]
 | x::l,laid=>if x.key=r.key then ol r l laid else bif !laid&&nr r.key x.key then r::x::ol r l true else x::ol r l laid
theorem qx{r:Rec}{x:Rec}:∀{l:List Rec} {laid:Bool},x∈ol r l laid↔(laid=false∧x=r)∨(x∈l∧x.key≠r.key)
 | [],laid=>by cases laid <;> simp [ol]
 | y::l,laid=>by
  have h1:=qx (r:=r) (x:=x) (l:=l) (laid:=laid)
  have h2:=qx (r:=r) (x:=x) (l:=l) (laid:=true)
  unfold ol
  by_cases hk:y.key=r.key
  ·rw [if_pos hk,h1]
   constructor
   ·rintro (h | ⟨h,h'⟩)
    ·exact .inl h
    ·exact .inr ⟨Iu _ h,h'⟩
   ·rintro (h | ⟨h,h'⟩)
    ·exact .inl h
    ·rcases List.mem_cons.1 h with e | h
     ·rw [e] at h'; exact absurd hk h'
     ·exact .inr ⟨h,h'⟩
  ·rw [if_neg hk]
   cases hc:!laid&&nr r.key y.key with
   | true=>
    have hl:laid=false:=by cases laid with | true=>cases hc | false=>rfl
    subst hl
    rw [az rfl,Ix,Ix,h2,Ix]
    constructor
    ·rintro (h | h | ⟨h,_⟩ | ⟨h,h'⟩)
     ·exact .inl ⟨rfl,h⟩
     ·exact .inr ⟨.inl h,by rw [h]; exact hk⟩
     ·cases h
     ·exact .inr ⟨.inr h,h'⟩
    ·rintro (⟨_,h⟩ | ⟨h | h,h'⟩)
     ·exact .inl h
     ·exact .inr (.inl h)
     ·exact .inr (.inr (.inr ⟨h,h'⟩))
   | false=>
    rw [ar rfl,Ix,h1,Ix]
    constructor
    ·rintro (h | h | ⟨h,h'⟩)
     ·exact .inr ⟨.inl h,by rw [h]; exact hk⟩
     ·exact .inl h
     ·exact .inr ⟨.inr h,h'⟩
    ·rintro (h | ⟨h | h,h'⟩)
     ·exact .inr (.inl h)
     ·exact .inl h
     ·exact .inr (.inr ⟨h,h'⟩)
theorem yQ{r:Rec}:∀{l:List Rec} {laid:Bool},SR l→SR (ol r l laid)
 | [],laid,_=>by cases laid <;> simp [ol,SR]
 | y::l,laid,h=>by
  unfold SR at h
  rw [List.pairwise_cons] at h
  have h1:=yQ (r:=r) (l:=l) (laid:=laid) h.2
  have h2:=yQ (r:=r) (l:=l) (laid:=true) h.2
  unfold ol
  by_cases hk:y.key=r.key
  ·rw [if_pos hk]; exact h1
  ·rw [if_neg hk]
   cases hc:!laid&&nr r.key y.key with
   | true=>
    rw [Iw] at hc
    have hlt:rk r<rk y:=Ip hc.2
    rw [az rfl]
    have hy:∀x∈ol r l true,rk y<rk x:=λx hx=>by
     rcases qx.1 hx with ⟨e,_⟩ | ⟨hx,_⟩
     ·cases e
     ·exact h.1 x hx
    unfold SR at h2 ⊢
    rw [List.pairwise_cons,List.pairwise_cons]
    refine⟨λx hx=>?_,hy,h2⟩
    rcases List.mem_cons.1 hx with e | hx
    ·rw [e]; exact hlt
    ·exact DW hlt (hy x hx)
   | false=>
    rw [ar rfl]
    unfold SR at h1 ⊢
    rw [List.pairwise_cons]
    refine⟨λx hx=>?_,h1⟩
    rcases qx.1 hx with ⟨hl,e⟩ | ⟨hx,_⟩
    ·rw [hl,Bool.not_false,Bool.true_and] at hc
     have hn:¬ rk r<rk y:=of_decide_eq_false hc
     rw [e]
     exact AX hn λe2=>hk (j7 e2)
    ·exact h.1 x hx
theorem xv{r:Rec}{L:List Rec}:∀(t:List Rec) (i:Nat) (out:List Rec) (laid:Bool),L.drop i=t→out.length+t.length+(bif laid then 0 else 1)≤lim →
  forI (gF L r) (λ(out_2,laid_7)=>(bif (!laid_7) then (chk (decide (out_2.length+1≤lim)) (some (out_2++[r]))) else (some out_2))) i t (out,laid)=some (out++ol r t laid)
 | [],i,out,laid,_,hl=>by
  simp only [IK] at hl
  show (bif (!laid) then (chk (decide (out.length+1≤lim)) (some (out++[r]))) else (some out))=_
  cases laid with
  | true=>simp [ol]
  | false=>
   rw [cond_false] at hl
   rw [aw (IF (by omega))]; simp [ol]
 | x::t,i,out,laid,hd,hl=>by
  simp only [Iy] at hl
  have hlt:i<L.length:=by
   rcases Nat.lt_or_ge i L.length with h | h
   ·exact h
   ·rw [IB h] at hd; cases hd
  have hd2:=hd
  rw [cj hlt] at hd2
  injection hd2 with hx ht
  have ih:=λout laid hl=>xv (r:=r) (L:=L) t (i+1) out laid ht hl
  rw [forI]
  generalize forI (gF L r) (λ(out_2,laid_7)=>(bif (!laid_7) then (chk (decide (out_2.length+1≤lim)) (some (out_2++[r]))) else (some out_2))) (i+1) t=f at ih ⊢
  unfold gF gG gJ
  simp only
  rw [hx]
  unfold ol
  by_cases hk:x.key=r.key
  ·rw [if_pos hk,az (beq_iff_eq.2 hk),ih out laid (by omega)]
  ·rw [if_neg hk,ar (beq_eq_false_iff_ne.2 hk)]
   cases hc:!laid&&nr r.key x.key with
   | true=>
    have hla:laid=false:=by cases laid with | true=>cases hc | false=>rfl
    rw [hla,cond_false] at hl
    rw [az rfl,az rfl,aw (IF (by omega)),aw (IF (by simp; omega)),ih _ true (by simp; omega)]
    simp
   | false=>
    rw [ar rfl,ar rfl,aw (IF (by omega)),ih _ laid (by simp; omega)]
    simp
theorem DT{m:Mp}(h:KI m){r:Rec}(hr:Rt r)(hl:m.length+1≤lim):fk (aO m) r=some (aO (layM m r)):=by
 unfold fk
 rw [xv (L:=aO m) (aO m) 0 [] _ rfl (by rw [kR,IK]; cases ((((r.vers).length:Nat):Int)==0) <;> simp only [cond_true,cond_false] <;> omega),IO]
 congr 1
 refine yw (yQ (vN h.nk)) (vN (h.lay hr).nk) λx=>?_
 rw [qx,Fa h hr]
 have e:((((r.vers.length:Nat):Int)==0)=false)↔r.vers≠[]:=by
  rw [beq_eq_false_iff_ne]
  constructor
  ·intro h1 e; rw [e] at h1; exact h1 rfl
  ·intro h1 e; exact h1 (List.eq_nil_of_length_eq_zero (by omega))
 rw [e]
theorem rL{k:ByteArray}{b:List UInt8}:∀{l:List Rec} {m:Mp},(l.Pairwise λa b=>a.key≠b.key)→(mget k (l.foldl putM m)=some b↔(∃x∈l,x.key=k∧b=reB x)∨((∀x∈l,x.key≠k)∧mget k m=some b))
 | [],m,_=>by simp
 | y::l,m,h=>by
  rw [List.pairwise_cons] at h
  rw [List.foldl_cons,rL (l:=l) h.2]
  unfold putM
  rw [cC]
  by_cases hk:k=y.key
  ·rw [if_pos hk]
   constructor
   ·rintro (⟨x,hx,h1,h2⟩ | ⟨_,h1⟩)
    ·exact .inl ⟨x,Iu _ hx,h1,h2⟩
    ·injection h1 with h1
     exact .inl ⟨y,It,hk.symm,h1.symm⟩
   ·rintro (⟨x,hx,h1,h2⟩ | ⟨h1,_⟩)
    ·rcases List.mem_cons.1 hx with e | hx
     ·right
      refine⟨λz hz e2=>h.1 z hz (by rw [e2,hk]),by rw [h2,e]⟩
     ·exact .inl ⟨x,hx,h1,h2⟩
    ·exact absurd hk.symm (h1 y It)
  ·rw [if_neg hk]
   constructor
   ·rintro (⟨x,hx,h1,h2⟩ | ⟨h1,h2⟩)
    ·exact .inl ⟨x,Iu _ hx,h1,h2⟩
    ·refine .inr ⟨λz hz=>?_,h2⟩
     rcases List.mem_cons.1 hz with e | hz
     ·rw [e]; exact λe=>hk e.symm
     ·exact h1 z hz
   ·rintro (⟨x,hx,h1,h2⟩ | ⟨h1,h2⟩)
    ·rcases List.mem_cons.1 hx with e | hx
     ·rw [e] at h1; exact absurd h1.symm hk
     ·exact .inl ⟨x,hx,h1,h2⟩
    ·exact .inr ⟨λz hz=>h1 z (Iu _ hz),h2⟩
theorem El:∀{l:List Rec} {m:Mp},NK m→NK (l.foldl putM m)
 | [],m,h=>h
 | x::l,m,h=>El (l:=l) (m:=putM m x) (by unfold putM; exact h.put)
theorem Fj{m:Mp}(h:KI m)(p:Rec→Bool):KI (((aO m).filter p).foldl putM [])∧aO (((aO m).filter p).foldl putM [])=(aO m).filter p∧(((aO m).filter p).foldl putM []).length≤m.length:=by
 have hp:((aO m).filter p).Pairwise λa b=>a.key≠b.key:=(Cp h).filter _
 have hk:KI (((aO m).filter p).foldl putM []):=by
  refine⟨El NK.nil,λk b hb=>?_⟩
  rcases (rL hp).1 hb with ⟨x,hx,h1,h2⟩ | ⟨_,h2⟩
  ·obtain⟨r1,r2,_⟩:=pF h (List.mem_filter.1 hx).1
   exact⟨x,r1,h1,r2,h2⟩
  ·cases h2
 have hr:aO (((aO m).filter p).foldl putM [])=(aO m).filter p:=by
  refine yw (vN hk.nk) ((vN h.nk).filter _) λx=>?_
  rw [we hk]
  constructor
  ·rintro⟨h1,h2,h3⟩
   rcases (rL hp).1 h3 with ⟨y,hy,h4,h5⟩ | ⟨_,h5⟩
   ·have:=Cq h1 (pF h (List.mem_filter.1 hy).1).1 h5
    rw [this]; exact hy
   ·cases h5
  ·intro hx
   obtain⟨r1,r2,_⟩:=pF h (List.mem_filter.1 hx).1
   exact⟨r1,r2,(rL hp).2 (.inl ⟨x,hx,rfl,rfl⟩)⟩
 refine⟨hk,hr,?_⟩
 have h1:=kR (((aO m).filter p).foldl putM [])
 rw [hr] at h1
 have h2:=List.length_filter_le p (aO m)
 rw [kR] at h2
 omega
def fw(m:Mp):Nat:=(m.map λp=>(fr p.2).length).sum
theorem oo(p:ByteArray×List UInt8)(m:Mp):fw (p::m)=(fr p.2).length+fw m:=by simp [fw]
theorem B0{k:ByteArray}{v:List UInt8}:∀{m:Mp},fw (mput k v m)≤fw m+(fr v).length
 | []=>by simp [fw,mput]
 | p::m=>by
  have ih:=B0 (k:=k) (v:=v) (m:=m)
  unfold mput
  split
  ·rw [oo,oo]; simp only; omega
  ·rw [oo,oo]; omega
theorem AV{k:ByteArray}:∀{m:Mp},fw (mdel k m)+((mget k m).map λb=>(fr b).length).getD 0=fw m
 | []=>by simp [fw,mdel,mget]
 | p::m=>by
  have ih:=AV (k:=k) (m:=m)
  unfold mdel mget
  split
  ·rw [oo]; simp; omega
  ·rw [oo,oo]; omega
theorem DP(m:Mp)(r:Rec):fw (layM m r)≤fw m+(fr (reB r)).length:=by
 have h:=AV (k:=r.key) (m:=m)
 unfold layM
 split
 ·omega
 ·have:=B0 (k:=r.key) (v:=reB r) (m:=mdel r.key m); omega
theorem yS:∀m:Mp,5*m.length≤fw m
 | []=>IG _
 | p::m=>by
  have:=yS m
  have h1:=nS p.2
  have h2:=wO p.2.length
  rw [oo,Iy]; omega
theorem BE:∀(ks:List ByteArray) (m:Mp),NK m→ks.Nodup→(ks.map λk=>((mget k m).map λb=>(fr b).length).getD 0).sum≤fw m
 | [],m,_,_=>IH _
 | k::ks,m,hn,hd=>by
  rw [List.nodup_cons] at hd
  have h1:=AV (k:=k) (m:=m)
  have h2:=BE ks (mdel k m) hn.del hd.2
  have h3:(ks.map λj=>((mget j (mdel k m)).map λb=>(fr b).length).getD 0)=ks.map λj=>((mget j m).map λb=>(fr b).length).getD 0:=by
   refine List.map_congr_left λj hj=>?_
   rw [fC hn,if_neg (show ¬ j=k from λe=>hd.1 (e▸hj))]
  rw [h3] at h2
  rw [IA,List.sum_cons]; omega
theorem CD:∀(l:List Rec) (m:Mp),fw (l.foldl putM m)≤fw m+(frs (l.map reB)).length
 | [],m=>Nat.le_add_right _ _
 | r::l,m=>by
  have h1:=CD l (putM m r)
  have h2:fw (putM m r)≤fw m+(fr (reB r)).length:=B0
  rw [List.foldl_cons,IA,oL,Is]; omega
theorem FS{m:Mp}(h:KI m)(p:Rec→Bool):(frs (((aO m).filter p).map reB)).length≤fw m:=by
 have e:∀l:List Rec,(∀x∈l,x∈aO m)→(frs (l.map reB)).length=((l.map (·.key)).map λk=>((mget k m).map λb=>(fr b).length).getD 0).sum:=by
  intro l
  induction l with
  | nil=>intro _; rfl
  | cons x l ih=>
   intro hl
   have hx:=(pF h (hl x It)).2.2
   rw [IA,IA,IA,oL,Is,List.sum_cons,ih λy hy=>hl y (Iu _ hy),hx]
   rfl
 rw [e _ λx hx=>(List.mem_filter.1 hx).1]
 refine BE _ m h.nk ?_
 have hp:((aO m).filter p).Pairwise λa b=>a.key≠b.key:=(Cp h).filter _
 exact List.Pairwise.map _ (λa b hab=>hab) hp
theorem Dn{l:List UInt8}(h:(cG l).2.2=0):(fr (cG l).1).length=(cG l).2.1:=by
 unfold cG at h ⊢
 split at h
 ·rename_i h1; exact absurd h h1
 rename_i h1
 have h1:(numF 0 0 l).2.2=0:=by simpa using h1
 split at h
 ·exact absurd h (by decide)
 rename_i h2
 split at h
 ·exact absurd h (by decide)
 rename_i h3
 split at h
 ·rename_i h4
  rw [if_neg (by simpa using h1),if_neg h2,if_neg h3,if_pos h4]
  simp only
  obtain⟨m,m1,m2,m3,_⟩:=rz l 0 0 (numF 0 0 l).1 (numF 0 0 l).2.1 (by rw [← h1])
  rw [Nat.pow_zero,Nat.mul_one,Nat.zero_add] at m1
  rw [Nat.sub_zero] at m3
  have hlen:((l.drop ((numF 0 0 l).2.1+4)).take (numF 0 0 l).1).length=(numF 0 0 l).1:=by
   rw [IV,IW]; omega
  rw [nS,hlen,m1, ← m3,IV, ← m1]
  omega
 ·exact absurd h (by decide)
theorem zS:∀(n:Nat) (l:List UInt8),l.length≤n→(frs (allB l).1).length=(allB l).2.1
 | 0,l,h=>by rw [List.eq_nil_of_length_eq_zero (Nat.le_zero.1 h)]; rfl
 | n+1,l,h=>by
  rw [rJ]
  split
  ·rfl
  ·split
   ·rfl
   ·rename_i he
    have he:(cG l).2.2=0:=by simpa using he
    have hk:=pB he
    have ih:=zS n (l.drop (cG l).2.1) (by rw [IW]; omega)
    simp only
    rw [oL,Is,Dn he,ih]
theorem Av:∀bs:Bs,(frs (aC bs).1).length≤tot bs
 | []=>IG _
 | b::t=>by
  have ih:=Av t
  have h1:=zS b.length b (IG _)
  have h2:=(tZ b).1
  unfold aC
  rw [dZ]
  split
  ·simp only; rw [vY,Is]; omega
  ·simp only; omega
theorem Cu:∀bs:Bs,Rk (aC bs).1
 | []=>λx hx=>by cases hx
 | b::t=>λx hx=>by
  unfold aC at hx
  split at hx
  ·rcases List.mem_append.1 hx with hx | hx
   ·exact yn b x hx
   ·exact Cu t x hx
  ·exact yn b x hx
section
variable {R N:Nat} {d:Dk} {m:Md} {nm:ByteArray}
abbrev St7:=ah
theorem xA{z:Dk×Option ai×Bs×Int}{y:Md×Option af×Bs×Int}{g:ai}{g7:af}:∀(t:Bs) (i:Nat) (M:Mp),Rk t→KI M→M.length+t.length+1≤lim →
  (forI (bq z) (λo28=>some (z.1,some o28,0)) i t ⟨g,M⟩=some (z.1,none,2)∧forI (bF y) (λo25=>some (y.1,some o25,0)) i t ⟨g7,aO M⟩=some (y.1,none,2)) ∨
  ∃M',KI M'∧M'.length≤M.length+t.length∧fw M'≤fw M+(frs t).length∧forI (bq z) (λo28=>some (z.1,some o28,0)) i t ⟨g,M⟩=some (z.1,some ⟨g,M'⟩,0)∧forI (bF y) (λo25=>some (y.1,some o25,0)) i t ⟨g7,aO M⟩=some (y.1,some ⟨g7,aO M'⟩,0)
 | [],i,M,_,h,_=>.inr ⟨M,h,IG _,IG _,rfl,rfl⟩
 | b::t,i,M,hr,h,hl=>by
  rw [Iy] at hl
  have hb:=hr b It
  have ih:=λM h hl=>xA (z:=z) (y:=y) (g:=g) (g7:=g7) t (i+1) M (λx hx=>hr x (Iu _ hx)) h hl
  have s1:forI (bq z) (λo28=>some (z.1,some o28,0)) i (b::t) ⟨g,M⟩=bq z (forI (bq z) (λo28=>some (z.1,some o28,0)) (i+1) t) i b ⟨g,M⟩:=rfl
  have s2:forI (bF y) (λo25=>some (y.1,some o25,0)) i (b::t) ⟨g7,aO M⟩=bF y (forI (bF y) (λo25=>some (y.1,some o25,0)) (i+1) t) i b ⟨g7,aO M⟩:=rfl
  rw [s1,s2]
  generalize forI (bq z) (λo28=>some (z.1,some o28,0)) (i+1) t=f at ih ⊢
  generalize forI (bF y) (λo25=>some (y.1,some o25,0)) (i+1) t=f7 at ih ⊢
  unfold bq bF
  rcases EJ (b:=b) (by rw [aB]; omega) with ⟨r,rfl,h2,h3,h4,h5⟩ | ⟨h4,h5⟩
  ·rw [h4,h5,IC,IC]
   simp only
   rw [ar (by decide),ar (by decide),EE,IC,DT h h2 (by omega),IC]
   have hll:=Fb M r
   have hfl:=DP M r
   rcases ih (layM M r) (h.lay h2) (by omega) with ⟨q1,q2⟩ | ⟨M',q1,q2,q0,q3,q4⟩
   ·exact .inl ⟨q1,q2⟩
   ·exact .inr ⟨M',q1,by rw [Iy]; omega,by rw [oL,Is]; omega,q3,q4⟩
  ·rw [h4,h5,IC,IC]
   simp only
   rw [az (by decide),az (by decide)]
   exact .inl ⟨rfl,rfl⟩
theorem FZ{d':Dk}{m':Md}{g:ai}{g7:af}{sz:Int}{bs:Bs}(h1:dU d nm sz=some (d',some g,(aC bs).1,0))(h2:fA m nm sz=some (m',some g7,(aC bs).1,0))(hl:(aC bs).1.length+1≤lim):
  (dp d nm sz=some (d',none,2)∧d4 m nm sz=some (m',none,2)) ∨
  ∃M,KI M∧M.length≤(aC bs).1.length∧fw M≤tot bs∧dp d nm sz=some (d',some ⟨g,M⟩,0)∧d4 m nm sz=some (m',some ⟨g7,aO M⟩,0):=by
 have e1:dp d nm sz=forI (bq (d',some g,(aC bs).1,(0:Int))) (λo28=>some (d',some o28,0)) 0 (aC bs).1 ⟨g,[]⟩:=by unfold dp; rw [h1]; rfl
 have e2:d4 m nm sz=forI (bF (m',some g7,(aC bs).1,(0:Int))) (λo25=>some (m',some o25,0)) 0 (aC bs).1 ⟨g7,aO []⟩:=by
  have h0:aO [] = []:=List.eq_nil_of_length_eq_zero (by rw [kR]; rfl)
  unfold d4; rw [h2,h0]; rfl
 rw [e1,e2]
 rcases xA (z:=(d',some g,(aC bs).1,(0:Int))) (y:=(m',some g7,(aC bs).1,(0:Int))) (g:=g) (g7:=g7) (aC bs).1 0 [] (Cu bs) KI.nil (by simpa using hl) with h | ⟨M',q1,q2,q0,q3,q4⟩
 ·exact .inl h
 ·have hsf:=Av bs
  have hf0:fw []=0:=rfl
  exact .inr ⟨M',q1,by simpa using q2,by omega,q3,q4⟩
theorem GX{r:Rec}(h:Mg.VersOk r.vers):iU r=some r:=by
 have key:∀(l:List Ver) (i:Nat) (out:List Ver),(∀v∈l,v.past.length≤lim)→out.length+l.length≤lim→forI kI (λx6=>some (⟨r.key,x6⟩:Rec)) i l out=some ⟨r.key,out++l⟩:=by
  intro l
  induction l with
  | nil=>intro i out _ _; rw [IL]; rfl
  | cons v l ih=>
   intro i out h hl
   rw [Iy] at hl
   have ih:=ih (i+1) (out++[v]) (λx hx=>h x (Iu _ hx)) (by rw [Is,List.length_singleton]; omega)
   show chk (decide (0+v.past.length≤lim)) (chk (decide (out.length+1≤lim)) (forI kI (λx6=>some (⟨r.key,x6⟩:Rec)) (i+1) l (out++[v])))=_
   rw [aw (IF (by rw [Nat.zero_add]; exact h v It)),aw (IF (by omega)),ih,Iv]
   rfl
 unfold iU
 rw [key r.vers 0 [] (λv hv=>(h.2 v hv).len) (by rw [IK,Nat.zero_add]; exact h.1),IO]
inductive PutJ (R N:Nat) (d:Dk) (nm:ByteArray) (g:Nat) (size:Int) (bs:Bs) (cnt:Nat) (M:Mp) (r:Rec):Option (ae×Dk×Int)→Option (St7×Md×Int)→Prop
 | no (m':Md) (c:Int):c≠0→Rel R (N+1) d m'→PutJ R N d nm g size bs cnt M r (some (⟨lg nm g size bs cnt,M⟩,d,c)) (some (⟨rlg nm g size bs cnt,aO M⟩,m',c))
 | ok (m':Md):Rt r→pnum size bs (fr (reB r))≤999999→Rel R (N+1) (iW (dAdd d nm g size bs (fr (reB r)))) m' →
   PutJ R N d nm g size bs cnt M r (some (⟨lg nm g size (addP size bs (fr (reB r))) (cnt+1),layM M r⟩,iW (dAdd d nm g size bs (fr (reB r))),0)) (some (⟨rlg nm g size (addP size bs (fr (reB r))) (cnt+1),aO (layM M r)⟩,m',0))
theorem H6(h:Rel R N d m)(hR:R≤MX)(hN:N+2≤lim)(hnm:Nm nm){g:Nat}(hg:g≤999999){size:Int}(hs0:0≤size)(hs1:size≤9223372036854775807){bs:Bs}(hb:Has nm g bs d.seen){cnt:Nat}(hc:cnt≤4611686018427387904){M:Mp}(hM:KI M)(hl:M.length+1≤lim){r:Rec}(hv:Mg.VersOk r.vers):
  PutJ R N d nm g size bs cnt M r (cy ⟨lg nm g size bs cnt,M⟩ r d) (cO ⟨rlg nm g size bs cnt,aO M⟩ r m):=by
 have hrc:=rr_c hv
 unfold cy eY cO gU
 rw [rr_r hv,IC]
 cases hq:rrB r with
 | false=>
  rw [hq] at hrc
  have hp:dS r=some ([],1):=by unfold dS; rw [hrc]; rfl
  rw [hp,IC]
  simp only
  rw [ar (by decide),az (by decide),show (!false)=true from rfl,az rfl]
  exact .no m 1 (by decide) (h.mono (Nat.le_succ _))
 | true=>
  rw [hq] at hrc
  obtain⟨b',b1,b2⟩:=nV (r:=r) hv.1
  rw [hrc] at b1
  injection b1 with b1
  have hro:=b2 b1.symm
  have hp:dS r=some (reB r,0):=by
   rcases DH hv.1 with hp | ⟨_,_,hp⟩
   ·exfalso
    unfold dS at hp
    rw [hrc,IC,show (!true)=false from rfl,ar rfl,zq hro] at hp
    simp at hp
   ·exact hp
  rw [hp,IC,show (!true)=false from rfl,ar rfl,xJ hro,IC]
  simp only
  rw [az (by decide)]
  obtain⟨z,a1,a2,_⟩:=Ez h.di hR (by omega) hnm hg hs0 hs1 hb hc (reB r)
  obtain⟨m1,c1,c2⟩:=Ea h hR (by omega) hnm hg hs0 hs1 hb hc (reB r) a2
  rw [a1,IC,c1,IC]
  have bad:∀c:Int,c≠0→z=(lg nm g size bs cnt,d,c)→PutJ R N d nm g size bs cnt M r (bif (z.2.2 != 0) then some ((⟨z.1,M⟩:ae),z.2.1,z.2.2) else Option.bind (jS (⟨z.1,M⟩:ae).log z.2.1) λz54=>Option.bind (ey (⟨z.1,M⟩:ae) r (reB r)) λz63=>some (z63,z54,0))
    (bif (z.2.2 != 0) then (some ((⟨(if z.2.2=0 then rlg nm g size (addP size bs (fr (reB r))) (cnt+1) else rlg nm g size bs cnt),aO M⟩:St7),m1,z.2.2)) else
 (Option.bind (bd m1) λz47=>(Option.bind (iU r) λz56=>(Option.bind (fk (aO M) z56) λz70=>(some ((⟨(if z.2.2=0 then rlg nm g size (addP size bs (fr (reB r))) (cnt+1) else rlg nm g size bs cnt),z70⟩:St7),z47,0)))))):=by
   rintro c hc rfl
   rw [az (by simpa using hc),az (by simpa using hc),if_neg hc]
   exact .no m1 c hc c2
  cases a2 with
  | long q=>exact bad 3 (by decide) rfl
  | many _ q=>exact bad 72 (by decide) rfl
  | full _ _ q=>exact bad 72 (by decide) rfl
  | ok q1 q2 q3=>
   simp only at c2 ⊢
   rw [ar (by decide),ar (by decide)]
   unfold jS
   rw [uW,IC,IC,EE,IC]
   obtain⟨m2,t1,t2⟩:=ws c2 hR (by omega)
   rw [t1,IC,GX hv,IC,DT hM ⟨hrc,hro⟩ hl,IC]
   exact .ok m2 ⟨hrc,hro⟩ q2 t2
theorem Hg{v:List Int}(hv:v.length≤lim){d:Dot}(h1:1≤d.s)(h2:d.s≤16):fM v d=some (cov v d):=by
 rw [aB] at hv
 unfold fM cov
 have hw:w64 (d.s - 1)=d.s - 1:=aH (by unfold I64; omega)
 rw [hw]
 obtain⟨k,hk⟩:∃k:Nat,d.s=((k+1:Nat):Int):=⟨(d.s - 1).toNat,by omega⟩
 have hk1:(d.s - 1).toNat=k:=by omega
 rw [hk1]
 have hkey:(((((decide (1≤d.s))&&(decide (d.s≤((v.length:Nat):Int))))&&(decide (1≤d.n)))&&(decide (d.n≤(gt v k)))))=(decide (0≤k∧k<v.length)&&((decide (0<d.n))&&(decide (d.n≤gt v k)))):=by
  rw [Bool.eq_iff_iff]
  simp only [Iw,Iq]
  omega
 rw [hkey]
 refine fQ (λi _=>some (decide (i≤k∧k<v.length)&&((decide (0<d.n))&&(decide (d.n≤gt v k))))) (λ_ _=>True) (λs _=>?_) (λf i s hi _ hf=>?_) trivial
 ·rw [decide_eq_false (show ¬ (v.length≤k∧k<v.length) by omega)]; rfl
 ·unfold lw
  rw [hw]
  by_cases he:i=k
  ·subst he
   rw [az (by rw [beq_iff_eq]; omega),IF (show i≤i∧i<v.length from ⟨IG _,hi⟩)]; rfl
  ·rw [ar (by rw [beq_eq_false_iff_ne]; omega),hf () trivial]
   have:decide (i+1≤k∧k<v.length)=decide (i≤k∧k<v.length):=by
    rw [decide_eq_decide]; omega
   rw [this]
theorem sL{v:List Int}(hv:v.length≤lim){K:List Rec×Bs→Option (St7×Md×Int)}:∀(l:List Rec) (i:Nat) (acc:List Rec),(∀x∈l,Rt x)→acc.length+l.length≤lim →
  forI (bT v) K i l (acc,acc.map reB)=K (acc++l.filter (lC v),(acc++l.filter (lC v)).map reB)
 | [],i,acc,_,_=>by show K _=_; rw [List.filter_nil,IL]
 | x::l,i,acc,h,hl=>by
  rw [Iy] at hl
  have hx:=h x It
  have ih0:=sL hv (K:=K) l (i+1) acc (λy hy=>h y (Iu _ hy)) (by omega)
  have ih1:=sL hv (K:=K) l (i+1) (acc++[x]) (λy hy=>h y (Iu _ hy)) (by rw [Is,List.length_singleton]; omega)
  show bT v (forI (bT v) K (i+1) l) i x _=_
  generalize forI (bT v) K (i+1) l=f at ih0 ih1 ⊢
  unfold bT ea
  simp only
  have c1:imp ((((x.vers).length:Nat):Int)==1) (decide (0<(x.vers).length))=true:=by
   cases hv:x.vers with
   | nil=>rfl
   | cons a b=>rw [IF (by simp)]; generalize ((((a::b).length:Nat):Int)==1)=c; cases c <;> rfl
  have c2:imp (((((x.vers).length:Nat):Int)==1)&&(gt (x.vers) 0).gone) (decide (0<(x.vers).length))=true:=by
   cases hv:x.vers with
   | nil=>rfl
   | cons a b=>rw [IF (by simp)]; generalize ((((a::b).length:Nat):Int)==1)=c; cases c <;> cases (gt (a::b) 0).gone <;> rfl
  have hcv:gT (((((x.vers).length:Nat):Int)==1)&&(gt (x.vers) 0).gone) (fM v (gt (x.vers) 0).dot)=some (bif ((((x.vers).length:Nat):Int)==1)&&(gt (x.vers) 0).gone then cov v (gt (x.vers) 0).dot else default):=by
   cases hc:(((((x.vers).length:Nat):Int)==1)&&(gt (x.vers) 0).gone) with
   | false=>rfl
   | true=>
    rw [Iw,beq_iff_eq] at hc
    have h0:0<x.vers.length:=by omega
    have hok:=hx.2.vers (gt x.vers 0) (G0 h0)
    rw [Hg hv hok.s.1 hok.s.2]; rfl
  rw [aw c1,aw c2,hcv,IC,List.filter_cons]
  have hk:(((((x.vers).length:Nat):Int)==1)&&(gt (x.vers) 0).gone&&(bif ((((x.vers).length:Nat):Int)==1)&&(gt (x.vers) 0).gone then cov v (gt (x.vers) 0).dot else default))=!lC v x:=by
   unfold lC
   generalize (((((x.vers).length:Nat):Int)==1)&&(gt (x.vers) 0).gone)=a
   cases a <;> simp
  rw [hk]
  cases hq:lC v x with
  | false=>
   rw [show (!false)=true from rfl,az rfl,ih0]; rfl
  | true=>
   rw [show (!true)=false from rfl,ar rfl,II,aw (IF (by omega)),xJ hx.2,IC,aw (IF (by omega)),if_pos rfl]
   rw [IJ,List.map_singleton,Iv,List.singleton_append] at ih1
   exact ih1
inductive Cw (R N':Nat) (d:Dk) (nm:ByteArray) (g K:Nat) (size:Int) (bs:Bs) (cnt:Nat) (M:Mp):Option (ae×Dk×Int)→Option (St7×Md×Int)→Prop
 | no (e:Dk) (m':Md) (c:Int):c≠0→Rel R N' e m'→(∀k,mget k e.seen=mget k d.seen)→Al (Qc nm g K) e→Sf nm (g+1) d e→Cw R N' d nm g K size bs cnt M (some (⟨lg nm g size bs cnt,M⟩,e,c)) (some (⟨rlg nm g size bs cnt,aO M⟩,m',c))
 | ok (e:Dk) (m':Md) (Z:Mp) (list:Bs):g+1≤999999→Rel R N' e m'→e.loose = []→Has nm (g+1) (bsOf size list) e.seen→Own1 nm (g+1) e.seen→mget (mn nm) e.seen=some (fb d (mn nm)++fr (pn (g+1))) →
   (∀k,pf nm k=none→k≠mn nm→mget k e.seen=mget k d.seen)→KI Z→Z.length≤M.length→fw Z≤fw M→(frs list).length≤fw M→Cw R N' d nm g K size bs cnt M (some (⟨lg nm (g+1) size (bsOf size list) list.length,Z⟩,e,0)) (some (⟨rlg nm (g+1) size (bsOf size list) list.length,aO Z⟩,m',0))
theorem Hj(h:Rel R N d m)(hR:R≤MX)(hnm:Nm nm){g:Nat}(hg:g≤999999){size:Int}(hs0:0≤size)(hs1:size≤9223372036854775807){bs:Bs}{cnt:Nat}(hk:Ks d.seen)(hx:Own1 nm g d.seen){M:Mp}(hM:KI M){K:Nat}(hK:M.length≤K)(hN:N+2*K+d.seen.length+10≤lim)(hA:Al (Qc nm g K) d){v:List Int}(hv:v.length≤lim):
  Cw R (N+2*K+4) d nm g K size bs cnt M (dt ⟨lg nm g size bs cnt,M⟩ v d) (cF ⟨rlg nm g size bs cnt,aO M⟩ v m):=by
 have hMl:M.length≤lim:=by omega
 obtain⟨k1,k2,k3⟩:=Fj hM (lC v)
 have k4:=FS hM (lC v)
 have k5:=CD ((aO M).filter (lC v)) []
 have k6:fw []=0:=rfl
 have hll:(((aO M).filter (lC v)).map reB).length≤K:=by
  have h1:=List.length_filter_le (lC v) (aO M)
  rw [kR] at h1
  rw [II]; omega
 have hj:=Dl h hR hnm hg hs0 hs1 (bs:=bs) (cnt:=cnt) hk hx (((aO M).filter (lC v)).map reB) hll hN hA
 unfold dt cF
 rw [Dq hM hMl,IC]
 have t1:=λK=>uw hv (g:=lg nm g size bs cnt) (m:=M) (K:=K) (aO M) 0 [] (λx hx=>(pF hM hx).2.2) (by rw [kR]; simpa using hMl)
 have t2:=λK=>sL hv (K:=K) (aO M) 0 [] (λx hx=>(pF hM hx).1) (by rw [kR]; simpa using hMl)
 simp only [List.map_nil,List.foldl_nil,IO] at t1 t2
 rw [t1,t2]
 simp only
 revert hj
 generalize ff (lg nm g size bs cnt) (((aO M).filter (lC v)).map reB) d=x
 generalize dl (rlg nm g size bs cnt) (((aO M).filter (lC v)).map reB) m=y
 intro hj
 cases hj with
 | no e m' c hc h1 h2 h3 h4=>
  rw [IC,IC]
  simp only
  rw [az (bne_iff_ne.2 hc),ar (beq_eq_false_iff_ne.2 hc)]
  exact .no e m' c hc h1 h2 h3 h4
 | ok e m' hg1 h1 h2 h3 h4 h5 h6=>
  rw [IC,IC]
  simp only
  rw [ar (by decide),az (by decide)]
  have:=Cw.ok (R:=R) (N':=N+2*K+4) (d:=d) (nm:=nm) (g:=g) (K:=K) (size:=size) (bs:=bs) (cnt:=cnt) (M:=M) e m' _ _ hg1 h1 h2 h3 h4 h5 h6 k1 k3 (by omega) k4
  rw [k2] at this
  exact this
end
theorem Gj{α:Type}[BEq α][LawfulBEq α]:∀{l L:List α},l.Nodup→(∀x∈l,x∈L)→l.length≤L.length
 | [],L,_,_=>IH _
 | a::l,L,hd,h=>by
  rw [List.nodup_cons] at hd
  have ha:=h a It
  have ih:=Gj (l:=l) (L:=L.erase a) hd.2 λx hx=>by
   have hne:x≠a:=λe=>hd.1 (e▸hx)
   exact(List.mem_erase_of_ne hne).2 (h x (Iu _ hx))
  have:=List.length_erase_of_mem ha
  have hp:=List.length_pos_of_mem ha
  rw [Iy]; omega
def gls:Nat→Bs
 | 0=>[]
 | g+1=>gls g++[pn (g+1)]
theorem y9:∀(l m:Bs) (a:Nat),mK a (l++m)=(mK a l).bind λg=>mK g m
 | [],m,a=>rfl
 | x::l,m,a=>by
  rw [List.cons_append]
  rw [mK,mK.eq_2 a x l]
  split
  ·rfl
  ·exact y9 l m _
theorem Ax:∀{g:Nat},g≤999999→mK 0 (gls g)=some g
 | 0,_=>rfl
 | g+1,h=>by
  unfold gls
  rw [y9,Ax (by omega)]
  show mK g [pn (g+1)]=_
  unfold mK
  have hn:=Bq (g+1) 0 0 [] (λh=>absurd h (Nat.lt_irrefl 0)) (by have:=pn3 (n:=g+1) (by omega); omega)
  rw [IL] at hn
  rw [hn,Nat.pow_zero,Nat.mul_one,Nat.zero_add,Nat.zero_add]
  rw [if_neg (by simp; omega)]; rfl
theorem F6:∀{g:Nat},g≤999999→Rk (gls g)
 | 0,_=>λx hx=>by cases hx
 | g+1,h=>λx hx=>by
  unfold gls at hx
  rcases List.mem_append.1 hx with hx | hx
  ·exact F6 (by omega) x hx
  ·rw [List.mem_singleton.1 hx]
   have:=pn3 (n:=g+1) (by omega); omega
structure OP (nm:ByteArray) (R N T:Nat) (d:Dk) (m:Md) (g:Nat) (bs:Bs):Prop where
 rel:Rel R N d m
 hg:g≤999999
 lst:fb d (mn nm)=frs (gls g)
 has:Has nm g bs d.seen
 own:∀k,(mget k d.seen).isSome=true→k=mn nm∨k=fn nm 0 1∨GK nm g bs.length k∨GK nm (g+1) (T / 5+1) k
 al:Al (Qc nm g (T / 5+1)) d
 s01:g=0→2≤bs.length→(mget (fn nm 0 1) d.safe_).isSome=true
 tt:tot bs≤T
 ln:5*bs.length≤T+5
structure SP (nm:ByteArray) (R N T:Nat) (d:Dk) (m:Md) (g:Nat) (bs:Bs):Prop where
 op:OP nm R N T d m g bs
 own:∀k,(mget k d.seen).isSome=true→k=mn nm∨GK nm g bs.length k
theorem GK.mono{nm:ByteArray}{g K L:Nat}{k:ByteArray}(h:GK nm g K k)(hl:K≤L):GK nm g L k:=by
 obtain⟨j,j1,j2,j3,e⟩:=h; exact⟨j,j1,by omega,j3,e⟩
theorem Qc.mono{nm:ByteArray}{g K L:Nat}{c:Dc}(h:Qc nm g K c)(hl:K≤L):Qc nm g L c:=by
 unfold Qc at h ⊢
 cases hc:c.do_ with
 | disk_Disk_Cut_1 _ _=>rw [hc] at h; exact h
 | disk_add_1 n _=>rw [hc] at h; exact Or.imp id (λh=>GK.mono h hl) h
 | disk_Disk_Remove_1 n=>rw [hc] at h; exact GK.mono h hl
section
variable {nm:ByteArray} {R N T:Nat} {d:Dk} {m:Md} {g:Nat} {bs:Bs}
theorem OP.mono(h:OP nm R N T d m g bs){N' T':Nat}(hN:N≤N')(hT:T≤T'):OP nm R N' T' d m g bs:=
 have hk:T / 5+1≤T' / 5+1:=by omega
 ⟨h.rel.mono hN,h.hg,h.lst,h.has,λk hk2=>(h.own k hk2).imp id (.imp id (.imp id λh=>h.mono hk)),λc hc=>(h.al c hc).mono hk,h.s01,Nat.le_trans h.tt hT,by have:=h.ln; omega⟩
theorem SP.mono(h:SP nm R N T d m g bs){N' T':Nat}(hN:N≤N')(hT:T≤T'):SP nm R N' T' d m g bs:=⟨h.op.mono hN hT,h.own⟩
theorem yA(hg:g≤999999)(h:Has nm g bs d.seen){j:Nat}(j1:1≤j)(j2:j≤999999)(hk:(mget (fn nm g j) d.seen).isSome=true):GK nm g bs.length (fn nm g j):=by
 rw [h.2 j j1 j2] at hk
 refine⟨j,j1,?_,⟨j2,hg⟩,rfl⟩
 rcases Nat.lt_or_ge (j - 1) bs.length with hlt | hge
 ·omega
 ·rw [List.getElem?_eq_none hge] at hk; cases hk
theorem OP.files(h:OP nm R N T d m g bs):d.seen.length≤2*(T / 5+1)+2:=by
 have h1:=Gj (l:=d.seen.map (·.1)) (L:=mn nm::fn nm 0 1::((List.range bs.length).map (λj=>fn nm g (j+1))++(List.range (T / 5+1)).map (λj=>fn nm (g+1) (j+1)))) h.rel.nk λk hk=>by
  rcases h.own k (dD.2 hk) with e | e | ⟨j,j1,j2,_,e⟩ | ⟨j,j1,j2,_,e⟩
  ·rw [e]; exact It
  ·rw [e]; exact Iu _ It
  ·refine Iu _ (Iu _ (List.mem_append_left _ (List.mem_map.2 ⟨j - 1,List.mem_range.2 (by omega),?_⟩)))
   rw [e,show j - 1+1=j by omega]
  ·refine Iu _ (Iu _ (List.mem_append_right _ (List.mem_map.2 ⟨j - 1,List.mem_range.2 (by omega),?_⟩)))
   rw [e,show j - 1+1=j by omega]
 have h2:=h.ln
 simp only [II,Iy,Is,List.length_range] at h1
 omega
theorem OP.hg1(h:OP nm R N T d m g bs):g≤999999:=h.hg
theorem GK.gf{K:Nat}{k:ByteArray}(h:GK nm g K k):Gf nm g k:=by obtain⟨j,j1,_,j3,e⟩:=h; exact⟨j,j1,j3.1,e⟩
theorem SP.own1(h:SP nm R N T d m g bs)(hnm:Nm nm):Own1 nm g d.seen:=λk hk=>by
 rcases h.own k hk with e | e
 ·rw [e]; exact .inl (zK hnm hnm)
 ·exact .inr e.gf
theorem SP.ks(h:SP nm R N T d m g bs)(hnm:Nm nm):Ks d.seen:=λk hk=>by
 rcases h.own k hk with e | ⟨j,j1,_,j3,e⟩
 ·rw [e]; exact yU hnm
 ·rw [e]; exact mr hnm j3.2 j3.1
theorem OP.ks(h:OP nm R N T d m g bs)(hnm:Nm nm):Ks d.seen:=λk hk=>by
 rcases h.own k hk with e | e | ⟨j,j1,_,j3,e⟩ | ⟨j,j1,_,j3,e⟩
 ·rw [e]; exact yU hnm
 ·rw [e]; exact mr hnm (by omega) (by omega)
 ·rw [e]; exact mr hnm j3.2 j3.1
 ·rw [e]; exact mr hnm j3.2 j3.1
theorem OP.ownG(h:OP nm R N T d m g bs)(hnm:Nm nm):OwnG nm d.seen:=λk hk=>by
 rcases h.own k hk with e | e | ⟨j,j1,_,j3,e⟩ | ⟨j,j1,_,j3,e⟩
 ·rw [e]; exact .inl (zK hnm hnm)
 ·exact .inr ⟨0,1,by omega,by omega,by omega,e⟩
 ·exact .inr ⟨g,j,j3.2,j1,j3.1,e⟩
 ·exact .inr ⟨g+1,j,j3.2,j1,j3.1,e⟩
end
section
variable {nm:ByteArray} {R N T:Nat} {d:Dk} {m:Md} {g:Nat} {bs:Bs}
theorem CT(h:Rel R N d m)(hl:d.loose = []):d.safe_=d.seen:=by
 have:=h.seen
 rw [hl] at this
 exact this.symm
def StP(nm:ByteArray)(size:Int)(T g:Nat)(bs:Bs)(o:Option ae)(o7:Option St7):Prop:=
 (o=none∧o7=none)∨∃M cnt,KI M∧fw M≤T∧cnt≤T∧o=some ⟨lg nm g size bs cnt,M⟩∧o7=some ⟨rlg nm g size bs cnt,aO M⟩
theorem DK(h:OP nm R N T d m g bs)(hnm:Nm nm)(hname:ij nm=some true)(hR:R≤MX)(hN:N+6*(T / 5+1)+40≤lim)(hT:T≤1000000000)(size:Int):
  ∃d' m' bs' o o7 c,dp d nm size=some (d',o,c)∧d4 m nm size=some (m',o7,c)∧SP nm R (N+2*(T / 5+1)+4) T d' m' g bs'∧StP nm (max size 16) T g bs' o o7:=by
 have hfl:=h.files
 have hst:=tu bs
 have htt:=h.tt
 have hln:=h.ln
 have hg:=h.hg
 obtain⟨d',m',o1,o2,o3,o4,o5,o6,o7⟩:=H5 h.rel hR hnm hname (h.ks hnm) size (gl:=gls g) (e0:=0) hg (by rw [h.lst]; exact zU (F6 hg)) (Ax hg) h.has (h.ownG hnm) hfl (by omega)
 have hlist:fb d' (mn nm)=frs (gls g):=by rw [← h.lst]; unfold fb; rw [o5 _ (zK hnm hnm)]
 have hown:∀k,(mget k d'.seen).isSome=true→k=mn nm∨GK nm g (aC bs).2.length k:=λk hk=>by
  rcases o6 k hk with e | ⟨j,j1,j2,e⟩
  ·rw [o5 k e] at hk
   rcases h.own k hk with e1 | e1 | ⟨j,j1,_,j3,e1⟩ | ⟨j,j1,_,j3,e1⟩
   ·exact .inl e1
   ·rw [e1,fG ⟨by omega,by omega,by omega⟩] at e; cases e
   ·rw [e1,fG ⟨j3.2,j1,j3.1⟩] at e; cases e
   ·rw [e1,fG ⟨j3.2,j1,j3.1⟩] at e; cases e
  ·rw [e] at hk ⊢
   exact .inr (yA hg o4 j1 j2 hk)
 have hsp:SP nm R (N+2*(T / 5+1)+4) T d' m' g (aC bs).2:=by
  refine⟨⟨o3.mono (by omega),hg,hlist,o4,λk hk=>?_,?_,λhg0 h2=>?_,by omega,by omega⟩,hown⟩
  ·rcases hown k hk with e | e
   ·exact .inl e
   ·exact .inr (.inr (.inl e))
  ·rcases o7 with ⟨e,_⟩ | e
   ·rw [e]; exact h.al
   ·exact Al.none e
  ·rcases o7 with ⟨e,e2⟩ | e
   ·rw [e]; rw [e2] at h2; exact h.s01 hg0 h2
   ·rw [CT o3 e]
    subst hg0
    rw [o4.2 1 (by omega) (by omega),List.getElem?_eq_getElem (by omega)]; rfl
 rcases FZ o1 o2 (by rw [aB]; omega) with ⟨q1,q2⟩ | ⟨M,q1,q2,q3,q4,q5⟩
 ·exact⟨d',m',_,none,none,2,q1,q2,hsp,.inl ⟨rfl,rfl⟩⟩
 ·exact⟨d',m',_,_,_,0,q4,q5,hsp,.inr ⟨M,_,q1,by omega,by omega,rfl,rfl⟩⟩
def Le1(x y:Option (List UInt8)):Prop := ∀b,x=some b→∃c,y=some c∧b.length≤c.length
theorem Le1.refl(x:Option (List UInt8)):Le1 x x:=λb h=>⟨b,h,IG _⟩
theorem Le1.trans{x y z:Option (List UInt8)}(h:Le1 x y)(h':Le1 y z):Le1 x z:=λb e=>by
 obtain⟨c,e1,l1⟩:=h b e
 obtain⟨c2,e2,l2⟩:=h' c e1
 exact⟨c2,e2,Nat.le_trans l1 l2⟩
theorem H3{K:Nat}(hnm:Nm nm){c:Dc}(hc:Qc nm 0 K c){es:Mp}(hn:NK es):Le1 (mget (fn nm 0 1) es) (mget (fn nm 0 1) (ap c.do_ es)):=by
 unfold Qc at hc
 cases hd:c.do_ with
 | disk_Disk_Cut_1 _ _=>rw [hd] at hc; exact hc.elim
 | disk_add_1 n b=>
  unfold ap
  rw [cC]
  by_cases e:fn nm 0 1=n
  ·rw [if_pos e, ← e]
   intro x hx
   rw [hx]
   exact⟨_,rfl,by simp⟩
  ·rw [if_neg e]; exact Le1.refl _
 | disk_Disk_Remove_1 n=>
  rw [hd] at hc
  obtain⟨j,_,_,_,e⟩:=hc
  unfold ap
  rw [fC hn,if_neg]
  ·exact Le1.refl _
  ·intro e2
   rw [e] at e2
   have:=(lr hnm hnm e2).2.1
   omega
theorem yG{K:Nat}(hnm:Nm nm):∀(cs:List Dc) (es:Mp),NK es→(∀c∈cs,Qc nm 0 K c)→Le1 (mget (fn nm 0 1) es) (mget (fn nm 0 1) (run cs es))
 | [],es,_,_=>Le1.refl _
 | c::cs,es,hn,h=>by
  show Le1 _ (mget (fn nm 0 1) (run cs (ap c.do_ es)))
  exact(H3 hnm (h c It) hn).trans (yG hnm cs _ (Ae hn) λc' hc=>h c' (Iu _ hc))
theorem D6{K:Nat}(hnm:Nm nm)(h:Rel R N d m)(hA:Al (Qc nm 0 K) d)(keep torn:Int):Le1 (mget (fn nm 0 1) d.safe_) (mget (fn nm 0 1) (dw d keep torn))∧Le1 (mget (fn nm 0 1) (dw d keep torn)) (mget (fn nm 0 1) d.seen):=by
 have hk:=wu (d:=d) keep
 have a1:=yG hnm (d.loose.take (cK d keep)) d.safe_ h.good.nk λc hc=>hA c (List.mem_of_mem_take hc)
 have nk1:NK (run (d.loose.take (cK d keep)) d.safe_):=nM h.good.nk
 have hseen:∀k,k≤d.loose.length→Le1 (mget (fn nm 0 1) (run (d.loose.take k) d.safe_)) (mget (fn nm 0 1) d.seen):=λk hk=>by
  have e:d.seen=run (d.loose.drop k) (run (d.loose.take k) d.safe_):=by rw [← Fe,List.take_append_drop]; exact h.seen
  rw [e]
  exact yG hnm _ _ (nM h.good.nk) λc hc=>hA c (List.mem_of_mem_drop hc)
 unfold dw
 cases hc:cT d (cK d keep) torn with
 | false=>rw [ar rfl]; exact⟨a1,hseen _ hk⟩
 | true=>
  rw [az rfl]
  obtain⟨k1,k2,k3⟩:=wZ h.di hc
  have h1:=hseen (cK d keep+1) k1
  rw [oG k1,k3] at h1
  unfold ap at h1 ⊢
  rw [cC] at h1 ⊢
  by_cases e:fn nm 0 1=(gt d.loose (cK d keep)).name
  ·rw [if_pos e] at h1 ⊢
   refine⟨λb hb=>?_,λb hb=>?_⟩
   ·obtain⟨c,e1,l1⟩:=a1 b hb
    refine⟨_,rfl,?_⟩
    rw [← e,e1]; simp; omega
   ·injection hb with hb
    obtain⟨c,e1,l1⟩:=h1 _ rfl
    refine⟨c,e1,?_⟩
    rw [← hb]
    simp only [Is,IV] at l1 ⊢
    omega
  ·rw [if_neg e] at h1 ⊢
   exact⟨a1,hseen _ hk⟩
end
section
variable {nm:ByteArray} {R N T:Nat} {d:Dk} {m:Md} {g:Nat} {bs:Bs}
def Ps(nm:ByteArray)(g K:Nat)(k:ByteArray):Prop:=k=fn nm 0 1∨GK nm (g+1) K k
theorem OP.tch(h:OP nm R N T d m g bs):Tch (Ps nm g (T / 5+1)) d.seen d:=by
 have key:∀c∈d.loose,(match c.do_ with | .disk_Disk_Cut_1 n _=>Ps nm g (T / 5+1) n | .disk_add_1 n _=>Ps nm g (T / 5+1) n | .disk_Disk_Remove_1 n=>Ps nm g (T / 5+1) n)∧(0<c.tail.length→Ps nm g (T / 5+1) c.name):=λc hc=>by
  have hq:=h.al c hc
  obtain⟨i,hi,e⟩:=List.getElem_of_mem hc
  have ht:=h.rel.di.tls i hi
  rw [fx hi,e] at ht
  unfold Qc at hq
  unfold Tl at ht
  cases hd:c.do_ with
  | disk_Disk_Cut_1 _ _=>rw [hd] at hq; exact hq.elim
  | disk_add_1 n b=>
   rw [hd] at hq ht
   exact⟨hq,λ_=>by rw [show c.name=n from ht.1]; exact hq⟩
  | disk_Disk_Remove_1 n=>
   rw [hd] at hq ht
   exact⟨.inr hq,λh0=>by rw [show c.tail = [] from ht] at h0; exact absurd h0 (Nat.lt_irrefl 0)⟩
 refine⟨h.rel.good.nk,key,λk hk=>?_⟩
 rw [h.rel.seen]
 exact(uu d.loose d.safe_ h.rel.good.nk (λc hc=>(key c hc).1) k hk).symm
theorem HW(hnm:Nm nm){K:Nat}:¬ Ps nm g K (mn nm):=λh=>by
 rcases h with e | ⟨j,_,_,_,e⟩
 ·exact xt hnm hnm e
 ·exact xt hnm hnm e
theorem Gp(hnm:Nm nm){K j:Nat}(h:¬ (g=0∧j=1)):¬ Ps nm g K (fn nm g j):=λhp=>by
 rcases hp with e | ⟨i,_,_,_,e⟩
 ·have:=lr hnm hnm e; exact h this.2
 ·have:=(lr hnm hnm e).2.1; omega
theorem Cd(h:SP nm R N T d m g bs)(hnm:Nm nm)(hR:R≤MX)(hN:N+1≤lim)(keep torn:Int):
  ∃m' bs',ie d keep torn=some (pH d keep torn)∧dN m keep torn=some m'∧OP nm R N T (pH d keep torn) m' g bs':=by
 obtain⟨m',r1,r2⟩:=F9 h.op.rel hR hN keep torn
 have hcr:=h.op.tch.crash keep torn
 have hhas:=h.op.has
 have htt:=h.op.tt
 have hln:=h.op.ln
 have hg:=h.op.hg
 have key:∃bs',Has nm g bs' (dw d keep torn)∧tot bs'≤tot bs∧bs'.length≤bs.length:=by
  by_cases hg0:g=0
  ·subst hg0
   obtain⟨l1,l2⟩:=D6 hnm h.op.rel h.op.al keep torn
   have hoth:∀j,2≤j→j≤999999→mget (fn nm 0 j) (dw d keep torn)=bs[j - 1]?:=λj j1 j2=>by
    rw [hcr _ (Gp hnm (by omega)),hhas.2 j (by omega) j2]
   have h1:=hhas.2 1 (by omega) (by omega)
   rw [h1] at l2
   have hs01:=h.op.s01 rfl
   cases hbs:bs with
   | nil=>
    rw [hbs] at l2 hoth
    refine⟨[],⟨IH _,λk k1 k2=>?_⟩,IG _,IG _⟩
    by_cases hk:k=1
    ·subst hk
     cases hx:mget (fn nm 0 1) (dw d keep torn) with
     | none=>rfl
     | some b=>obtain⟨c,e,_⟩:=l2 b hx; cases e
    ·rw [hoth k (by omega) k2]
   | cons b t=>
    rw [hbs] at l2 hoth hs01
    cases hx:mget (fn nm 0 1) (dw d keep torn) with
    | none=>
     have ht:t = []:=by
      cases t with
      | nil=>rfl
      | cons c t=>
       exfalso
       obtain⟨v,hv⟩:=Option.isSome_iff_exists.1 (hs01 (by simp))
       obtain⟨c2,e,_⟩:=l1 v hv
       rw [hx] at e; cases e
     subst ht
     refine⟨[],⟨IH _,λk k1 k2=>?_⟩,by simp [tot],by simp⟩
     by_cases hk:k=1
     ·subst hk; rw [hx]; rfl
     ·rw [hoth k (by omega) k2,List.getElem?_eq_none (by simp; omega),List.getElem?_eq_none (by simp)]
    | some c=>
     obtain⟨c2,e,l3⟩:=l2 c hx
     have e:b=c2:=by simpa using e
     subst e
     have hbl:=hhas.1
     rw [hbs] at hbl
     refine⟨c::t,⟨by simpa using hbl,λk k1 k2=>?_⟩,by rw [dZ,dZ]; omega,by simp⟩
     by_cases hk:k=1
     ·subst hk; rw [hx]; rfl
     ·rw [hoth k (by omega) k2]
      obtain⟨q,rfl⟩:∃q,k=q+2:=⟨k - 2,by omega⟩
      rfl
  ·refine⟨bs,⟨hhas.1,λk k1 k2=>?_⟩,IG _,IG _⟩
   rw [hcr _ (Gp hnm (by omega)),hhas.2 k k1 k2]
 obtain⟨bs',h1,h2,h3⟩:=key
 refine⟨m',bs',Fg h.op.rel.di hR keep torn,r1,r2,hg,?_,h1,λk hk=>?_,Al.none rfl,λhg0 h4=>?_,by omega,by omega⟩
 ·have:fb (pH d keep torn) (mn nm)=fb d (mn nm):=by
   unfold fb
   show (mget (mn nm) (dw d keep torn)).getD []=_
   rw [hcr _ (HW hnm)]
  rw [this]; exact h.op.lst
 ·have hk:(mget k (dw d keep torn)).isSome=true:=hk
  by_cases hp:Ps nm g (T / 5+1) k
  ·rcases hp with e | e
   ·exact .inr (.inl e)
   ·exact .inr (.inr (.inr e))
  ·have hk2:=hk
   rw [hcr k hp] at hk2
   rcases h.own k hk2 with e | ⟨j,j1,_,j3,e⟩
   ·exact .inl e
   ·rw [e] at hk ⊢
    exact .inr (.inr (.inl (yA (d:=pH d keep torn) hg h1 j1 j3.1 hk)))
 ·show (mget (fn nm 0 1) (dw d keep torn)).isSome=true
  subst hg0
  rw [h1.2 1 (by omega) (by omega),List.getElem?_eq_getElem (by omega)]; rfl
theorem Gr(h:SP nm R N T d m g bs)(hnm:Nm nm)(hR:R≤MX)(hN:N+1≤lim)(b:List UInt8):
  ∃d' m' c bs',cd d (fn nm 0 1) b=some (d',c)∧bm m (fn nm 0 1) b=some (m',c)∧OP nm R (N+1) (T+b.length) d' m' g bs':=by
 obtain⟨a1,_⟩:=EI h.op.rel.di hR hN (fn nm 0 1) b
 obtain⟨m',b1,b2⟩:=Dr h.op.rel hR hN (fn nm 0 1) b
 suffices hs:∃bs',OP nm R (N+1) (T+b.length) (dApp d (fn nm 0 1) b).1 m' g bs' from by
  obtain⟨bs',hs⟩:=hs
  exact⟨(dApp d (fn nm 0 1) b).1,m',(dApp d (fn nm 0 1) b).2,bs',a1,b1,hs⟩
 clear a1 b1
 have hhas:=h.op.has
 have htt:=h.op.tt
 have hln:=h.op.ln
 have hg:=h.op.hg
 have hbl:=hhas.1
 have hmono:=h.op.mono (N':=N+1) (T':=T+b.length) (by omega) (by omega)
 unfold dApp at b2 ⊢
 rw [mr hnm (by omega) (by omega)] at b2 ⊢
 rw [show (!true)=false from rfl,ar rfl] at b2 ⊢
 revert b2
 cases decide (d.room - (Fw.sz d.seen:Int)<(b.length:Int)) with
 | true=>
  intro b2
  rw [az rfl] at b2 ⊢
  exact⟨bs,⟨b2,hg,hmono.lst,hmono.has,hmono.own,hmono.al,hmono.s01,hmono.tt,hmono.ln⟩⟩
 | false=>
  intro b2
  rw [ar rfl] at b2 ⊢
  simp only at b2 ⊢
  have hsee:∀k,mget k (m6 d ⟨.disk_add_1 (fn nm 0 1) b,fn nm 0 1,b⟩).seen=if k=fn nm 0 1 then some ((mget (fn nm 0 1) d.seen).getD []++b) else mget k d.seen:=λk=>cC _ _ _ _
  have hlst:fb (m6 d ⟨.disk_add_1 (fn nm 0 1) b,fn nm 0 1,b⟩) (mn nm)=frs (gls g):=by
   rw [← h.op.lst]
   unfold fb
   rw [hsee,if_neg (xt hnm hnm)]
  have hal:Al (Qc nm g ((T+b.length) / 5+1)) (m6 d ⟨.disk_add_1 (fn nm 0 1) b,fn nm 0 1,b⟩):=hmono.al.done (.inl rfl)
  have fin:∀bs',Has nm g bs' (m6 d ⟨.disk_add_1 (fn nm 0 1) b,fn nm 0 1,b⟩).seen→tot bs'≤tot bs+b.length→bs.length≤bs'.length→bs'.length≤max bs.length 1→OP nm R (N+1) (T+b.length) (m6 d ⟨.disk_add_1 (fn nm 0 1) b,fn nm 0 1,b⟩) m' g bs':=λbs' q1 q2 q3 q4=>by
   refine⟨b2,hg,hlst,q1,λk hk=>?_,hal,λhg0 h2=>h.op.s01 hg0 (by omega),by omega,by omega⟩
   by_cases e:k=fn nm 0 1
   ·exact .inr (.inl e)
   ·rw [hsee,if_neg e] at hk
    rcases h.own k hk with e | e
    ·exact .inl e
    ·exact .inr (.inr (.inl (e.mono q3)))
  by_cases hg0:g=0
  ·subst hg0
   have h1:=hhas.2 1 (by omega) (by omega)
   cases hbs:bs with
   | nil=>
    rw [hbs] at h1 fin
    refine⟨[b],fin [b] ⟨by simp,λk k1 k2=>?_⟩ (by simp [tot]) (by simp) (by simp)⟩
    rw [hsee]
    by_cases hk:k=1
    ·subst hk; rw [if_pos rfl,h1]; rfl
    ·rw [if_neg (λe=>hk (lr hnm hnm e).2.2),hhas.2 k k1 k2,hbs,List.getElem?_eq_none (by simp),List.getElem?_eq_none (by simp; omega)]
   | cons x t=>
    rw [hbs] at h1 fin hbl
    refine⟨(x++b)::t,fin ((x++b)::t) ⟨by simpa using hbl,λk k1 k2=>?_⟩ (by rw [dZ,dZ,Is]; omega) (by simp) (by simp only [Iy]; omega)⟩
    rw [hsee]
    by_cases hk:k=1
    ·subst hk; rw [if_pos rfl,h1]; rfl
    ·rw [if_neg (λe=>hk (lr hnm hnm e).2.2),hhas.2 k k1 k2,hbs]
     obtain⟨q,rfl⟩:∃q,k=q+2:=⟨k - 2,by omega⟩
     rfl
  ·refine⟨bs,fin bs ⟨hbl,λk k1 k2=>?_⟩ (by omega) (by omega) (by omega)⟩
   rw [hsee,if_neg (λe=>hg0 (lr hnm hnm e).2.1),hhas.2 k k1 k2]
end
theorem BC:∀rs:List Bs,tot (rs.map frs)=(frs rs.flatten).length
 | []=>rfl
 | r::rs=>by rw [IA,dZ,BC rs,IP,vY,Is]
theorem Ds(size:Int)(l:Bs):tot (bsOf size l)=(frs l).length:=by
 unfold bsOf
 rw [BC,yJ]
section
variable {nm:ByteArray} {R N T:Nat} {d:Dk} {m:Md} {g:Nat} {bs:Bs}
theorem HV(h:SP nm R N T d m g bs)(hnm:Nm nm)(hR:R≤MX)(hN:N+2≤lim)(hT:T≤1000000000){size:Int}(hs0:0≤size)(hs1:size≤9223372036854775807){M:Mp}(hM:KI M)(hf:fw M≤T){cnt:Nat}(hc:cnt≤T){r:Rec}(hv:Mg.VersOk r.vers){X:Nat}(hX:Rt r→(fr (reB r)).length≤X):
  ∃d' m' bs' o o7 c,cy ⟨lg nm g size bs cnt,M⟩ r d=some (o,d',c)∧cO ⟨rlg nm g size bs cnt,aO M⟩ r m=some (o7,m',c)∧SP nm R (N+1) (T+X) d' m' g bs'∧StP nm size (T+X) g bs' (some o) (some o7):=by
 have hfl:=yS M
 have hj:=H6 h.op.rel hR hN hnm h.op.hg hs0 hs1 h.op.has (cnt:=cnt) (by omega) hM (by rw [aB]; omega) hv
 revert hj
 generalize cy ⟨lg nm g size bs cnt,M⟩ r d=x
 generalize cO ⟨rlg nm g size bs cnt,aO M⟩ r m=y
 intro hj
 have hmono:=h.mono (N':=N+1) (T':=T+X) (by omega) (by omega)
 have hg:=h.op.hg
 cases hj with
 | no m' c hc0 h1=>
  exact⟨d,m',bs,_,_,c,rfl,rfl,⟨⟨h1,hg,hmono.op.lst,hmono.op.has,hmono.op.own,hmono.op.al,hmono.op.s01,hmono.op.tt,hmono.op.ln⟩,h.own⟩,.inr ⟨M,cnt,hM,by omega,by omega,rfl,rfl⟩⟩
 | ok m' hr hp h1=>
  have hx:=hX hr
  have h5:=nS (reB r)
  have h6:=wO (reB r).length
  have hhas:Has nm g (addP size bs (fr (reB r))) (iW (dAdd d nm g size bs (fr (reB r)))).seen:=AppR.has hnm h.op.has hp
  have htt:=zX size bs (fr (reB r))
  have hll:=pw size bs (fr (reB r))
  have hpl:=yD size bs (fr (reB r))
  have htt0:=h.op.tt
  have hln0:=h.op.ln
  have hpp:=pi size bs (fr (reB r))
  have hown:∀k,(mget k (iW (dAdd d nm g size bs (fr (reB r)))).seen).isSome=true→k=mn nm∨GK nm g (addP size bs (fr (reB r))).length k:=λk hk=>by
   by_cases e:k=fn nm g (pnum size bs (fr (reB r)))
   ·rw [e]; exact .inr ⟨_,hpp,by omega,⟨hp,hg⟩,rfl⟩
   ·have hk:(mget k (dAdd d nm g size bs (fr (reB r))).seen).isSome=true:=hk
    rw [ph e] at hk
    rcases h.own k hk with e | ⟨j,j1,_,j3,e⟩
    ·exact .inl e
    ·rw [e] at hk ⊢
     refine .inr (yA (d:=iW (dAdd d nm g size bs (fr (reB r)))) hg hhas j1 j3.1 ?_)
     show (mget (fn nm g j) (dAdd d nm g size bs (fr (reB r))).seen).isSome=true
     by_cases e2:fn nm g j=fn nm g (pnum size bs (fr (reB r)))
     ·rw [Ah,cC,if_pos e2]; rfl
     ·rw [ph e2]; exact hk
  refine⟨_,m',_,_,_,0,rfl,rfl,⟨⟨h1,hg,?_,hhas,λk hk=>(hown k hk).imp id λh=>.inr (.inl h),Al.none rfl,λhg0 h2=>?_,by omega,by omega⟩,hown⟩,.inr ⟨layM M r,cnt+1,hM.lay hr,?_,by omega,rfl,rfl⟩⟩
  ·rw [← h.op.lst]
   unfold fb
   show (mget (mn nm) (dAdd d nm g size bs (fr (reB r))).seen).getD []=_
   rw [ph (xt hnm hnm)]
  ·show (mget (fn nm 0 1) (iW (dAdd d nm g size bs (fr (reB r)))).seen).isSome=true
   subst hg0
   rw [hhas.2 1 (by omega) (by omega),List.getElem?_eq_getElem (by omega)]; rfl
  ·have:=DP M r; omega
theorem GJ(h:SP nm R N T d m g bs)(hnm:Nm nm)(hR:R≤MX)(hN:N+6*(T / 5+1)+40≤lim){size:Int}(hs0:0≤size)(hs1:size≤9223372036854775807){M:Mp}(hM:KI M)(hf:fw M≤T){cnt:Nat}(hc:cnt≤T){v:List Int}(hv:v.length≤lim):
  ∃d' m' g' bs' o o7 c,dt ⟨lg nm g size bs cnt,M⟩ v d=some (o,d',c)∧cF ⟨rlg nm g size bs cnt,aO M⟩ v m=some (o7,m',c)∧SP nm R (N+2*(T / 5+1)+4) T d' m' g' bs'∧StP nm size T g' bs' (some o) (some o7):=by
 have hfl:=yS M
 have hfi:=h.op.files
 have hj:=Hj h.op.rel hR hnm h.op.hg hs0 hs1 (bs:=bs) (cnt:=cnt) (h.ks hnm) (h.own1 hnm) hM (K:=T / 5+1) (by omega) (by omega) h.op.al hv
 revert hj
 generalize dt ⟨lg nm g size bs cnt,M⟩ v d=x
 generalize cF ⟨rlg nm g size bs cnt,aO M⟩ v m=y
 intro hj
 have hg:=h.op.hg
 cases hj with
 | no e m' c hc0 h1 h2 h3 h4=>
  have hown:∀k,(mget k e.seen).isSome=true→k=mn nm∨GK nm g bs.length k:=λk hk=>by rw [h2] at hk; exact h.own k hk
  refine⟨e,m',g,bs,_,_,c,rfl,rfl,⟨⟨h1,hg,?_,⟨h.op.has.1,λk k1 k2=>by rw [h2,h.op.has.2 k k1 k2]⟩,λk hk=>(hown k hk).imp id λh=>.inr (.inl h),h3,λhg0 q2=>?_,h.op.tt,h.op.ln⟩,hown⟩,.inr ⟨M,cnt,hM,hf,hc,rfl,rfl⟩⟩
  ·rw [← h.op.lst]; unfold fb; rw [h2]
  ·refine h4 _ (λj j1 j2 e2=>?_) (h.op.s01 hg0 q2) ?_
   ·have:=(lr hnm hnm e2).2.1; omega
   ·subst hg0
    rw [h.op.has.2 1 (by omega) (by omega),List.getElem?_eq_getElem (by omega)]; rfl
 | ok e m' Z list hg1 h1 h2 h3 h4 h5 h6 h7 h8 h9 h10=>
  have hb:=Ds size list
  have hbl:=wb size list
  have hfl2:=Cb list
  have hown:∀k,(mget k e.seen).isSome=true→k=mn nm∨GK nm (g+1) (bsOf size list).length k:=λk hk=>by
   rcases h4 k hk with e1 | ⟨j,j1,j2,e1⟩
   ·by_cases e2:k=mn nm
    ·exact .inl e2
    ·rw [h6 k e1 e2] at hk
     rcases h.own k hk with e3 | ⟨j,j1,_,j3,e3⟩
     ·exact .inl e3
     ·rw [e3,fG ⟨j3.2,j1,j3.1⟩] at e1; cases e1
   ·rw [e1] at hk ⊢
    exact .inr (yA hg1 h3 j1 j2 hk)
  refine⟨e,m',g+1,_,_,_,0,rfl,rfl,⟨⟨h1,hg1,?_,h3,λk hk=>(hown k hk).imp id λh=>.inr (.inl h),Al.none h2,λhg0 _=>absurd hg0 (Nat.succ_ne_zero g),by omega,by omega⟩,hown⟩,.inr ⟨Z,_,h7,by omega,by omega,rfl,rfl⟩⟩
  unfold gls
  rw [vY, ← h.op.lst]
  unfold fb
  rw [h5,Option.getD_some]
  simp [frs,fb]
end
theorem Cv{α:Type}{m:α→Nat}{a b:List α}:bkL m (a++b)=bkL m a+bkL m b:=by unfold bkL; simp
theorem td{α:Type}{m:α→Nat}{a:α}{b:List α}:bkL m (a::b)=m a+bkL m b:=by unfold bkL; simp
theorem Ar:∀{l:List Span},(∀x∈l,SpOk x)→((l.map spB).flatten).length≤9*bkL Span.bk l
 | [],_=>IH _
 | x::l,h=>by
  have h1:=BZ (h x It)
  have h2:=Ar (l:=l) λy hy=>h y (Iu _ hy)
  have h3:Span.bk x=4:=rfl
  rw [IA,IP,Is,td]; omega
theorem G5{v:Ver}(h:VeOk v):(veB v).length≤9*Ver.bk v:=by
 have h1:=Ar h.past
 have h2:=jk (n:=v.dot.s) (by have:=h.s; omega)
 have h3:=jk (n:=v.dot.n) (by have:=h.n; omega)
 have h4:=jk (n:=(v.past.length:Int)) (by have:=h.pl; omega)
 have h5:=jk (n:=(0:Int)) (by omega)
 have h6:=jk (n:=(1:Int)) (by omega)
 have h7:=jk (n:=(v.val.size:Int)) (by have:=h.val; omega)
 have h8:v.val.data.toList.length=v.val.size:=rfl
 have hb:Ver.bk v=1+Dot.bk v.dot+(bkL Span.bk) v.past+dk v.gone+oF v.val:=rfl
 have hb2:Dot.bk v.dot=3:=rfl
 have hb3:dk v.gone=1:=rfl
 have hb4:oF v.val=v.val.size:=rfl
 have h9:(bif v.gone then pz 1 else pz 0++txB v.val).length≤18+v.val.size:=by
  cases v.gone with
  | true=>simp only [cond_true]; omega
  | false=>unfold txB; simp only [cond_false,Is]; omega
 unfold veB spsB
 simp only [Is]
 omega
theorem zd:∀{l:List Ver},(∀x∈l,VeOk x)→((l.map veB).flatten).length≤9*bkL Ver.bk l
 | [],_=>IH _
 | x::l,h=>by
  have h1:=G5 (h x It)
  have h2:=zd (l:=l) λy hy=>h y (Iu _ hy)
  rw [IA,IP,Is,td]; omega
abbrev OpT:=au
theorem BB(o:OpT):5≤au.bk o∧o.data.length≤au.bk o∧(Rt o.r→(fr (reB o.r)).length≤9*au.bk o):=by
 have hb:au.bk o=1+dk o.kind+Rec.bk o.r+(bkL dk) o.floor+(bkL dk) o.data+dk o.n+dk o.torn:=rfl
 have h1:dk o.kind=1:=rfl
 have h2:dk o.n=1:=rfl
 have h3:dk o.torn=1:=rfl
 have h4:Rec.bk o.r=1+oF o.r.key+(bkL Ver.bk) o.r.vers:=rfl
 have h5:oF o.r.key=o.r.key.size:=rfl
 have h6:∀l:List UInt8,bkL dk l=l.length:=λl=>by
  induction l with
  | nil=>rfl
  | cons x l ih=>rw [td,ih,Iy]; show 1+_=_; omega
 have h7:=h6 o.data
 refine⟨by omega,by omega,λhr=>?_⟩
 have k1:=zd hr.2.vers
 have k2:=hr.2.key
 have k3:=hr.2.vl
 have k4:=jk (n:=(o.r.key.size:Int)) (by omega)
 have k5:=jk (n:=(o.r.vers.length:Int)) (by omega)
 have k6:=nS (reB o.r)
 have k7:o.r.key.data.toList.length=o.r.key.size:=rfl
 have k8:(reB o.r).length=(pz (o.r.key.size:Int)).length+o.r.key.size+((pz (o.r.vers.length:Int)).length+((o.r.vers.map veB).flatten).length):=by
  unfold reB vesB txB
  simp only [Is]
  omega
 have k9:(pn (reB o.r).length).length≤9:=wT 8 _ (by have:=tK hr.2; omega)
 omega
theorem Fn{nm:ByteArray}{g:Nat}{size:Int}{bs:Bs}{cnt:Nat}{M:Mp}(h:KI M)(hl:M.length≤lim):jf ⟨lg nm g size bs cnt,M⟩ ⟨rlg nm g size bs cnt,aO M⟩=some true:=by
 unfold jf
 rw [Es hl,IC]
 have c1:((((dg M).length:Nat):Int) != (((aO M).length:Nat):Int))=false:=by rw [bne_eq_false_iff_eq,gh,kR]
 simp only [c1]
 rw [show iJ ⟨lg nm g size bs cnt,M⟩=some (w64 ((cnt:Int) - ((M.length:Nat):Int))) from rfl,show iD ⟨rlg nm g size bs cnt,aO M⟩=some (w64 ((cnt:Int) - (((aO M).length:Nat):Int))) from rfl,kR]
 rw [show (!false)=true from rfl]
 generalize w64 ((cnt:Int) - ((M.length:Nat):Int))=w
 have hw:(w != w)=false:=by simp
 rw [dX,IC,IC]
 simp only [cond_true,hw,Bool.false_or,Bool.not_false]
 rw [Dq h hl,IC,H8,dX,IC]
 unfold gP
 simp only [cond_true,Bool.not_true,cond_false]
 refine oI (λ_ _=>True) (λs _=>rfl) (λf i s hi _ hf=>?_) trivial
 unfold m7 gK
 have hi2:i<(aO M).length:=by rw [kR]; rw [gh] at hi; exact hi
 have hg:gt (aO M) i=⟨gt (dg M) i,decV ((mget (gt (dg M) i) M).getD [])⟩:=by
  rw [fx hi2,fx hi]
  exact List.getElem_map _
 simp only [hg]
 have c2:(gt (dg M) i != gt (dg M) i)=false:=by rw [bne_eq_false_iff_eq]
 rw [aw (IF hi2),c2,show (!false)=true from rfl,az rfl,Gv h,IC,Ga,dX,IC]
 exact hf () trivial
theorem fn_s:fn ⟨#[115]⟩ 0 1=⟨#[115,46,48,46,49]⟩:=by decide +kernel
theorem DD:ij ⟨#[115]⟩=some true:=by decide +kernel
def AC:Nat:=2*(9437184 / 5+1)+20
def cT_(script:List OpT)(i:Nat):Nat:=9*bkL au.bk (script.take i)
theorem Fk{script:List OpT}{i:Nat}(h:i<script.length):cT_ script (i+1)=cT_ script i+9*au.bk (gt script i):=by
 unfold cT_
 rw [yy h,Cv]
 have:bkL au.bk [gt script i]=au.bk (gt script i):=by simp [bkL]
 rw [this,Nat.mul_add]
theorem Gb{script:List OpT}(h:bkL au.bk script≤1048576)(i:Nat):cT_ script i≤9437184:=by
 unfold cT_
 have:bkL au.bk (script.take i)+bkL au.bk (script.drop i)=bkL au.bk script:=by rw [← Cv,List.take_append_drop]
 omega
theorem DG:∀{script:List OpT},5*script.length≤bkL au.bk script
 | []=>IH _
 | o::l=>by
  have h1:=DG (script:=l)
  have h2:=(BB o).1
  rw [td,Iy]; omega
abbrev Sx:=Option ae×Int×Option St7×Int×Md×Dk
section
variable {R:Nat}
theorem HR{nm:ByteArray}{N T:Nat}{d:Dk}{m:Md}{g:Nat}{bs:Bs}{size:Int}{f66:Sx→Option Bool}{o:Option ae}{o7:Option St7}{e:Int}(h:SP nm R N T d m g bs)(hs:StP nm size T g bs o o7)(hR:R≤MX)(hN:N+1≤lim)(hT:T≤lim):
  bQ f66 o e o7 e m d=f66 (o,e,o7,e,m,d):=by
 have hf1:=G4 h.op.rel hR hN
 have hf2:=h.op.rel.files (kg hR) hN
 unfold bQ
 have he:(e != e)=false:=by simp
 rw [he,show (!false)=true from rfl,az rfl]
 rcases hs with ⟨rfl,rfl⟩ | ⟨M,cnt,h1,h2,h3,rfl,rfl⟩
 ·rw [show Option.isNone (none:Option ae)=true from rfl,az rfl,show Option.isNone (none:Option St7)=true from rfl,az rfl]
  unfold jJ
  rw [IC,show (!(!true))=true from rfl,az rfl,hf1,IC,hf2,IC,EV,IC,IF rfl]
  rfl
 ·have hl:=yS M
  rw [show Option.isNone (some (⟨lg nm g size bs cnt,M⟩:ae))=false from rfl,ar rfl,IC,show Option.isNone (some (⟨rlg nm g size bs cnt,aO M⟩:St7))=false from rfl,ar rfl,IC,Fn h1 (by omega),IC,show (!(!true))=true from rfl,az rfl,hf1,IC,hf2,IC,EV,IC,IF rfl]
  rfl
def SI(R:Nat)(script:List OpT)(i:Nat)(s:Sx):Prop:=s.2.1=s.2.2.2.1∧∃g bs,SP ⟨#[115]⟩ R (i*AC+10) (cT_ script i) s.2.2.2.2.2 s.2.2.2.2.1 g bs∧StP ⟨#[115]⟩ 64 (cT_ script i) g bs s.1 s.2.2.1
theorem StP.mono{nm:ByteArray}{size:Int}{T T' g:Nat}{bs:Bs}{o:Option ae}{o7:Option St7}(h:StP nm size T g bs o o7)(hT:T≤T'):StP nm size T' g bs o o7:=by
 rcases h with h | ⟨M,cnt,h1,h2,h3,h4,h5⟩
 ·exact .inl h
 ·exact .inr ⟨M,cnt,h1,by omega,by omega,h4,h5⟩
theorem Fv{script:List OpT}(hb:bkL au.bk script≤1048576)(hR:R≤MX)(hfit:∀i,i<script.length→Mg.VersOk (gt script i).r.vers∧(gt script i).floor.length≤lim){s:Sx}(h0:SI R script 0 s):
  forI (gp script) (λ(o48,e_52,o54,f_58,o60,o63)=>some true) 0 script s=some true:=by
 refine oI (SI R script) (λs _=>rfl) (λf i s hi hI hf=>?_) h0
 obtain⟨o,e,o7,e7,m,d⟩:=s
 obtain⟨he,g,bs,hsp,hst⟩:=hI
 simp only at he hsp hst
 subst he
 have hnm:=nmS
 have hT:=Gb hb i
 have hT1:=Gb hb (i+1)
 have hcs:=Fk hi
 obtain⟨k1,k2,k3⟩:=BB (gt script i)
 have hop:=DG (script:=script)
 obtain⟨hv,hfl⟩:=hfit i hi
 have hAC:AC=3774894:=rfl
 have hiA:i*AC≤209715*AC:=Nat.mul_le_mul_right _ (by omega)
 have hi1:(i+1)*AC=i*AC+AC:=Nat.succ_mul i AC
 have hlim:=aB
 have hmx:max (64:Int) 16=64:=by decide
 have done:∀{o:Option ae} {o7:Option St7} {e:Int} {d:Dk} {m:Md} {N T g:Nat} {bs:Bs},SP ⟨#[115]⟩ R N T d m g bs→StP ⟨#[115]⟩ 64 T g bs o o7→N≤(i+1)*AC+10→T≤cT_ script (i+1)→bQ f o e o7 e m d=some true:=by
  intro o o7 e d m N T g bs h1 h2 h3 h4
  rw [HR h1 h2 hR (by omega) (by omega)]
  exact hf _ ⟨rfl,g,bs,h1.mono h3 h4,h2.mono h4⟩
 have open_:∀{o:Option ae} {o7:Option St7} {e:Int} {d:Dk} {m:Md} {N T g:Nat} {bs:Bs},OP ⟨#[115]⟩ R N T d m g bs→N≤i*AC+11→T≤cT_ script (i+1)→3≤(gt script i).kind→(gt script i).kind≤5→aS script f i e e o o7 m d=some true:=by
  intro o o7 e d m N T g bs h1 h3 h4 q1 q2
  unfold aS
  rw [az (by rw [Iw,Iq,Iq]; exact⟨q1,q2⟩)]
  obtain⟨d',m',bs',o',o7',c,a1,a2,a3,a4⟩:=DK h1 hnm DD hR (by omega) (by omega) 64
  rw [a1,IC,a2,IC]
  rw [hmx] at a4
  exact done a3 a4 (by omega) h4
 have stay:∀{o:Option ae} {o7:Option St7} {e:Int} {d:Dk} {m:Md} {N T g:Nat} {bs:Bs},SP ⟨#[115]⟩ R N T d m g bs→StP ⟨#[115]⟩ 64 T g bs o o7→N≤(i+1)*AC+10→T≤cT_ script (i+1)→¬ (3≤(gt script i).kind∧(gt script i).kind≤5)→aS script f i e e o o7 m d=some true:=by
  intro o o7 e d m N T g bs h1 h2 h3 h4 q
  unfold aS
  rw [ar (by rw [Bool.and_eq_false_iff,Ir,Ir]; omega)]
  exact done h1 h2 h3 h4
 unfold gp
 simp only
 generalize hki:(gt script i).kind=kd at open_ stay
 rcases hst with ⟨rfl,rfl⟩ | ⟨M,cnt,h1,h2,h3,rfl,rfl⟩
 ·have e1:Option.isNone (none:Option ae)=true:=rfl
  rw [e1,show (!true)=false from rfl,Bool.and_false,Bool.false_and,ar rfl,Bool.and_false,Bool.false_and,ar rfl]
  by_cases hk3:kd=3
  ·rw [az (beq_iff_eq.2 hk3)]
   obtain⟨m',bs',a1,a2,a3⟩:=Cd hsp hnm hR (by omega) (gt script i).n (gt script i).torn
   rw [a1,IC,a2,IC]
   exact open_ a3 (by omega) (by omega) (by omega) (by omega)
  ·rw [ar (beq_eq_false_iff_ne.2 hk3)]
   by_cases hk4:kd=4
   ·rw [az (beq_iff_eq.2 hk4)]
    obtain⟨d',m',c,bs',a1,a2,a3⟩:=Gr hsp hnm hR (by omega) (gt script i).data
    rw [fn_s] at a1 a2
    rw [a1,IC,a2,IC]
    simp only
    rw [show (c != c)=false by simp,ar rfl]
    exact open_ a3 (by omega) (by omega) (by omega) (by omega)
   ·rw [ar (beq_eq_false_iff_ne.2 hk4)]
    by_cases hk5:kd=5
    ·exact open_ hsp.op (by omega) (by omega) (by omega) (by omega)
    ·exact stay hsp (.inl ⟨rfl,rfl⟩) (by omega) (by omega) (by omega)
 ·have e1:Option.isNone (some (⟨lg ⟨#[115]⟩ g 64 bs cnt,M⟩:ae))=false:=rfl
  have e2:Option.isNone (some (⟨rlg ⟨#[115]⟩ g 64 bs cnt,aO M⟩:St7))=false:=rfl
  rw [e1,e2,show (!false)=true from rfl,Bool.and_true,Bool.and_true,Bool.and_true,Bool.and_true]
  by_cases hk1:kd=1
  ·rw [az (beq_iff_eq.2 hk1),IC,IC]
   obtain⟨d',m',bs',o',o7',c,a1,a2,a3,a4⟩:=HV hsp hnm hR (by omega) (by omega) (size:=64) (by omega) (by omega) h1 h2 h3 hv k3
   rw [a1,IC,a2,IC]
   exact stay a3 a4 (by omega) (by omega) (by omega)
  rw [ar (beq_eq_false_iff_ne.2 hk1)]
  by_cases hk2:kd=2
  ·rw [az (beq_iff_eq.2 hk2),IC,IC]
   obtain⟨d',m',g',bs',o',o7',c,a1,a2,a3,a4⟩:=GJ hsp hnm hR (by omega) (size:=64) (by omega) (by omega) h1 h2 h3 hfl
   rw [a1,IC,a2,IC]
   exact stay a3 a4 (by omega) (by omega) (by omega)
  rw [ar (beq_eq_false_iff_ne.2 hk2)]
  by_cases hk3:kd=3
  ·rw [az (beq_iff_eq.2 hk3)]
   obtain⟨m',bs',a1,a2,a3⟩:=Cd hsp hnm hR (by omega) (gt script i).n (gt script i).torn
   rw [a1,IC,a2,IC]
   exact open_ a3 (by omega) (by omega) (by omega) (by omega)
  rw [ar (beq_eq_false_iff_ne.2 hk3)]
  by_cases hk4:kd=4
  ·rw [az (beq_iff_eq.2 hk4)]
   obtain⟨d',m',c,bs',a1,a2,a3⟩:=Gr hsp hnm hR (by omega) (gt script i).data
   rw [fn_s] at a1 a2
   rw [a1,IC,a2,IC]
   simp only
   rw [show (c != c)=false by simp,ar rfl]
   exact open_ a3 (by omega) (by omega) (by omega) (by omega)
  rw [ar (beq_eq_false_iff_ne.2 hk4)]
  by_cases hk5:kd=5
  ·exact open_ hsp.op (by omega) (by omega) (by omega) (by omega)
  ·exact stay hsp (.inr ⟨M,cnt,h1,h2,h3,rfl,rfl⟩) (by omega) (by omega) (by omega)
end
theorem pp{Γ:Gh}(room:Int)(hroom:I64 room){Ascript:Option Addr}{cscript:Nat}{script:List au}(hscript:Sl js Γ Ascript script)(hscriptc:script.length≤cscript)(hb:bkL au.bk script≤1048576):iT room script=some true:=by
 have hR:=HY room
 have hlim:=aB
 unfold iT
 rw [Db,IC,show (!true)=false from rfl,ar rfl,Hq,IC,GO,IC]
 have h0:OP ⟨#[115]⟩ (rm room) 0 0 (d0 room) (m0 room) 0 []:=⟨rel0 room,IH _,rfl,⟨IH _,λk _ _=>rfl⟩,(λk hk=>by cases hk),Al.none rfl,(λ_ h=>absurd h (by decide)),IG _,by decide⟩
 obtain⟨d',m',bs',o',o7',c,a1,a2,a3,a4⟩:=DK h0 nmS DD hR (by omega) (by omega) 64
 rw [a1,IC,a2,IC]
 rw [show max (64:Int) 16=64 by decide] at a4
 have hc0:cT_ script 0=0:=rfl
 refine Fv hb hR (λi hi=>?_) ⟨rfl,0,bs',a3.mono (by omega) (by omega),a4.mono (by omega)⟩
 obtain⟨A2,c2,A3,c3,A4,c4,h2⟩:=hscript.dfirthlaw10_OpT_at i
 obtain⟨_,_,⟨_,h3⟩,⟨_,h4⟩,_⟩:=(h2 hi).1
 exact⟨Mg.sl_versOk h3,h4.le⟩
end Fw
end Go.Proofs.YtmafjpdiplfcmaaGreat
